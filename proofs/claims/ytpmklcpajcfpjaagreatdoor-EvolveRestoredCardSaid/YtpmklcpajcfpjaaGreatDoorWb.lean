/- A part of the proof. -/
import Derived.Test.YtpmklcpajcfpjaaGreatDoorWa
import Derived.Laws.BytesString
import Derived.OrdersHeld
import Derived.LoopN
import Derived.Deep.Slices
import Derived.Deep.Fields
import Derived.ChangeSame
import Derived.OpenShut
import Derived.Carry
import Derived.ChangeOld
import Derived.Test.YtpmklcpajcfpjaaGreatDoorChecked
import Derived.Lib.Builder
import Derived.Lib.UnsafeStr
import Derived.Shelf.RegionOpenPlain
set_option linter.all false
set_option maxRecDepth 100000
set_option maxHeartbeats 8000000
open Option renaming bind_some → J, bind_eq_some_iff → yh, map_eq_some_iff → yq, map_some → yB
open List renaming map_map → y9, length_map → yc, all_eq_true → ye, getElem?_eq_getElem → yf, length_append → yj, getElem?_map → yk, map_cons → ym, getElem?_eq_some_iff → yn, mem_cons_self → yo, mem_cons_of_mem → yp, mem_cons → yt, mem_append → yu, drop_eq_getElem_cons → yv, drop_eq_nil_of_le → yw, length_take → yz, flatten_cons → yA, mem_map → yD, map_congr_left → yE, length_cons → yG, getElem?_drop → yI, length_drop → yJ, getElem?_take → yK, mem_singleton → yU, map_take → yW, replicate → yX, size_toArray → yY, nil_append → Y00, map_drop → Y01, eq_nil_of_length_eq_zero → Y04, getElem?_eq_none → Y08, take_of_length_le → Y0b, pairwise_cons → Y0f
open Bool renaming and_eq_true → yg, false_eq_true → yM
open Nat renaming le_refl → yl, zero_add → yy, le_trans → yH, add_mul → yL, succ_mul → yN, add_zero → yV, eq_zero_or_pos → yZ, mul_le_mul_right → Y0e
open Array renaming toArray_toList → Y07, getD_eq_getD_getElem? → Y0j, getElem?_eq_getElem → Y0p
namespace Go.Proofs.YtpmklcpajcfpjaaGreatDoor
open Go
section
open Go Go.RowKit
section
variable {P:Program} {O:XH} {nt B:Nat} {F0:pR} {aa:Av} {w0:World} {D:Nat->Prop} {s:LC} {a:Act} {w w':World} {ι:Ix} {Θ:kM} {o:Oper}
def jJ (ι:Ix)(av avl:Av)(w:World):List AV->List Value->Prop
 | [],us=>us=[]
 |x::r,us=>∃u gb,us=u::gb/\WD ι av avl w x u/\jJ ι av avl w r gb
def Ix.one (p:Nat):Ix:=⟨fun t n=>if t=0/\n=0 then some p else .none,fun _ _=>.none,fun _=>0⟩
def UW (p:Nat)(av:Av)(w:World)(x:AV)(v:Value):Prop:=if x.NA then v=.pointer (some ⟨p,0,none⟩)else ZG av w x v
def CN (p:Nat)(av:Av)(w:World):List AV->List Value->Prop
 | [],us=>us=[]
 |x::r,us=>∃u gb,us=u::gb/\UW p av w x u/\CN p av w r gb
def D9 (p:Nat)(av:Av)(w:World):AV->Value->Prop
 |.fA vs,v=>∃us,v=.tuple us/\CN p av w vs us.toList
 |x,v=>UW p av w x v
def OwnV (base:Nat)(H:Nat->Prop)(w:World)(l:List (List AV))(v:Value):Prop :=
 (l=[]/\∃A c,v=.slice A 0 c/\(A=none->c=0))\/∃g c cur ty,v=.slice (some ⟨g,0,none⟩) l.length c/\base<=g/\¬H g/\w.heap[g]?=some (.cells cur ty (0,0))/\l.length<=c/\(∀sz,kD sz l=true->0<l.length->c*sz<=cur.size)/\∀(j:Nat)(x:AV),l.flatten[j]?=some x->cur[j]?=some x.HA
def I5 (w:World)(g0:Nat->Prop)(z:Nat)(av:Av)(w':World)(l:List (List AV))(v:Value):Prop :=
 ∃g c cur ty,v=.slice (some ⟨g,0,none⟩) l.length c/\(w.heap.size<=g\/g0 g/\∃cur0 ky,w.heap[g]?=some (.cells cur0 ky (0,0))/\cur.size=cur0.size)/\w'.heap[g]?=some (.cells cur ty (0,0))/\l.length<=c/\c*z<=cur.size/\eE (fun b o=>av b o\/b=g) w' l.flatten (cur.toList.take l.flatten.length)
def U5 (z:Nat)(av:Av)(w:World)(b:Bool)(l:List (List AV))(v:Value)(g0:Nat->Prop):Prop :=
 (l=[]/\(∃A,v=.slice A 0 0)/\(b=true->v=.slice none 0 0)/\∀g,¬g0 g)\/(b=false/\∃g c cur ty,v=.slice (some ⟨g,0,none⟩) l.length c/\(∀g',g0 g'↔g'=g)/\w.heap[g]?=some (.cells cur ty (0,0))/\l.length<=c/\c*z<=cur.size/\(∀o,av g o)/\eE av w l.flatten (cur.toList.take l.flatten.length))
def cK (P:Program)(O:XH)(f:FuncId)(args:List AV)(S0:Option AV)(r:RV):Prop :=
 (∀xs w,(callFunc f xs).run P w=.ok (.enter f xs) w) ∧
 match r,S0 with
 |(.sl nl l,none),none=>∀(av:Av)(w:World)(vs:List Value),O.low (fun _=>False) av w->jJ Ix.none av (fun _ _=>False) w args vs →
  Calls P f vs.toArray w fun e w'=>∃v,e=.returned v/\(if l=[]then ZG av w' (.sl nl []) v/\∃A,v=.slice A 0 0 else ∀z,kD z l=true->I5 w (fun _=>False) z av w' l v)/\Below w.heap.size w w'
 |(.sl false l,none),some (.int _ z)=>match args with
  |.sl nl l0::rest=>∀(av:Av)(w:World)(v0:Value)(vs:List Value)(g0:Nat->Prop),O.low g0 av w->jJ Ix.none av (fun _ _=>False) w rest vs->U5 z.toNat av w nl l0 v0 g0 →
   Calls P f (v0::vs).toArray w fun e w'=>∃v,e=.returned v/\I5 w g0 z.toNat av w' l v/\SD g0 w w'
  |_=>True
 |(.sl false l,some S'),some S=>∀(av:Av)(w:World)(vs:List Value)(p:Nat)(H:Nat->Prop),O.low H av w->(∀b o,H b->av b o)->O.at_ S H p w->jJ (Ix.one p) av (fun b _=>H b) w args vs →
  Calls P f vs.toArray w fun e w'=>∃v H',e=.returned v/\OwnV w.heap.size H' w' l v/\O.at_ S' H' p w'/\(∀b,H' b->H b\/w.heap.size<=b)/\SD H w w'
 |_,_=>True
def W5 (P:Program)(O:XH)(f:FuncId)(args:List AV)(S0:Option AV)(r:RV):Prop :=
 (∀xs w,(callFunc f xs).run P w=.ok (.enter f xs) w) ∧
 match S0,r.2 with
 |none,none=>∀(av:Av)(w:World)(vs:List Value),O.low (fun _=>False) av w->jJ Ix.none av (fun _ _=>False) w args vs →
  Calls P f vs.toArray w fun e w'=>∃v,e=.returned v/\ZG av w' r.1 v/\Below w.heap.size w w'
 |some S,some S'=>∀(av:Av)(w:World)(vs:List Value)(p:Nat)(H:Nat->Prop),O.low H av w->(∀b o,H b->av b o)->O.at_ S H p w->jJ (Ix.one p) av (fun b _=>H b) w args vs →
  Calls P f vs.toArray w fun e w'=>∃v H',e=.returned v/\ZG (fun b o=>av b o\/H' b) w' r.1 v/\O.at_ S' H' p w'/\(∀b,H' b->H b\/w.heap.size<=b)/\SD H w w'
 |none,some S'=>∀(av:Av)(w:World)(vs:List Value),O.low (fun _=>False) av w->jJ Ix.none av (fun _ _=>False) w args vs →
  Calls P f vs.toArray w fun e w'=>∃v p H',e=.returned v/\D9 p (fun b o=>av b o\/H' b) w' r.1 v/\O.at_ S' H' p w'/\(∀b,H' b->w.heap.size<=b)/\Below w.heap.size w w'
 |some _,none=>True
def Ix.row (p z:Nat):Ix:=⟨fun t n=>if t=0/\n=0 then some p else .none,fun _ _=>.none,fun _=>z⟩
def E5 (P:Program)(O:XH)(f:FuncId)(args:List AV)(S0:Option AV)(r:RV):Prop :=
 (∀xs w,(callFunc f xs).run P w=.ok (.enter f xs) w) ∧
 match S0,r with
 |some (.agg cs),(r1,some (.agg oy))=>∀(av:Av)(w:World)(vs:List Value)(p:Nat)(cur:Array Value)(ty:TypeId),O.low (fun b=>b=p) av w->(∀o,av p o)->w.heap[p]?=some (.cells cur ty (0,0))->cs.length<=cur.size->eE av w cs (cur.toList.take cs.length)->jJ (Ix.row p cur.size) av (fun b _=>b=p) w args vs →
  Calls P f vs.toArray w fun e w'=>∃v sa dj,e=.returned v/\ZG av w' r1 v/\w'.heap[p]?=some (.cells sa dj (0,0))/\sa.size=cur.size/\eE av w' oy (sa.toList.take oy.length)/\SD (fun b=>b=p) w w'
 |_,_=>True
def MD (P:Program)(O:XH)(f:FuncId)(args:List AV)(S0:Option AV)(r:RV):Prop:=match args with
 |.undef :: .undef::rest=>E5 P O f rest S0 r
 |.undef::rest=>cK P O f rest S0 r
 |_=>W5 P O f args S0 r
theorem MD.of {P:Program}{O:XH}{f:FuncId}{args:List AV}{S0:Option AV}{r:RV}(hm:zI args=false):MD P O f args S0 r↔W5 P O f args S0 r:=by
 unfold MD;split
 ·cases hm
 ·cases hm
 ·simp_all
theorem MD.own {P:Program}{O:XH}{f:FuncId}{args:List AV}{S0:Option AV}{r:RV}(hm:zI args=false)(h:MD P O f (.undef::args) S0 r):cK P O f args S0 r:=by
 cases args with
 |nil=>exact h
 |cons x r=>cases x<;>first|exact h|(simp[zI]at hm;done)
theorem UZ {ι':Ix}{av avb avl:Av}{x:AV}{v:Value}(h:WD ι av avb w x v)(hx:x.free=true):WD ι' av avl w x v:=by
  cases x<;>first
    |exact h
    |(simp[AV.free,AV.tA]at hx;done)
    | (obtain ⟨us,hv,hc⟩:=h
       exact⟨us,hv,jG (IJ hc fun y hy=>ye.1 hx y hy)⟩)
theorem TW {av avb:Av}:∀{cs:List AV}{us:List Value}{b off:Nat},eE av w cs us->(∀(j:Nat)(u:Value),us[j]?=some u->w.cell? ⟨b,off+j,none⟩=some u/\¬avb b (off+j))->iF av avb w cs b off
 | [],_,_,_,_,_=>by simp[iF]
 |x::r,_,b,off,h,hj=>by
  simp only[eE]at h;obtain⟨u,gb,rfl,h0,h1,h⟩:=h;simp only[iF];have h2:=hj 0 u rfl;refine⟨⟨u,h2.1,h0,h1⟩,h2.2,TW h fun j v hv=>?_⟩;have:=hj (j+1) v (by simpa using hv);rw[show off+1+j=off+(j+1)from by omega];exact this
section
variable (R:DE P O nt B F0 aa w0 D s a w ι Θ) {avl:Av}
include R avl
theorem MW {cl:Cl}{y x:AV}(hB:∀b o,avl b o->uF ι Θ b o)(hsep:∀t n b o,ι t n=some b->ι.ob t n=none->(∃sz off len cap,y=.ref t n sz off len cap)->¬avl b o){v:Value}{ι':Ix}(hY:WD ι (BE aa ι Θ) (uF ι Θ) w y v)(h:GV s cl y=some x)(uc:∀t n,y=.ptr t n 0->ι' 0 0=ι t n):WD ι' (BE aa ι Θ) avl w x v:=by
 unfold GV at h;split at h
 ·rename_i t n sz off len cap;split at h
  ·cases hm:s.mem t n with
   |none=>rw[hm]at h;cases h
   |some r =>
    rw[hm,J]at h;cases hr:KG r sz off len with
    |none=>rw[hr]at h;cases h
    |some m =>
     rw[hr]at h;cases h;obtain⟨b,hb,bc,cc,th,_,hv⟩:=lK.1 hY;obtain⟨gd,b',cur,ty,db,ra,ja,_⟩:=R.rows t n r hm;rw[hb]at db;injection db with db
     subst db;obtain⟨h1,h2,us,hl,ne⟩:=QJ ja ra hr;subst h1;exact⟨_,cc,hv,yH bc th,fun c hc c' nc=>(h2 c hc).trans (h2 c' nc).symm,fun _=>⟨b,off,rfl,XL.2 (TW hl fun j u hj=>⟨ne j u hj,hsep t n b _ hb gd ⟨_,_,_,_,rfl⟩⟩)⟩⟩
  ·cases h
 ·cases h;obtain⟨a',c,hv,hc,hu,hs⟩:=hY;refine⟨a',c,hv,hc,hu,fun h0=>?_⟩;obtain⟨b,off,ha,hr⟩:=hs h0;exact⟨b,off,ha,BN.held (QD.refl _ _) (QD.less hB) _ _ _ hr⟩
 ·cases h;obtain⟨b,off,hv,hc⟩:=hY;exact⟨b,off,hv,iF.held (QD.refl _ _) (QD.less hB) _ _ _ hc⟩
 ·rename_i t n off;split at h
  ·rename_i hc;cases h;obtain⟨h0,_,_⟩:=hc;subst h0;obtain⟨b,hb,hv⟩:=BI.1 hY;exact⟨b,(uc t n rfl).trans hb,hv⟩
  ·cases h
 ·split at h
  ·rename_i hf;cases h;exact UZ hY hf
  ·cases h
theorem Gz (sh:∀b o,avl b o->∃t n H,ι.ob t n=some H/\H b){cl:Cl}{y x:AV}{v:Value}{ι':Ix}(hY:WD ι (BE aa ι Θ) (uF ι Θ) w y v)(h:GV s cl y=some x)(uc:∀t n,y=.ptr t n 0->ι' 0 0=ι t n):WD ι' (BE aa ι Θ) avl w x v :=
 MW R (fun b o h=>.inl (.inr (sh b o h))) (fun t n b o hb gd _ h=>by
  obtain⟨t',n',H,ho,hH⟩:=sh _ _ h;obtain⟨e1,e2⟩:=((R.obs _ _ _ ho).1 _ hH).2.2.1 _ _ hb;rw[e1,e2,ho]at gd;cases gd) hY h uc
theorem Ds (sh:∀b o,avl b o->∃t n H,ι.ob t n=some H/\H b){cl:Cl}{y x:AV}{v:Value}{ι':Ix}(hY:QY ι (BE aa ι Θ) (uF ι Θ) w y v)(h:zS s cl y=some x):QY ι' (BE aa ι Θ) avl w x v:=by
 have hB:∀b o,avl b o->uF ι Θ b o:=fun b o h=>.inl (.inr (sh b o h))
 unfold zS at h;split at h
 ·rename_i t n off;split at h
  ·split at h
   ·rename_i r hm;split at h
    ·rename_i nb;cases h;obtain ⟨b,hb,hv⟩:=hY;obtain ⟨gd,b',cur,ty,db,ra,ja,_⟩:=R.rows t n r hm;rw [hb] at db;injection db with db
     subst db;have kc:=qI off ja.rep;rw[<- Y01]at kc;have jf:∀x∈(r.drop off).map (·.v),x.tA=true:=fun x hx=>by
      grind
     refine⟨b,off,hv,TW (IJ kc jf) fun j u hu=>⟨?_,fun h=>?_⟩⟩
     ·rw[yI]at hu;have hj:off+j<r.length:=by
       grind
      rw[List.getElem?_take_of_lt hj]at hu;simp only[World.cell?,ra];simp_all
     ·obtain⟨t',n',H,ho,hH⟩:=sh _ _ h;obtain⟨e1,e2⟩:=((R.obs _ _ _ ho).1 _ hH).2.2.1 _ _ hb;simp_all
    ·cases h
   ·cases h
  ·cases h
 ·cases h;obtain⟨b,off,hv,hc⟩:=hY;exact⟨b,off,hv,iF.held (QD.refl _ _) (QD.less hB) _ _ _ hc⟩
 ·cases h;exact hY
 ·cases h
end
theorem zU (R:DE P O nt B F0 aa w0 D s a w ι Θ){avl:Av}(sh:∀b o,avl b o->∃t n H,ι.ob t n=some H/\H b){cl:Cl}{ι':Ix}:∀{ys xs:List AV}{us:List Value},kJ ι (BE aa ι Θ) (uF ι Θ) w ys us->gG s cl ys=some xs->kJ ι' (BE aa ι Θ) avl w xs us
 | [],xs,us,hY,h=>by
  injection h with h;subst h;exact hY
 |y::r,xs,us,hY,h=>by
  obtain⟨u,gb,rfl,h0,hY⟩:=hY;unfold gG at h;split at h
  ·rename_i v vs hv hr;injection h with h;subst h;exact⟨u,gb,rfl,Ds R sh h0 hv,zU R sh hY hr⟩
  ·cases h
theorem Ss (R:DE P O nt B F0 aa w0 D s a w ι Θ){avl:Av}(sh:∀b o,avl b o->∃t n H,ι.ob t n=some H/\H b){cl:Cl}{y x:AV}{v:Value}{ι':Ix}(hY:WD ι (BE aa ι Θ) (uF ι Θ) w y v)(h:tI s cl y=some x)(uc:∀t n,y=.ptr t n 0->ι' 0 0=ι t n):WD ι' (BE aa ι Θ) avl w x v:=by
 unfold tI at h;split at h
 ·rename_i f cs;obtain⟨ws,hw,h⟩:=yq.1 h;subst h;obtain⟨us,hv,hc⟩:=hY;exact⟨us,hv,zU R sh hc hw⟩
 ·exact Gz R sh hY h uc
theorem G3 {ι':Ix}{av avl:Av}:∀{xs:List AV}{us:List Value},(∀x∈xs,x.mB=true)->kJ ι' av avl w xs us->jJ ι' av avl w xs us
 | [],_,_,h=>h
 |x::r,_,hc,h=>by
  obtain⟨u,gb,rfl,h0,h⟩:=h;refine⟨u,gb,rfl,?_,G3 (fun y hy=>hc y (yp _ hy)) h⟩;have:=hc x (yo);cases x<;>first|(simp[AV.mB]at this;done)|exact h0
theorem LX {ι':Ix}{av avl:Av}:∀{xs ys:List AV}{us vs:List Value},jJ ι' av avl w xs us->jJ ι' av avl w ys vs->jJ ι' av avl w (xs++ys) (us++vs)
 | [],_,_,_,h,h'=>by cases h;exact h'
 |x::r,_,_,_,h,h'=>by
  obtain⟨u,gb,rfl,h0,h⟩:=h;exact⟨u,gb++_,rfl,h0,LX h h'⟩
theorem NW {cl:Cl}:∀{ys xs:List AV},gG s cl ys=some xs->∀x∈xs,x.mB=true
 | [],xs,h=>by injection h with h;subst h;intro x hx;cases hx
 |y::r,xs,h=>by
  unfold gG at h;split at h
  ·rename_i v vs hv hr;injection h with h;subst h;intro x hx;rcases yt.1 hx with rfl | hx
   ·unfold zS at hv;split at hv
    ·split at hv
     ·split at hv
      ·split at hv
       ·injection hv with hv;subst hv;rfl
       ·cases hv
      ·cases hv
     ·cases hv
    ·injection hv with hv;subst hv;rfl
    ·injection hv with hv;subst hv;rfl
    ·cases hv
   ·exact NW hr x hx
  ·cases h
theorem ZK (R:DE P O nt B F0 aa w0 D s a w ι Θ){avl:Av}(sh:∀b o,avl b o->∃t n H,ι.ob t n=some H/\H b){cl:Cl}{ι':Ix}:∀{Xs:List Operand}{xs:List EE}{vs:List AV},FI Xs=some xs->DH s cl xs=some vs->(∀x∈xs,∀t n,x.get s=.ptr t n 0->ι' 0 0=ι t n)->jJ ι' (BE aa ι Θ) avl w vs (Xs.map a.eval)
 | [],xs,vs,h,hl,_=>by
  injection h with h;subst h;injection hl with hl;subst hl;rfl
 |X::Xs,xs,vs,h,hl,uc=>by
  unfold FI at h;split at h
  ·rename_i x l hx hr;injection h with h;subst h;unfold DH at hl;split at hl
   ·rename_i v ly hv di;injection hl with hl;subst hl;exact⟨_,_,rfl,Ss R sh (R.pA hx).1 hv (uc x (yo)),ZK R sh hr di fun y hy=>uc y (yp _ hy)⟩
   ·cases hl
  ·cases h
theorem Qd {p d n:Nat}{ι':Ix}{av avb:Av}{x:AV}{v:Value}(h:D9 p av w x v)(hp:ι' d n=some p)(hx:x.mC=true):WD ι' av avb w (x.named d n) v:=by
 have one:∀{x:AV}{u:Value},UW p av w x u->RD ι' av w (if x.NA then .ptr d n 0 else x) u:=fun{x u} h=>by
  unfold UW at h;split at h
  ·rename_i ho;rw[if_pos ho];exact⟨p,hp,h⟩
  ·rename_i ho;rw[if_neg ho];exact ZO h
 have oneU:∀{x:AV}{u:Value},UW p av w x u->qS ι' av w (if x.NA then .ptr d n 0 else x) u:=fun{x u} h=>by
  unfold UW at h;split at h
  ·rename_i ho;rw[if_pos ho];exact⟨p,hp,h⟩
  ·rename_i ho;rw[if_neg ho];exact wS h
 have all:∀{xs:List AV}{us:List Value},CN p av w xs us->rJ ι' av w (xs.map fun v=>if v.NA then .ptr d n 0 else v) us:=by
  intro xs
  induction xs with
  |nil=>intro us h;simpa [CN,rJ]using h
  |cons x r ih =>
   intro us h;simp only[CN]at h;obtain⟨u,gb,rfl,h0,h⟩:=h;exact⟨u,gb,rfl,oneU h0,ih h⟩
 cases x with
 |fA vs =>
  obtain⟨us,hv,hc⟩:=h;exact⟨us,hv,all hc⟩
 |ptr t' n' off =>
  have h1:=one (x:=.ptr t' n' off) h;have h2:(AV.ptr t' n' off).NA=true:=hx;simp only[h2,if_true]at h1;show WD ι' av avb w (if(AV.ptr t' n' off).NA then .ptr d n 0 else .ptr t' n' off) v;rw[if_pos h2];exact h1
 |_=>simp[AV.mC,AV.NA]at hx
theorem UW.held {p:Nat}{av pb:Av}{w w':World}(h:QD av pb w w'){x:AV}{v:Value}(hr:UW p av w x v):UW p pb w' x v:=by
 unfold UW at hr ⊢;split at hr
 ·rename_i ho;rw[if_pos ho];exact hr
 ·rename_i ho;rw[if_neg ho];exact ZG.held h _ _ hr
theorem D9.held {p:Nat}{av pb:Av}{w w':World}(h:QD av pb w w'){x:AV}{v:Value}(hr:D9 p av w x v):D9 p pb w' x v:=by
 have all:∀{xs:List AV}{us:List Value},CN p av w xs us->CN p pb w' xs us:=by
  intro xs
  induction xs with
  |nil=>intro us h;exact h
  |cons x r ih =>
   intro us h';simp only[CN]at h' ⊢;obtain⟨u,gb,rfl,h0,h'⟩:=h';exact⟨u,gb,rfl,UW.held h h0,ih h'⟩
 cases x<;>first|exact UW.held h hr|(obtain⟨us,hv,hc⟩:=hr;exact⟨us,hv,all hc⟩)
theorem DE.cC (R:DE P O nt B F0 aa w0 D s a w ι Θ){t n p:Nat}{H H':Nat->Prop}{S':AV}(hp:ι t n=some p)(uc:ι.ob t n=some H)(de:O.at_ S' H' p w')(htie:Ue ι S' p w')(hH:∀b,H' b->H b\/w.heap.size<=b)(hk:SD H w w'):
  ∃ι':Ix,DE P O nt B F0 aa w0 D (s.setObj t n S') a w' ι' Θ/\QD (fun b o=>BE aa ι Θ b o\/H' b) (BE aa ι' Θ) w' w':=by
 obtain⟨hob1,hob2⟩:=R.obs t n H uc;have cw:∀t' n' H1,(if t'=t/\n'=n then some H' else ι.ob t' n')=some H1->(t'=t/\n'=n/\H1=H')\/(¬(t'=t/\n'=n)/\ι.ob t' n'=some H1):=fun t' n' H1 h=>by
  grind
 have ll:∀b o,b<w.heap.size->uF ⟨ι.f,fun t' n'=>if t'=t/\n'=n then some H' else ι.ob t' n',ι.z⟩ Θ b o->uF ι Θ b o:=fun b o hb h=>h.imp (fun h=>h.imp id fun⟨t',n',H1,h1,h2⟩=>by
  rcases cw _ _ _ h1 with⟨e1,e2,e3⟩|⟨_,h1⟩
  ·subst e3;rcases hH b h2 with h3 | h3
   ·exact⟨t,n,H,uc,h3⟩
   ·omega
  ·exact⟨t',n',H1,h1,h2⟩) id
 have zp:∀t1 n1 b1 H1,ι t1 n1=some b1->ι.ob t1 n1=some H1->(⟨ι.f,fun t' n'=>if t'=t/\n'=n then some H' else ι.ob t' n',ι.z⟩:Ix) t1 n1=some b1/\∃H2,(⟨ι.f,fun t' n'=>if t'=t/\n'=n then some H' else ι.ob t' n',ι.z⟩:Ix).ob t1 n1=some H2:=fun t1 n1 b1 H1 g1 g2=>⟨g1,by
  by_cases e:t1=t/\n1=n
  ·exact⟨H',by simp only[if_pos e]⟩
  ·exact⟨H1,by simp only[if_neg e];exact g2⟩⟩
 have jc:∀b o u,w.cell? ⟨b,o,none⟩=some u->¬H b->w'.cell? ⟨b,o,none⟩=some u:=fun b o u hc hn=>(World.cell?_of_block (w:=w) (a:=⟨b,o,none⟩) (hk.block b (SI hc) hn)).trans hc
 have hB:QD (uF ι Θ) (uF ⟨ι.f,fun t' n'=>if t'=t/\n'=n then some H' else ι.ob t' n',ι.z⟩ Θ) w w':=⟨fun b o u hc hn=>⟨jc b o u hc fun h=>hn (.inl (.inr ⟨t,n,H,uc,h⟩)),fun h=>hn (ll b o (SI hc) h)⟩⟩;have hA:QD (BE aa ι Θ) (BE aa ⟨ι.f,fun t' n'=>if t'=t/\n'=n then some H' else ι.ob t' n',ι.z⟩ Θ) w w':=⟨fun b o u hc hn=>⟨jc b o u hc fun h=>hn (.inr (.inl (.inr ⟨t,n,H,uc,h⟩))),fun h=>hn (h.imp id (ll b o (SI hc)))⟩⟩;have pu:=R.EC;have zc:=hk.size;have jz:∀t1,WD ⟨ι.f,fun t' n'=>if t'=t/\n'=n then some H' else ι.ob t' n',ι.z⟩ (BE aa ⟨ι.f,fun t' n'=>if t'=t/\n'=n then some H' else ι.ob t' n',ι.z⟩ Θ) (uF ⟨ι.f,fun t' n'=>if t'=t/\n'=n then some H' else ι.ob t' n',ι.z⟩ Θ) w' (s.env t1).v (a.tmps.getD t1 undef):=fun t1=>WD.held (ι:=ι) (ι':=⟨ι.f,fun t' n'=>if t'=t/\n'=n then some H' else ι.ob t' n',ι.z⟩) ⟨fun _ _ _ h=>h,fun _ _ _ _=>rfl⟩ hA hB _ _ (R.env t1)
 have hgen:∀t1,WD ⟨ι.f,fun t' n'=>if t'=t/\n'=n then some H' else ι.ob t' n',ι.z⟩ (BE aa ⟨ι.f,fun t' n'=>if t'=t/\n'=n then some H' else ι.ob t' n',ι.z⟩ Θ) (uF ⟨ι.f,fun t' n'=>if t'=t/\n'=n then some H' else ι.ob t' n',ι.z⟩ Θ) w' (s.gh t1).v (F0.g t1):=fun t1=>WD.held (ι:=ι) (ι':=⟨ι.f,fun t' n'=>if t'=t/\n'=n then some H' else ι.ob t' n',ι.z⟩) ⟨fun _ _ _ h=>h,fun _ _ _ _=>rfl⟩ hA hB _ _ (R.gen t1)
 refine⟨⟨ι.f,fun t' n'=>if t'=t/\n'=n then some H' else ι.ob t' n',ι.z⟩,⟨R.defers,R.size,jz,R.aC,fun t' n' r hr=>?_,fun t' n' b h=>?_,R.inj,fun k o h=>?_,R.ZA,R.apart,R.out,(fun p' h=>⟨(R.pin p' h).1,by
  rcases(R.pin p' h).2 with hr0|⟨H1,h1⟩
  ·exact .inl hr0
  refine .inr ?_;show ∃H2,(if 0=t/\0=n then some H' else ι.ob 0 0)=some H2;split
  ·exact⟨_,rfl⟩
  ·exact⟨H1,h1⟩⟩),?_,R.base,fun t' n' S1 h=>?_,fun t' n' H1 h=>?_,hgen,R.pB⟩,?_⟩
 ·obtain ⟨h0,b,cur,ty,h1,h2,h3,h8⟩:=R.rows t' n' r hr;have ua:¬ (t'=t/\n'=n):=fun e=>by rw [e.1,e.2,uc] at h0; cases h0
  have hbn:¬H b:=fun hb=>ua ((hob1 b hb).2.2.1 t' n' h1)
  exact⟨by simp only[if_neg ua];exact h0,b,cur,ty,h1,(hk.block b (sD h2) hbn).trans h2,h3.held ⟨fun _ _ _ h=>h,fun _ _ _ _=>rfl⟩ hA (fun _ _ h=>h),h8⟩
 ·obtain⟨h1,h2,h3⟩:=R.mine t' n' b h;exact⟨h1,by omega,h3⟩
 ·obtain⟨h1,h2,h3,h4,sa,h5,h6⟩:=R.tok k o h;exact⟨h1,h2,h3,h4,sa,(hk.block _ (sD h5) (R.lC h uc)).trans h5,h6⟩
 ·refine R.kept.trans hk fun i hi h=>?_
  have:=R.base.1
  grind
 ·simp only [LC.setObj] at h;split at h
  ·rename_i e;injection h with h;subst h;exact⟨p,H',by rw[e.1,e.2];exact hp,by simp only[if_pos e],de,htie.keep zp fun x hx=>hx⟩
  ·rename_i e;obtain ⟨p1,H1,h1,h2,h3,h4⟩:=R.qB t' n' S1 h;have ot:∀ b,H1 b->¬ H b:=fun b hb db=>e ((hob1 b db).2.2.2.2 t' n' H1 h2 hb)
   exact⟨p1,H1,h1,by simp only[if_neg e];exact h2,O.keep h3 (fun b hb=>hk.block b (O.lt h3 hb) (ot b hb)) zc,h4.keep zp fun x hx=>(hk.block _ (sD hx) (ot _ (O.main h3))).trans hx⟩
 ·rcases cw _ _ _ h with ⟨e1,e2,e3⟩ | ⟨e,h⟩
  ·subst e1; subst e2; subst e3;refine ⟨fun b hb=>?_,hob2⟩;rcases hH b hb with h1 | h1
   ·grind
   ·refine ⟨.inl (by omega),O.lt de hb,fun t1 n1 h2=>?_,fun k o h2 e=>?_,fun t1 n1 H2 h2 h3=>?_⟩
    ·have:=(R.mine _ _ _ h2).2.1;omega
    ·obtain⟨_,_,_,_,sa,h5,_⟩:=R.tok k o h2;have:=sD h5;omega
    ·rcases cw _ _ _ h2 with ⟨e1,e2,_⟩ | ⟨_,h2⟩
     ·omega
     ·have:=((R.obs _ _ _ h2).1 b h3).2.1;omega
  ·obtain ⟨h1,h2⟩:=R.obs t' n' H1 h;refine ⟨fun b hb=>?_,h2⟩;obtain ⟨g1,g2,g3,g4,g5⟩:=h1 b hb;refine ⟨g1,by omega,g3,g4,fun t1 n1 H2 h2 h3=>?_⟩;rcases cw _ _ _ h2 with ⟨e1,e2,e3⟩ | ⟨_,h2⟩
   ·subst e3;rcases hH b h3 with h4 | h4
    ·have:=g5 t n H uc h4;omega
    ·omega
   ·exact g5 t1 n1 H2 h2 h3
 ·refine QD.less fun b o h=>?_
  rcases h with h|h|h
  ·exact .inl (.inl h)
  ·rcases h with h | ⟨t1,n1,H2,h2,h3⟩
   ·exact .inl (.inr (.inl (.inl h)))
   ·rcases cw _ _ _ h2 with ⟨_,_,e3⟩ | ⟨_,h2⟩
    ·grind
    ·exact .inl (.inr (.inl (.inr ⟨t1,n1,H2,h2,h3⟩)))
  ·exact .inl (.inr (.inr h))
theorem DE.newObj (R:DE P O nt B F0 aa w0 D s a w ι Θ){d p:Nat}{H:Nat->Prop}{S:AV}(hb:Below w.heap.size w w')(hD:¬D d)(de:O.at_ S H p w')(htie:Ue ι S p w')(hH:∀b,H b->w.heap.size<=b):
  ∃ι':Ix,DE P O nt B F0 aa w0 (fun t=>D t\/t=d) (s.setObj d s.next S) a w' ι' Θ/\ι' d s.next=some p/\QD (fun b o=>BE aa ι Θ b o\/H b) (BE aa ι' Θ) w' w':=by
 have pu:=R.EC;have zc:=hb.size;have hpH:=hH p (O.main de);have dg:ι d s.next=none:=by
  cases h:ι d s.next with
  |none=>rfl
  |some b =>
   rcases(R.mine _ _ _ h).2.2 with h1|h1
   ·omega
   ·simp_all
 have pf:ι.ob d s.next=none:=by
  cases h:ι.ob d s.next with
  |none=>rfl
  |some b =>
   rcases(R.obs _ _ _ h).2 with h1|h1
   ·omega
   ·simp_all
 have hmemn:s.mem d s.next=none:=by
  cases h:s.mem d s.next with
  |none=>rfl
  |some r=>obtain⟨_,b,cur,ty,h1,_⟩:=R.rows _ _ _ h;rw[dg]at h1;cases h1
 obtain⟨ι',hι'⟩:∃ι':Ix,ι'=⟨fun t' n'=>if t'=d/\n'=s.next then some p else ι t' n',fun t' n'=>if t'=d/\n'=s.next then some H else ι.ob t' n',ι.z⟩:=⟨_,rfl⟩;have hf:∀t' n' b,ι' t' n'=some b->(t'=d/\n'=s.next/\b=p)\/(¬(t'=d/\n'=s.next)/\ι t' n'=some b):=fun t' n' b h=>by
  subst hι'
  grind
 have ho:∀t' n' H1,ι'.ob t' n'=some H1->(t'=d/\n'=s.next/\H1=H)\/(¬(t'=d/\n'=s.next)/\ι.ob t' n'=some H1):=fun t' n' H1 h=>by
  subst hι'
  grind
 have kf:∀t n b,ι t n=some b->ι' t n=some b:=fun t n b h=>by
  subst hι'
  grind
 have ft:∀t n H1,¬(t=d/\n=s.next)->ι.ob t n=H1->ι'.ob t n=H1:=fun t n H1 e h=>by
  simp_all
 have fd:ι' d s.next=some p:=by
  simp_all
 have fw:ι'.ob d s.next=some H:=by subst hι';simp
 have zp:∀t1 n1 b1 H1,ι t1 n1=some b1->ι.ob t1 n1=some H1->ι' t1 n1=some b1/\∃H2,ι'.ob t1 n1=some H2:=fun t1 n1 b1 H1 g1 g2=>⟨kf _ _ _ g1,H1,ft _ _ _ (fun e=>by rw[e.1,e.2,pf]at g2;cases g2) g2⟩
 have cq:∀b,ι'.z b=ι.z b:=fun b=>by subst hι';rfl
 have bc:Ix.Le ι ι':=⟨kf,fun _ _ _ _=>cq _⟩;clear hι';have ll:∀b o,b<w.heap.size->uF ι' Θ b o->uF ι Θ b o:=fun b o gn h=>h.imp (fun h=>by
  rcases h with⟨t',n',h⟩|⟨t',n',H1,h,h2⟩
  ·rcases hf _ _ _ h with ⟨_,_,e⟩ | ⟨_,h⟩
   ·omega
   ·exact .inl ⟨t',n',h⟩
  ·rcases ho _ _ _ h with ⟨_,_,e⟩ | ⟨_,h⟩
   ·subst e;have:=hH b h2;omega
   ·exact .inr ⟨t',n',H1,h,h2⟩) id
 have hB:QD (uF ι Θ) (uF ι' Θ) w w':=QD.grown (fun b db=>hb.block b db) ll;have hA:QD (BE aa ι Θ) (BE aa ι' Θ) w w':=QD.grown (fun b db=>hb.block b db) fun b o gn h=>h.imp id (ll b o gn)
 refine⟨ι',⟨R.defers,R.size,fun t=>WD.held bc hA hB _ _ (R.env t),R.aC,fun t' n' r hr=>?_,fun t' n' b h=>?_,fun t n t' n' b h h'=>?_,fun k o h=>?_,R.ZA,fun k o t n h h'=>?_,R.out,fun p h=>⟨kf _ _ _ (R.pin p h).1,by
  rcases(R.pin p h).2 with hr0|⟨H1,h1⟩
  ·exact .inl ⟨hr0.1,(bc.z _ _ _ (R.pin p h).1).trans hr0.2⟩
  refine .inr ?_;by_cases e:0=d/\0=s.next
  ·exact⟨H,by rw[<- e.1,<- e.2]at fw;exact fw⟩
  ·exact⟨H1,ft _ _ _ e h1⟩⟩,R.kept.BA hb,R.base,fun t' n' S1 h=>?_,fun t' n' H1 h=>?_,fun t=>WD.held bc hA hB _ _ (R.gen t),R.pB⟩,fd,?_⟩
 ·obtain⟨h0,b,cur,ty,h1,h2,h3,h8,h9⟩:=R.rows t' n' r hr;have ua:¬(t'=d/\n'=s.next):=fun e=>by
   simp_all
  exact⟨ft _ _ _ ua h0,b,cur,ty,kf _ _ _ h1,(hb.block b (sD h2)).trans h2,h3.held bc hA (fun _ _ h=>h),h8,h9.trans (cq _).symm⟩
 ·rcases hf _ _ _ h with ⟨e1,e2,e⟩ | ⟨_,h⟩
  ·subst e;exact⟨.inl (by omega),O.lt de (O.main de),.inr ⟨e2,.inr e1⟩⟩
  ·obtain⟨h1,h2,h3⟩:=R.mine t' n' b h;exact⟨h1,by omega,h3.imp id fun⟨e,d⟩=>⟨e,.inl d⟩⟩
 ·rcases hf _ _ _ h with ⟨e1,e2,e⟩ | ⟨_,h⟩ <;> rcases hf _ _ _ h' with ⟨g1,g2,g⟩ | ⟨_,h'⟩
  ·omega
  ·have:=(R.mine _ _ _ h').2.1;omega
  ·have:=(R.mine _ _ _ h).2.1;omega
  ·exact R.inj t n t' n' b h h'
 ·obtain⟨h1,h2,h3,h4,sa,h5,h6⟩:=R.tok k o h;exact⟨h1,h2,h3,h4,sa,(hb.block _ (sD h5)).trans h5,h6⟩
 ·obtain ⟨_,_,_,_,sa,h5,_⟩:=R.tok k o h;have ba:=sD h5;rcases hf _ _ _ h' with ⟨_,_,e⟩ | ⟨_,h'⟩
  ·omega
  ·exact R.apart k o t n h h'
 ·simp only [LC.setObj] at h;split at h
  ·rename_i e;injection h with h;subst h;exact⟨p,H,by rw[e.1,e.2];exact fd,by rw[e.1,e.2];exact fw,de,htie.keep zp fun x hx=>hx⟩
  ·rename_i e;obtain⟨p1,H1,h1,h2,h3,h4⟩:=R.qB t' n' S1 h;exact⟨p1,H1,kf _ _ _ h1,ft _ _ _ e h2,O.keep h3 (fun b db=>hb.block b (O.lt h3 db)) zc,h4.keep zp fun x hx=>(hb.block _ (sD hx)).trans hx⟩
 ·rcases ho _ _ _ h with ⟨e1,e2,e⟩ | ⟨_,h⟩
  ·subst e;refine ⟨fun b db=>⟨.inl (by have:=hH b db; omega),O.lt de db,fun t1 n1 h2=>?_,fun k o h2 e=>?_,fun t1 n1 H2 h2 h3=>?_⟩,.inr ⟨e2,.inr e1⟩⟩
   ·have:=hH b db;rcases hf _ _ _ h2 with ⟨g1,g2,_⟩ | ⟨_,h2⟩
    ·omega
    ·have:=(R.mine _ _ _ h2).2.1;omega
   ·have:=hH b db;obtain⟨_,_,_,_,sa,h5,_⟩:=R.tok k o h2;have:=sD h5;omega
   ·have:=hH b db;rcases ho _ _ _ h2 with ⟨g1,g2,_⟩ | ⟨_,h2⟩
    ·omega
    ·have:=((R.obs _ _ _ h2).1 b h3).2.1;omega
  ·obtain ⟨h1,h2⟩:=R.obs t' n' H1 h;refine ⟨fun b db=>?_,h2.imp id fun ⟨e,d⟩=>⟨e,.inl d⟩⟩;obtain ⟨g1,g2,g3,g4,g5⟩:=h1 b db;refine ⟨g1,by omega,fun t1 n1 h2=>?_,g4,fun t1 n1 H2 h2 h3=>?_⟩
   ·grind
   ·grind
 ·refine QD.less fun b o h=>?_
  rcases h with h|h|h
  ·exact .inl (.inl h)
  ·rcases h with ⟨t',n',h⟩ | ⟨t',n',H1,h,h2⟩
   ·rcases hf _ _ _ h with ⟨_,_,e⟩ | ⟨_,h⟩
    ·subst e;exact .inr (O.main de)
    ·exact .inl (.inr (.inl (.inl ⟨t',n',h⟩)))
   ·rcases ho _ _ _ h with ⟨_,_,e⟩ | ⟨_,h⟩
    ·simp_all
    ·exact .inl (.inr (.inl (.inr ⟨t',n',H1,h,h2⟩)))
  ·exact .inl (.inr (.inr h))
theorem oT {s:LC}{cl:Cl}:∀{xs:List EE}{vs:List AV},DH s cl xs=some vs->zI vs=false
 | [],vs,h=>by injection h with h;subst h;rfl
 |x::r,vs,h=>by
  unfold DH at h;split at h
  ·rename_i v us hv hr;injection h with h;subst h;cases v with
   |undef =>
    exfalso;unfold tI at hv;split at hv
    ·obtain⟨_,_,hv⟩:=yq.1 hv;cases hv
    unfold GV at hv;split at hv
    ·split at hv
     ·obtain⟨_,_,hv⟩:=yq.1 hv;cases hv
     ·cases hv
    ·injection hv with hv;cases hv
    ·injection hv with hv;cases hv
    ·split at hv
     ·injection hv with hv;cases hv
     ·cases hv
    ·split at hv
     ·rename_i hf;injection hv with hv;rw[hv]at hf;cases hf
     ·cases hv
   |_=>rfl
  ·cases h
theorem DE.wd (R:DE P O nt B F0 aa w0 D s a w ι Θ):O.wd w:=O.wdk R.base.2.1 R.kept R.base.2.2
theorem DE.lo (R:DE P O nt B F0 aa w0 D s a w ι Θ){b:Nat}(h:B<=b\/F0.b b):O.lo<=b:=by
 rcases h with h|h
 ·have:=O.wdl R.base.2.1;have:=R.base.1;omega
 ·exact R.base.2.2 b h
section
variable (R:DE P O nt B F0 aa w0 D s a w ι Θ)
include R
theorem DE.DB:O.low (fun _=>False) (BE aa ι Θ) w:=⟨⟨R.wd,fun _ h=>h.elim⟩,fun b o h=>R.low h⟩
theorem DE.lowH {t n:Nat}{H:Nat->Prop}(h:ι.ob t n=some H):O.low H (BE aa ι Θ) w:=⟨⟨R.wd,fun b hb=>R.lo (((R.obs t n H h).1 b hb).1)⟩,fun b o h=>R.low h⟩
theorem DE.lowR {t n p:Nat}(h:ι t n=some p):O.low (fun b=>b=p) (BE aa ι Θ) w:=⟨⟨R.wd,fun b hb=>by subst hb;exact R.lo (R.mine t n b h).1⟩,fun b o h=>R.low h⟩
theorem op_call {call:sE}(kb:∀f args S r,call f args S=some r->MD P O f args S r){f:FuncId}{Xs:Array Operand}{ts:Array TypeId}{xs:List EE}(hx:FI Xs.toList=some xs)(ho:o.op=.call { callee:=.value (.func f),args:=Xs,argTypes:=ts })(hd:∀d,o.dst=some d->d<nt)(hD:∀d,o.dst=some d->¬D d){cl:Cl}{xe:SC×uG}(hr:(K.call cl f xs).run call s=some xe) {g} {s':LC} (he:aD.eff ⟨o.dst,.call cl f xs,g⟩ s xe=some s')
  {Kn:Act->World->Prop} {Q:Exit->Act->World->Prop} (hK:∀a' w',SG P O nt B F0 aa w0 (fun t=>D t\/o.dst=some t) s' a' w'->Kn a' w'):o.wp P a w Kn Q:=by
 simp only[K.run]at hr;obtain⟨vs,hl,hr⟩:=yh.1 hr;have nr:(Xs.toList.map a.eval).toArray=Xs.map a.eval:=by rw[<- Array.toList_map,Y07]
 have run:∀{S0:Option AV}{r:RV},W5 P O f vs S0 r->(execOp a.eval o).run P w=.ok (.enter f (Xs.map a.eval)) w:=fun h=>by
  simp only[execOp,ho,resolve,Act.eval,Deferred.ofValue,Sem.run_bind,Sem.run_pure,Result.andThen_ok,invoke];have:=h.1 (#[]++Xs.map a.eval++#[]) w;simp_all
 have ni:∀b o,BE aa ι Θ b o->b<w.heap.size:=fun b o h=>R.low h
 split at hr
 ·rename_i cj;have nob:∀x∈xs,∀t n,x.get s=.ptr t n 0->False:=fun x hx t n h=>by
   have:(t,n)∈rK s xs:=List.mem_filterMap.2 ⟨x,hx,by rw[h]⟩;simp_all
  have za:=ZK (ι':=Ix.none) (avl:=fun _ _=>False) R (fun _ _ h=>h.elim) hx hl fun x hx t n h=>(nob x hx t n h).elim
  obtain⟨r,hc,hr⟩:=yh.1 hr;have wa:=(MD.of (oT hl)).1 (kb f vs none r hc);obtain⟨r1,r2⟩:=r;unfold Oper.wp;rw[run wa,Oper.upon_enter];cases r2 with
  |none =>
   simp only at hr;split at hr
   ·cases hr;simp only[aD.eff]at he;cases he;have hC:=wa.2 (BE aa ι Θ) w _ R.DB za;rw[nr]at hC;refine hC.mono ?_;rintro e w' ⟨v,rfl,hv,hb⟩;have R':DE P O nt B F0 aa w0 D s a w' ι Θ:=R.grow (fun b db=>hb.block b db) hb.size (R.kept.BA hb);exact hK _ _ ⟨ι,Θ,(R'.cB (x:=⟨_,.no⟩) hd (RM hv) trivial).more fun _ h=>.inl h⟩
   ·cases hr
  |some S' =>
   simp only at hr;split at hr
   ·rename_i hback;cases hr;simp only [aD.eff] at he;split at he
    ·cases he
    ·rename_i d ka;cases he;have hC:=wa.2 (BE aa ι Θ) w _ R.DB za;rw[nr]at hC;refine hC.mono ?_;rintro e w' ⟨v,p,H',rfl,hv,de,hH,hb⟩;obtain⟨ι',R2,hι,ld⟩:=R.newObj (d:=d) hb (hD d ka) de (Ue.no hback.2.2) hH;rw[ka];refine hK _ _ ⟨ι',Θ,(R2.put (x:=⟨_,.no⟩) (hd d ka) (Qd (D9.held ld hv) hι hback.1) trivial).more fun t h=>h.imp id fun e=>by rw[ka,e]⟩
   ·cases hr
 ·rename_i t n eo;obtain ⟨r,hc,hr⟩:=yh.1 hr;obtain ⟨r1,r2⟩:=r;cases r2 with
  |none=>cases hr
  |some S' =>
   simp only at hr;split at hr
   ·rename_i ia;cases hr;simp only[aD.eff]at he;cases he;obtain⟨S,hS⟩:=Option.isSome_iff_exists.1 ia.2.1;rw[hS]at hc;have wa:=(MD.of (oT hl)).1 (kb f vs (some S) _ hc);obtain⟨p,H,hp,uc,de,_⟩:=R.qB t n S hS;have za:=ZK (ι':=Ix.one p) (avl:=fun b _=>H b) R (fun b _ h=>⟨t,n,H,uc,h⟩) hx hl fun x hx t' n' h=>by
     have:(t',n')∈rK s xs:=List.mem_filterMap.2 ⟨x,hx,by rw[h]⟩;rw[eo]at this;have:=yU.1 this;injection this with e1 e2;rw[e1,e2,hp];rfl
    unfold Oper.wp;rw[run wa,Oper.upon_enter];have hC:=wa.2 (BE aa ι Θ) w _ p H (R.lowH uc) (fun b o h=>.inr (.inl (.inr ⟨t,n,H,uc,h⟩))) de za;rw[nr]at hC;refine hC.mono ?_;rintro e w' ⟨v,H',rfl,hv,uu,hH,hk⟩;obtain⟨ι',R',ld⟩:=R.cC hp uc uu (Ue.no ia.2.2) hH hk;refine hK _ _ ⟨ι',Θ,(R'.cB (x:=⟨_,.no⟩) hd (RM (ZG.held ld _ _ hv)) trivial).more fun _ h=>.inl h⟩
   ·cases hr
 ·cases hr
theorem Jx {call:sE}(kb:∀f args S r,call f args S=some r->MD P O f args S r){tf:Nat}{Xs:Array Operand}{ts:Array TypeId}{xs:List EE}(hx:FI Xs.toList=some xs)(ho:o.op=.call { callee:=.value (.tmp tf),args:=Xs,argTypes:=ts })(hd:∀d,o.dst=some d->d<nt){cl:Cl}{xe:SC×uG}(hr:(K.JA cl (.t tf) xs).run call s=some xe) {g} {s':LC} (he:aD.eff ⟨o.dst,.JA cl (.t tf) xs,g⟩ s xe=some s')
  {Kn:Act->World->Prop} {Q:Exit->Act->World->Prop} (hK:∀a' w',SG P O nt B F0 aa w0 (fun t=>D t\/o.dst=some t) s' a' w'->Kn a' w'):o.wp P a w Kn Q:=by
 simp only[K.run,EE.get]at hr;have hF:=R.env tf;split at hr
 ·rename_i f cs xo;rw [xo] at hF;obtain ⟨us,ae,ol⟩:=hF;split at hr
  ·rename_i vs ws hl hw cj;have ni:∀ b o,BE aa ι Θ b o->b<w.heap.size:=fun b o h=>R.low h
   have nob:∀x∈xs,∀t n,x.get s=.ptr t n 0->False:=fun x hx t n h=>by
    have:(t,n)∈rK s xs:=List.mem_filterMap.2 ⟨x,hx,by rw[h]⟩;simp_all
   have za:=ZK (ι':=Ix.none) (avl:=fun _ _=>False) R (fun _ _ h=>h.elim) hx hl fun x hx t n h=>(nob x hx t n h).elim
   have hcaps:=G3 (NW hw) (zU (ι':=Ix.none) (avl:=fun _ _=>False) R (fun _ _ h=>h.elim) ol hw);have nb:=LX za hcaps;obtain⟨r,hc,hr⟩:=yh.1 hr;have hm:zI (vs++ws)=false:=by
    cases vs with
    |cons v r=>have:=oT hl;cases v<;>first|rfl|exact this
    |nil =>
     cases ws with
     |nil=>rfl
     |cons v r =>
      have:=NW hw v (yo);cases v<;>first|rfl|(simp[AV.mB]at this;done)
   have wa:=(MD.of hm).1 (kb f (vs++ws) none r hc);obtain⟨r1,r2⟩:=r;cases r2 with
   |some S'=>cases hr
   |none =>
    simp only at hr;split at hr
    ·cases hr;simp only[aD.eff]at he;cases he;have nr:(Xs.toList.map a.eval++us.toList).toArray=Xs.map a.eval++us:=by
      simp_all
     have run:(execOp a.eval o).run P w=.ok (.enter f (Xs.map a.eval++us)) w:=by
      have hev:a.eval (.tmp tf)=.func (.func f) #[] us:=ae;simp only[execOp,ho,resolve,hev,Deferred.ofValue,Sem.run_bind,Sem.run_pure,Result.andThen_ok,invoke];have:=wa.1 (#[]++Xs.map a.eval++us) w;simp_all
     unfold Oper.wp;rw[run,Oper.upon_enter];have hC:=wa.2 (BE aa ι Θ) w _ R.DB nb;rw[nr]at hC;refine hC.mono ?_;rintro e w' ⟨v,rfl,hv,hb⟩;have R':DE P O nt B F0 aa w0 D s a w' ι Θ:=R.grow (fun b db=>hb.block b db) hb.size (R.kept.BA hb);exact hK _ _ ⟨ι,Θ,(R'.cB (x:=⟨_,.no⟩) hd (RM hv) trivial).more fun _ h=>.inl h⟩
    ·cases hr
  ·cases hr
 ·cases hr
theorem Cv {t t':TypeId}{k:IntKind}(ht:P.underlying t=some (.int k))(ht':P.underlying t'=some .string){X:Operand}{x:EE}(hx:pA X=some x)(ho:o.op=.convert t t' X)
  {call} {y:SC} {e:uG} (hr:(K.GB x).run call s=some (y,e)):e=.none/\BX P aa a w ι Θ o y:=by
 have hX:=(R.pA hx).1;simp only[K.run]at hr;split at hr
 ·rename_i k' n hy;injection hr with hr;injection hr with h1 h2;subst h1;subst h2;rw[hy,OD]at hX;exact⟨rfl,.string (Utf8.encode n),by simp[execOp,ho,convert,run_underlying ht,run_underlying ht',hX,Conv.intToString],by rw[NI],trivial⟩
 ·cases hr
end
theorem XU {av:Av}:∀{m:List (List AV)}{bs:List UInt8}{us:List Value},bytesOf m=some bs->eE av w m.flatten us->∃ns:List Int,us=ns.map (Value.int .u8)/\bs=ns.map (fun n=>UInt8.ofNat n.toNat)/\∀c∈m,c.length=1
 | [],bs,us,hb,h=>by
  injection hb with hb;subst hb;cases h;exact⟨[],rfl,rfl,by simp⟩
 |c::r,bs,us,hb,h=>by
  unfold bytesOf at hb;split at hb
  ·rename_i n l hr;injection hb with hb;subst hb;simp only [yA,List.cons_append,Y00,eE] at h;obtain ⟨u,gb,rfl,h0,_,h⟩:=h;obtain ⟨ns,e1,e2,e3⟩:=XU hr h;refine ⟨n :: ns,?_,by rw [e2]; rfl,?_⟩
   ·simp only[ZG]at h0;rw[h0,e1];rfl
   ·intro c hc;rcases yt.1 hc with rfl | hc
    ·rfl
    ·exact e3 c hc
  ·cases hb
theorem J4:∀(ns:List Int)(acc:ByteArray),ns.foldl (fun r n=>r.push (UInt8.ofNat n.toNat)) acc=⟨acc.data++(ns.map fun n=>UInt8.ofNat n.toNat).toArray⟩
 | [],acc=>by simp
 |n::r,acc=>by
  rw[List.foldl_cons,J4 r];congr 1;apply Array.ext';simp[ByteArray.push]
theorem Jv (R:DE P O nt B F0 aa w0 D s a w ι Θ){t t' e':TypeId}(ht:P.underlying t=some (.slice e'))(uh:P.underlying e'=some (.int .u8))(ht':P.underlying t'=some .string){X:Operand}{x:EE}(hx:pA X=some x)(ho:o.op=.convert t t' X)
  {call} {cl:Cl} {y:SC} {e:uG} (hr:(K.eC cl x).run call s=some (y,e)):e=.none/\BX P aa a w ι Θ o y:=by
 have hX:=(R.pA hx).1;simp only[K.run]at hr;split at hr
 ·rename_i m hm;obtain⟨bs,hbs,hr⟩:=yq.1 hr;injection hr with h1 h2;subst h1;subst h2;have hlen1:∀c∈m,c.length=1:=by
   clear hX hm hr
   induction m generalizing bs with
   |nil=>simp
   |cons c r ih =>
    unfold bytesOf at hbs
    grind
  obtain⟨us,kc,hl,A,c,hv,hc,jc⟩:=aO R hX hm (sz:=1) (by omega) hlen1;obtain⟨ns,e1,e2,_⟩:=XU hbs kc;refine⟨rfl,.string ⟨bs.toArray⟩,?_,by rw[NI],trivial⟩;have hns:ns.length=m.length:=by rw[e1]at hl;simpa using hl
  simp only[execOp,ho,hv,Sem.run_bind];rw[run_convert_bytes_string w t t' e' A m.length c ht uh ht'];cases A with
  |none =>
   rcases yZ m.length with h0|h0
   ·have:ns=[]:=Y04 (by omega);subst this;subst e2;simp[Conv.bytesToString];rfl
   ·simp_all
  |some a' =>
   have iu:(loadCells a' m.length).run P w=.ok (ns.map (Value.int .u8)).toArray w:=by
    have:=run_loadCells_list (P:=P) w a' (ns.map (Value.int .u8)) (fun j v hj=>by
     have kt:j<m.length:=by
      grind
     obtain⟨b,off,hA,_,_,ge⟩:=jc (by omega);cases hA;rw[Addr.add_lit];rw[<- e1]at hj;exact ge j v hj)
    simp_all
   rw[run_bytesToString w a' m.length c ns iu,J4];simp_all
 ·cases hr
theorem D3 {t e:TypeId}{z n:Nat}(ht:P.underlying t=some (.array n e))(hz:CE P e=some z){b off:Nat}{L H:Option Operand}{l h:Nat}(hl:nZ a 0 L (L.map a.eval,l))(hh:nZ a n H (H.map a.eval,h))(h1:l<=h)(h2:h<=n):
  (Instr.sliceAt t (.pointer (some ⟨b,off,none⟩)) (L.map a.eval) (H.map a.eval) none).run P w=.ok (.slice (some (if n=l then⟨b,off,none⟩else⟨b,off+l*z,none⟩)) (h-l) (n-l)) w:=by
 cases L with
 |none =>
  obtain⟨_,rfl⟩:=hl;cases H with
  |none =>
   obtain⟨_,rfl⟩:=hh;simp[Instr.sliceAt,Instr.sureAddr,Instr.sliceBounds,run_underlying ht,mF hz,Addr.add_lit]
  |some x =>
   obtain⟨_,k,i,hx,h0,rfl⟩:=hh;have:0<=i/\i<=(n:Int):=⟨h0,by omega⟩;simp[Instr.sliceAt,Instr.sureAddr,Instr.sliceBounds,Instr.sliceBound,run_underlying ht,mF hz,hx,asIntOf,this,Addr.add_lit]
 |some y =>
  obtain⟨_,k',i',hy,xg,rfl⟩:=hl;cases H with
  |none =>
   obtain⟨_,rfl⟩:=hh;have:0<=i'/\i'<=(h:Int):=⟨xg,by omega⟩;simp[Instr.sliceAt,Instr.sureAddr,Instr.sliceBounds,Instr.sliceBound,run_underlying ht,mF hz,hy,asIntOf,this,Addr.add_lit]
  |some x =>
   obtain⟨_,k,i,hx,h0,rfl⟩:=hh;have h3:0<=i/\i<=(n:Int):=⟨h0,by omega⟩;have h4:0<=i'/\i'<=i:=⟨xg,by omega⟩;have h5:((i.toNat:Nat):Int)=i:=by omega
   simp[Instr.sliceAt,Instr.sureAddr,Instr.sliceBounds,Instr.sliceBound,run_underlying ht,mF hz,hy,hx,asIntOf,h3,h4,h5,Addr.add_lit]
section
variable (R:DE P O nt B F0 aa w0 D s a w ι Θ)
include R
theorem Hv {t e':TypeId}{n z:Nat}(ht:P.underlying t=some (.array n e'))(hz:CE P e'=some z){X:Operand}{L H:Option Operand}{x:EE}{l h:Option EE}(hx:pA X=some x)(hl:JY L=some l)(hh:JY H=some h)
  (ho:o.op=.slice t X L H none) {call} {cl:Cl} {y:SC} {e:uG} (hr:(K.tC cl n z x l h).run call s=some (y,e)):e=.none/\BX P aa a w ι Θ o y:=by
 have hX:=(R.pA hx).1;simp only[K.run]at hr;split at hr
 ·rename_i t' n' off hy;split at hr
  ·rename_i lo hi r hlo kz hm;have hL:=dM R hl hlo;have hH:=dM R hh kz;rw [hy,BI] at hX;obtain ⟨b,hb,hv⟩:=hX;obtain ⟨_,b',cur,ty,db,ra,ja,_,jo⟩:=R.rows t' n' r hm;rw [hb] at db;injection db with db;subst db;split at hr
   ·rename_i ia;obtain ⟨h1,h2,fc,h3,_⟩:=ia;have oa:=D3 (w:=w) (b:=b) (off:=off) ht hz hL hH h1 h2;split at hr
    ·rename_i heq;injection hr with hr;injection hr with e1 e2;subst e1;subst e2;refine⟨rfl,.slice (some (if n=lo then⟨b,off,none⟩else⟨b,off+lo*z,none⟩)) (hi-lo) (n-lo),by simp only[execOp,ho,hv,Option.map_none,Sem.run_bind,oa,Result.andThen_ok,Sem.run_pure],?_,trivial⟩;simp only[FG,ZG];refine⟨some (if n=lo then⟨b,off,none⟩else⟨b,off+lo*z,none⟩),n-lo,by rw[heq];simp,by simp,by simp,by simp,fun _=>⟨by simp,by simp⟩⟩
    ·rename_i ua;injection hr with hr; injection hr with e1 e2; subst e1; subst e2;refine ⟨rfl,.slice (some (if n=lo then ⟨b,off,none⟩ else ⟨b,off + lo * z,none⟩)) (hi - lo) (n - lo),by simp only [execOp,ho,hv,Option.map_none,Sem.run_bind,oa,Result.andThen_ok,Sem.run_pure],?_,trivial⟩;rw [lK];refine ⟨b,hb,by omega,n - lo,yl _,?_,by rw [if_neg (by omega)]⟩;have:(n - lo) * z + lo * z=n * z:=by rw [<- yL]; congr 1; omega
     have:=ja.1;omega
   ·cases hr
  ·cases hr
 ·cases hr
theorem val_mkf {f:FuncId}{fs Xs:Array Operand}(hfs:fs.size=0){xs:List EE}(hx:FI Xs.toList=some xs)(ho:o.op=.makeFunc (.func f) fs Xs)
  {call} {y:SC} {e:uG} (hr:(K.zC f xs).run call s=some (y,e)):e=.none/\BX P aa a w ι Θ o y:=by
 simp only[K.run]at hr;split at hr
 ·rename_i nb;injection hr with hr;injection hr with e1 e2;subst e1;subst e2;have key:∀{Xs:List Operand}{xs:List EE},FI Xs=some xs->xs.all (fun x=>(x.get s).mB)=true->kJ ι (BE aa ι Θ) (uF ι Θ) w (xs.map (·.get s)) (Xs.map a.eval):=by
   intro Xs
   induction Xs with
   |nil=>intro xs h _;injection h with h;subst h;rfl
   |cons X r ih =>
    intro xs h hc;unfold FI at h;split at h
    ·rename_i x l h1 h2;cases h;simp only[List.all_cons,yg]at hc;refine⟨_,_,rfl,?_,ih h2 hc.2⟩;have hX:=(R.pA h1).1;have hk:=hc.1;show QY ι (BE aa ι Θ) (uF ι Θ) w (x.get s) (a.eval X);cases hg:x.get s<;>rw[hg]at hX hk<;>first|exact hX|(simp[AV.mB]at hk;done)
    ·cases h
  have hfs0:fs=#[]:=Array.eq_empty_of_size_eq_zero hfs;refine⟨rfl,.func (.func f) #[] (Xs.map a.eval),by simp[execOp,ho,Instr.makeFunc,hfs0],⟨Xs.map a.eval,rfl,?_⟩,trivial⟩;simp_all
 ·cases hr
theorem DE.turnRow {t n b:Nat}(hb:ι t n=some b)(gd:ι.ob t n=none){r:List SC}{new:Array Value}{dj:TypeId}(de:w'.heap[b]?=some (.cells new dj (0,0)))(hk:SD (fun k=>k=b) w w')(ja:zG ι Θ (BE aa ι Θ) w' r new)(sk:B<=b\/F0.r b)(hnz:new.size=ι.z b):
  DE P O nt B F0 aa w0 D (s.setRow t n r) a w' ι Θ:=by
 have ua:∀b',b'<w.heap.size->b'≠b->w'.heap[b']?=w.heap[b']?:=fun b' h1 h=>hk.block b' h1 h
 have hB:QD (uF ι Θ) (uF ι Θ) w w':=⟨fun b' o u hc hn=>by
  have:b'≠b:=fun e=>hn (.inl (.inl ⟨t,n,e▸hb⟩))
  exact⟨(World.cell?_of_block (w:=w) (a:=⟨b',o,none⟩) (ua b' (SI hc) this)).trans hc,hn⟩⟩
 have hA:QD (BE aa ι Θ) (BE aa ι Θ) w w':=⟨fun b' o u hc hn=>by
  have:b'≠b:=fun e=>hn (.inr (.inl (.inl ⟨t,n,e▸hb⟩)))
  exact⟨(World.cell?_of_block (w:=w) (a:=⟨b',o,none⟩) (ua b' (SI hc) this)).trans hc,hn⟩⟩
 have wv:=R.mine t n b hb;have zc:=hk.size;refine⟨R.defers,R.size,fun t=>WD.held (Ix.Le.refl _) hA hB _ _ (R.env t),R.aC,fun t' n' r' hr=>?_,fun t n b h=>?_,R.inj,fun k o h=>?_,R.ZA,R.apart,R.out,R.pin,?_,R.base,fun t' n' S h=>?_,fun t n H h=>(R.obs t n H h).grow zc,fun t=>WD.held (Ix.Le.refl _) hA hB _ _ (R.gen t),R.pB⟩
 ·simp only [LC.setRow] at hr;split at hr
  ·rename_i e;simp_all
  ·rename_i e;obtain ⟨h0,b',sa,dj,h1,h2,h3,h4⟩:=R.rows t' n' r' hr;have:b'≠b:=fun e'=>e (R.inj _ _ _ _ _ (e' ▸ h1) hb)
   exact⟨h0,b',sa,dj,h1,(ua b' (sD h2) this).trans h2,h3.held (Ix.Le.refl _) hA (fun _ _ h=>h),h4⟩
 ·obtain⟨h1,h2,h3⟩:=R.mine t n b h;exact⟨h1,by omega,h3⟩
 ·obtain ⟨h1,h2,h3,h4,sa,h5,h6⟩:=R.tok k o h;have:o.g≠b:=fun e=>R.apart k o t n h (e ▸ hb)
  grind
 ·refine R.kept.trans hk fun i hi h=>?_
  subst h;rcases wv.1 with h|h
  ·have:=R.base.1;omega
  ·exact h
 ·obtain⟨p,H,h1,h2,h3,h4⟩:=R.qB t' n' S h;have ot:∀b',H b'->b'≠b:=fun b' hH e=>by
   subst e;have:=((R.obs _ _ _ h2).1 _ hH).2.2.1 t n hb;simp_all
  exact⟨p,H,h1,h2,O.keep h3 (fun b' hH=>ua b' (O.lt h3 hH) (ot b' hH)) zc,h4.keep (fun t n b H h g=>⟨h,H,g⟩) fun x hx=>(ua _ (sD hx) (ot _ (O.main h3))).trans hx⟩
end
theorem BZ (R:DE P O nt B F0 aa w0 D s a w ι Θ){t n p z:Nat}(hp:ι t n=some p)(hz:ι.z p=z){cl:Cl}:∀{Xs:List Operand}{xs:List EE}{vs:List AV},FI Xs=some xs->uM s cl t n xs=some vs->jJ (Ix.row p z) (BE aa ι Θ) (fun b _=>b=p) w vs (Xs.map a.eval)
 | [],xs,vs,h,hl=>by
  injection h with h;subst h;injection hl with hl;subst hl;rfl
 |X::Xs,xs,vs,h,hl=>by
  unfold FI at h;split at h
  ·rename_i x l hx hr;injection h with h;subst h;unfold uM at hl;split at hl
   ·rename_i v ly hv di;injection hl with hl;subst hl;refine ⟨_,_,rfl,?_,BZ R hp hz hr di⟩;have hX:=(R.pA hx).1;have hB:∀ (b o:Nat),b=p->uF ι Θ b o:=fun b o h=>.inl (.inl ⟨t,n,h ▸ hp⟩)
    unfold gY at hv;split at hv
    ·rename_i t' n' off hg;split at hv
     ·rename_i e;injection hv with hv;subst hv;rw[hg,e.1,e.2]at hX;obtain⟨b,hb,hv⟩:=BI.1 hX;rw[hp]at hb;injection hb with hb;subst hb;exact⟨p,rfl,hv⟩
     ·cases hv
    ·rename_i t' n' sz off len cap hg;split at hv
     ·rename_i e;injection hv with hv;subst hv;rw[hg,e.1,e.2]at hX;obtain⟨b,hb,h1,c,h2,h3,hv⟩:=lK.1 hX;rw[hp]at hb;injection hb with hb;subst hb;exact⟨p,rfl,h1,c,h2,by rw[hz]at h3;exact h3,hv⟩
     ·rename_i e;rw [hg] at hX;refine MW R hB (fun t1 n1 b o hb1 _ ⟨sz1,off1,len1,cap1,hy⟩ h=>e ?_) hX hv fun t n h=>by cases h
      injection hy with e1 e2;subst h;exact R.inj _ _ _ _ _ (by rw[e1,e2];exact hb1) hp
    ·rename_i f cs hg;split at hv
     ·rename_i hc;injection hv with hv;subst hv;rw[hg,List.isEmpty_iff.1 hc]at hX;exact hX
     ·cases hv
    ·rename_i y h1 h2 h3;exact MW R hB (fun t1 n1 b o _ _ ⟨sz1,off1,len1,cap1,hy⟩=>absurd hy (h2 _ _ _ _ _ _)) hX hv fun t n h=>absurd h (h1 _ _ _)
   ·cases hl
  ·cases h
theorem Mi {av:Av}{cs:List AV}{us:List Value}(h:eE av w cs us){cur:Array Value}(hc:∀(j:Nat) (u:Value),us[j]?=some u->cur[j]?=some u):zG ι Θ av w (cs.map fun v=>⟨v,EJ v⟩) cur:=by
 have h0:=Ac (ι:=ι) (Θ:=Θ) h hc;refine⟨by simpa using h0.1,fun j x hx=>?_⟩;rw[yk]at hx;obtain⟨v,hv,rfl⟩:=yq.1 hx;obtain⟨u,h1,h2,h3,_⟩:=h0.2 j ⟨v,.no⟩ (by rw[yk,hv];rfl);refine⟨u,h1,h2,h3,?_⟩;unfold EJ;split
 ·rename_i b l hh;simp only at h3;obtain⟨A,c,hv,_,_,hn,_⟩:=(by simpa [RD,ZG]using h3:ZG av w (.sl true _) u);obtain⟨rfl,e1,rfl⟩:=hn rfl;exact⟨none,0,by rw[hv,e1]⟩
 ·trivial
theorem Hx (R:DE P O nt B F0 aa w0 D s a w ι Θ){call:sE}(kb:∀f args S r,call f args S=some r->MD P O f args S r){f:FuncId}{Xs:Array Operand}{ts:Array TypeId}{xs:List EE}(hx:FI Xs.toList=some xs)(ho:o.op=.call { callee:=.value (.func f),args:=Xs,argTypes:=ts })(hd:∀d,o.dst=some d->d<nt){cl:Cl}{xe:SC×uG}(hr:(K.uB cl f xs).run call s=some xe) {g} {s':LC} (he:aD.eff ⟨o.dst,.uB cl f xs,g⟩ s xe=some s')
  {Kn:Act->World->Prop} {Q:Exit->Act->World->Prop} (hK:∀a' w',SG P O nt B F0 aa w0 (fun t=>D t\/o.dst=some t) s' a' w'->Kn a' w'):o.wp P a w Kn Q:=by
 simp only[K.run]at hr;split at hr
 ·rename_i t n _;split at hr
  ·split at hr
   ·rename_i r vs hm hl;split at hr
    ·rename_i nb;obtain ⟨q,hc,hr⟩:=yh.1 hr;split at hr
     ·rename_i cs hq;split at hr
      ·rename_i ia;cases hr;simp only[aD.eff]at he;cases he;obtain⟨q1,q2⟩:=q;simp only at hq;subst hq;obtain⟨gd,p,cur,ty,hp,ra,ja,sk,jo⟩:=R.rows t n r hm;have wa:E5 P O f vs (some (.agg (r.map (·.v)))) (q1,some (.agg cs)):=kb f (.undef :: .undef::vs) _ _ hc;have jf:∀x∈r.map (·.v),x.tA=true:=fun x hx=>by
        grind
       have nr:(Xs.toList.map a.eval).toArray=Xs.map a.eval:=by rw[<- Array.toList_map,Y07]
       have run:(execOp a.eval o).run P w=.ok (.enter f (Xs.map a.eval)) w:=by
        simp only[execOp,ho,resolve,Act.eval,Deferred.ofValue,Sem.run_bind,Sem.run_pure,Result.andThen_ok,invoke];have:=wa.1 (#[]++Xs.map a.eval++#[]) w;simp_all
       unfold Oper.wp;rw[run,Oper.upon_enter];have hC:=wa.2 (BE aa ι Θ) w _ p cur ty (R.lowR hp) (fun o=>.inr (.inl (.inl ⟨t,n,hp⟩))) ra (by simpa using ja.1) (by simpa using IJ ja.rep jf) (BZ R hp jo.symm hx hl);rw[nr]at hC;refine hC.mono ?_;rintro e w' ⟨v,sa,dj,rfl,hv,er,zc,kc,hk⟩;have rp:zG ι Θ (BE aa ι Θ) w' (cs.map fun v=>⟨v,EJ v⟩) sa:=Mi kc fun j u hu=>by
        grind
       have R':=R.turnRow hp gd er hk rp sk (zc.trans jo);exact hK _ _ ⟨ι,Θ,(R'.cB (x:=⟨_,.no⟩) hd (RM hv) trivial).more fun _ h=>.inl h⟩
      ·cases hr
     ·cases hr
    ·cases hr
   ·cases hr
  ·cases hr
 ·cases hr
end
end
section
open Go Go.RowKit
section
variable {P:Program} {O:XH} {nt B:Nat} {F0:pR} {aa:Av} {w0:World} {D:Nat->Prop} {s:LC} {a:Act} {w w':World} {ι:Ix} {Θ:kM} {o:Oper}
theorem AS {av:Av}{x:AV}(h:x.cA=true):ZG av w x x.HA/\x.HA.oneCell'=true:=by
 cases x<;>first|(simp[AV.cA]at h;done)|exact⟨rfl,rfl⟩
theorem FX {av:Av}:∀{cs:List AV},cs.all AV.cA=true->eE av w cs (cs.map AV.HA)
 | [],_=>rfl
 |x::r,h=>by
  simp only[List.all_cons,yg]at h;exact⟨_,_,rfl,(AS h.1).1,(AS (av:=av) (w:=w) h.1).2,FX h.2⟩
theorem H7 {av:Av}{x:AV}(h:x.flat=true):ZG av w x x.rB:=by
 cases x with
 |agg cs=>exact⟨_,rfl,by simpa using FX (av:=av) (w:=w) h⟩
 |int k n=>exact(AS (x:=.int k n) rfl).1
 |bool b=>exact(AS (x:=.bool b) rfl).1
 |str b=>exact(AS (x:=.str b) rfl).1
 |_=>simp[AV.flat,AV.cA]at h
theorem flat_S {av avb:Av}{x:AV}(h:x.flat=true):WD ι av avb w x x.rB:=by
 have h1:=H7 (av:=av) (w:=w) h;cases x with
 |agg cs=>obtain⟨us,hv,hc⟩:=h1;exact⟨us,hv,jG hc⟩
 |_=>first|exact h1|(simp[AV.flat,AV.cA]at h;done)
theorem QV {av avb:Av}{x:AV}{v:Value}(hf:x.flat=true)(h:WD ι av avb w x v):v=x.rB:=by
 cases x with
 |agg cs =>
  obtain⟨us,hv,hc⟩:=h;subst hv;have key:∀{cs:List AV}{us:List Value},cs.all AV.cA=true->cD ι av w cs us->us=cs.map AV.HA:=by
   intro cs
   induction cs with
   |nil=>intro us _ h;simpa [cD]using h
   |cons x r ih =>
    intro us hf h;simp only[cD]at h;obtain⟨u,gb,rfl,h0,_,h⟩:=h;simp only[List.all_cons,yg]at hf;rw[ym,ih hf.2 h];congr 1;cases x<;>first|exact h0|(simp[AV.cA]at hf;done)
  have:=key hf hc;show Value.agg us=.agg (cs.map AV.HA).toArray;rw[<- this,Y07]
 |int k n=>exact h
 |bool b=>exact h
 |str b=>exact h
 |_=>simp[AV.flat,AV.cA]at hf
theorem Hg {v:Value}{x:AV}(h:Gg v=some x)(hf:x.flat=true):v=x.rB :=
 QV (ι:=Ix.none) (av:=fun _ _=>False) (avb:=fun _ _=>False) (w:=default) hf (Pe h _ _ _ _)
theorem G9 (a b:ByteArray):(a == b)=decide (a=b):=by
 obtain⟨a⟩:=a;obtain⟨b⟩:=b;rw[Bool.eq_iff_iff];simp only[decide_eq_true_eq,ByteArray.mk.injEq];exact beq_iff_eq (α:=Array UInt8)
def ZI {κ:Type}[DecidableEq κ](L:List (κ×Value))(n:κ)(m:Nat):Option (Nat×Value):=((L.map (·.1)).idxOf? n).bind fun i=>(L[i]?).map fun p=>(m+i,p.2)
theorem bP {κ:Type}[DecidableEq κ](p:κ×Value)(L:List (κ×Value))(n:κ)(m:Nat):ZI (p::L) n m=if n=p.1 then some (m,p.2)else ZI L n (m+1):=by
 unfold ZI;simp only[ym,List.idxOf?_cons];by_cases hk:n=p.1
 ·subst hk;simp
 ·have hb:(p.1 == n)=false:=by simpa using fun e:p.1=n=>hk e.symm
  simp only[hb,hk,if_false];cases hi:List.idxOf? n (List.map (fun x=>x.1) L)with
  |none=>simp
  |some i=>simp[Nat.add_assoc,Nat.add_comm 1 i]
theorem tY (k:IntKind)(n:Int):∀(es:List MapEntry)(L:List (Int×Value))(m:Nat),es.map (fun e=>(e.key,e.val))=L.map (fun p=>(Value.int k p.1,p.2)) →
   Instr.findNow (.int k) (.int k n) es m=some (ZI L n m)
 | [],[],m,_=>by simp[Instr.findNow,ZI]
 | [],_::_,_,h=>by simp at h
 |_::_,[],_,h=>by simp at h
 |e::es,p::L,m,h=>by
  simp only[ym,List.cons.injEq,Prod.mk.injEq]at h;obtain⟨⟨h1,h2⟩,h3⟩:=h;have ih:=tY k n es L (m+1) h3;have hs:Instr.sameNow (.int k) (.int k n) e.key=some (n == p.1):=by rw[h1];simp[Instr.sameNow]
  simp only[Instr.findNow,hs,bP];by_cases hk:n=p.1
  ·subst hk;simp[h2]
  ·have db:(n == p.1)=false:=by simpa using hk
   simp only[db,ih,hk,if_false]
theorem uY (n:ByteArray):∀(es:List MapEntry)(L:List (ByteArray×Value))(m:Nat),es.map (fun e=>(e.key,e.val))=L.map (fun p=>(Value.string p.1,p.2)) →
   Instr.findNow .string (.string n) es m=some (ZI L n m)
 | [],[],m,_=>by simp[Instr.findNow,ZI]
 | [],_::_,_,h=>by simp at h
 |_::_,[],_,h=>by simp at h
 |e::es,p::L,m,h=>by
  simp only[ym,List.cons.injEq,Prod.mk.injEq]at h;obtain⟨⟨h1,h2⟩,h3⟩:=h;have ih:=uY n es L (m+1) h3;have hs:Instr.sameNow .string (.string n) e.key=some (decide (n=p.1)):=by
   rw[h1];simp only[Instr.sameNow,G9]
  simp only[Instr.findNow,hs,bP];by_cases hk:n=p.1
  ·subst hk;simp[h2]
  ·simp only[hk,decide_false,ih,if_false]
theorem B5 {T:TypeId}{k:IntKind}(u:P.underlying T=some (.int k)):NR P T (fun n:Int=>Value.int k n) where
 check empty n w:=by
  have hq:∀(d:Nat),(Instr.checkKey empty (d+1) T (.int k n)).run P w=.ok () w:=fun d=>by simp[Instr.checkKey,run_underlying u]
  exact hq 9999
 find n es L w h:=by
  simp only[Instr.findKey,Sem.run_bind,run_underlying u,Result.andThen_ok,tY k n es L 0 h,ZI,yy,Sem.run_pure]
 same n:=by
  have hq:∀(d:Nat),Instr.sameBits (d+1) (.int k n) (.int k n)=true:=fun d=>by simp[Instr.sameBits]
  exact hq 9999
theorem N5 {T:TypeId}(u:P.underlying T=some .string):NR P T Value.string where
 check empty n w:=by
  have hq:∀(d:Nat),(Instr.checkKey empty (d+1) T (.string n)).run P w=.ok () w:=fun d=>by simp[Instr.checkKey,run_underlying u]
  exact hq 9999
 find n es L w h:=by
  simp only[Instr.findKey,Sem.run_bind,run_underlying u,Result.andThen_ok,uY n es L 0 h,ZI,yy,Sem.run_pure]
 same n:=by
  have hq:∀(d:Nat),Instr.sameBits (d+1) (.string n) (.string n)=true:=fun d=>by simp[Instr.sameBits,G9]
  exact hq 9999
structure LT (ty:Mf)(κ:Type)[DecidableEq κ](ke:κ->Value)(kx:κ->AV):Prop where
 val:∀a,(kx a).rB=ke a
 eq:∀a b,rU (kx a) (kx b)=decide (a=b)
 of:∀x,LK ty x=true->∃a,x=kx a
 flat:∀a,(kx a).flat=true
section
variable {κ:Type} [DecidableEq κ] {ke:κ->Value} {kx:κ->AV} {ty:Mf}
theorem T4 (K:LT ty κ ke kx)(n:κ):∀M:List (κ×AV),iM (M.map fun p=>[kx p.1,p.2]) (kx n)=NM M n
 | []=>rfl
 |p::r=>by
  simp only[ym,iM,NM,K.eq,decide_eq_true_eq,T4 K n r];by_cases h:p.1=n
  ·rw[if_pos h,if_pos h.symm]
  ·rw[if_neg h,if_neg fun e=>h e.symm]
theorem U4 (K:LT ty κ ke kx)(n:κ)(v:AV):∀M:List (κ×AV),DK (M.map fun p=>[kx p.1,p.2]) (kx n) v=(S3 M n v).map fun p=>[kx p.1,p.2]
 | []=>rfl
 |p::r=>by
  simp only[ym,DK,S3,K.eq,decide_eq_true_eq,U4 K n v r];by_cases h:p.1=n
  ·rw[if_pos h,if_pos h.symm];rfl
  ·rw[if_neg h,if_neg fun e=>h e.symm];rfl
theorem OZ (g:AV->Value)(n:κ):∀M:List (κ×AV),NM (M.map fun p=>(p.1,g p.2)) n=(NM M n).map g
 | []=>rfl
 |p::r=>by
  simp only[ym,NM,OZ g n r];split<;>rfl
theorem w9 (g:AV->Value)(n:κ)(v:AV):∀M:List (κ×AV),S3 (M.map fun p=>(p.1,g p.2)) n (g v)=(S3 M n v).map fun p=>(p.1,g p.2)
 | []=>rfl
 |p::r=>by
  simp only[ym,S3,w9 g n v r];split<;>rfl
theorem E4 (K:LT ty κ ke kx):∀L:List (List AV),nP ty L=true->∃M:List (κ×AV),L=M.map (fun p=>[kx p.1,p.2])/\∀p∈M,p.2.flat=true
 | [],_=>⟨[],rfl,fun _ h=>by cases h⟩
 |e::r,h=>by
  unfold nP at h;simp only[List.all_cons,yg]at h;obtain⟨M,hM,hf⟩:=E4 K r h.2;have h1:=h.1;split at h1
  ·rename_i k v;simp only[yg]at h1;obtain⟨n,rfl⟩:=K.of k h1.1;exact⟨(n,v)::M,by rw[hM];rfl,fun p hp=>by
    rcases yt.1 hp with rfl|hp
    ·exact h1.2
    ·exact hf p hp⟩
  ·cases h1
theorem R4 (K:LT ty κ ke kx)(M:List (κ×AV)):(M.map fun p=>[kx p.1,p.2]).map entV=(M.map fun p=>(p.1,p.2.rB)).map fun p=>(ke p.1,p.2):=by
 rw[y9,y9];apply yE;intro p _;simp[entV,K.val]
end
theorem XW (k:IntKind):LT (.some k) Int (fun n=>Value.int k n) (fun n=>.int k n) where
 val _:=rfl
 eq a b:=by simp[rU]
 of x h:=by
  cases x<;>first|(simp[LK]at h;done)|(simp only[LK,decide_eq_true_eq]at h;subst h;exact⟨_,rfl⟩)
 flat _:=rfl
theorem CW:LT .none ByteArray Value.string AV.str where
 val _:=rfl
 eq a b:=by simp[rU]
 of x h:=by
  cases x<;>first|(simp[LK]at h;done)|exact⟨_,rfl⟩
 flat _:=rfl
inductive KV where
 |i (k:IntKind) (n:Int)
 |s (b:ByteArray)
 deriving DecidableEq
def KV.av:KV->AV
 |.i k n=>.int k n
 |.s b=>.str b
def KV.kd:KV->Option IntKind
 |.i k _=>some k
 |.s _=>none
abbrev Zo (l:List (Option IntKind)):={ a:List KV // a.map KV.kd=l }
theorem W4:∀a b:List KV,KZ (a.map KV.av) (b.map KV.av)=decide (a=b)
 | [],[]=>rfl
 | [],b::r=>by cases b<;>rfl
 |a::r,[]=>by cases a<;>rfl
 |a::r,b::r'=>by
  have ih:=W4 r r';cases a<;>cases b<;>simp[KV.av,KZ,ih,Bool.decide_and]
theorem LW:∀(l:List (Option IntKind))(cs:List AV),kS l cs=true->∃a:List KV,a.map KV.kd=l/\cs=a.map KV.av
 | [],[],_=>⟨[],rfl,rfl⟩
 | [],_::_,h=>by simp[kS]at h
 |k::r,[],h=>by cases k<;>simp[kS]at h
 |k::r,c::cs,h=>by
  cases k with
  |none =>
   cases c<;>simp only[kS]at h<;>first|(cases h;done)|skip
   rename_i b;obtain⟨a,h1,h2⟩:=LW r cs h;exact⟨.s b::a,by simp[KV.kd,h1],by simp[KV.av,h2]⟩
  |some k =>
   cases c<;>simp only[kS]at h<;>first|(cases h;done)|skip
   rename_i k' n;simp only[yg,decide_eq_true_eq]at h;obtain⟨rfl,h⟩:=h;obtain⟨a,h1,h2⟩:=LW r cs h;exact⟨.i k n::a,by simp[KV.kd,h1],by simp[KV.av,h2]⟩
theorem Ti (a:List KV):(a.map KV.av).all AV.cA=true:=by
 simp only[List.all_map,ye];intro x _;cases x<;>rfl
theorem ZW (l:List (Option IntKind)):LT (.agg l) (Zo l) (fun a=>.agg ((a.1.map KV.av).map AV.HA).toArray) (fun a=>.agg (a.1.map KV.av)) where
 val _:=rfl
 eq a b:=by
  simp only[rU,W4];by_cases h:a.1=b.1
  ·rw[decide_eq_true h,decide_eq_true (Subtype.ext h)]
  ·rw[decide_eq_false h,decide_eq_false fun e=>h (congrArg Subtype.val e)]
 of x h:=by
  cases x<;>first|(simp[LK]at h;done)|skip
  rename_i cs;obtain⟨a,h1,h2⟩:=LW l cs h;exact⟨⟨a,h1⟩,by rw[h2]⟩
 flat a:=Ti a.1
theorem Cj:∀a b:List KV,a.map KV.kd=b.map KV.kd->BM ((a.map KV.kd).map nM) (a.map KV.av) (b.map KV.av)=some (decide (a=b))
 | [],[],_=>rfl
 | [],_::_,h=>by simp at h
 |_::_,[],h=>by simp at h
 |a::r,b::r',h=>by
  simp only[ym,List.cons.injEq]at h;have ih:=Cj r r' h.2;cases a<;>cases b<;>simp only[KV.kd,reduceCtorEq,Option.some.injEq,false_and]at h
  ·obtain ⟨rfl,h⟩:=h;rename_i n m;by_cases e:n=m
   ·subst e;simp[KV.kd,KV.av,nM,BM,ih,-y9]
   ·simp[KV.kd,KV.av,nM,BM,e]
  ·rename_i n m;by_cases e:n=m
   ·subst e;simp[KV.kd,KV.av,nM,BM,ih,-y9]
   ·simp[KV.kd,KV.av,nM,BM,e]
theorem GS {t:TypeId}{ks:List Nat}(h:pU P t=some ks):nJ P 8 t=some ks/\QL P t=some true:=by
 unfold pU at h;split at h
 ·cases h
 ·split at h
  ·rename_i xt;exact⟨h,by simp[QL,xt]⟩
  ·rename_i xt;exact⟨h,by simp[QL,xt]⟩
  ·cases h
theorem Nj {T:TypeId}{l:List (Option IntKind)}(ht:pU P T=some (l.map nM))(a b:Zo l)(w:World):
  (Op.equal T (.agg ((a.1.map KV.av).map AV.HA).toArray) (.agg ((b.1.map KV.av).map AV.HA).toArray)).run P w=.ok (decide (a=b)) w:=by
 obtain⟨hk,hA⟩:=GS ht;have he:=Cj a.1 b.1 (a.2.trans b.2.symm);rw[a.2]at he;have hd:decide (a.1=b.1)=decide (a=b):=by
  by_cases h:a.1=b.1
  ·rw[decide_eq_true h,decide_eq_true (Subtype.ext h)]
  ·rw[decide_eq_false h,decide_eq_false fun e=>h (congrArg Subtype.val e)]
 rw[hd]at he;have hl:∀c:Zo l,cD Ix.none (fun _ _=>False) w (c.1.map KV.av) (((c.1.map KV.av).map AV.HA).toArray.toList.take (l.map nM).length):=fun c=>by
  rw[Y0b (by simp[<- c.2])];exact jG (FX (Ti c.1))
 exact(JX (ι:=Ix.none) (av:=fun _ _=>False) (fun t ks h=>BW 7 t ks h) 9992 hk hA (hl a) (hl b) he).2
theorem OQ (em:Bool)(w:World):∀(n:Nat)(t:TypeId)(ks:List Nat),nJ P n t=some ks->∀(d:Nat)(us:Array Value)(off:Nat),off+ks.length<=us.size->(∃a,(part t us off).run P w=.ok a w/\(Instr.checkKey em (d+n) t a).run P w=.ok () w)/\(QL P t=some true->off=0->(Instr.checkKey em (d+n) t (.agg us)).run P w=.ok () w)
 |0,_,_,h=>by cases h
 |n+1,t,ks,hk=>by
  intro d us off bc;have whole:QL P t=some true->∀vs:Array Value,ks.length<=vs.size->CE P t=some ks.length/\(Instr.checkKey em (d+(n+1)) t (.agg vs)).run P w=.ok () w:=by
   intro hA vs hvs;unfold nJ at hk;split at hk
   ·rename_i k tc;unfold QL at hA;unfold U2 at tc;split at tc<;>first|(cases tc;done)|(rename_i ht _;rw[ht]at hA;injection hA with hA;cases hA)|(rename_i ht;rw[ht]at hA;injection hA with hA;cases hA)
   ·split at hk
    ·rename_i m e ht;obtain ⟨l,hl,hk⟩:=yh.1 hk;split at hk
     ·rename_i hc;injection hk with hk;subst hk;obtain⟨i,hi⟩:=OV hc.2.1;refine⟨hc.2.2,?_⟩;have zc:i.size=l.length:=by
       have:=hc.2.1;simp only[CE,hi,yB,Option.some.injEq]at this;exact this
      have ko:(yX m l).flatten.length=m*l.length:=by simp
      rw[show d+(n+1)=(d+n)+1 from rfl,Instr.checkKey];simp only[Sem.run_bind,run_underlying ht,Result.andThen_ok];simp only[Std.Legacy.Range.forIn_eq_forIn_range',Std.Legacy.Range.size,Nat.sub_zero,Nat.add_one_sub_one,Nat.div_one];have each:∀j∈List.range' 0 m,∃a,(part e vs (j*P.cellsOf e)).run P w=.ok a w/\(Instr.checkKey em (d+n) e a).run P w=.ok () w:=fun j hj=>by
       have hjm:j<m:=by simpa using hj
       refine(OQ em w n e l hl d vs (j*P.cellsOf e) ?_).1;rw[hc.1,<- yN];rw[ko]at hvs;exact yH (Y0e _ hjm) hvs
      generalize List.range' 0 m=is at each
      induction is with
      |nil=>simp
      |cons j is ih =>
       obtain⟨a,p1,p2⟩:=each j (by simp);simp only[List.forIn_cons,Sem.run_bind,run_sizeOf w hi,Result.andThen_ok,p1,p2,Sem.run_pure];exact ih (fun y hy=>each y (by simp[hy]))
     ·cases hk
    ·rename_i fs ht;split at hk
     ·cases hk
     ·obtain ⟨l,hl,hk⟩:=yh.1 hk;split at hk
      ·rename_i hc;injection hk with hk;subst hk;refine ⟨hc,?_⟩;rw [show d + (n + 1)=(d + n) + 1 from rfl,Instr.checkKey];simp only [Sem.run_bind,run_underlying ht,Result.andThen_ok];rw [<- Array.forIn_toList];have go:∀ (L:List Field) (i:Nat) (l:List Nat),MS (nJ P n) i L=some l->i + l.length<=vs.size->∀ f∈L,f.name≠"_"/\∃ a,(part f.type vs f.offset).run P w=.ok a w/\(Instr.checkKey em (d + n) f.type a).run P w=.ok () w:=by
        intro L
        induction L with
        |nil=>intro i l _ _ f hf;cases hf
        |cons g L ih =>
         intro i l hl bc f hf;unfold MS at hl;obtain⟨l1,h1,hl⟩:=yh.1 hl;split at hl
         ·rename_i hn;obtain ⟨l2,h2,rfl⟩:=yq.1 hl;rw [yj] at bc;rcases yt.1 hf with rfl | hf
          ·exact⟨hn.1,(OQ em w n _ l1 h1 d vs f.offset (by rw[hn.2];omega)).1⟩
          ·exact ih (i+l1.length) l2 h2 (by omega) f hf
         ·cases hl
       have each:=go fs.toList 0 l hl (by omega);clear go hl;generalize fs.toList=L at each
       induction L with
       |nil=>simp
       |cons f L ih =>
        obtain⟨hn,a,p1,p2⟩:=each f (by simp);simp only[List.forIn_cons,Sem.run_bind,hn,ne_eq,not_false_eq_true,if_true,Result.andThen_ok,p1,p2,Sem.run_pure];exact ih (fun y hy=>each y (by simp[hy]))
      ·cases hk
    ·cases hk
  refine⟨?_,fun hA h0=>(whole hA us (by omega)).2⟩;by_cases hA:QL P t=some true
  ·obtain⟨h1,h2⟩:=whole hA (us.extract off (off+ks.length)) (by simp;omega);exact⟨_,(OU hA h1 us off).1,h2⟩
  ·have sf:=hk;unfold nJ at hk;split at hk
   ·rename_i k tc;injection hk with hk;subst hk;simp only [yG,List.length_nil] at bc;have hu:us[off]?=some us[off]:=Y0p (by omega);have hp:=(j9 (w:=w) 0 tc hu hu).1;refine ⟨_,hp,?_⟩;unfold U2 at tc;rw [show d + (n + 1)=(d + n) + 1 from rfl];split at tc
    ·rename_i ht _;simp[Instr.checkKey,run_underlying ht]
    ·rename_i ht _;simp[Instr.checkKey,run_underlying ht]
    ·rename_i ht _;simp[Instr.checkKey,run_underlying ht]
    ·cases tc
   ·split at hk
    ·rename_i ht;exact absurd (by simp[QL,ht]) hA
    ·rename_i ht;exact absurd (by simp[QL,ht]) hA
    ·cases hk
theorem Zu {T:TypeId}{l:List (Option IntKind)}(ht:pU P T=some (l.map nM))(a:Zo l)(w:World):∀(es:List MapEntry)(L:List (Zo l×Value))(m:Nat),es.map (fun e=>(e.key,e.val))=L.map (fun p=>(Value.agg ((p.1.1.map KV.av).map AV.HA).toArray,p.2)) →
  (Instr.findAsking T (.agg ((a.1.map KV.av).map AV.HA).toArray) es m).run P w=.ok (ZI L a m) w
 | [],[],m,_=>by simp[Instr.findAsking,ZI]
 | [],_::_,_,h=>by simp at h
 |_::_,[],_,h=>by simp at h
 |e::es,p::L,m,h=>by
  simp only[ym,List.cons.injEq,Prod.mk.injEq]at h;obtain⟨⟨h1,h2⟩,h3⟩:=h;have ih:=Zu ht a w es L (m+1) h3;have he:=Nj (P:=P) ht a p.1 w;simp only[Instr.findAsking,Sem.run_bind,h1,he,Result.andThen_ok,bP,Sem.run_ite];by_cases hk:a=p.1
  ·simp[hk,h2]
  ·simp[hk,ih,-y9]
theorem C5 {T:TypeId}{l:List (Option IntKind)}(ht:pU P T=some (l.map nM)):NR P T (fun a:Zo l=>Value.agg ((a.1.map KV.av).map AV.HA).toArray) where
 check empty a w:=by
  obtain⟨hk,hA⟩:=GS ht;exact(OQ empty w 8 T _ hk 9992 _ 0 (by simp[<- a.2])).2 hA rfl
 find a es L w h:=by
  have hu:∃desc,P.underlying T=some desc/\∀x e,Instr.sameNow desc (.agg x) e=none:=by
   obtain⟨hk,hA⟩:=GS ht;unfold QL at hA;cases hd:P.underlying T with
   |none=>rw[hd]at hA;cases hA
   |some desc =>
    refine⟨desc,rfl,fun x e=>?_⟩;cases desc<;>rfl
  obtain⟨desc,hu,hn⟩:=hu;cases es with
  |nil =>
   cases L with
   |nil=>simp[Instr.findKey,run_underlying hu,Instr.findNow]
   |cons=>simp at h
  |cons e es =>
   have:=Zu ht a w (e::es) L 0 h;simp only[Instr.findKey,Sem.run_bind,run_underlying hu,Result.andThen_ok,Instr.findNow,hn,this,ZI,yy]
 same a:=by
  have hq:∀l:List KV,(((l.map KV.av).map AV.HA).zip ((l.map KV.av).map AV.HA)).all (fun(x,y)=>Instr.sameBits 9999 x y)=true:=by
   intro l
   induction l with
   |nil=>rfl
   |cons c r ih =>
    simp only[ym,List.zip_cons_cons,List.all_cons,ih,Bool.and_true];cases c<;>simp[KV.av,AV.HA,Instr.sameBits,G9]
  show Instr.sameBits (9999+1) _ _=true;simp only[Instr.sameBits,beq_self_eq_true,Bool.true_and];exact hq a.1
theorem Nv {e:TypeId}{z:AV}(h:((P.info? e).bind (·.zero)).bind Gg=some z)(w:World):∃zv,(zeroValue e).run P w=.ok zv w/\Gg zv=some z:=by
 obtain⟨zv,h1,h2⟩:=yh.1 h;obtain⟨i,hi,hz⟩:=yh.1 h1;exact⟨zv,by simp[zeroValue,typeInfo,hi,hz],h2⟩
theorem b8 {κ:Type}[DecidableEq κ]{ke:κ->Value}{kx:κ->AV}{ty:Mf}(R:DE P O nt B F0 aa w0 D s a w ι Θ)(K:LT ty κ ke kx){t n:Nat}{v:Value}(hv:WD ι (BE aa ι Θ) (uF ι Θ) w (.mp t n) v){L:List (List AV)}(hL:(s.obj t n).bind LV=some L)(hk:nP ty L=true):
  ∃(b:Nat)(H:Nat->Prop)(M:List (κ×AV)),v=.map (some b)/\ι t n=some b/\ι.ob t n=some H/\(∀x,H x↔x=b)/\L=M.map (fun p=>[kx p.1,p.2])/\(∀p∈M,p.2.flat=true)/\iR ke w b (M.map fun p=>(p.1,p.2.rB))/\∃es clock,w.heap[b]?=some (.map es clock)/\P5 es clock:=by
 obtain⟨b,hb,rfl⟩:=hv;obtain⟨S,hS,hm⟩:=yh.1 hL;obtain⟨p,H,hp,uc,de,_⟩:=R.qB t n S hS;rw[hb]at hp;injection hp with hp;subst hp;have hSL:S=xL L:=by
  unfold LV at hm;split at hm
  ·injection hm with hm;subst hm;rfl
  ·cases hm
 subst hSL;obtain⟨hH,es,clock,he,cz,sb⟩:=(O.maps L H b w).1 de;obtain⟨M,rfl,hf⟩:=E4 K L hk;exact⟨b,H,M,rfl,hb,uc,hH,rfl,hf,⟨es,clock,he,cz.trans (R4 K M)⟩,es,clock,he,sb⟩
theorem j4 {κ:Type}[DecidableEq κ]:∀{M:List (κ×AV)}{n:κ}{x:AV},(∀p∈M,p.2.flat=true)->NM M n=some x->x.flat=true
 | [],_,_,_,h=>by cases h
 |p::r,n,x,hf,h=>by
  unfold NM at h;split at h
  ·injection h with h;subst h;exact hf p yo
  ·exact j4 (fun q hq=>hf q (yp _ hq)) h
theorem MZ {κ:Type}[DecidableEq κ]{ke:κ->Value}{kx:κ->AV}{ty:Mf}(R:DE P O nt B F0 aa w0 D s a w ι Θ)(K:LT ty κ ke kx){T kT eT:TypeId}(KL:NR P kT ke)(hT:P.underlying T=some (.map kT eT)){zero:AV}(hz:((P.info? eT).bind (·.zero)).bind Gg=some zero)(hzf:zero.flat=true)
  {X I:Operand} {y i:EE} (hx:pA X=some y) (hi:pA I=some i) {ok:Bool} (ho:o.op=.lookup T X I ok) {t n:Nat} (hy:y.get s=.mp t n) {L:List (List AV)} (hL:(s.obj t n).bind LV=some L) (hk:nP ty L=true) (re:LK ty (i.get s)=true) :
  BX P aa a w ι Θ o ⟨if ok then .fA [(iM L (i.get s)).getD zero,.bool (iM L (i.get s)).isSome]else(iM L (i.get s)).getD zero,.no⟩:=by
 have hX:=(R.pA hx).1;have hI:=(R.pA hi).1;rw[hy]at hX;obtain⟨b,H,M,hv,hb,uc,hH,rfl,hf,de,_⟩:=b8 R K hX hL hk;obtain⟨k,hkx⟩:=K.of _ re;rw[hkx]at hI ⊢;have hkf:(kx k).flat=true:=K.flat k;have hIv:a.eval I=ke k:=(QV hkf hI).trans (K.val k);obtain⟨zv,hzr,hzc⟩:=Nv hz w;have hzv:=Hg hzc hzf;rw[T4 K];have fg:(NM (M.map fun p=>(p.1,p.2.rB)) k).getD zv=((NM M k).getD zero).rB:=by
  rw[OZ,hzv];cases NM M k<;>rfl
 have xl:((NM M k).getD zero).flat=true:=by
  cases hg:NM M k with
  |none=>exact hzf
  |some x=>exact j4 hf hg
 cases ok with
 |false =>
  have oa:=de.lookup KL hT hzr k;rw[fg]at oa;refine⟨((NM M k).getD zero).rB,by simp only[execOp,ho,hv,hIv,Sem.run_bind,oa,Result.andThen_ok,Sem.run_pure],?_,trivial⟩;exact flat_S xl
 |true =>
  have oa:=de.RC KL hT hzr k;rw[fg]at oa;have lw:(NM (M.map fun p=>(p.1,p.2.rB)) k).isSome=(NM M k).isSome:=by rw[OZ];cases NM M k<;>rfl
  rw[lw]at oa;refine⟨.tuple #[((NM M k).getD zero).rB,.bool (NM M k).isSome],by simp only[execOp,ho,hv,hIv,Sem.run_bind,oa,Result.andThen_ok,Sem.run_pure],?_,trivial⟩;refine⟨_,rfl,_,_,rfl,?_,_,_,rfl,rfl,rfl⟩;exact wS (H7 xl)
theorem iR.updateS {κ:Type}[DecidableEq κ]{P:Program}{T kT eT:TypeId}{ke:κ->Value}{w:World}{m:Nat}{L:List (κ×Value)}(h:iR ke w m L)(K:NR P kT ke)(hT:P.underlying T=some (.map kT eT)){es0:Array MapEntry}{cl0:Nat}(h0:w.heap[m]?=some (.map es0 cl0))(sb:P5 es0 cl0)(k:κ)(v:Value):
  ∃es clock,(Instr.mapUpdate T (.map (some m)) (ke k) v).run P w=.ok () { w with heap:=w.heap.setIfInBounds m (.map es clock) }/\es.toList.map (fun e=>(e.key,e.val))=(S3 L k v).map (fun p=>(ke p.1,p.2))/\P5 es clock:=by
 obtain⟨es,clock,h1,h2⟩:=h;rw[h1]at h0;injection h0 with h0;injection h0 with e1 e2;subst e1;subst e2;obtain⟨s1,s2⟩:=sb;have hg:(getObj m).run P w=.ok (.map es clock) w:=by simp[getObj,Sem.run,h1]
 have hf:=K.find k es.toList L w h2;have hi:=idx_set L k v;have hl:es.toList.length=L.length:=by simpa using congrArg List.length h2
 cases hq:(L.map (·.1)).idxOf? k with
 |none =>
  rw[hq]at hf hi;refine⟨es.push { key:=ke k,val:=v,born:=clock },clock+1,?_,by rw[hi];simp[h2],by simp[s1],fun i h=>?_⟩
  case refine_2 =>
   simp only[Array.size_push]at h;simp only[Array.getElem_push];split
   ·exact s2 _ _
   ·show clock=i;omega
  case refine_1 =>
   simp only[Instr.mapUpdate,Sem.run_bind,run_underlying hT,Result.andThen_ok,hg,K.check,hf,Option.bind_none];simp[setObj,Sem.run,h1]
 |some i =>
  rw[hq]at hf hi;have wh:i<L.length:=by have:=List.idxOf?_eq_some_iff.1 hq;simpa using this.1
  have hk:(L[i]).1=k:=by have:=List.idxOf?_eq_some_iff.1 hq;simpa using this.2.1
  have dr:i<es.size:=by
   have:es.size=L.length:=by simpa using hl
   omega
  have re:(es[i]).key=ke k:=by
   have:=congrArg (fun l=>(l[i]?).map (·.1)) h2;simp only[yk,Array.getElem?_toList,Y0p dr,yB,yf wh,hk,Option.some.injEq]at this;exact this
  refine⟨es.modify i fun e=>{ e with key:=ke k,val:=v },clock,?_,?_,by simp[s1],fun j h=>?_⟩
  case refine_3 =>
   simp only[Array.getElem_modify];split<;>exact s2 _ _
  case refine_1 =>
   have hL:L[i]?=some L[i]:=yf wh;have he:es[i]?=some es[i]:=Y0p dr;simp only[Instr.mapUpdate,Sem.run_bind,run_underlying hT,Result.andThen_ok,hg,K.check,hf,J,hL,yB,he,Option.getD_some,re];simp[Instr.keyThatStays,K.same,setObj,Sem.run,h1]
  case refine_2 =>
   rw[hi];apply List.ext_getElem?;intro j;have hj:=congrArg (fun l=>l[j]?) h2;simp only[yk,Array.getElem?_toList]at hj;simp only[yk,Array.getElem?_toList,Array.getElem?_modify,List.getElem?_set];by_cases hij:i=j
   ·subst hij;simp[Y0p dr,wh]
   ·simp only[if_neg hij];exact hj
theorem fQ {κ:Type}[DecidableEq κ]{ke:κ->Value}{kx:κ->AV}{ty:Mf}(R:DE P O nt B F0 aa w0 D s a w ι Θ)(K:LT ty κ ke kx){T kT eT:TypeId}(KL:NR P kT ke)(hT:P.underlying T=some (.map kT eT))
  {X I Y:Operand} {x i y:EE} (hx:pA X=some x) (hi:pA I=some i) (hyo:pA Y=some y) (ho:o.op=.mapUpdate T X I Y\/o.op=.insert T X I Y) (hd:∀d,o.dst=some d->d<nt) {t n:Nat} (ue:x.get s=.mp t n) {L:List (List AV)} (hL:(s.obj t n).bind LV=some L) (hk:nP ty L=true) (re:LK ty (i.get s)=true) (hvf:(y.get s).flat=true) :
  ∃w',(execOp a.eval o).run P w=.ok .skip w'/\SG P O nt B F0 aa w0 D ((s.setObj t n (xL (DK L (i.get s) (y.get s)))).put o.dst ⟨.undef,.no⟩) (a.put o.dst undef) w':=by
 have hX:=(R.pA hx).1;have hI:=(R.pA hi).1;have hY:=QV hvf (R.pA hyo).1;rw[ue]at hX;obtain⟨b,H,M,hv,hb,uc,hH,rfl,hf,de,es0,cl0,hes0,tz⟩:=b8 R K hX hL hk;obtain⟨k,hkx⟩:=K.of _ re;rw[hkx]at hI ⊢;have hkf:(kx k).flat=true:=K.flat k;have hIv:a.eval I=ke k:=(QV hkf hI).trans (K.val k);have ba:=de.lt;obtain⟨es,clock,oa,cz,sb⟩:=de.updateS KL hT hes0 tz k (y.get s).rB;rw[w9]at cz;have uu:O.at_ (xL (DK (M.map fun p=>[kx p.1,p.2]) (kx k) (y.get s))) H b { w with heap:=w.heap.setIfInBounds b (.map es clock) }:=by
  refine(O.maps _ _ _ _).2 ⟨hH,es,clock,by simp[ba],?_,sb⟩;rw[U4 K,R4 K];exact cz
 have eh:SD H w { w with heap:=w.heap.setIfInBounds b (.map es clock) }:=⟨rfl,rfl,rfl,by simp,fun j _ hn=>by
  have:j≠b:=fun e=>hn ((hH j).2 e)
  simp only[Array.getElem?_setIfInBounds];rw[if_neg fun e:b=j=>this e.symm]⟩
 obtain⟨ι',R2,_⟩:=R.cC hb uc uu (Ue.no rfl) (fun x hx=>.inl hx) eh;refine⟨_,by rcases ho with ho|ho<;>simp only[execOp,ho,hv,hIv,hY,Sem.run_bind,oa,Result.andThen_ok,Sem.run_pure],ι',Θ,R2.cB (x:=⟨.undef,.no⟩) hd trivial trivial⟩
theorem op_mkm (R:DE P O nt B F0 aa w0 D s a w ι Θ){T:TypeId}(ho:o.op=.makeMap T none){d:Nat}(ka:o.dst=some d)(hd:d<nt)(hD:¬D d):
  ∃v w',(execOp a.eval o).run P w=.ok (.value v) w'/\SG P O nt B F0 aa w0 (fun t=>D t\/t=d) ((s.setObj d s.next (xL [])).put (some d) ⟨.mp d s.next,.no⟩) (a.put o.dst v) w':=by
 have oa:(execOp a.eval o).run P w=.ok (.value (.map (some w.heap.size))) (w.alloc (.map #[] 0)):=by
  simp[execOp,ho,Instr.makeMap]
 have hb:Below w.heap.size w (w.alloc (.map #[] 0)):=Below.alloc (Below.refl _ _) (yl _) _;obtain⟨ι',R2,hι,_⟩:=R.newObj (d:=d) (p:=w.heap.size) (H:=fun b=>b=w.heap.size) (S:=xL []) hb hD ((O.maps _ _ _ _).2 ⟨fun b=>Iff.rfl,#[],0,qX rfl,rfl,rfl,fun i h=>absurd h (by simp)⟩) (Ue.no rfl) (fun b h=>Nat.le_of_eq h.symm);rw[ka];exact⟨_,_,oa,ι',Θ,R2.put (x:=⟨.mp d s.next,.no⟩) hd ⟨_,hι,rfl⟩ trivial⟩
theorem Ap {v:Value}(h:K2 v=some .EA):v=.pointer none:=by
 unfold K2 at h;split at h<;>first|rfl|(injection h with h;cases h;done)|(cases h;done)
theorem Jg {v:Value}(h:K2 v=some (.sl true [])):v=.slice none 0 0:=by
 unfold K2 at h;split at h<;>first|rfl|(injection h with h;cases h;done)|(cases h;done)
theorem Il {l:List AV}(h:Qi l=true):l=[.EA,.sl true []]:=by
 unfold Qi at h;split at h
 ·rfl
 ·cases h
theorem Pp {vs:List Value}(h:TM vs=some [.EA,.sl true []]):vs=[.pointer none,.slice none 0 0]:=by
 cases vs with
 |nil=>cases h
 |cons v r =>
  simp only[TM]at h;split at h
  ·rename_i x l hx hl;injection h with h;injection h with h1 h2;subst h1;subst h2;cases r with
   |nil=>cases hl
   |cons v' r' =>
    simp only[TM]at hl;split at hl
    ·rename_i x' l' ci lv;injection hl with hl;injection hl with h1 h2;subst h1;subst h2;cases r' with
     |nil=>rw[Ap hx,Jg ci]
     |cons v'' r'' =>
      simp only[TM]at lv;split at lv<;>cases lv
    ·cases hl
  ·cases h
theorem op_mkb (R:DE P O nt B F0 aa w0 D s a w ι Θ){T e:TypeId}(fb:Uh P T=some e)(ho:o.op=.alloc T){d:Nat}(ka:o.dst=some d)(hd:d<nt)(hD:¬D d):
  ∃v w',(execOp a.eval o).run P w=.ok (.value v) w'/\SG P O nt B F0 aa w0 (fun t=>D t\/t=d) ((s.setObj d s.next (Eu T e ⟨#[]⟩)).put (some d) ⟨.ptr d s.next 0,.no⟩) (a.put o.dst v) w':=by
 obtain⟨l,hl,hb⟩:∃l,JL P T=some l/\Qi l=true:=by
  unfold Uh at fb;split at fb
  ·rename_i h;exact yq.1 h
  ·cases fb
 obtain⟨z,i,hi,sr,hrz,lr⟩:=NJ hl w;rw[Il hb]at lr;have hzc:z.cells=#[.pointer none,.slice none 0 0]:=by
  apply Array.ext';exact Pp lr
 have oa:(execOp a.eval o).run P w=.ok (.value (.pointer (some ⟨w.heap.size,0,none⟩))) (w.alloc (.cells #[.pointer none,.slice none 0 0] T)):=by
  simp[execOp,ho,Instr.alloc,newVar,newRow,hrz,hzc]
 have hb:Below w.heap.size w (w.alloc (.cells #[.pointer none,.slice none 0 0] T)):=Below.alloc (Below.refl _ _) (yl _) _;obtain⟨ι',R2,hι,_⟩:=R.newObj (d:=d) (p:=w.heap.size) (H:=fun b=>b=w.heap.size) (S:=Eu T e ⟨#[]⟩) hb hD ((O.blds _ _ _ _ _ _).2 ⟨.slice none 0 0,.pointer none,qX rfl,.inl rfl,World.ownsRowF_nil _ _ _ _,by simp[Value.ownBlock],fun b=>by simp[Value.ownBlock]⟩) (Ue.no rfl) (fun b h=>Nat.le_of_eq h.symm);rw[ka];exact⟨_,_,oa,ι',Θ,R2.put (x:=⟨.ptr d s.next 0,.no⟩) hd ⟨_,hι,rfl⟩ trivial⟩
end
end
section
open Go Go.RowKit
section
variable {P:Program} {O:XH} {nt B:Nat} {F0:pR} {aa:Av} {w0:World} {D:Nat->Prop} {s:LC} {a:Act} {w w':World} {ι:Ix} {Θ:kM} {o:Oper}
def Ae (s:LC)(av:Av)(ι:Ix):Av:=fun b o=>av b o/\¬ ∃t n r,s.mem t n=some r/\ι t n=some b
theorem RD.xA {D:Nat->Prop}{ι:Ix}{Θ:kM}(R:DE P O nt B F0 aa w0 D s a w ι Θ){x:AV}{u:Value}(h:RD ι (BE aa ι Θ) w x u):RD ι (Ae s (BE aa ι Θ) ι) w (x.xA s) u:=by
 have less:QD (BE aa ι Θ) (Ae s (BE aa ι Θ) ι) w w:=QD.less fun b o h=>h.1
 have same:=RD.held (Ix.Le.refl ι) less x u h;cases x with
 |ref t n sz off len c =>
  simp only[AV.xA];split
  ·rename_i l hl;obtain⟨r,hm,hl⟩:=yh.1 hl;obtain⟨b,hb,bc,cc,th,hz,hv⟩:=h;obtain⟨gd,b',cur,ty,db,ra,ja,_⟩:=R.rows t n r hm;rw[hb]at db;injection db with db;subst db;obtain⟨h1,h2,us,hL,ne⟩:=QJ ja ra hl;subst h1;show ZG _ w (.sl false l) u;simp only[ZG];refine⟨_,cc,hv,yH bc th,fun x hx y hy=>(h2 x hx).trans (h2 y hy).symm,(fun h=>by cases h),fun _=>⟨fun h=>(by cases h),fun _=>⟨b,off,rfl,?_⟩⟩⟩;rw[XG];exact EM (eE.held less _ _ hL) fun j u hj=>⟨ne j u hj,fun h=>h.2 ⟨t,n,r,hm,hb⟩⟩
  ·exact same
 |_=>exact same
theorem cD.xA {D:Nat->Prop}{ι:Ix}{Θ:kM}(R:DE P O nt B F0 aa w0 D s a w ι Θ):∀{xs:List AV}{us:List Value},cD ι (BE aa ι Θ) w xs us->cD ι (Ae s (BE aa ι Θ) ι) w (xs.map (AV.xA s)) us
 | [],_,h=>h
 |x::r,_,h=>by
  simp only[cD]at h;obtain⟨u,gb,rfl,h0,h1,h⟩:=h;exact⟨u,gb,rfl,h0.xA R,h1,h.xA R⟩
theorem RD.FA {D:Nat->Prop}{ι:Ix}{Θ:kM}(R:DE P O nt B F0 aa w0 D s a w ι Θ){x:AV}{u:Value}(h:RD ι (BE aa ι Θ) w x u):RD ι (Ae s (BE aa ι Θ) ι) w (x.lA s) u:=by
 have less:QD (BE aa ι Θ) (Ae s (BE aa ι Θ) ι) w w:=QD.less fun b o h=>h.1
 have same:=RD.held (Ix.Le.refl ι) less x u h;cases x with
 |ref t n sz off len c =>
  simp only[AV.lA];split
  ·rename_i l hl;obtain⟨r,hm,hl⟩:=yh.1 hl;obtain⟨b,hb,bc,cc,th,hz,hv⟩:=h;obtain⟨gd,b',cur,ty,db,ra,ja,_⟩:=R.rows t n r hm;rw[hb]at db;injection db with db;subst db;obtain⟨h1,h2,us,hL,ne⟩:=QJ ja ra hl;subst h1;show ZG _ w (.sl false l) u;simp only[ZG];refine⟨_,cc,hv,yH bc th,fun x hx y hy=>(h2 x hx).trans (h2 y hy).symm,(fun h=>by cases h),fun _=>⟨fun h=>(by cases h),fun _=>⟨b,off,rfl,?_⟩⟩⟩;rw[XG];exact EM (eE.held less _ _ hL) fun j u hj=>⟨ne j u hj,fun h=>h.2 ⟨t,n,r,hm,hb⟩⟩
  ·split
   ·rename_i l hl;obtain ⟨r,hm,hl⟩:=yh.1 hl;obtain ⟨l0,oe,hl⟩:=yh.1 hl;split at hl
    ·rename_i jf;injection hl with hl;subst hl;obtain ⟨b,hb,bc,cc,th,hz,hv⟩:=h;obtain ⟨gd,b',cur,ty,db,ra,ja,_⟩:=R.rows t n r hm;rw [hb] at db;injection db with db;subst db;obtain ⟨h1,h2,us,hL,ne⟩:=PS ja ra oe;subst h1;have rq:=cD.xA R hL;rw [List.map_flatten] at rq;have hL2:=IJ rq fun x hx=>ye.1 jf x hx
     show ZG _ w (.sl false _) u;simp only[ZG];refine⟨_,cc,by rw[yc];exact hv,by rw[yc];exact yH bc th,fun x hx y hy=>?_,(fun h=>by cases h),fun _=>⟨fun h=>(by cases h),fun _=>⟨b,off,rfl,?_⟩⟩⟩
     ·obtain⟨x',ci,rfl⟩:=yD.1 hx;obtain⟨y',nk,rfl⟩:=yD.1 hy;rw[yc,yc,h2 x' ci,h2 y' nk]
     ·rw[XG];exact EM hL2 fun j u hj=>⟨ne j u hj,fun h=>h.2 ⟨t,n,r,hm,hb⟩⟩
    ·cases hl
   ·exact same
 |_=>exact same
theorem cD.FA {D:Nat->Prop}{ι:Ix}{Θ:kM}(R:DE P O nt B F0 aa w0 D s a w ι Θ):∀{xs:List AV}{us:List Value},cD ι (BE aa ι Θ) w xs us->cD ι (Ae s (BE aa ι Θ) ι) w (xs.map (AV.lA s)) us
 | [],_,h=>h
 |x::r,_,h=>by
  simp only[cD]at h;obtain⟨u,gb,rfl,h0,h1,h⟩:=h;exact⟨u,gb,rfl,h0.FA R,h1,h.FA R⟩
theorem WD.FA {D:Nat->Prop}{ι:Ix}{Θ:kM}(R:DE P O nt B F0 aa w0 D s a w ι Θ){x:AV}{u:Value}(h:WD ι (BE aa ι Θ) (uF ι Θ) w x u):WD ι (Ae s (BE aa ι Θ) ι) (uF ι Θ) w (x.FA s) u:=by
 have less:QD (BE aa ι Θ) (Ae s (BE aa ι Θ) ι) w w:=QD.less fun b o h=>h.1
 have same:=WD.held (Ix.Le.refl ι) less (QD.refl _ _) x u h;cases x with
 |agg cs=>obtain⟨us,hv,hc⟩:=h;exact⟨us,hv,hc.FA R⟩
 |ref t n sz off len c =>
  have:=RD.FA R (x:=.ref t n sz off len c) h;show WD _ _ _ w (AV.lA s (.ref t n sz off len c)) u;generalize hy:AV.lA s (.ref t n sz off len c)=y at this ⊢;simp only[AV.lA]at hy;split at hy
  ·subst hy;exact this
  ·split at hy<;>(subst hy;exact this)
 |_=>exact same
def AV.zA (q:Option (Nat×Nat))(x:AV):AV:=match q with
 |none=>x
 |some p=>x.kill p.1 p.2
def Ix.iC (ι:Ix):Option (Nat×Nat)->Ix
 |.none=>ι
 |.some p=>ι.del p.1 p.2
theorem zG.fB {t n:Nat}{ι':Ix}{av pb:Av}{r:List SC}{cur:Array Value}(h:zG ι Θ av w r cur)(hι:Ix.Lk t n ι ι')(hh:QD av pb w w'):zG ι' Θ pb w' (r.map (SC.kill t n)) cur:=by
 refine⟨by simpa using h.1,fun j x hx=>?_⟩;rw[yk]at hx;cases hj:r[j]? with
 |none=>rw[hj]at hx;cases hx
 |some y =>
  rw[hj]at hx;injection hx with hx;subst hx;obtain⟨u,hu,h1,hr,ha⟩:=h.2 j y hj;refine⟨u,hu,h1,?_,ha⟩;have hk:=RD.kill hι hh y.v u hr;show RD ι' pb w' (y.v.kill t n) u;cases hy:y.v with
  |agg cs=>rw[hy]at hr;obtain⟨us,rfl,_⟩:=hr;simp[Value.oneCell']at h1
  |fA cs=>rw[hy]at hr;obtain⟨us,rfl,_⟩:=hr;simp[Value.oneCell']at h1
  |_=>rw[hy]at hk;exact hk
theorem DE.swap (R:DE P O nt B F0 aa w0 D s a w ι Θ){q:Option (Nat×Nat)}{g0:Nat->Prop}
  (hq:match q with
   |none=>∀b,¬g0 b
   |some p=>p.1≠0/\∃r b,s.mem p.1 p.2=some r/\ι p.1 p.2=some b/\∀b',g0 b'↔b'=b)
  (hk:SD g0 w w') {d:Nat} (hd:d<nt) (hD:¬D d) {l:List AV} {g:Nat} {cur:Array Value} {ty:TypeId}
  (hg:w.heap.size<=g\/g0 g/\∃cur0 ky,w.heap[g]?=some (.cells cur0 ky (0,0))/\cur.size=cur0.size) (ra:w'.heap[g]?=some (.cells cur ty (0,0)))
  (kc:eE (fun b o=>BE aa ι Θ b o\/b=g) w' l (cur.toList.take l.length)) {x:AV} {v:Value}
  (hx:∀ι':Ix,ι' d s.next=some g->ι'.z g=cur.size->WD ι' (BE aa ι' Θ) (uF ι' Θ) w' x v) :
  ∃ι',DE P O nt B F0 aa w0 (fun j=>D j\/j=d) (((s.zA q).setRow d s.next (l.map (⟨·,.no⟩))).put (some d) ⟨x,.no⟩) (a.put (some d) v) w' ι' Θ:=by
 have dg:ι d s.next=none:=by
  cases h:ι d s.next with
  |none=>rfl
  |some b =>
   rcases(R.mine _ _ _ h).2.2 with h1|h1
   ·omega
   ·exact absurd h1.2 hD
 have pf:ι.ob d s.next=none:=by
  cases h:ι.ob d s.next with
  |none=>rfl
  |some b =>
   rcases(R.obs _ _ _ h).2 with h1|h1
   ·omega
   ·exact absurd h1.2 hD
 -- the given block's name
 have gi:∀b,g0 b->∃p,q=some p/\ι p.1 p.2=some b/\ι.ob p.1 p.2=none/\(B<=b\/F0.r b)/\p.1≠0:=fun b hb=>by
  cases q with
  |none=>exact absurd hb (hq b)
  |some p =>
   obtain⟨h0,r,b',h1,h2,h3⟩:=hq;have e:=(h3 b).1 hb;subst e;obtain⟨g1,b2,_,_,g2,_,_,g3,_⟩:=R.rows _ _ _ h1;rw[h2]at g2;injection g2 with g2;subst g2;exact⟨p,rfl,h2,g1,g3,h0⟩
 have zc:=hk.size;have pu:=R.EC;have fv:g<w'.heap.size:=sD ra
 -- blocks that are known stay
 have del:∀t n b,(ι.iC q) t n=some b->ι t n=some b/\¬g0 b/\b≠g:=fun t n b h=>by
  have h1:ι t n=some b/\¬g0 b:=by
   cases q with
   |none=>exact⟨h,hq b⟩
   |some p =>
    obtain⟨h1,h2⟩:=Ix.AA h;exact⟨h1,fun hb=>by
     obtain⟨p',e,h3,_⟩:=gi b hb;injection e with e;subst e;have:=R.inj _ _ _ _ _ h1 h3;exact h2 ⟨this.1,this.2⟩⟩
  refine⟨h1.1,h1.2,fun e=>?_⟩;rcases hg with hg|hg
  ·have:=(R.mine _ _ _ h1.1).2.1;omega
  ·exact h1.2 (e▸hg.1)
 obtain⟨ι',hι'⟩:∃ι':Ix,ι'=⟨fun t n=>if t=d/\n=s.next then some g else(ι.iC q) t n,ι.ob,fun b=>if b=g then cur.size else ι.z b⟩:=⟨_,rfl⟩;have fd:ι' d s.next=some g:=by subst hι';show(if d=d/\s.next=s.next then some g else _)=_;rw[if_pos ⟨rfl,rfl⟩]
 have rd:∀t n b,ι' t n=some b->(t=d/\n=s.next/\b=g)\/((ι.iC q) t n=some b/\¬(t=d/\n=s.next)):=fun t n b h=>by
  subst hι';have h':(if t=d/\n=s.next then some g else(ι.iC q) t n)=some b:=h;split at h'
  ·rename_i e;injection h' with h';exact .inl ⟨e.1,e.2,h'.symm⟩
  ·rename_i e;exact .inr ⟨h',e⟩
 have eh:∀t n b,(ι.iC q) t n=some b->ι' t n=some b:=fun t n b h=>by
  subst hι';show(if t=d/\n=s.next then some g else(ι.iC q) t n)=some b;rw[if_neg (fun e=>by have:=(del _ _ _ h).1;rw[e.1,e.2,dg]at this;cases this)];exact h
 have uc:ι'.ob=ι.ob:=by subst hι';rfl
 have hzg:ι'.z g=cur.size:=by subst hι';exact if_pos rfl
 have hzo:∀b,b≠g->ι'.z b=ι.z b:=fun b h=>by subst hι';exact if_neg h
 have cq:∀t n b,ι t n=some b->ι'.z b=ι.z b:=fun t n b h=>by
  by_cases e:b=g
  ·subst e;rcases hg with hg | ⟨hg,cur0,ky,h1,h2⟩
   ·have:=(R.mine _ _ _ h).2.1;omega
   ·obtain ⟨p,e,h3,h4,_⟩:=gi b hg;cases q with
    |none=>cases e
    |some p' =>
     injection e with e;subst e;obtain⟨_,r,b',g1,g2,_⟩:=hq;obtain⟨_,b2,cur2,ty2,g3,g4,_,_,g5⟩:=R.rows _ _ _ g1;rw[h3]at g3;injection g3 with g3;subst g3;rw[h1]at g4;injection g4 with g4;injection g4 with g4;subst g4;rw[hzg,h2,g5]
  ·exact hzo b e
 clear hι';have blk:∀b,b<w.heap.size->¬g0 b->w'.heap[b]?=w.heap[b]?:=fun b h1 h2=>hk.block b h1 h2
 have ll:∀b o,b<w.heap.size->b≠g->uF ι' Θ b o->uF ι Θ b o:=fun b o _ ua h=>h.imp (fun h=>h.imp (fun⟨t,n,h⟩=>by
  rcases rd _ _ _ h with⟨_,_,e⟩|⟨h,_⟩
  ·exact absurd e ua
  ·exact⟨t,n,(del _ _ _ h).1⟩) (fun⟨t,n,H,h,hb⟩=>⟨t,n,H,uc▸h,hb⟩)) id
 have away:∀b o,¬uF ι Θ b o->¬g0 b:=fun b o h hb=>by
  obtain⟨p,_,h1,_⟩:=gi b hb;exact h (.inl (.inl ⟨p.1,p.2,h1⟩))
 have ng:∀b o,b<w.heap.size->¬uF ι Θ b o->b≠g:=fun b o h1 h2 e=>by
  rcases hg with hg|hg
  ·omega
  ·exact away b o h2 (e▸hg.1)
 have hB:QD (uF ι Θ) (uF ι' Θ) w w':=⟨fun b o u hc hn=>⟨(World.cell?_of_block (w:=w) (a:=⟨b,o,none⟩) (blk b (SI hc) (away b o hn))).trans hc,fun h=>hn (ll b o (SI hc) (ng b o (SI hc) hn) h)⟩⟩;have hA:QD (BE aa ι Θ) (BE aa ι' Θ) w w':=⟨fun b o u hc hn=>by
  have im:¬uF ι Θ b o:=fun h=>hn (.inr h)
  exact⟨(World.cell?_of_block (w:=w) (a:=⟨b,o,none⟩) (blk b (SI hc) (away b o im))).trans hc,fun h=>hn (h.imp id (ll b o (SI hc) (ng b o (SI hc) im)))⟩⟩
 have bc:q=none->Ix.Le ι ι':=fun e=>⟨fun t n b h=>eh t n b (by rw[e];exact h),cq⟩
 have ec:∀p,q=some p->Ix.Lk p.1 p.2 ι ι':=fun p e=>⟨fun t n b hn h=>eh t n b (by rw[e];exact(Ix.FB ι p.1 p.2).f _ _ _ hn h),cq⟩
 have hS:∀X V,WD ι (BE aa ι Θ) (uF ι Θ) w X V->WD ι' (BE aa ι' Θ) (uF ι' Θ) w' (X.zA q) V:=fun X V h=>by
  cases jm:q with
  |none=>exact WD.held (bc jm) hA hB _ _ h
  |some p=>exact WD.kill (ec p jm) hA hB _ _ h
 have jz:∀j,(s.zA q).env j=⟨(s.env j).v.zA q,(s.env j).a⟩:=fun j=>by cases q<;>rfl
 have hgh:∀j,(s.zA q).gh j=⟨(s.gh j).v.zA q,(s.gh j).a⟩:=fun j=>by cases q<;>rfl
 have bw:(s.zA q).next=s.next:=by cases q<;>rfl
 have hobj:(s.zA q).obj=s.obj:=by cases q<;>rfl
 have hRe:eE (BE aa ι' Θ) w' l (cur.toList.take l.length):=eE.held (QD.less fun b o h=>by
  by_cases e:b=g
  ·exact .inr e
  ·refine .inl (h.imp id fun h=>h.imp (fun h=>h.imp (fun ⟨t,n,h⟩=>?_) (fun ⟨t,n,H,h,hb⟩=>⟨t,n,H,uc ▸ h,hb⟩)) id);rcases rd _ _ _ h with ⟨_,_,e'⟩ | ⟨h,_⟩
   ·exact absurd e' e
   ·exact⟨t,n,(del _ _ _ h).1⟩) _ _ kc
 refine⟨ι',DE.put (s:=(s.zA q).setRow d s.next (l.map (⟨·,.no⟩))) ⟨R.defers,R.size,fun j=>?_,fun j=>?_,fun t' n' r' hr=>?_,fun t' n' b h=>?_,fun t1 n1 t2 n2 b h h'=>?_,fun k o h=>?_,R.ZA,fun k o t' n' h h'=>?_,R.out,fun p h=>?_,?_,R.base,fun t' n' S h=>?_,fun t' n' H h=>?_,fun j=>?_,fun j=>?_⟩ hd (hx _ fd hzg) trivial⟩
 ·show WD ι' _ _ w' ((s.zA q).env j).v _;rw[jz];exact hS _ _ (R.env j)
 ·show QM Θ ((s.zA q).env j).a _;rw[jz];exact R.aC j
 ·simp only [LC.setRow] at hr;split at hr
  ·rename_i e;injection hr with hr;subst hr;refine ⟨by rw [uc,e.1,e.2]; exact pf,g,cur,ty,by rw [e.1,e.2]; exact fd,ra,Ac hRe (fun j u hj=>?_),?_,hzg.symm⟩
   ·rw [yK] at hj;split at hj
    ·simpa using hj
    ·cases hj
   ·rcases hg with hg | hg
    ·exact .inl (by omega)
    ·obtain⟨p,_,_,_,h4,_⟩:=gi g hg.1;exact h4
  ·have key:∃r0,s.mem t' n'=some r0/\(ι.iC q) t' n'=ι t' n'/\r'=r0.map (fun x=>⟨x.v.zA q,x.a⟩):=by
    cases q with
    |none=>exact⟨r',hr,rfl,by simp[AV.zA]⟩
    |some p =>
     simp only[LC.zA,LC.kill]at hr;split at hr
     ·cases hr
     ·rename_i hn;cases we:s.mem t' n' with
      |none=>rw[we]at hr;cases hr
      |some r0 =>
       rw[we]at hr;injection hr with hr;exact⟨r0,rfl,if_neg hn,hr.symm⟩
   obtain⟨r0,we,xq,rfl⟩:=key;obtain⟨h0,b,sa,dj,h1,h2,h3,h4,h5⟩:=R.rows t' n' r0 we;have ug:(ι.iC q) t' n'=some b:=xq.trans h1;obtain⟨_,hng,_⟩:=del _ _ _ ug;refine⟨uc▸h0,b,sa,dj,eh _ _ _ ug,(blk b (sD h2) hng).trans h2,?_,h4,h5.trans (cq _ _ _ h1).symm⟩;cases jm:q with
   |none =>
    have:r0.map (fun x:SC=>(⟨x.v.zA none,x.a⟩:SC))=r0:=by simp[AV.zA]
    rw[this];exact h3.held (bc jm) hA (fun _ _ h=>h)
   |some p=>exact h3.fB (ec p jm) hA
 ·rcases rd _ _ _ h with ⟨e1,e2,e3⟩ | ⟨h,_⟩
  ·subst e3;refine ⟨?_,fv,.inr ⟨by rw [e2]; exact bw.symm,.inr e1⟩⟩;rcases hg with hg | hg
   ·exact .inl (by omega)
   ·obtain⟨p,_,h3,_⟩:=gi b hg.1;exact(R.mine _ _ _ h3).1
  ·obtain⟨h1,h2,h3⟩:=R.mine t' n' b (del _ _ _ h).1;refine⟨h1,by omega,?_⟩;show n'<(s.zA q).next\/n'=(s.zA q).next/\_;rw[bw];exact h3.imp id fun⟨e,d⟩=>⟨e,.inl d⟩
 ·rcases rd _ _ _ h with ⟨e1,e2,e3⟩ | ⟨h,hn⟩ <;> rcases rd _ _ _ h' with ⟨f1,f2,f3⟩ | ⟨h',im⟩
  ·exact⟨e1.trans f1.symm,e2.trans f2.symm⟩
  ·exact absurd e3 (del _ _ _ h').2.2
  ·exact absurd f3 (del _ _ _ h).2.2
  ·exact R.inj _ _ _ _ _ (del _ _ _ h).1 (del _ _ _ h').1
 ·obtain⟨h1,h2,h3,h4,sa,h5,h6⟩:=R.tok k o h;exact⟨h1,h2,h3,h4,sa,(blk _ (sD h5) fun hb=>by
   obtain⟨p,_,h7,_⟩:=gi _ hb;exact R.apart k o _ _ h h7).trans h5,h6⟩
 ·rcases rd _ _ _ h' with ⟨e1,e2,e3⟩ | ⟨h',_⟩
  ·obtain ⟨_,_,_,_,sa,h5,_⟩:=R.tok k o h;rcases hg with hg | hg
   ·have:=sD h5;omega
   ·obtain⟨p,_,h7,_⟩:=gi _ hg.1;exact R.apart k o _ _ h (e3▸h7)
  ·exact R.apart k o t' n' h (del _ _ _ h').1
 ·obtain⟨h1,h2⟩:=R.pin p h;have ug:(ι.iC q) 0 0=some p:=by
   cases jm:q with
   |none=>exact h1
   |some p' =>
    subst jm;exact(Ix.FB ι p'.1 p'.2).f _ _ _ (fun e=>hq.1 e.1.symm) h1
  exact⟨eh _ _ _ ug,h2.imp (fun g=>⟨g.1,(cq _ _ _ h1).trans g.2⟩) fun g=>uc▸g⟩
 ·exact R.kept.trans hk fun i hi hb=>by
   obtain⟨p,_,h3,_⟩:=gi i hb;rcases(R.mine _ _ _ h3).1 with h|h
   ·have:=R.base.1;omega
   ·exact h
 ·have h:s.obj t' n'=some S:=by
   have:((s.zA q).setRow d s.next (l.map (⟨·,.no⟩))).obj=s.obj:=hobj;rw[this]at h;exact h
  obtain⟨p,H,h1,h2,h3,h4⟩:=R.qB t' n' S h;have lf:∀t1 n1 b1 H1,ι t1 n1=some b1->ι.ob t1 n1=some H1->ι' t1 n1=some b1:=fun t1 n1 b1 H1 g1 g2=>by
   refine eh _ _ _ ?_;cases jm:q with
   |none=>exact g1
   |some p' =>
    refine(Ix.FB ι p'.1 p'.2).f _ _ _ (fun e=>?_) g1;subst jm;obtain⟨_,r,b,m1,m2,m3⟩:=hq;have:=(R.rows _ _ _ m1).1;rw[e.1,e.2,this]at g2;cases g2
  have hHb:∀b,H b->¬g0 b:=fun b hb h=>by
   obtain⟨p',e,h5,h6,_⟩:=gi b h;have e2:=((R.obs _ _ _ h2).1 b hb).2.2.1 _ _ h5;rw[e2.1,e2.2,h2]at h6;cases h6
  exact⟨p,H,lf _ _ _ _ h1 h2,uc▸h2,O.keep h3 (fun b hb=>blk b (O.lt h3 hb) (hHb b hb)) zc,h4.keep (fun t1 n1 b1 H1 g1 g2=>⟨lf _ _ _ _ g1 g2,H1,uc▸g2⟩) fun x hx=>(blk _ (sD hx) (hHb _ (O.main h3))).trans hx⟩
 ·rw [uc] at h;obtain ⟨h1,h2⟩:=R.obs t' n' H h;refine ⟨fun b hb=>?_,?_⟩
  ·obtain ⟨g1,g2,g3,g4,g5⟩:=h1 b hb;refine ⟨g1,by omega,fun t2 n2 h'=>?_,g4,uc ▸ g5⟩;rcases rd _ _ _ h' with ⟨e1,e2,e3⟩ | ⟨h',_⟩
   ·exfalso;rcases hg with hg | hg
    ·omega
    ·obtain⟨p',e,h5,h6,_⟩:=gi g hg.1;have e4:=g3 _ _ (e3▸h5);rw[e4.1,e4.2,h]at h6;cases h6
   ·exact g3 t2 n2 (del _ _ _ h').1
  ·show n'<(s.zA q).next\/n'=(s.zA q).next/\_;rw[bw];exact h2.imp id fun⟨e,d⟩=>⟨e,.inl d⟩
 ·show WD ι' _ _ w' ((s.zA q).gh j).v _;rw[hgh];exact hS _ _ (R.gen j)
 ·show QM Θ ((s.zA q).gh j).a _;rw[hgh];exact R.pB j
theorem compN_H {cl:Cl}{hs:Nat->Bool}{L:List Nat}{op:Go.Op}{k:K}(h:wY P cl hs L op=some k):Ba k=false:=by
 unfold wY at h;split at h
 ·split at h
  ·obtain⟨_,_,rfl⟩:=yq.1 h;rfl
  ·split at h
   ·split at h
    ·split at h
     ·split at h
      ·split at h
       ·split at h
        ·split at h
         ·injection h with h;subst h;rfl
         ·split at h
          ·injection h with h;subst h;rfl
          ·cases h
        ·cases h
       ·cases h
      ·cases h
     ·cases h
    ·cases h
   ·cases h
 ·cases h
theorem Fo {av:Av}{cs:List AV}{us:List Value}(h:eE av w cs us){cur:Array Value}(hc:∀(j:Nat) (u:Value),us[j]?=some u->cur[j]?=some u):us=cur.toList.take cs.length:=by
 have hl:=xF (jG (ι:=Ix.none) h);refine List.ext_getElem? fun j=>?_
 rw[yK];split
 ·rename_i hj;have hu:us[j]?=some us[j]:=yf (by omega);rw[hu,Array.getElem?_toList,hc j _ hu]
 ·exact Y08 (by omega)
theorem op_own (R:DE P O nt B F0 aa w0 D s a w ι Θ){call:sE}(kb:∀f args S r,call f args S=some r->MD P O f args S r){cl:Cl}{hs:Nat->Bool}{L:List Nat}{k:K}(hk:wY P cl hs L o.op=some k)(hd:∀d,o.dst=some d->d<nt)(hD:∀d,o.dst=some d->(O9 k||RW k)=true->¬D d)
  {xe:SC×uG} (hr:k.run call s=some xe) {g} {s':LC} (he:aD.eff ⟨o.dst,k,g⟩ s xe=some s')
  {Kn:Act->World->Prop} {Q:Exit->Act->World->Prop} (hK:∀a' w',SG P O nt B F0 aa w0 (fun t=>D t\/o.dst=some t) s' a' w'->Kn a' w'):o.wp P a w Kn Q:=by
 unfold wY at hk;split at hk
 case h_2=>cases hk
 rename_i f Xs ts ho;have nr:(Xs.toList.map a.eval).toArray=Xs.map a.eval:=by rw[<- Array.toList_map,Y07]
 have run:(∀xs w,(callFunc f xs).run P w=.ok (.enter f xs) w)->(execOp a.eval o).run P w=.ok (.enter f (Xs.map a.eval)) w:=fun h=>by
  simp only[execOp,ho,resolve,Act.eval,Deferred.ofValue,Sem.run_bind,Sem.run_pure,Result.andThen_ok,invoke];have:=h (#[]++Xs.map a.eval++#[]) w;simp_all
 have ni:∀b o,BE aa ι Θ b o->b<w.heap.size:=fun b o h=>R.low h
 obtain⟨x,e⟩:=xe;split at hk
 ·-- numbers and letters,by what the memory of the arguments iw
  obtain⟨xs,oc,rfl⟩:=yq.1 hk;simp only[K.run]at hr;split at hr
  case isFalse=>cases hr
  rename_i ia;obtain⟨r,hc,hr⟩:=yh.1 hr;split at hr
  case h_2=>cases hr
  rename_i v;split at hr
  case isFalse=>cases hr
  rename_i pp;injection hr with hr;injection hr with h1 h2;subst h1;subst h2;have hm:zI (xs.map fun x=>(x.get s).FA s)=false:=by
   cases hv:xs.map fun x=>(x.get s).FA s with
   |nil=>rfl
   |cons y ys =>
    have:=ye.1 ia.2 y (by rw[hv];exact yo);cases y<;>first|rfl|(simp[AV.free,AV.tA]at this;done)
  have wa:=(MD.of hm).1 (kb f _ none _ hc);have za:∀{Xs:List Operand}{xs:List EE},FI Xs=some xs->(xs.map fun x=>(x.get s).FA s).all AV.free=true->jJ Ix.none (Ae s (BE aa ι Θ) ι) (fun _ _=>False) w (xs.map fun x=>(x.get s).FA s) (Xs.map a.eval):=by
   intro Xs
   induction Xs with
   |nil=>intro xs h _;injection h with h;subst h;rfl
   |cons X Xr ih =>
    intro xs h hf;unfold FI at h;split at h
    ·rename_i y ys hy hys;injection h with h;subst h;simp only[ym,List.all_cons,yg]at hf ⊢;exact⟨_,_,rfl,UZ ((R.pA hy).1.FA R) hf.1,ih hys hf.2⟩
    ·cases h
  simp only[aD.eff]at he;injection he with he;subst he;have hC:=wa.2 (Ae s (BE aa ι Θ) ι) w _ ⟨⟨R.wd,fun _ h=>h.elim⟩,fun b o h=>ni b o h.1⟩ (za oc ia.2);rw[nr]at hC;unfold Oper.wp;rw[run wa.1,Oper.upon_enter];refine hC.mono ?_;rintro e w' ⟨u,rfl,hv,hb⟩;have R':DE P O nt B F0 aa w0 D s a w' ι Θ:=R.grow (fun b db=>hb.block b db) hb.size (R.kept.BA hb);refine hK _ _ ⟨ι,Θ,(R'.cB (x:=⟨v,.no⟩) hd ?_ trivial).more fun _ h=>.inl h⟩;refine RM ?_;cases v with
  |fA vs =>
   obtain⟨us,hu,ht⟩:=hv;refine⟨us,hu,?_⟩;have key:∀{vs:List AV}{us:List Value},vs.all AV.cA=true->PO (Ae s (BE aa ι Θ) ι) w' vs us->PO (BE aa ι Θ) w' vs us:=by
    intro vs
    induction vs with
    |nil=>intro us _ h;exact h
    |cons y r ih =>
     intro us hs h;simp only[List.all_cons,yg]at hs;simp only[PO]at h ⊢;obtain⟨u,gb,rfl,h0,h⟩:=h;refine⟨u,gb,rfl,?_,ih hs.2 h⟩;cases y<;>first|exact h0|(simp[AV.cA]at hs;done)
   exact key pp ht
  |_=>first|exact hv|(simp[AV.plain,AV.cA]at pp;done)
 ·split at hk
  case isFalse=>cases hk
  split at hk
  case h_2=>cases hk
  split at hk
  case h_2=>cases hk
  split at hk
  case h_2=>cases hk
  split at hk
  case h_2=>cases hk
  rename_i z ys hz oc;split at hk
  case isFalse=>cases hk
  split at hk
  ·-- a new slice
   injection hk with hk;subst hk;simp only[K.run]at hr;split at hr
   case h_2=>cases hr
   rename_i vs hl cj;obtain⟨r,hc,hr⟩:=yh.1 hr;split at hr
   case h_2=>cases hr
   rename_i b l;split at hr
   case isFalse=>cases hr
   rename_i ia;have wa:cK P O f vs none (.sl b l,none):=MD.own (oT hl) (kb f (.undef::vs) none _ hc);have nob:∀x∈ys,∀t n,x.get s=.ptr t n 0->False:=fun x hx t n h=>by
    have:(t,n)∈rK s ys:=List.mem_filterMap.2 ⟨x,hx,by rw[h]⟩;rw[cj]at this;cases this
   have za:=ZK (ι':=Ix.none) (avl:=fun _ _=>False) R (fun _ _ h=>h.elim) oc hl fun x hx t n h=>(nob x hx t n h).elim
   have hC:=wa.2 (BE aa ι Θ) w _ R.DB za;rw[nr]at hC;unfold Oper.wp;rw[run wa.1,Oper.upon_enter];refine hC.mono ?_;rintro e' w' ⟨u,rfl,hv,hb⟩;split at hr
   ·rename_i hemp;have oe:l=[]:=by simpa using hemp
    subst oe;injection hr with hr;injection hr with h1 h2;subst h1;subst h2;simp only[aD.eff]at he;injection he with he;subst he;rw[if_pos rfl]at hv;have R':DE P O nt B F0 aa w0 D s a w' ι Θ:=R.grow (fun b db=>hb.block b db) hb.size (R.kept.BA hb);exact hK _ _ ⟨ι,Θ,(R'.cB (x:=⟨.sl b [],.ex⟩) hd (RM hv.1) (hv.2.imp fun A h=>⟨0,h⟩)).more fun _ h=>.inl h⟩
   ·rename_i hemp;have ua:l≠[]:=fun h=>hemp (by simp [h])
    split at hr
    case isTrue=>cases hr
    injection hr with hr;injection hr with h1 h2;subst h1;subst h2;cases ka:o.dst with
    |none=>simp[aD.eff,ka]at he
    |some d =>
     simp only[aD.eff,ka]at he;injection he with he;subst he;rw[if_neg ua]at hv;obtain⟨g',c,cur,ty,rfl,hg,ra,bc,jo,kc⟩:=hv z ia.1;obtain⟨ι',R'⟩:=R.swap (q:=none) (g0:=fun _=>False) (fun _ h=>h) (SD.of_below hb _) (hd d ka) (hD d ka rfl) (l:=l.flatten) (hg.imp id fun h=>h.1.elim) ra kc (x:=.ref d s.next z 0 l.length l.length) (v:=.slice (some ⟨g',0,none⟩) l.length c) fun ι' h1 h2=>⟨g',h1,yl _,c,bc,by rw[h2,yy];exact jo,rfl⟩
     refine hK _ _ ⟨ι',Θ,?_⟩;rw[ka];exact R'.more fun t h=>h.imp id fun e=>by rw[e]
  ·split at hk
   case h_2=>cases hk
   rename_i y rest;injection hk with hk;subst hk
   -- the first argument is the row
   cases ox:Xs.toList with
   |nil=>rw[ox]at oc;cases oc
   |cons X Xr =>
    rw[ox]at oc nr;unfold FI at oc;split at oc
    case h_2=>cases oc
    rename_i y' rest' hy hrest;injection oc with oc;injection oc with e1 e2;subst e1;subst e2;simp only[K.run]at hr;split at hr
    case h_2=>cases hr
    rename_i vs hl cj;split at hr
    case isFalse=>cases hr
    have nob:∀x∈rest',∀t n,x.get s=.ptr t n 0->False:=fun x hx t n h=>by
     have:(t,n)∈rK s rest':=List.mem_filterMap.2 ⟨x,hx,by rw[h]⟩;rw[cj]at this;cases this
    have za:=ZK (ι':=Ix.none) (avl:=fun _ _=>False) R (fun _ _ h=>h.elim) hrest hl fun x hx t n h=>(nob x hx t n h).elim
    have hY:=(R.pA hy).1;have JJ:∀{q:Option (Nat×Nat)}{g0:Nat->Prop}{l':List (List AV)}{nl:Bool}{l0:List (List AV)},(match q with
      |none=>∀b,¬g0 b
      |some p=>p.1≠0/\∃r b,s.mem p.1 p.2=some r/\ι p.1 p.2=some b/\∀b',g0 b'↔b'=b)->cK P O f (.sl nl l0::vs) (some (.int .i64 z)) (.sl false l',none)->U5 z (BE aa ι Θ) w nl l0 (a.eval X) g0 →
      (∀d,o.dst=some d->s'=(((s.zA q).setRow d s.next (qD l')).put (some d) ⟨.ref d s.next z 0 l'.length l'.length,.no⟩))->(o.dst=none->False)->o.wp P a w Kn Q:=fun{q g0 l' nl l0} hq wa hgi po gd=>by
     have hC:=wa.2 (BE aa ι Θ) w (a.eval X) _ g0 ⟨⟨R.wd,fun b hb=>by
      cases q with
      |none=>exact(hq b hb).elim
      |some p =>
       obtain⟨_,r,b',_,h1,h2⟩:=hq;rw[(h2 b).1 hb];exact R.lo (R.mine _ _ _ h1).1⟩,ni⟩ za (by simpa using hgi)
     have he1:(a.eval X::Xr.map a.eval).toArray=Xs.map a.eval:=by rw[<- nr];rfl
     rw[he1]at hC;unfold Oper.wp;rw[run wa.1,Oper.upon_enter];refine hC.mono ?_;rintro e' w' ⟨u,rfl,⟨g',c,cur,ty,rfl,hg,ra,bc,jo,kc⟩,mt⟩;cases ka:o.dst with
     |none=>exact(gd ka).elim
     |some d =>
      obtain⟨ι',R'⟩:=R.swap (q:=q) hq mt (hd d ka) (hD d ka rfl) (l:=l'.flatten) hg ra kc (x:=.ref d s.next z 0 l'.length l'.length) (v:=.slice (some ⟨g',0,none⟩) l'.length c) fun ι' h1 h2=>⟨g',h1,yl _,c,bc,by rw[h2,yy];simpa using jo,rfl⟩
      refine hK _ _ ⟨ι',Θ,?_⟩;rw[po d ka,ka];exact R'.more fun t h=>h.imp id fun e=>by rw[e]
    split at hr
    ·rename_i t n z' off ln cap xw;split at hr
     case h_2=>cases hr
     rename_i l0 fb;split at hr
     case isFalse=>cases hr
     rename_i ia;obtain⟨rfl,rfl,br,hLt⟩:=ia;obtain⟨r,hc,hr⟩:=yh.1 hr;split at hr
     case h_2=>cases hr
     rename_i l';split at hr
     case isFalse=>cases hr
     injection hr with hr;injection hr with h1 h2;subst h1;subst h2;have wa:cK P O f (.sl false l0::vs) (some (.int .i64 z')) (.sl false l',none):=MD.own rfl (kb f (.undef :: .sl false l0::vs) _ _ hc);rw[xw]at hY;obtain⟨b,hb,bc,cc,th,cq,hv⟩:=hY;simp only[AV.elems]at fb;split at fb
     case isFalse=>cases fb
     obtain⟨row,hm,fb⟩:=yh.1 fb;obtain⟨gd,b',cur,ty,db,ra,ja,_,jo⟩:=R.rows t n row hm;rw[hb]at db;injection db with db;subst db;obtain⟨q1,q2,us,q3,q4⟩:=QJ ja ra fb;have ne:us=cur.toList.take l0.flatten.length:=Fo q3 fun j u hj=>by
      have:=q4 j u hj;simpa [World.cell?,ra]using this
     rw[ne]at q3;subst q1;refine JJ (q:=some (t,n)) (g0:=fun x=>x=b) ⟨br,row,b,hm,hb,fun _=>Iff.rfl⟩ wa (.inr ⟨rfl,b,cc,cur,ty,hv,fun _=>Iff.rfl,ra,yH bc th,by rw[jo];simpa using cq,fun o=>.inr (.inl (.inl ⟨t,n,hb⟩)),q3⟩) (fun d ka=>?_) fun ka=>by simp[aD.eff,ka]at he
     simp only[aD.eff,ka]at he;injection he with he;exact he.symm
    ·rename_i b xw;split at hr
     case isFalse=>cases hr
     rename_i aj;obtain⟨r,hc,hr⟩:=yh.1 hr;split at hr
     case h_2=>cases hr
     rename_i l';split at hr
     case isFalse=>cases hr
     injection hr with hr;injection hr with h1 h2;subst h1;subst h2;have wa:cK P O f (.sl b []::vs) (some (.int .i64 z)) (.sl false l',none):=MD.own rfl (kb f (.undef :: .sl b []::vs) _ _ hc);have hYa:=(R.pA hy).2;rw[xw]at hY;obtain⟨A,c,hv,_,_,h3,_⟩:=hY;obtain⟨rx,aw⟩:c=0/\(b=true->A=none):=by
      cases b with
      |true =>
       obtain⟨rfl,_,rfl⟩:=h3 rfl;exact⟨rfl,fun _=>rfl⟩
      |false =>
       refine⟨?_,fun h=>by cases h⟩;unfold LY tE at aj;cases ha:y'.an s with
       |ex =>
        rw[ha,hv]at hYa;obtain⟨A',n',h⟩:=hYa;injection h with _ h1 h2;rw[h2,<- h1];rfl
       |no=>rw[ha]at aj;cases aj
       |own k e=>rw[ha]at aj;cases aj
     refine JJ (q:=none) (g0:=fun _=>False) (fun _ h=>h) wa (.inl ⟨rfl,⟨A,by rw[hv,rx];rfl⟩,fun h=>by rw[hv,rx,aw h];rfl,fun _ h=>h⟩) (fun d ka=>?_) fun ka=>by simp[aD.eff,ka]at he
     simp only[aD.eff,ka]at he;injection he with he;exact he.symm
    ·cases hr
end
end
section
open Go Go.RowKit
section
variable {P:Program} {O:XH} {nt B:Nat} {F0:pR} {aa:Av} {w0:World} {D:Nat->Prop} {s:LC} {a:Act} {w w':World} {ι:Ix} {Θ:kM} {o:Oper}
theorem pF (R:DE P O nt B F0 aa w0 D s a w ι Θ){x:SC}{e:uG}(hv:e=.none/\BX P aa a w ι Θ o x)(hd:∀d,o.dst=some d->d<nt){k:K} {g} {s':LC} (he:aD.eff ⟨o.dst,k,g⟩ s (x,e)=some s')
  {Kn:Act->World->Prop} {Q:Exit->Act->World->Prop} (hK:∀a' w',SG P O nt B F0 aa w0 D s' a' w'->Kn a' w'):o.wp P a w Kn Q:=by
 obtain⟨rfl,v,oa,hS,hA⟩:=hv;simp only[aD.eff]at he;cases he;unfold Oper.wp;rw[oa,Oper.upon_value];exact hK _ _ ⟨ι,Θ,R.cB hd hS hA⟩
theorem Fc {s':LC}(h:∃v w',(execOp a.eval o).run P w=.ok (.value v) w'/\SG P O nt B F0 aa w0 D s' (a.put o.dst v) w')
  {Kn:Act->World->Prop} {Q:Exit->Act->World->Prop} (hK:∀a' w',SG P O nt B F0 aa w0 D s' a' w'->Kn a' w'):o.wp P a w Kn Q:=by
 obtain⟨v,w',oa,hR⟩:=h;unfold Oper.wp;rw[oa,Oper.upon_value];simp_all
theorem GF {α β:Type}{x:Option α}{f:α->β}{z:β}(h:x.map f=some z):∃a,x=some a/\f a=z:=by
 simp_all
theorem Xi {xs:Array Operand}{x':EE}(hx:FI xs.toList=some [x']):∃X,xs=#[X]/\pA X=some x':=by
 obtain⟨l⟩:=xs
 match l,hx with
 | [X],hx =>
  unfold FI at hx
  grind
 | [],hx=>simp[FI]at hx
 |X::Y::r,hx =>
  unfold FI at hx;split at hx
  ·rename_i y l hy hl;injection hx with hx;injection hx with h1 h2;subst h2;unfold FI at hl
   grind
  ·cases hx
theorem Kx (R:DE P O nt B F0 aa w0 D s a w ι Θ){call:sE}(kb:∀f args S r,call f args S=some r->MD P O f args S r){cl:Cl}{mu:Option Bool}{nest:Bool}{k:K}(hk:C9 P cl mu o.op nest=some k)(mo:mu≠none->o.dst≠none)(hd:∀d,o.dst=some d->d<nt)(hD:∀d,o.dst=some d->(O9 k||RW k)=true->¬D d)
  {xe:SC×uG} (hr:k.run call s=some xe) {g} {s':LC} (he:aD.eff ⟨o.dst,k,g⟩ s xe=some s')
  {Kn:Act->World->Prop} {Q:Exit->Act->World->Prop} (hK:∀a' w',SG P O nt B F0 aa w0 (fun t=>D t\/o.dst=some t) s' a' w'->Kn a' w'):o.wp P a w Kn Q:=by
 have ud:∀a' w',SG P O nt B F0 aa w0 D s' a' w'->Kn a' w':=fun a' w' ⟨ι',Θ',h⟩=>hK a' w' ⟨ι',Θ',h.more fun _ h=>.inl h⟩
 have fd:∀d,o.dst=some d->(∃v w',(execOp a.eval o).run P w=.ok (.value v) w'/\SG P O nt B F0 aa w0 (fun t=>D t\/t=d) s' (a.put o.dst v) w')->o.wp P a w Kn Q:=fun d ka h =>
  Fc h fun a' w' ⟨ι',Θ',h⟩=>hK a' w' ⟨ι',Θ',h.more fun t h=>h.imp id fun e=>by rw[ka,e]⟩
 obtain⟨x,e⟩:=xe;cases wb:o.op<;>rw[wb]at hk<;>simp only[C9]at hk
 case move X=>obtain⟨y,hy,rfl⟩:=GF hk;simp only[K.run]at hr;injection hr with hr;injection hr with h1 h2;subst h1;subst h2;exact pF R ⟨rfl,Zv R hy (.inl wb)⟩ hd he ud
 case assign X=>obtain⟨y,hy,rfl⟩:=GF hk;simp only[K.run]at hr;injection hr with hr;injection hr with h1 h2;subst h1;subst h2;exact pF R ⟨rfl,Zv R hy (.inr wb)⟩ hd he ud
 case pick C X Y =>
  split at hk
  ·rename_i c x' y' hc hx hy;cases hk;simp only [K.run] at hr;split at hr
   ·rename_i t ht;injection hr with hr;injection hr with h1 h2;subst h1;subst h2;exact pF R ⟨rfl,Xv R hc hx hy wb ht⟩ hd he ud
   ·cases hr
  ·cases hk
 case alloc t =>
  split at hk
  case h_2 =>
   obtain⟨el,fb,rfl⟩:=GF hk;simp only[K.run]at hr;injection hr with hr;injection hr with h1 h2;subst h1;subst h2;cases ka:o.dst with
   |none=>simp[aD.eff,ka]at he
   |some d =>
    simp only[aD.eff,ka]at he;cases he;exact fd d ka (op_mkb R fb wb ka (hd d ka) (hD d ka rfl))
  obtain⟨z,hz,rfl⟩:=GF hk;cases ka:o.dst with
  |none=>simp[K.run]at hr;obtain⟨rfl,rfl⟩:=hr;simp[aD.eff,ka]at he
  |some d=>exact fd d ka (Gx R hz wb ka (hd d ka) (hD d ka rfl) hr he)
 case box t X =>
  split at hk
  ·rename_i z x' hz hx;cases hk;cases ka:o.dst with
   |none =>
    simp only[K.run]at hr;split at hr
    ·split at hr
     ·injection hr with hr;injection hr with h1 h2;subst h1;subst h2;simp[aD.eff,ka]at he
     ·cases hr
    ·split at hr
     ·injection hr with hr;injection hr with h1 h2;subst h1;subst h2;simp[aD.eff,ka]at he
     ·cases hr
   |some d=>exact fd d ka (op_boxE R hx wb ka (hd d ka) (hD d ka rfl) hr he)
  ·cases hk
 case build t ps =>
  split at hk
  ·rename_i fs z ys ht hz hy;split at hk
   ·rename_i pl pp;obtain⟨zs,fk,rfl⟩:=GF hk;obtain⟨zv,i,hi,sr,_,hl⟩:=NJ hz w;refine pF R (j5 R hl (pl:=(pl.toArray[·]?)) ?_ hy fk wb hr) hd he ud;simp[Program.built,hi,ht,sr,pp]
   ·cases hk
  ·rename_i n el z ys ht hz hy;split at hk
   ·rename_i ie dr;obtain⟨zs,fk,rfl⟩:=GF hk;obtain⟨zv,i,hi,sr,_,hl⟩:=NJ hz w;refine pF R (j5 R hl (pl:=fun i=>some (i*ie.size,ie.size)) ?_ hy fk wb hr) hd he ud;simp[Program.built,hi,ht,sr,dr]
   ·cases hk
  ·cases hk
 case buildSlice t n ps =>
  split at hk
  ·rename_i el ys ht hy;split at hk
   ·rename_i z kk hz hs;split at hk
    ·rename_i hc;cases mu with
     |none =>
      simp only at hk;cases hk;obtain⟨rfl,v,w',oa,R',hS,hA⟩:=op_bsl R ht hz hs hc.1 hc.2.1 hc.2.2 hy wb hr;simp only[aD.eff]at he;cases he;unfold Oper.wp;rw[oa,Oper.upon_value];exact ud _ _ ⟨ι,Θ,R'.cB hd hS hA⟩
     |some m =>
      simp only at hk;cases hk;cases ka:o.dst with
      |none=>exact absurd ka (mo (by simp))
      |some d=>exact fd d ka (op_bslr R ht hz hs hc.1 hc.2.1 hc.2.2 hy wb ka (hd d ka) (hD d ka rfl) hr he)
    ·cases hk
   ·cases hk
  ·cases hk
 case load t X =>
  split at hk
  ·rename_i ag z y hA hz hx;cases hk;exact pF R (Kv R hA hz hx wb hr) hd he ud
  ·cases hk
 case store t X Y =>
  split at hk
  ·rename_i ag z x' y' hA hz hx hy;split at hk
   ·rename_i hag;cases hk;obtain⟨w',oa,hR⟩:=Lx R hz (by simpa using hag) hx hy wb hd hr he;unfold Oper.wp;rw[oa,Oper.upon_skip];simp_all
   ·cases hk
  ·cases hk
 case nilCheck X=>obtain⟨y,hy,rfl⟩:=GF hk;exact pF R (Qe R hy wb hr) hd he ud
 case binOp op t X Y t' =>
  split at hk
  ·rename_i x' y' hx hy;split at hk
   ·cases hk;simp only [K.run] at hr;obtain ⟨v,hv,hr⟩:=GF hr;injection hr with h1 h2; subst h1; subst h2
    refine pF R ⟨rfl,val_bin R (fun hb=>?_) hx hy wb hv⟩ hd he ud
    grind
   ·split at hk
    ·split at hk
     ·rename_i el ht;injection hk with hk;subst hk;exact pF R (rZ R (neg:=false) (ptr:=false) ⟨el,ht⟩ hx hy wb hr) hd he ud
     ·rename_i el ht;injection hk with hk;subst hk;exact pF R (rZ R (neg:=false) (ptr:=true) ⟨el,ht⟩ hx hy wb hr) hd he ud
     ·obtain⟨ks,ht,rfl⟩:=GF hk;exact pF R (Jo R (neg:=false) ht hx hy wb hr) hd he ud
    ·split at hk
     ·rename_i el ht;injection hk with hk;subst hk;exact pF R (rZ R (neg:=true) (ptr:=false) ⟨el,ht⟩ hx hy wb hr) hd he ud
     ·rename_i el ht;injection hk with hk;subst hk;exact pF R (rZ R (neg:=true) (ptr:=true) ⟨el,ht⟩ hx hy wb hr) hd he ud
     ·obtain⟨ks,ht,rfl⟩:=GF hk;exact pF R (Jo R (neg:=true) ht hx hy wb hr) hd he ud
    ·cases hk
  ·cases hk
 case unOp op t X =>
  split at hk
  ·obtain⟨y,hy,rfl⟩:=GF hk;exact pF R (val_un R hy wb hr) hd he ud
  ·cases hk
 case convert t t' X =>
  split at hk
  ·rename_i j kk x' h1 h2 hx;injection hk with hk;subst hk;exact pF R (E9 R (k:=some kk) ⟨⟨j,h1⟩,h2⟩ hx wb hr) hd he ud
  ·rename_i x' h1 h2 hx;injection hk with hk;subst hk;exact pF R (E9 R (k:=none) ⟨h1,h2⟩ hx wb hr) hd he ud
  ·rename_i j x' h1 h2 hx;injection hk with hk;subst hk;exact pF R (Cv R h1 h2 hx wb hr) hd he ud
  ·rename_i el x' h1 h2 hx;split at hk
   ·rename_i h3;split at hk
    ·injection hk with hk;subst hk;exact pF R (Jv R h1 h3 h2 hx wb hr) hd he ud
    ·cases hk
   ·cases hk
  ·cases hk
 case makeSlice t L C =>
  split at hk
  ·rename_i el l c ht hl hc;split at hk
   ·rename_i z i hz hi;split at hk
    ·rename_i ia;cases hk;cases ka:o.dst with
     |none =>
      simp only[K.run]at hr;split at hr
      ·split at hr
       ·injection hr with hr;injection hr with h1 h2;subst h1;subst h2;simp[aD.eff,ka]at he
       ·cases hr
      ·cases hr
     |some d=>exact fd d ka (op_mks R ht hi hz ia.1 hl hc wb ka (hd d ka) (hD d ka rfl) hr he)
    ·cases hk
   ·cases hk
  ·cases hk
 case slice t X L H M =>
  split at hk
  ·rename_i x' l h m hx hl hh hm;split at hk
   ·rename_i ht;cases hk;cases M with
    |none=>injection hm with hm;subst hm;exact pF R (Lo R (str:=true) ht hx hl hh wb hr) hd he ud
    |some M=>simp only[JY]at hm;obtain⟨m',_,rfl⟩:=GF hm;simp[K.run]at hr
   ·rename_i el ht;split at hk
    ·rename_i cq;obtain⟨z,hz,rfl⟩:=GF hk;rw[yg]at cq;simp[K.run]at hr
    ·obtain ⟨z,hz,rfl⟩:=GF hk;cases M with
     |none=>injection hm with hm;subst hm;exact pF R (Lo R (str:=false) ⟨el,ht,hz⟩ hx hl hh wb hr) hd he ud
     |some M=>simp only[JY]at hm;obtain⟨m',_,rfl⟩:=GF hm;simp[K.run]at hr
   ·rename_i n' el ht;cases M with
    |none =>
     injection hm with hm;subst hm;obtain⟨z,hz,rfl⟩:=GF hk;exact pF R (Hv R ht hz hx hl hh wb hr) hd he ud
    |some M=>simp only[JY]at hm;obtain⟨m',_,rfl⟩:=GF hm;cases hk
   ·cases hk
  ·cases hk
 case fieldAddr t X i =>
  split at hk
  ·rename_i fs x' ht hx;split at hk
   ·rename_i f hf;split at hk
    ·rename_i n hn;injection hk with hk;subst hk;exact pF R (Af R ht hf hn hx wb hr) hd he ud
    ·cases hk
   ·cases hk
  ·cases hk
 case field t X i =>
  split at hk
  ·rename_i fs x' ht hx;split at hk
   ·rename_i f hf;split at hk
    ·rename_i ag z hA hz;injection hk with hk;subst hk;exact pF R (Sf R ht hf hA hz hx wb hr) hd he ud
    ·cases hk
   ·cases hk
  ·cases hk
 case indexAddr t X I =>
  split at hk
  ·rename_i el x' i' ht hx hi;obtain⟨z,hz,rfl⟩:=GF hk;exact pF R (Df R ht hz hx hi wb hr) hd he ud
  ·rename_i n' e x' i' ht hx hi;obtain⟨z,hz,rfl⟩:=GF hk;exact pF R (Pf R ht hz hx hi wb hr) hd he ud
  ·cases hk
 case index t X I =>
  split at hk
  ·rename_i x' i' ht hx hi;cases hk;exact pF R (Ff R ht hx hi wb hr) hd he ud
  ·cases hk
 case makeMap t r =>
  split at hk
  ·rename_i kT eT ht;obtain ⟨ty,lc,rfl⟩:=GF hk;simp only [K.run] at hr;injection hr with hr; injection hr with h1 h2; subst h1; subst h2;cases ka:o.dst with
   |none=>simp[aD.eff,ka]at he
   |some d =>
    simp only[aD.eff,ka]at he;cases he;have h:=op_mkm R wb ka (hd d ka) (hD d ka rfl);exact fd d ka h
  ·cases hk
 case entry X =>
  obtain⟨x',hx,rfl⟩:=GF hk;simp[K.run]at hr
 case range t X =>
  split at hk
  ·rename_i kT eT ht;obtain⟨x',hx,rfl⟩:=GF hk;simp[K.run]at hr
  ·cases hk
 case lookup t X I ok =>
  split at hk
  ·rename_i kT eT x' i' ht hx hi;split at hk
   ·rename_i ty z lc hz;cases hk;simp only [K.run] at hr;split at hr
    ·rename_i t' n ue;split at hr
     ·rename_i L hL;split at hr
      ·rename_i ia;injection hr with hr; injection hr with h1 h2; subst h1; subst h2;unfold LZ at lc;split at lc
       ·rename_i kk ad;cases lc;exact pF R ⟨rfl,MZ R (XW kk) (B5 ad) ht hz ia.2.2 hx hi wb ue hL ia.1 ia.2.1⟩ hd he ud
       ·rename_i ad;cases lc;exact pF R ⟨rfl,MZ R CW (N5 ad) ht hz ia.2.2 hx hi wb ue hL ia.1 ia.2.1⟩ hd he ud
       ·obtain ⟨l,_,lc⟩:=yh.1 lc;split at lc
        ·rename_i ko;cases lc;exact pF R ⟨rfl,MZ R (ZW l) (C5 ko.1) ht hz ia.2.2 hx hi wb ue hL ia.1 ia.2.1⟩ hd he ud
        ·cases lc
      ·cases hr
     ·cases hr
    ·cases hr
   ·cases hk
  ·cases hk
 case mapUpdate t X I Y =>
  split at hk
  ·rename_i kT eT x' i' y' ht hx hi hy;obtain ⟨ty,lc,rfl⟩:=GF hk;simp only [K.run] at hr;split at hr
   ·rename_i t' n ue;split at hr
    ·rename_i L hL;split at hr
     ·rename_i ia;injection hr with hr;injection hr with h1 h2;subst h1;subst h2;simp only[aD.eff]at he;cases he;have key:∃w',(execOp a.eval o).run P w=.ok .skip w'/\SG P O nt B F0 aa w0 D ((s.setObj t' n (xL (DK L (i'.get s) (y'.get s)))).put o.dst ⟨.undef,.no⟩) (a.put o.dst undef) w':=by
       unfold LZ at lc;split at lc
       ·rename_i kk ad;cases lc;exact fQ R (XW kk) (B5 ad) ht hx hi hy (.inl wb) hd ue hL ia.1 ia.2.1 ia.2.2
       ·rename_i ad;cases lc;exact fQ R CW (N5 ad) ht hx hi hy (.inl wb) hd ue hL ia.1 ia.2.1 ia.2.2
       ·obtain ⟨l,_,lc⟩:=yh.1 lc;split at lc
        ·rename_i ko;cases lc;exact fQ R (ZW l) (C5 ko.1) ht hx hi hy (.inl wb) hd ue hL ia.1 ia.2.1 ia.2.2
        ·cases lc
      obtain⟨w',oa,hR⟩:=key;unfold Oper.wp;rw[oa,Oper.upon_skip];simp_all
     ·cases hr
    ·cases hr
   ·cases hr
  ·cases hk
 case insert t X I Y =>
  split at hk
  ·rename_i kT eT x' i' y' ht hx hi hy;obtain ⟨ty,lc,rfl⟩:=GF hk;simp only [K.run] at hr;split at hr
   ·rename_i t' n ue;split at hr
    ·rename_i L hL;split at hr
     ·rename_i ia;injection hr with hr;injection hr with h1 h2;subst h1;subst h2;simp only[aD.eff]at he;cases he;have key:∃w',(execOp a.eval o).run P w=.ok .skip w'/\SG P O nt B F0 aa w0 D ((s.setObj t' n (xL (DK L (i'.get s) (y'.get s)))).put o.dst ⟨.undef,.no⟩) (a.put o.dst undef) w':=by
       unfold LZ at lc;split at lc
       ·rename_i kk ad;cases lc;exact fQ R (XW kk) (B5 ad) ht hx hi hy (.inr wb) hd ue hL ia.1 ia.2.1 ia.2.2
       ·rename_i ad;cases lc;exact fQ R CW (N5 ad) ht hx hi hy (.inr wb) hd ue hL ia.1 ia.2.1 ia.2.2
       ·obtain ⟨l,_,lc⟩:=yh.1 lc;split at lc
        ·rename_i ko;cases lc;exact fQ R (ZW l) (C5 ko.1) ht hx hi hy (.inr wb) hd ue hL ia.1 ia.2.1 ia.2.2
        ·cases lc
      obtain⟨w',oa,hR⟩:=key;unfold Oper.wp;rw[oa,Oper.upon_skip];simp_all
     ·cases hr
    ·cases hr
   ·cases hr
  ·cases hk
 case extract X i=>obtain⟨y,hy,rfl⟩:=GF hk;exact pF R (val_ext R hy wb hr) hd he ud
 case call c =>
  obtain⟨callee,xs,ts⟩:=c;cases callee with
  |invoke r m=>cases hk
  |value f =>
   cases f with
   |func f =>
    have plain:(FI xs.toList).map (.call cl f)=some k->o.wp P a w Kn Q:=fun hk=>by
     obtain⟨ys,hy,rfl⟩:=GF hk;exact op_call R kb hy wb hd (fun d h=>hD d h rfl) hr he hK
    cases mu with
    |none=>exact plain hk
    |some b =>
     cases b with
     |true =>
      obtain⟨ys,hy,rfl⟩:=GF (show(FI xs.toList).map (.uB cl f)=some k from hk);exact Hx R kb hy wb hd hr he hK
     |false =>
      have sf:(match P.funcs[f]? with
       |some fn=>(match fn.resultTypes.toList with
        | [t]=>(match P.underlying t with
         |some (.slice e)=>(match CE P e,FI xs.toList with
          |some z,some xs=>if 0<z then some (K.sB cl f z xs)else none
          |_,_=>none)
         |_=>none)
        |_=>none)
       |none=>none)=some k:=hk
      clear hk;split at sf
      ·split at sf
       ·split at sf
        ·split at sf
         ·rename_i z ys hz hy;split at sf
          ·rename_i gc;injection sf with sf;subst sf;simp[K.run]at hr
          ·cases sf
         ·cases sf
        ·cases sf
       ·cases sf
      ·cases sf
   |tmp tf =>
    obtain⟨ys,hy,rfl⟩:=GF hk;exact Jx R kb hy wb hd hr he hK
   |_=>cases hk
  |builtin b =>
  cases b
  case len =>
   simp only at hk;split at hk
   ·rename_i x' t hx xt;have hts:ts=#[t]:=by have h0:=congrArg List.toArray xt; rwa [Y07] at h0
    subst hts;obtain⟨X,hX,ci⟩:=Xi hx;subst hX;split at hk
    ·rename_i ht;injection hk with hk;subst hk;exact pF R (Ko R (str:=true) ht ci wb hr) hd he ud
    ·rename_i el ht;injection hk with hk;subst hk;exact pF R (Ko R (str:=false) ⟨el,ht⟩ ci wb hr) hd he ud
    ·rename_i kT eT ht;cases hk;simp[K.run]at hr
    ·cases hk
   ·cases hk
  case clear =>
   simp only at hk;split at hk
   ·rename_i x' t hx xt;have hts:ts=#[t]:=by have h0:=congrArg List.toArray xt; rwa [Y07] at h0
    subst hts;obtain⟨X,hX,ci⟩:=Xi hx;subst hX;split at hk
    ·rename_i el ht;obtain⟨z,hz,rfl⟩:=GF hk;simp[K.run]at hr
    ·cases hk
   ·cases hk
  case max =>
   simp only at hk;split at hk
   ·rename_i X Y oc;have hX:xs=#[X,Y]:=by rw [<- Y07 (xs:=xs),oc]
    subst hX;split at hk
    ·rename_i x' y' hx hy;injection hk with hk;subst hk;simp only[K.run]at hr;obtain⟨v,hv,hr⟩:=GF hr;injection hr with h1 h2;subst h1;subst h2;exact pF R ⟨rfl,Lv R (mx:=true) hx hy wb hv⟩ hd he ud
    ·cases hk
   ·cases hk
  case min =>
   simp only at hk;split at hk
   ·rename_i X Y oc;have hX:xs=#[X,Y]:=by rw [<- Y07 (xs:=xs),oc]
    subst hX;split at hk
    ·rename_i x' y' hx hy;injection hk with hk;subst hk;simp only[K.run]at hr;obtain⟨v,hv,hr⟩:=GF hr;injection hr with h1 h2;subst h1;subst h2;exact pF R ⟨rfl,Lv R (mx:=false) hx hy wb hv⟩ hd he ud
    ·cases hk
   ·cases hk
  case append =>
   simp only at hk;split at hk
   ·rename_i x' y' t t' hx xt;split at hk
    ·rename_i htt';subst htt';have hts:ts=#[t,t]:=by have h0:=congrArg List.toArray xt; rwa [Y07] at h0
     subst hts;obtain⟨X,Y,hX,ci,nk⟩:∃X Y,xs=#[X,Y]/\pA X=some x'/\pA Y=some y':=by
      obtain⟨l⟩:=xs;have key:∀{r:List Operand}{ys:List EE},FI r=some ys->r.length=ys.length/\∀j (h:j<r.length),pA r[j]=ys[j]?:=by
       intro r
       induction r with
       |nil=>intro ys h;injection h with h;subst h;exact⟨rfl,fun j h=>by simp at h⟩
       |cons X r ih =>
        intro ys h;unfold FI at h
        grind
      obtain⟨h1,h2⟩:=key hx
      match l,h1,h2 with
      | [X,Y],_,h2=>exact⟨X,Y,rfl,h2 0 (by simp),h2 1 (by simp)⟩
     subst hX;split at hk
     ·rename_i el ht;split at hk
      ·rename_i i z hi hz;split at hk
       ·rename_i ia;injection hk with hk;cases mu with
        |some m =>
         cases ka:o.dst with
         |none=>exact absurd ka (mo (by simp))
         |some d =>
          cases m with
          |true =>
           cases nest with
           |true=>simp only[if_true]at hk;subst hk;exact fd d ka (I6 R ht hi hz ia.1 ia.2 ci nk wb ka (hd d ka) (hD d ka rfl) hr he)
           |false=>simp only[yM,if_false]at hk;subst hk;exact fd d ka (op_appm R ht hi hz ia.1 ia.2 ci nk wb ka (hd d ka) (hD d ka rfl) hr he)
          |false=>simp only at hk;subst hk;exact fd d ka (Zi R ht hi hz ia.1 ia.2 ci nk wb ka (hd d ka) (hD d ka rfl) hr he)
        |none =>
        simp only at hk;subst hk;cases ka:o.dst with
        |none =>
         have:∃A,e=.app A 0:=by
          simp only[K.run]at hr
          grind
         obtain⟨A,rfl⟩:=this;simp[aD.eff,ka]at he
        |some d=>exact Fc (op_app R ht hi hz ia.1 ia.2 ci nk wb ka (hd d ka) hr he) ud
       ·cases hk
      ·cases hk
     ·cases hk
    ·cases hk
   ·cases hk
  all_goals cases hk
 case makeFunc fn fs Xs =>
  cases fn with
  |func f =>
   simp only at hk;split at hk
   ·rename_i h0;obtain⟨ys,hy,rfl⟩:=GF hk;exact pF R (val_mkf R h0 hy wb hr) hd he ud
   ·cases hk
  |_=>cases hk
 all_goals cases hk
end
end
section
section
variable {call:sE} {s s' s1 s2:LC}
inductive Tr where
 |id
 |row (t n:Nat) (r:List SC)
 |an (A:An) (d:Nat)
 |obj (t n:Nat) (S:AV)
 |rn (k:Option (Nat×Nat)) (t n:Nat) (r:List SC)
 |bB (t n:Nat) (S:AV) (d m:Nat) (r:List SC)
def Tr.ap:Tr->LC->LC
 |.id,s=>s
 |.row t n r,s=>s.setRow t n r
 |.an A d,s=>(s.zB A).strip d
 |.obj t n S,s=>s.setObj t n S
 |.rn k t n r,s=>(s.zA k).setRow t n r
 |.bB t n S d m r,s=>(s.setObj t n S).setRow d m r
def Tr.f:Tr->An->An
 |.an A d,x=>match A with
  |.own k _=>(x.strip k).strip d
  |_=>x.strip d
 |_,x=>x
theorem Tr.ends (T:Tr):M6 T.f:=by
 cases T with
 |an A d =>
  have h:∀k j e,(An.own j e).strip k≠.ex:=fun k j e=>by simp only[An.strip];split<;>simp
  have h':∀k k' j e,((An.own j e).strip k).strip k'≠.ex:=fun k k' j e=>by
   by_cases hj:j=k
   ·simp[An.strip,hj]
   ·rw[show(An.own j e).strip k=An.own j e from if_neg hj];exact h k' j e
  cases A with
  |own k e=>exact⟨rfl,rfl,fun j e=>h' k d j e⟩
  |no=>exact⟨rfl,rfl,fun j e=>h d j e⟩
  |ex=>exact⟨rfl,rfl,fun j e=>h d j e⟩
 |_=>exact⟨rfl,rfl,fun _ _ h=>by cases h⟩
theorem Tr.nB (A:An)(d:Nat)(s:LC):(Tr.an A d).ap s=s.eA (Tr.an A d).f:=by
 cases A with
 |own k e=>simp[Tr.ap,LC.zB,LC.strip,LC.eA,SC.strip,Tr.f,Function.comp_def]
 |no=>rfl
 |ex=>rfl
def aD.CA (call:sE)(o:aD)(s:LC):Option (SC×uG) :=
 match o.guard with
 |none=>o.op.run call s
 |some (t,want)=>match(s.env t).v with
  |.bool b=>if b=want then o.op.run call s else some (⟨.fA [],.no⟩,.none)
  |.fA []=>some (⟨.fA [],.no⟩,.none)
  |_=>none
def aD.kA (o:aD)(next:Nat):SC×uG->Option (Tr×SC)
 |(x,.none)=>some (.id,x)
 |(x,.new r)=>match o.dst with
  |none=>none
  |some d=>some (.row d next r,⟨match x.v with|.ref _ _ sz off l c=>.ref d next sz off l c|_=>.ptr d next 0,.no⟩)
 |(x,.set t n r)=>some (.row t n r,x)
 |(x,.app a _)=>match o.dst with
  |none=>none
  |some d=>some (.an a d,⟨x.v,match x.a with|.own _ e=>.own d e|a=>a⟩)
 |(x,.obj t n S)=>some (.obj t n S,x)
 |(x,.mk S)=>match o.dst with
  |none=>none
  |some d=>some (.obj d next S,⟨x.v.named d next,.no⟩)
 |(x,.bB t n S r)=>match o.dst with
  |none=>none
  |some d=>some (.bB t n S d next r,⟨match x.v with|.ref _ _ sz off l c=>.ref d next sz off l c|_=>.ptr d next 0,.no⟩)
 |(x,.rn k r)=>match o.dst with
  |none=>none
  |some d=>some (.rn k d next r,⟨match x.v with|.ref _ _ sz off l c=>.ref d next sz off l c|_=>.ptr d next 0,.no⟩)
theorem mL (o:aD)(s:LC):o.step call s=(o.CA call s).bind fun p=>(o.kA s.next p).map fun q=>(q.1.ap s).put o.dst q.2:=by
 have h:∀p,o.eff s p=(o.kA s.next p).map fun q=>(q.1.ap s).put o.dst q.2:=by
  rintro⟨x,e⟩;cases e with
  |none=>rfl
  |new r=>simp only[aD.eff,aD.kA];cases o.dst<;>rfl
  |set t n r=>rfl
  |app a k=>simp only[aD.eff,aD.kA];cases o.dst<;>rfl
  |obj t n S=>rfl
  |mk S=>simp only[aD.eff,aD.kA];cases o.dst<;>rfl
  |rn k r=>simp only[aD.eff,aD.kA];cases o.dst<;>rfl
  |bB t n S r=>simp only[aD.eff,aD.kA];cases o.dst<;>rfl
 have hf:o.eff s=fun p=>(o.kA s.next p).map fun q=>(q.1.ap s).put o.dst q.2:=funext h
 unfold aD.step aD.CA;rw[<- hf];cases o.guard with
 |none=>rfl
 |some p =>
  obtain⟨t,want⟩:=p;simp only;generalize(s.env t).v=y;cases y with
  |bool b=>simp only;split<;>rfl
  |fA l=>cases l<;>rfl
  |_=>rfl
theorem rR (k:K){x:SC}{e:uG}(h:k.run call s=some (x,e)):match e with
    |.none=>True
    |.new _=>O9 k=true
    |.set t _ _=>isS k=true/\∃c,k.cl=some c/\c.TA t=true
    |.app _ _=>Kf k=true
    |.obj _ _ _=>RW k=true/\Fl k=false
    |.mk _=>RW k=true/\Fl k=false
    |.rn _ _=>Pl k=true
    |.bB _ _ _ _=>RW k=true/\Fl k=false/\O9 k=true:=by
  have hn:e=.none->(match e with
    |.none=>True
    |.new _=>O9 k=true
    |.set t _ _=>isS k=true/\∃c,k.cl=some c/\c.TA t=true
    |.app _ _=>Kf k=true
    |.obj _ _ _=>RW k=true/\Fl k=false
    |.mk _=>RW k=true/\Fl k=false
    |.rn _ _=>Pl k=true
    |.bB _ _ _ _=>RW k=true/\Fl k=false/\O9 k=true):=fun h=>by subst h;trivial
  cases k with
  |mA nt x xs=>cases h
  |XA x=>cases h
  |ent x=>cases h
  |slz x=>cases h
  |fC x=>cases h
  |alloc z=>simp only[K.run]at h;injection h with h;injection h with _ h;subst h;rfl
  | box z x =>
    simp only[K.run]at h;split at h<;>split at h<;>first|(cases h;done)|(injection h with h;injection h with _ h;subst h;rfl)
  | PC z b zs l c =>
    simp only[K.run]at h;split at h
    · split at h
      · injection h with h;injection h with _ h;subst h;rfl
      · cases h
    · cases h
  |clr cl z x=>cases h
  | store cl g z x y =>
    simp only[K.run]at h;split at h
    · split at h
      · rename_i t n off _ wa
        obtain⟨r,_,h⟩:=yq.1 h;injection h with _ h;subst h;exact⟨rfl,cl,rfl,wa⟩
      · cases h
    · cases h
  | app cl e z b x y =>
    simp only[K.run]at h;split at h
    · split at h
      · split at h
        · cases h
        · split at h
          · injection h with h;injection h with _ h;subst h;rfl
          · cases h
        · injection h with h;injection h with _ h;subst h;rfl
      · cases h
    · cases h
  | dB cl e z b x y =>
    simp only[K.run]at h;split at h
    · split at h
      · split at h
        · split at h
          · injection h with h;injection h with _ h;exact hn h.symm
          · injection h with h;injection h with _ h;subst h;rfl
        · cases h
      · cases h
    · cases h
  | RA cl e z b x y =>
    simp only[K.run]at h;split at h
    · split at h
      · split at h
        · split at h
          · injection h with h;injection h with _ h;exact hn h.symm
          · injection h with h;injection h with _ h;subst h;rfl
        · cases h
      · cases h
    · split at h
      · split at h
        · injection h with h;injection h with _ h;subst h;rfl
        · cases h
      · cases h
    · cases h
  | jB cl e z b x y =>
    simp only[K.run]at h;split at h
    · split at h
      · split at h
        · injection h with h;injection h with _ h;subst h;rfl
        · cases h
      · cases h
    · split at h
      · split at h
        · injection h with h;injection h with _ h;subst h;rfl
        · cases h
      · cases h
    · cases h
  | SB sz z n ps =>
    simp only[K.run]at h;split at h
    · injection h with h;injection h with _ h;subst h;rfl
    · cases h
  |bad=>simp only[K.run]at h;cases h
  |OC=>simp only[K.run]at h;injection h with h;injection h with _ h;subst h;exact⟨rfl,rfl⟩
  |mkb T e=>simp only[K.run]at h;injection h with h;injection h with _ h;subst h;exact⟨rfl,rfl⟩
  | LB ok ty z x k =>
    simp only[K.run]at h;split at h
    · split at h
      · split at h
        · injection h with h;injection h with _ h;exact hn h.symm
        · cases h
      · cases h
    · cases h
  | HB ty x k v =>
    simp only[K.run]at h;split at h
    · split at h
      · split at h
        · injection h with h;injection h with _ h;subst h;exact⟨rfl,rfl⟩
        · cases h
      · cases h
    · cases h
  |rC x=>cases h
  |mv x=>simp only[K.run]at h;injection h with h;injection h with _ h;exact hn h.symm
  | pick c a b =>
    simp only[K.run]at h;split at h
    · injection h with h;injection h with _ h;exact hn h.symm
    · cases h
  | build z ps =>
    simp only[K.run]at h;split at h
    · obtain⟨r,_,h⟩:=yq.1 h;injection h with _ h;exact hn h.symm
    · cases h
  | IA z n ps =>
    simp only[K.run]at h;split at h
    · injection h with h;injection h with _ h;exact hn h.symm
    · cases h
  | load cl g z x =>
    simp only[K.run]at h;split at h
    · split at h
      · obtain⟨r,_,h⟩:=yq.1 h;injection h with _ h;exact hn h.symm
      · cases h
    · split at h
      · cases h
      · obtain⟨r,_,h⟩:=yq.1 h;injection h with _ h;exact hn h.symm
    · split at h
      · cases h
      · obtain⟨r,_,h⟩:=yq.1 h;injection h with _ h;exact hn h.symm
    · cases h
  |mm b x y=>simp only[K.run]at h;obtain⟨r,_,h⟩:=yq.1 h;injection h with _ h;exact hn h.symm
  |bin op b x y=>simp only[K.run]at h;obtain⟨r,_,h⟩:=yq.1 h;injection h with _ h;exact hn h.symm
  | QC n ks x y =>
    simp only[K.run]at h;split at h
    · obtain⟨r,_,h⟩:=yq.1 h;injection h with _ h;exact hn h.symm
    · cases h
  | jC n p x y =>
    simp only[K.run]at h;split at h<;>first|(cases h;done)|(obtain⟨r,_,h⟩:=yq.1 h;injection h with _ h;exact hn h.symm)
  | un op x =>
    simp only[K.run]at h;split at h<;>first|(cases h;done)|(injection h with h;injection h with _ h;exact hn h.symm)
  | conv o x =>
    simp only[K.run]at h;split at h<;>first|(cases h;done)|(injection h with h;injection h with _ h;exact hn h.symm)
  | nC st z x lo hi mx =>
    cases mx with
    |some m=>simp[K.run]at h
    | none =>
      simp only[K.run]at h;split at h
      · cases h
      · split at h<;>first
          |(cases h;done)
          | (split at h
             · split at h
               · (try split at h)<;>(injection h with h;injection h with _ h;exact hn h.symm)
               · cases h
             · cases h)
  | PA o x =>
    simp only[K.run]at h;split at h<;>first|(cases h;done)|(injection h with h;injection h with _ h;exact hn h.symm)
  | field g o z x =>
    simp only[K.run]at h;split at h
    · obtain⟨r,_,h⟩:=yq.1 h;injection h with _ h;exact hn h.symm
    · cases h
  | PB l z x i =>
    simp only[K.run]at h;split at h
    · split at h
      · split at h<;>first|(cases h;done)|(injection h with h;injection h with _ h;exact hn h.symm)
      · cases h
    · cases h
  | aB z x i =>
    simp only[K.run]at h;split at h
    · split at h
      · obtain⟨r,_,h⟩:=yh.1 h;split at h<;>first|(cases h;done)|(injection h with h;injection h with _ h;exact hn h.symm)
      · obtain⟨r,_,h⟩:=yh.1 h;split at h<;>first|(cases h;done)|(injection h with h;injection h with _ h;exact hn h.symm)
      · split at h<;>first|(cases h;done)|(injection h with h;injection h with _ h;exact hn h.symm)
      · cases h
    · cases h
  | index x i =>
    simp only[K.run]at h;split at h
    · obtain⟨r,_,h⟩:=yq.1 h;injection h with _ h;exact hn h.symm
    · cases h
  | ext x i =>
    simp only[K.run]at h;split at h
    · obtain⟨r,_,h⟩:=yq.1 h;injection h with _ h;exact hn h.symm
    · cases h
  | call cl f xs =>
    simp only[K.run]at h;obtain⟨vs,_,h⟩:=yh.1 h;split at h
    · obtain ⟨r,_,h⟩:=yh.1 h
      split at h
      · split at h<;>first|(cases h;done)|(injection h with h;injection h with _ h;exact hn h.symm)
      · split at h<;>first|(cases h;done)|(injection h with h;injection h with _ h;subst h;exact⟨rfl,rfl⟩)
    · obtain ⟨r,_,h⟩:=yh.1 h
      split at h
      · cases h
      · split at h<;>first|(cases h;done)|(injection h with h;injection h with _ h;subst h;exact⟨rfl,rfl⟩)
    · cases h
  |sB cl f z xs=>cases h
  | LA cl f z xs =>
    simp only[K.run]at h;split at h
    · obtain ⟨r,_,h⟩:=yh.1 h
      split at h
      · split at h
        · split at h
          · injection h with h;injection h with _ h;exact hn h.symm
          · split at h
            · cases h
            · injection h with h;injection h with _ h;subst h;rfl
        · cases h
      · cases h
    · cases h
  | nA cl f z L x xs =>
    simp only[K.run]at h;split at h
    · split at h
      · split at h
        · split at h
          · split at h
            · obtain ⟨r,_,h⟩:=yh.1 h
              split at h
              · split at h
                · injection h with h;injection h with _ h;subst h;rfl
                · cases h
              · cases h
            · cases h
          · cases h
        · split at h
          · obtain ⟨r,_,h⟩:=yh.1 h
            split at h
            · split at h
              · injection h with h;injection h with _ h;subst h;rfl
              · cases h
            · cases h
          · cases h
        · cases h
      · cases h
    · cases h
  | bA cl f xs =>
    simp only[K.run]at h;split at h
    · obtain ⟨r,_,h⟩:=yh.1 h
      split at h
      · split at h
        · injection h with h;injection h with _ h;exact hn h.symm
        · cases h
      · cases h
    · cases h
  | uB cl f xs =>
    simp only[K.run]at h;split at h
    · split at h
      · rename_i wa
        split at h
        · split at h
          · obtain ⟨q,_,h⟩:=yh.1 h
            split at h
            · split at h
              · injection h with h; injection h with _ h; subst h
                exact⟨rfl,cl,rfl,wa⟩
              · cases h
            · cases h
          · cases h
        · cases h
      · cases h
    · cases h
  | GB x =>
    simp only[K.run]at h;split at h<;>first|(cases h;done)|(injection h with h;injection h with _ h;exact hn h.symm)
  | eC cl x =>
    simp only[K.run]at h;split at h
    · obtain⟨r,_,h⟩:=yq.1 h;injection h with _ h;exact hn h.symm
    · cases h
  | tC cl l z x lo hi =>
    simp only[K.run]at h;split at h
    · split at h
      · split at h
        · split at h<;>(injection h with h;injection h with _ h;exact hn h.symm)
        · cases h
      · cases h
    · cases h
  | zC f xs =>
    simp only[K.run]at h;split at h
    · injection h with h;injection h with _ h;exact hn h.symm
    · cases h
  | JA cl x xs =>
    simp only[K.run]at h;split at h
    · split at h
      · obtain ⟨r,_,h⟩:=yh.1 h
        split at h
        · split at h<;>first|(cases h;done)|(injection h with h;injection h with _ h;exact hn h.symm)
        · cases h
      · cases h
    · cases h
  | len st x =>
    simp only[K.run]at h;split at h<;>first
      |(cases h;done)
      |(split at h<;>first|(cases h;done)|(injection h with h;injection h with _ h;exact hn h.symm))
  | WA x =>
    simp only[K.run]at h;split at h<;>first|(cases h;done)|(injection h with h;injection h with _ h;exact hn h.symm)
def Tr.of (T:Tr)(o:aD):Prop:=match T with
 |.id=>True
 |.row t _ _=>(O9 o.op=true/\o.dst=some t)\/(isS o.op=true/\∃c,o.op.cl=some c/\c.TA t=true)
 |.an _ d=>Kf o.op=true/\o.dst=some d
 |.obj _ _ _=>RW o.op=true/\Fl o.op=false
 |.rn ..=>Pl o.op=true
 |.bB _ _ _ d _ _=>(RW o.op=true/\Fl o.op=false/\O9 o.op=true)/\o.dst=some d
theorem X8 (o:aD){x:SC}{e:uG}(h:o.CA call s=some (x,e)){n:Nat}{T:Tr}{v:SC}(ht:o.kA n (x,e)=some (T,v)):T.of o:=by
 have key:o.op.run call s=some (x,e)\/e=.none:=by
  unfold aD.CA at h;split at h
  ·exact .inl h
  ·split at h
   ·split at h
    ·exact .inl h
    ·injection h with h;injection h with _ h;exact .inr h.symm
   ·injection h with h;injection h with _ h;exact .inr h.symm
   ·cases h
 cases e with
 |none=>simp only[aD.kA]at ht;injection ht with ht;injection ht with h1 _;subst h1;trivial
 |new r =>
  have:=rR o.op (key.resolve_right (by simp));simp only[aD.kA]at ht;split at ht
  ·cases ht
  ·rename_i d hd;injection ht with ht;injection ht with h1 _;subst h1;exact .inl ⟨this,hd⟩
 |set t n r =>
  have:=rR o.op (key.resolve_right (by simp));simp only[aD.kA]at ht;injection ht with ht;injection ht with h1 _;subst h1;exact .inr this
 |app a k =>
  have:=rR o.op (key.resolve_right (by simp));simp only[aD.kA]at ht;split at ht
  ·cases ht
  ·rename_i d hd;injection ht with ht;injection ht with h1 _;subst h1;exact⟨this,hd⟩
 |obj t n S =>
  have:=rR o.op (key.resolve_right (by simp));simp only[aD.kA]at ht;injection ht with ht;injection ht with h1 _;subst h1;exact this
 |mk S =>
  have:=rR o.op (key.resolve_right (by simp));simp only[aD.kA]at ht;split at ht
  ·cases ht
  ·injection ht with ht;injection ht with h1 _;subst h1;exact this
 |rn k r =>
  have:=rR o.op (key.resolve_right (by simp));simp only[aD.kA]at ht;split at ht
  ·cases ht
  ·injection ht with ht;injection ht with h1 _;subst h1;exact this
 |bB t n S r =>
  have:=rR o.op (key.resolve_right (by simp));simp only[aD.kA]at ht;split at ht
  ·cases ht
  ·rename_i d hd;injection ht with ht;injection ht with h1 _;subst h1;exact⟨this,hd⟩
theorem get_put {o:EE}{d:Option Nat}{x:SC}(h:∀n,o=.t n->d≠some n):o.get (s.put d x)=o.get s/\o.an (s.put d x)=o.an s:=by
 cases d with
 |none=>exact⟨rfl,rfl⟩
 |some d =>
  cases o with
  |c v=>exact⟨rfl,by cases v<;>first|rfl|(rename_i b l;cases b<;>rfl)⟩
  |t n =>
   have:n≠d:=fun e=>h n rfl (by rw[e])
   simp[EE.get,EE.an,LC.put,this]
theorem Lq {o:aD}{n:Nat}{x:EE}(h:x∈o.op.aA)(hx:x=.t n):n∈o.looks:=by
 unfold aD.looks;refine List.mem_append_left _ (List.mem_filterMap.2 ⟨x,h,?_⟩);rw[hx]
theorem cJ {x y:aD}(h:x.clear y=true):(∀n,x.dst=some n->n ∉ y.looks)/\(∀n,x.dst=some n->y.dst≠some n):=by
 unfold aD.clear at h;constructor
 ·intro n hn;rw[hn]at h;simp at h;exact h.1
 ·intro n hn;rw[hn]at h;simp at h;exact h.2
theorem QQ {y:aD}{d:Option Nat}{v:SC}(h:∀n,d=some n->n ∉ y.looks):y.CA call (s.put d v)=y.CA call s:=by
 have h1:y.op.run call (s.put d v)=y.op.run call s:=gT _ (fun o ho=>get_put fun n hn hd=>h n hd (Lq ho hn)) (fun t n _=>by cases d<;>rfl) (fun _=>by cases d<;>rfl);unfold aD.CA;rw[h1];cases hg:y.guard with
 |none=>rfl
 |some p =>
  obtain⟨t,want⟩:=p;have:t∈y.looks:=by unfold aD.looks;rw[hg];simp
  have he:((s.put d v).env t)=s.env t:=by
   cases d with
   |none=>rfl
   |some d =>
    have:t≠d:=fun e=>h d rfl (e▸this)
    simp[LC.put,this]
  simp only[he]
def Tr.off (T:Tr)(o:aD):Prop:=match T with
 |.id=>True
 |.row t _ _=>¬o.op.reads t
 |.an _ _=>Kf o.op=false
 |.obj _ _ _=>RW o.op=false
 |.rn ..=>False
 |.bB _ _ _ d _ _=>RW o.op=false/\¬o.op.reads d
def Tr.act (T:Tr)(p:SC×uG):SC×uG:=match T with
 |.an _ _=>(p.1.eA T.f,p.2.eA T.f)
 |_=>p
theorem Qo {y:aD}{T:Tr}(h:T.off y):y.CA call (T.ap s)=(y.CA call s).map T.act:=by
 cases T with
 |rn=>exact absurd h id
 |bB t n S d m r =>
  have h1:y.op.run call ((s.setObj t n S).setRow d m r)=y.op.run call s:=gT _ (fun o ho=>by
   cases o with
   |t n=>exact⟨rfl,rfl⟩
   |c v=>exact⟨rfl,by cases v<;>first|rfl|(rename_i b l;cases b<;>rfl)⟩) (fun t' n' hr=>by
   simp only[LC.setRow,LC.setObj];rw[if_neg];rintro⟨e,_⟩;exact h.2 (e▸hr)) (fun ho=>by
    have h':RW y.op=false:=h.1;rw[h']at ho;cases ho)
  have:y.CA call ((Tr.bB t n S d m r).ap s)=y.CA call s:=by
   unfold aD.CA Tr.ap;rw[h1];rfl
  have h2:(Tr.act (.bB t n S d m r):SC×uG->SC×uG)=id:=rfl;rw[this,h2,Option.map_id];rfl
 |id =>
  have:(Tr.act .id:SC×uG->SC×uG)=id:=rfl;rw[this,Option.map_id];rfl
 |row t n r =>
  have h1:y.op.run call (s.setRow t n r)=y.op.run call s:=gT _ (fun o ho=>by
   cases o with
   |t n=>exact⟨rfl,rfl⟩
   |c v=>exact⟨rfl,by cases v<;>first|rfl|(rename_i b l;cases b<;>rfl)⟩) (fun t' n' hr=>by
   simp only[LC.setRow];rw[if_neg];rintro⟨e,_⟩;exact h (e▸hr)) (fun _=>rfl)
  have:y.CA call ((Tr.row t n r).ap s)=y.CA call s:=by
   unfold aD.CA Tr.ap;rw[h1];rfl
  have h2:(Tr.act (.row t n r):SC×uG->SC×uG)=id:=rfl;rw[this,h2,Option.map_id];rfl
 |obj t n S =>
  have h1:y.op.run call (s.setObj t n S)=y.op.run call s:=gT _ (fun o ho=>by
   cases o with
   |t n=>exact⟨rfl,rfl⟩
   |c v=>exact⟨rfl,by cases v<;>first|rfl|(rename_i b l;cases b<;>rfl)⟩) (fun t' n' hr=>rfl) (fun ho=>by
    have h':RW y.op=false:=h;rw[h']at ho;cases ho)
  have:y.CA call ((Tr.obj t n S).ap s)=y.CA call s:=by
   unfold aD.CA Tr.ap;rw[h1];rfl
  have h2:(Tr.act (.obj t n S):SC×uG->SC×uG)=id:=rfl;rw[this,h2,Option.map_id];rfl
 |an A d =>
  rw[Tr.nB];have h1:=Hd (call:=call) (s:=s) (Tr.ends (.an A d)) y.op h;unfold aD.CA;rw[h1];cases y.guard with
  |none=>rfl
  |some p =>
   obtain⟨t,want⟩:=p;simp only[LC.eA];generalize(s.env t).v=y;cases y with
   |bool b =>
    simp only;split
    ·rfl
    ·simp[Tr.act,SC.eA,uG.eA,(Tr.ends (.an A d)).no]
   |fA l=>cases l<;>simp[Tr.act,SC.eA,uG.eA,(Tr.ends (.an A d)).no]
   |_=>rfl
theorem U8 {x y:aD}(h:PK x y=true):PK y x=true:=by
 unfold PK at h ⊢;simp only[yg]at h ⊢;obtain⟨⟨⟨⟨⟨⟨⟨m1,m2⟩,h1⟩,h0⟩,h2⟩,h3⟩,h4⟩,h5⟩:=h;refine⟨⟨⟨⟨⟨⟨⟨m2,m1⟩,by rw[Bool.or_comm];exact h1⟩,by rw[Bool.or_comm (!RW y.op),Bool.and_comm];exact h0⟩,?_⟩,h4⟩,h3⟩,?_⟩
 ·cases hc:x.op.cl with
  |none=>cases y.op.cl<;>rfl
  |some c =>
   cases hd:y.op.cl with
   |none=>rfl
   |some d =>
    rw[hc,hd]at h2;simp only[Bool.or_eq_true]at h2 ⊢;refine h2.imp (fun h=>by rw[Bool.or_comm];exact h) fun h=>?_
    cases c<;>cases d<;>first|rfl|exact h|(simp at h ⊢;exact fun e=>h e.symm)|(simp at h)
 ·simp only [Bool.or_eq_true] at h5 ⊢;rcases h5 with (h | h) | h
  ·exact .inl (.inr h)
  ·exact .inl (.inl h)
  ·exact .inr (by simp at h ⊢;exact fun e=>h e.symm)
theorem Dx {T:Tr}{x y:aD}(h:T.of x)(wa:PK x y=true):T.off y:=by
 unfold PK at wa;simp only[yg]at wa;obtain⟨⟨⟨⟨⟨⟨⟨m1,m2⟩,h1⟩,h0⟩,h2⟩,h3⟩,h4⟩,h5⟩:=wa;cases T with
 |id=>trivial
 |rn k t n r =>
  have h':Pl x.op=true:=h;rw[h']at m1;cases m1
 |bB t n S d m r =>
  obtain⟨⟨g1,g2,ha⟩,hd⟩:=h;rw[g1,g2]at h0;refine⟨by simpa using h0,fun hr=>?_⟩;unfold K.reads at hr;rw[ha,hd]at h3;cases ge:y.op.cl with
  |none=>rw[ge]at hr;exact hr
  |some c =>
   rw[ge]at hr h3;cases c with
   |any=>simp at h3
   |KB=>exact hr
   |root r=>simp at h3;exact h3 hr
   |out L=>simp only[Bool.not_true,Bool.false_or]at h3 hr;rw[h3]at hr;cases hr
 |an A d =>
  have:=h.1;rw[this]at h1;show Kf y.op=false;simpa using h1
 |obj t n S =>
  obtain⟨g1,g2⟩:RW x.op=true/\Fl x.op=false:=h;rw[g1,g2]at h0;show RW y.op=false;simpa using h0
 |row t n r =>
  intro hr;unfold K.reads at hr;rcases h with⟨ha,hd⟩|⟨hs,hc⟩
  ·rw [ha,hd] at h3;cases ge:y.op.cl with
   |none=>rw[ge]at hr;exact hr
   |some c =>
    rw[ge]at hr h3;cases c with
    |any=>simp at h3
    |KB=>exact hr
    |root r=>simp at h3;exact h3 hr
    |out L=>simp only[Bool.not_true,Bool.false_or]at h3 hr;rw[h3]at hr;cases hr
  ·cases ge:y.op.cl with
   |none=>rw[ge]at hr;exact hr
   |some c =>
    rw[ge]at hr;obtain⟨c0,hc,hp⟩:=hc;rw[hc,ge,hs]at h2;cases c0 with
    |KB=>simp[Cl.TA]at hp
    |any=>cases c<;>first|exact hr|(simp at h2)
    |root r0 =>
     simp[Cl.TA]at hp;subst hp;cases c with
     |KB=>exact hr
     |any=>simp at h2
     |root r=>simp at h2;exact h2 hr
     |out L=>simp at h2 hr;exact hr h2
    |out L0 =>
     simp[Cl.TA]at hp;cases c with
     |KB=>exact hr
     |any=>simp at h2
     |root r=>simp at h2 hr;subst hr;exact hp h2
     |out L=>simp at h2
theorem Aw {t n t' n':Nat}{r r':List SC}{x y:aD}(h:(Tr.row t n r).of x)(h':(Tr.row t' n' r').of y)(wa:PK x y=true):t≠t':=by
 unfold PK at wa;simp only[yg]at wa;obtain⟨⟨⟨⟨⟨⟨⟨m1,m2⟩,h1⟩,h0⟩,h2⟩,h3⟩,h4⟩,h5⟩:=wa;rintro rfl;rcases h with⟨ha,hd⟩|⟨hs,hc⟩<;>rcases h' with⟨px,xq⟩|⟨po,nc⟩
 ·rw[ha,px,hd,xq]at h5;simp at h5
 ·rw[ha,hd]at h3;obtain⟨c,nc,hp⟩:=nc;rw[nc]at h3;cases c<;>simp[Cl.TA]at h3 hp<;>first|exact h3 hp.symm|exact hp h3
 ·rw[px,xq]at h4;obtain⟨c,hc,hp⟩:=hc;rw[hc]at h4;cases c<;>simp[Cl.TA]at h4 hp<;>first|exact h4 hp.symm|exact hp h4
 ·obtain ⟨c,hc,hp⟩:=hc;obtain ⟨c',nc,hp'⟩:=nc;rw [hc,nc,hs] at h2;cases c <;> cases c' <;> simp [Cl.TA] at h2 hp hp'
  ·subst hp;subst hp';exact h2 rfl
  ·subst hp;exact hp' h2
  ·subst hp';exact hp h2
def Tr.MA (T:Tr):Tr->Tr
 |.row t n r=>match T with
  |.an A d=>.row t n (r.map (SC.eA (Tr.an A d).f))
  |_=>.row t n r
 |.bB t n S d m r=>match T with
  |.an A d'=>.bB t n S d m (r.map (SC.eA (Tr.an A d').f))
  |_=>.bB t n S d m r
 |T'=>T'
def Tr.wB (T:Tr)(v:SC):SC:=match T with
 |.an A d=>v.eA (Tr.an A d).f
 |_=>v
theorem A7 {T:Tr}{o:aD}{n:Nat}{p:SC×uG}{T':Tr}{v:SC}(h:o.kA n p=some (T',v))(hT:(∃A d,T=.an A d)->∀A d,T'≠.an A d)(hR:∀k t m r,T'≠.rn k t m r):o.kA n (T.act p)=some (T.MA T',T.wB v):=by
 obtain⟨x,e⟩:=p;cases T with
 |id=>rw[show Tr.id.act (x,e)=(x,e)from rfl,h];cases T'<;>rfl
 |row t m r=>rw[show(Tr.row t m r).act (x,e)=(x,e)from rfl,h];cases T'<;>rfl
 |obj t m S=>rw[show(Tr.obj t m S).act (x,e)=(x,e)from rfl,h];cases T'<;>rfl
 |rn k t m r=>rw[show(Tr.rn k t m r).act (x,e)=(x,e)from rfl,h];cases T'<;>rfl
 |bB t n S d m r=>rw[show(Tr.bB t n S d m r).act (x,e)=(x,e)from rfl,h];cases T'<;>rfl
 |an A d =>
  cases e with
  |none=>simp only[aD.kA]at h;injection h with h;injection h with h1 h2;subst h1;subst h2;rfl
  |new r =>
   simp only[aD.kA]at h;split at h
   ·cases h
   ·rename_i d' hd;injection h with h;injection h with h1 h2;subst h1;subst h2;simp only[Tr.act,aD.kA,uG.eA,hd,Tr.MA,Tr.wB,SC.eA,(Tr.ends (.an A d)).no]
  |set t m r =>
   simp only[aD.kA]at h;injection h with h;injection h with h1 h2;subst h1;subst h2;simp only[Tr.act,aD.kA,uG.eA,Tr.MA,Tr.wB,SC.eA,(Tr.ends (.an A d)).no]
  |app a k =>
   simp only[aD.kA]at h;split at h
   ·cases h
   ·injection h with h;injection h with h1 h2;subst h1;exact absurd rfl (hT ⟨A,d,rfl⟩ _ _)
  |obj t m S =>
   simp only[aD.kA]at h;injection h with h;injection h with h1 h2;subst h1;subst h2;rfl
  |mk S =>
   simp only[aD.kA]at h;split at h
   ·cases h
   ·rename_i d' hd;injection h with h;injection h with h1 h2;subst h1;subst h2;simp only[Tr.act,aD.kA,uG.eA,hd,Tr.MA,Tr.wB,SC.eA,(Tr.ends (.an A d)).no]
  |rn k r =>
   simp only[aD.kA]at h;split at h
   ·cases h
   ·injection h with h;injection h with h1 h2;exact absurd h1.symm (hR _ _ _ _)
  |bB t n S r =>
   simp only[aD.kA]at h;split at h
   ·cases h
   ·rename_i d' hd;injection h with h;injection h with h1 h2;subst h1;subst h2;simp only[Tr.act,aD.kA,uG.eA,hd,Tr.MA,Tr.wB,SC.eA,(Tr.ends (.an A d)).no]
theorem WF {d d':Option Nat}(h:∀n,d=some n->d'≠some n)(v v':SC):(s.put d v).put d' v'=(s.put d' v').put d v:=by
 cases d with
 |none=>rfl
 |some d =>
  cases d' with
  |none=>rfl
  |some d' =>
   have:d≠d':=fun e=>h d rfl (by rw[e])
   simp only[LC.put];congr 1;funext t;by_cases h1:t=d'
   ·by_cases h2:t=d
    ·exact absurd (h2.symm.trans h1) this
    ·rw[h1];simp only[if_true];rw[if_neg (fun e=>this e.symm)]
   ·simp[h1]
theorem CK (f:An->An)(d:Option Nat)(v:SC):(s.put d v).eA f=(s.eA f).put d (v.eA f):=by
 cases d with
 |none=>rfl
 |some d =>
  simp only[LC.put,LC.eA];congr 1;funext t;by_cases h:t=d<;>simp[h,SC.eA]
theorem TN (f:An->An)(t n:Nat)(r:List SC):(s.setRow t n r).eA f=(s.eA f).setRow t n (r.map (SC.eA f)):=by
 simp only[LC.setRow,LC.eA];congr 1;funext t' n';by_cases h:t'=t/\n'=n
 ·simp only[h,and_self,if_true,yB];rfl
 ·simp[h]
theorem RF (d:Option Nat)(v:SC)(t n:Nat)(r:List SC):(s.put d v).setRow t n r=(s.setRow t n r).put d v:=by cases d<;>rfl
theorem SS {t n t' n':Nat}(h:t≠t')(r r':List SC):(s.setRow t n r).setRow t' n' r'=(s.setRow t' n' r').setRow t n r:=by
 simp only[LC.setRow];congr 1;funext a b;by_cases h1:a=t'
 ·have:¬ (a=t/\b=n):=fun e=>h (e.1.symm.trans h1)
  simp[this]
 ·have:¬ (a=t'/\b=n'):=fun e=>h1 e.1
  simp[this]
theorem eH (d:Option Nat)(v:SC)(t n:Nat)(S:AV):(s.put d v).setObj t n S=(s.setObj t n S).put d v:=by cases d<;>rfl
theorem RN (f:An->An)(t n:Nat)(S:AV):(s.setObj t n S).eA f=(s.eA f).setObj t n S:=rfl
theorem iU (t n:Nat)(r:List SC)(t' n':Nat)(S:AV):(s.setRow t n r).setObj t' n' S=(s.setObj t' n' S).setRow t n r:=rfl
theorem p7 {t n:Nat}{S:AV}{d m:Nat}{r:List SC}{o:aD}(h:(Tr.bB t n S d m r).of o):(Tr.row d m r).of o:=.inl ⟨h.1.2.2,h.2⟩
theorem Hi (T:Tr)(s:LC)(d:Option Nat)(v:SC):((T.ap s).put d v).next=s.next:=by
 have:(T.ap s).next=s.next:=by
  cases T with
  |an A d=>rw[Tr.nB];rfl
  |rn k t n r=>cases k<;>rfl
  |_=>rfl
 cases d<;>exact this
theorem Xh {x y:aD}(od:dI x y=true)(wa:PK x y=true)(h1:x.step call s=some s1)(h2:y.step call s1=some s2):∃jj,y.step call s=some jj/\x.step call jj=some s2:=by
 unfold dI at od;simp only[yg]at od;obtain⟨a1,a2⟩:=cJ od.1;obtain⟨a3,a4⟩:=cJ od.2;rw[mL]at h1 h2;obtain⟨p,hp,h1⟩:=yh.1 h1;obtain⟨⟨Tx,vx⟩,hx,h1⟩:=yq.1 h1;obtain⟨q,hq,h2⟩:=yh.1 h2;obtain⟨⟨Ty,vy⟩,hy,h2⟩:=yq.1 h2;simp only at h1 h2;subst h1;have ofx:Tx.of x:=X8 x (x:=p.1) (e:=p.2) hp hx;have offy:=Dx ofx wa;rw[QQ a1,Qo offy]at hq;obtain⟨q0,hq0,rfl⟩:=yq.1 hq;rw[Hi]at hy
 -- y in the first state
 have nq:∃Ty0 vy0,y.kA s.next q0=some (Ty0,vy0):=by
  obtain⟨u,e⟩:=q0;cases e with
  |none=>exact⟨_,_,rfl⟩
  |new r =>
   cases hd:y.dst with
   |none =>
    exfalso;cases Tx<;>simp[Tr.act,aD.kA,uG.eA,hd]at hy
   |some d=>exact⟨.row d s.next r,_,by simp only[aD.kA,hd];rfl⟩
  |set t n r=>exact⟨_,_,rfl⟩
  |obj t n S=>exact⟨_,_,rfl⟩
  |mk S =>
   cases hd:y.dst with
   |none =>
    exfalso;cases Tx<;>simp[Tr.act,aD.kA,uG.eA,hd]at hy
   |some d=>exact⟨.obj d s.next S,_,by simp only[aD.kA,hd];rfl⟩
  |app a k =>
   cases hd:y.dst with
   |none =>
    exfalso;cases Tx<;>simp[Tr.act,aD.kA,uG.eA,hd]at hy
   |some d=>exact⟨.an a d,_,by simp only[aD.kA,hd];rfl⟩
  |rn k r =>
   cases hd:y.dst with
   |none =>
    exfalso;cases Tx<;>simp[Tr.act,aD.kA,uG.eA,hd]at hy
   |some d=>exact⟨.rn k d s.next r,_,by simp only[aD.kA,hd];rfl⟩
  |bB t n S r =>
   cases hd:y.dst with
   |none =>
    exfalso;cases Tx<;>simp[Tr.act,aD.kA,uG.eA,hd]at hy
   |some d=>exact⟨.bB t n S d s.next r,_,by simp only[aD.kA,hd];rfl⟩
 obtain⟨Ty0,vy0,nq⟩:=nq;have ofy:Ty0.of y:=X8 y (x:=q0.1) (e:=q0.2) hq0 nq;have offx:=Dx ofy (U8 wa);have notT:∀A d A' d',Tx=.an A d->Ty0=.an A' d'->False:=fun A d A' d' e e'=>by
  subst e;subst e';have:=ofy.1;rw[show Kf y.op=false from offy]at this;cases this
 have noM:∀{T:Tr}{o:aD},T.of o->Pl o.op=false->∀k t m r,T≠.rn k t m r:=fun h hm k t m r e=>by
  subst e;have h':Pl _=true:=h;rw[hm]at h';cases h'
 have hMx:Pl x.op=false:=by unfold PK at wa;simp only[yg]at wa;simpa using wa.1.1.1.1.1.1.1
 have hMy:Pl y.op=false:=by unfold PK at wa;simp only[yg]at wa;simpa using wa.1.1.1.1.1.1.2
 have nx:=noM ofx hMx;have ny:=noM ofy hMy;have hyc:=A7 (T:=Tx) nq (hR:=ny) (fun⟨A,d,e⟩ A' d' e'=>notT A d A' d' e e');rw[hyc]at hy;injection hy with hy;injection hy with e1 e2;subst e1;subst e2;have bq:=A7 (T:=Ty0) hx (hR:=nx) (fun⟨A,d,e⟩ A' d' e'=>notT A' d' A d e' e);refine⟨(Ty0.ap s).put y.dst vy0,by rw[mL,hq0,J,nq];rfl,?_⟩;rw[mL,QQ a3,Qo offx,hp];simp only[yB,J,Hi,bq];rw[<- h2];congr 1;have notO:∀t n S t' n' S',Tx=.obj t n S->Ty0=.obj t' n' S'->False:=fun t n S t' n' S' e e'=>by
  subst e;subst e';have h1:RW y.op=true:=ofy.1;rw[show RW y.op=false from offy]at h1;cases h1
 cases Tx with
 |rn=>exact absurd rfl (nx _ _ _ _)
 |id =>
  cases Ty0 with
  |rn=>exact absurd rfl (ny _ _ _ _)
  |bB t n S d m r=>simp only[Tr.ap,Tr.MA,Tr.wB];rw[eH,RF];exact(WF a2 _ _).symm
  |id=>exact(WF a2 _ _).symm
  |row t n r=>simp only[Tr.ap,Tr.MA,Tr.wB];rw[RF];exact(WF a2 _ _).symm
  |an A d =>
   simp only[Tr.MA,Tr.wB,Tr.nB,CK];exact(WF a2 _ _).symm
  |obj t n S=>simp only[Tr.ap,Tr.MA,Tr.wB];rw[eH];exact(WF a2 _ _).symm
 |row t n r =>
  cases Ty0 with
  |rn=>exact absurd rfl (ny _ _ _ _)
  |bB t' n' S d m r' =>
   have ua:=Aw (x:=x) (y:=y) ofx (p7 ofy) wa;simp only[Tr.ap,Tr.MA,Tr.wB];rw[RF,eH,RF,iU,SS ua];exact(WF a2 _ _).symm
  |id=>simp only[Tr.ap,Tr.MA,Tr.wB];rw[RF];exact(WF a2 _ _).symm
  |row t' n' r' =>
   simp only[Tr.ap,Tr.MA,Tr.wB];rw[RF,RF,SS (Aw ofx ofy wa)];exact(WF a2 _ _).symm
  |an A d =>
   simp only[Tr.MA,Tr.wB,Tr.nB,CK];simp only[Tr.ap,TN,RF];exact(WF a2 _ _).symm
  |obj t' n' S =>
   simp only[Tr.ap,Tr.MA,Tr.wB];rw[eH,RF];exact(WF a2 _ _).symm
 |an A d =>
  cases Ty0 with
  |rn=>exact absurd rfl (ny _ _ _ _)
  |bB t' n' S d' m r' =>
   simp only[Tr.MA,Tr.wB,Tr.nB,CK];simp only[Tr.ap,TN,RN,eH,RF];exact(WF a2 _ _).symm
  |id =>
   simp only[Tr.MA,Tr.wB,Tr.nB,CK];exact(WF a2 _ _).symm
  |row t' n' r' =>
   simp only[Tr.MA,Tr.wB,Tr.nB,CK];simp only[Tr.ap,TN,RF];exact(WF a2 _ _).symm
  |an A' d'=>exact(notT A d A' d' rfl rfl).elim
  |obj t' n' S =>
   simp only[Tr.MA,Tr.wB,Tr.nB,CK];simp only[Tr.ap,RN,eH];exact(WF a2 _ _).symm
 |obj t n S =>
  cases Ty0 with
  |rn=>exact absurd rfl (ny _ _ _ _)
  |bB t' n' S' d m r'=>exact absurd ofy.1.1 (by rw[show RW y.op=false from offy];decide)
  |id=>simp only[Tr.ap,Tr.MA,Tr.wB];rw[eH];exact(WF a2 _ _).symm
  |row t' n' r' =>
   simp only[Tr.ap,Tr.MA,Tr.wB];rw[RF,eH];exact(WF a2 _ _).symm
  |an A d =>
   simp only[Tr.MA,Tr.wB,Tr.nB,CK];simp only[Tr.ap,RN,eH];exact(WF a2 _ _).symm
  |obj t' n' S'=>exact(notO t n S t' n' S' rfl rfl).elim
 |bB t n S d m r =>
  have hyO:RW y.op=false:=offy.1;cases Ty0 with
  |rn=>exact absurd rfl (ny _ _ _ _)
  |id=>simp only[Tr.ap,Tr.MA,Tr.wB];rw[eH,RF];exact(WF a2 _ _).symm
  |row t' n' r' =>
   have ua:=Aw (x:=x) (y:=y) (p7 ofx) ofy wa;simp only[Tr.ap,Tr.MA,Tr.wB];rw[RF,eH,RF,<- iU,SS ua];exact(WF a2 _ _).symm
  |an A d' =>
   simp only[Tr.MA,Tr.wB,Tr.nB,CK];simp only[Tr.ap,TN,RN,eH,RF];exact(WF a2 _ _).symm
  |obj t' n' S'=>exact absurd ofy.1 (by rw[hyO];decide)
  |bB t' n' S' d' m' r'=>exact absurd ofy.1.1 (by rw[hyO];decide)
def Tr.kl (T:Tr)(w:SC):SC:=match T with
 |.rn (some p) _ _ _=>w.kill p.1 p.2
 |_=>w
theorem Ei {k:K}(hk:Al k=true){v:SC}{e:uG}(h:k.run call s=some (v,e)):e=.none\/(∃r,e=.new r)\/∃q r,e=.rn q r:=by
 cases k with
 |RA cl e' z b x y =>
  simp only[K.run]at h;split at h
  ·split at h
   ·split at h
    ·split at h
     ·injection h with h;injection h with _ h;exact .inl h.symm
     ·injection h with h;injection h with _ h;exact .inr (.inl ⟨_,h.symm⟩)
    ·cases h
   ·cases h
  ·split at h
   ·split at h
    ·injection h with h;injection h with _ h;exact .inr (.inr ⟨_,_,h.symm⟩)
    ·cases h
   ·cases h
  ·cases h
 |jB cl e' z b x y =>
  simp only[K.run]at h;split at h
  ·split at h
   ·split at h
    ·injection h with h;injection h with _ h;exact .inr (.inl ⟨_,h.symm⟩)
    ·cases h
   ·cases h
  ·split at h
   ·split at h
    ·injection h with h;injection h with _ h;exact .inr (.inr ⟨_,_,h.symm⟩)
    ·cases h
   ·cases h
  ·cases h
 |nA cl f z L x xs =>
  simp only[K.run]at h;split at h
  ·split at h
   ·split at h
    ·split at h
     ·split at h
      ·obtain ⟨r,_,h⟩:=yh.1 h;split at h
       ·split at h
        ·injection h with h;injection h with _ h;exact .inr (.inr ⟨_,_,h.symm⟩)
        ·cases h
       ·cases h
      ·cases h
     ·cases h
    ·split at h
     ·obtain ⟨r,_,h⟩:=yh.1 h;split at h
      ·split at h
       ·injection h with h;injection h with _ h;exact .inr (.inl ⟨_,h.symm⟩)
       ·cases h
      ·cases h
     ·cases h
    ·cases h
   ·cases h
  ·cases h
 |_=>cases hk
theorem X5 {x:aD}(hk:Al x.op=true){p:SC×uG}(hp:x.CA call s=some p){n:Nat}{T:Tr}{v:SC}(ht:x.kA n p=some (T,v)):T=.id\/(∃t m r,T=.row t m r)\/∃q t m r,T=.rn q t m r:=by
 have he:p.2=.none\/(∃r,p.2=.new r)\/∃q r,p.2=.rn q r:=by
  unfold aD.CA at hp;split at hp
  ·exact Ei hk (v:=p.1) (e:=p.2) hp
  ·split at hp
   ·split at hp
    ·exact Ei hk (v:=p.1) (e:=p.2) hp
    ·injection hp with hp;subst hp;exact .inl rfl
   ·injection hp with hp;subst hp;exact .inl rfl
   ·cases hp
 obtain⟨v0,e⟩:=p;rcases he with he|⟨r,he⟩|⟨q,r,he⟩
 ·simp only at he;subst he;injection ht with ht;injection ht with h1 _;exact .inl h1.symm
 ·simp only at he;subst he;simp only [aD.kA] at ht;split at ht
  ·cases ht
  ·injection ht with ht;injection ht with h1 _;exact .inr (.inl ⟨_,_,_,h1.symm⟩)
 ·simp only at he;subst he;simp only [aD.kA] at ht;split at ht
  ·cases ht
  ·injection ht with ht;injection ht with h1 _;exact .inr (.inr ⟨_,_,_,_,h1.symm⟩)
theorem aP {T:Tr}(h:T=.id\/(∃t m r,T=.row t m r)\/∃q t m r,T=.rn q t m r)(s:LC)(d:Nat)(w:SC):T.ap (s.put (some d) w)=(T.ap s).put (some d) (T.kl w)/\∀z,(T.ap s).env z=T.kl (s.env z):=by
 rcases h with rfl|⟨t,m,r,rfl⟩|⟨q,t,m,r,rfl⟩
 ·exact⟨rfl,fun _=>rfl⟩
 ·exact⟨rfl,fun _=>rfl⟩
 ·cases q with
  |none=>exact⟨rfl,fun _=>rfl⟩
  |some p =>
   refine⟨?_,fun _=>rfl⟩;simp only[Tr.ap,LC.zA,LC.kill,LC.put,LC.setRow,Tr.kl];congr 1;funext j;by_cases hj:j=d<;>simp[hj]
theorem Wi {y:aD}(h:Na y=true):∃d z,y=⟨d,.mv (.t z),none⟩:=by
 obtain⟨d,k,g⟩:=y;unfold Na at h;simp only at h;split at h
 ·exact⟨_,_,rfl⟩
 ·cases h
theorem R7 {x y:aD}(od:dI x y=true)(hx:Al x.op=true)(hy:Na y=true):(∀s s1 s2,x.step call s=some s1->y.step call s1=some s2->∃jj,y.step call s=some jj/\x.step call jj=some s2)/\∀s s1 s2,y.step call s=some s1->x.step call s1=some s2->∃jj,x.step call s=some jj/\y.step call jj=some s2:=by
 obtain⟨d,z,rfl⟩:=Wi hy;unfold dI at od;simp only[yg]at od;obtain⟨a1,a2⟩:=cJ od.1;obtain⟨a3,a4⟩:=cJ od.2;have hz:∀n,x.dst=some n->n≠z:=fun n hn e=>a1 n hn (by subst e;simp[aD.looks,K.aA])
 have hyr:∀s:LC,(⟨d,.mv (.t z),none⟩:aD).step call s=some (s.put d ⟨(s.env z).v,(s.env z).a⟩):=fun _=>rfl
 have key:∀(s:LC)(p:SC×uG)(T:Tr)(v:SC),x.CA call s=some p->x.kA s.next p=some (T,v)->(T.ap (s.put d (s.env z))).put x.dst v=((T.ap s).put x.dst v).put d ((((T.ap s).put x.dst v).env z))/\x.step call (s.put d (s.env z))=some ((T.ap (s.put d (s.env z))).put x.dst v):=fun s p T v hp hT=>by
  have hk:=X5 hx hp hT;constructor
  ·have he:((T.ap s).put x.dst v).env z=T.kl (s.env z):=by
    cases hd:x.dst with
    |none=>exact(aP hk s 0 v).2 z
    |some n =>
     simp only[LC.put];rw[if_neg (fun e=>hz n hd e.symm)];exact(aP hk s 0 v).2 z
   rw[he];cases d with
   |none=>rfl
   |some d =>
    rw[(aP hk s d _).1];exact(WF (fun n hn e=>a4 n hn e) _ _)
  ·rw [mL,QQ (fun n hn=>a3 n hn),hp];have hn:(s.put d (s.env z)).next=s.next:=by cases d <;> rfl
   simp only[J,hn,hT,yB]
 refine⟨fun s s1 s2 h1 h2=>?_,fun s s1 s2 h1 h2=>?_⟩
 ·rw[mL]at h1;obtain⟨p,hp,h1⟩:=yh.1 h1;obtain⟨⟨T,v⟩,hT,h1⟩:=yq.1 h1;simp only at h1;rw[hyr]at h2;injection h2 with h2;refine⟨_,hyr s,?_⟩;obtain⟨k1,k2⟩:=key s p T v hp hT;have k2':x.step call (s.put d ⟨(s.env z).v,(s.env z).a⟩)=some ((T.ap (s.put d (s.env z))).put x.dst v):=k2;rw[k2',k1,<- h2,<- h1]
 ·rw [hyr] at h1;injection h1 with h1;subst h1;have rg:x.step call (s.put d (s.env z))=some s2:=h2;rw [mL,QQ (fun n hn=>a3 n hn)] at rg;obtain ⟨p,hp,rg⟩:=yh.1 rg;obtain ⟨⟨T,v⟩,hT,rg⟩:=yq.1 rg;have hn:(s.put d (s.env z)).next=s.next:=by cases d <;> rfl
  rw[hn]at hT;obtain⟨k1,_⟩:=key s p T v hp hT;refine⟨(T.ap s).put x.dst v,by rw[mL,hp];simp only[J,hT,yB],?_⟩;rw[hyr,<- rg];simp only;rw[k1]
theorem E7 {x y:aD}(od:dI x y=true)(hx:Al x.op=true)(fy:LC->Option SC)(hy:∀s,y.step call s=(fy s).map fun w=>s.put y.dst w):
  ((∀s p T v,x.CA call s=some p->x.kA s.next p=some (T,v)->∀w',fy ((T.ap s).put x.dst v)=some w'->∃w,fy s=some w/\T.kl w=w')->∀s s1 s2,x.step call s=some s1->y.step call s1=some s2->∃jj,y.step call s=some jj/\x.step call jj=some s2) ∧
  ((∀s p T v,x.CA call s=some p->x.kA s.next p=some (T,v)->∀w,fy s=some w->fy ((T.ap s).put x.dst v)=some (T.kl w))->∀s s1 s2,y.step call s=some s1->x.step call s1=some s2->∃jj,x.step call s=some jj/\y.step call jj=some s2):=by
 unfold dI at od;simp only[yg]at od;obtain⟨a1,a2⟩:=cJ od.1;obtain⟨a3,a4⟩:=cJ od.2;have key:∀(s:LC)(p:SC×uG)(T:Tr)(v w:SC),x.CA call s=some p->x.kA s.next p=some (T,v)->x.step call (s.put y.dst w)=some (((T.ap s).put x.dst v).put y.dst (T.kl w)):=fun s p T v w hp hT=>by
  have hk:=X5 hx hp hT;have hn:(s.put y.dst w).next=s.next:=by cases y.dst<;>rfl
  rw[mL,QQ (fun n hn=>a3 n hn),hp];simp only[J,hn,hT,yB];congr 1;cases hd:y.dst with
  |none=>rfl
  |some d =>
   rw[(aP hk s d w).1];exact WF (fun n hn e=>by
    injection hn with hn;exact a4 n (by rw[hd,hn]) e) _ _
 refine⟨fun H s s1 s2 h1 h2=>?_,fun H s s1 s2 h1 h2=>?_⟩
 ·rw[mL]at h1;obtain⟨p,hp,h1⟩:=yh.1 h1;obtain⟨⟨T,v⟩,hT,h1⟩:=yq.1 h1;simp only at h1;subst h1;rw[hy]at h2;obtain⟨w',lk,h2⟩:=yq.1 h2;obtain⟨w,hw,e⟩:=H s p T v hp hT w' lk;refine⟨s.put y.dst w,by rw[hy,hw];rfl,?_⟩;rw[key s p T v w hp hT,e,<- h2]
 ·rw [hy] at h1;obtain ⟨w,hw,h1⟩:=yq.1 h1;subst h1;have tg:=h2;rw [mL,QQ (fun n hn=>a3 n hn)] at tg;obtain ⟨p,hp,tg⟩:=yh.1 tg;obtain ⟨⟨T,v⟩,hT,_⟩:=yq.1 tg;have hn:(s.put y.dst w).next=s.next:=by cases y.dst <;> rfl
  rw[hn]at hT;have h3:=key s p T v w hp hT;rw[h2]at h3;injection h3 with h3;refine⟨(T.ap s).put x.dst v,by rw[mL,hp];simp only[J,hT,yB],?_⟩;rw[hy,H s p T v hp hT w hw,h3];rfl
def ptF (off:Option Nat)(v:AV):Option SC:=match off,v with
 |none,.ptr t n o=>some ⟨.ptr t n o,.no⟩
 |none,.ip cs=>some ⟨.ip cs,.no⟩
 |none,.bp cs=>some ⟨.bp cs,.no⟩
 |some k,.ptr t n o=>some ⟨.ptr t n (o+k),.no⟩
 |some k,.ip cs=>some ⟨.ip (cs.drop k),.no⟩
 |some k,.bp cs=>some ⟨.bp (cs.drop k),.no⟩
 |_,_=>none
theorem isPt_eq {y:aD}(h:Dl y=true):∃off z,(∀s,y.step call s=(ptF off (s.env z).v).map fun w=>s.put y.dst w)/\z∈y.looks:=by
 obtain⟨d,k,g⟩:=y;unfold Dl at h;simp only at h;split at h
 ·rename_i z;refine⟨none,z,fun s=>?_,by simp[aD.looks,K.aA]⟩;simp only[aD.step,K.run,EE.get,ptF];cases(s.env z).v<;>rfl
 ·rename_i k z;refine⟨some k,z,fun s=>?_,by simp[aD.looks,K.aA]⟩;simp only[aD.step,K.run,EE.get,ptF];cases(s.env z).v<;>rfl
 ·cases h
theorem Bx {off:Option Nat}{v:AV}{t n:Nat}{w':SC}(h:ptF off (v.kill t n)=some w'):∃w,ptF off v=some w/\w.kill t n=w':=by
 cases v with
 |ptr t' n' o =>
  simp only[AV.kill,AV.rA]at h;by_cases hn:t'=t/\n'=n
  ·rw[if_pos hn]at h;cases off<;>cases h
  ·rw[if_neg hn]at h;cases off<;>(simp only[ptF]at h;injection h with h;subst h;exact⟨_,rfl,by simp only[SC.kill,AV.kill,AV.rA,if_neg hn]⟩)
 |ip cs=>cases off<;>(simp only[AV.kill,AV.rA,ptF]at h;injection h with h;subst h;exact⟨_,rfl,rfl⟩)
 |bp cs=>cases off<;>(simp only[AV.kill,AV.rA,ptF]at h;injection h with h;subst h;exact⟨_,rfl,rfl⟩)
 |ref t' n' sz o l c =>
  simp only[AV.kill,AV.rA]at h;split at h<;>cases off<;>cases h
 |mp t' n' =>
  simp only[AV.kill,AV.rA]at h;split at h<;>cases off<;>cases h
 |_=>cases off<;>cases h
theorem Bh {x y:aD}(od:dI x y=true)(hx:Al x.op=true)(hy:Dl y=true){s1 s2:LC}(h1:x.step call s=some s1)(h2:y.step call s1=some s2):∃jj,y.step call s=some jj/\x.step call jj=some s2:=by
 obtain⟨off,z,hyr,hz⟩:=isPt_eq (call:=call) hy;refine(E7 od hx (fun s=>ptF off (s.env z).v) hyr).1 (fun s p T v hp hT w' lk=>?_) s s1 s2 h1 h2;have hap':=od;unfold dI at hap';simp only[yg]at hap';obtain⟨a1,a2⟩:=cJ hap'.1;have hk:=X5 hx hp hT;have he:(((T.ap s).put x.dst v).env z)=T.kl (s.env z):=by
  cases hd:x.dst with
  |none=>exact(aP hk s 0 v).2 z
  |some n =>
   simp only[LC.put];rw[if_neg (show ¬z=n from fun e=>a1 n hd (e▸hz))];exact(aP hk s 0 v).2 z
 rw[he]at lk;rcases hk with rfl|⟨t,m,r,rfl⟩|⟨q,t,m,r,rfl⟩
 ·exact⟨w',lk,rfl⟩
 ·exact⟨w',lk,rfl⟩
 ·cases q with
  |none=>exact⟨w',lk,rfl⟩
  |some p=>exact Bx lk
def ldF (r size:Nat)(s:LC)(v:AV):Option SC:=match v with
 |.ptr t n o=>if r == t then(s.mem t n).bind (eD false size o)else none
 |_=>none
theorem isLd_eq {y x:aD}(h:Ol y x=true):∃r size z,(∀s,y.step call s=(ldF r size s (s.env z).v).map fun w=>s.put y.dst w)/\z∈y.looks/\x.dst≠some r/\∃cl f sz L a ws,x.op=.nA cl f sz L a ws/\L.contains r=true:=by
 obtain⟨d,k,g⟩:=y;unfold Ol at h;simp only at h;split at h
 ·rename_i r size z cl f sz L a ws hxo;simp only [yg,bne_iff_ne,ne_eq] at h;refine ⟨r,size,z,fun s=>?_,by simp [aD.looks,K.aA],h.2,cl,f,sz,L,a,ws,hxo,h.1⟩;simp only [aD.step,K.run,EE.get,ldF,Cl.TA];cases (s.env z).v <;> try rfl
  rename_i t n o;simp only;by_cases hrt:(r == t)=true
  ·simp only[hrt,if_true];cases(s.mem t n).bind (eD false size o)<;>rfl
  ·simp[hrt]
 ·cases h
theorem N3 {cl:Cl}{f sz:Nat}{L:List Nat}{a:EE}{ws:List EE}{v:SC}{e:uG}(h:(K.nA cl f sz L a ws).run call s=some (v,e)):(∃r,e=.new r)\/∃t n r,e=.rn (some (t,n)) r/\L.contains t=false:=by
 simp only[K.run]at h;split at h
 ·split at h
  ·split at h
   ·split at h
    ·split at h
     ·rename_i hc;obtain ⟨r,_,h⟩:=yh.1 h;split at h
      ·split at h
       ·injection h with h;injection h with _ h;exact .inr ⟨_,_,_,h.symm,hc.2.2.2⟩
       ·cases h
      ·cases h
     ·cases h
    ·cases h
   ·split at h
    ·obtain ⟨r,_,h⟩:=yh.1 h;split at h
     ·split at h
      ·injection h with h;injection h with _ h;exact .inl ⟨_,h.symm⟩
      ·cases h
     ·cases h
    ·cases h
   ·cases h
  ·cases h
 ·cases h
theorem Ch {x y:aD}(od:dI x y=true)(hx:Ol x y=true)(hy:Al y.op=true){s1 s2:LC}(h1:x.step call s=some s1)(h2:y.step call s1=some s2):∃jj,y.step call s=some jj/\x.step call jj=some s2:=by
 obtain⟨r,size,z,hxr,hz,tl,cl,f,sz,L,a,ws,wb,hL⟩:=isLd_eq (call:=call) hx;have hap0:=od;unfold dI at od;simp only[yg]at od;obtain⟨a3,a4⟩:=cJ od.2;refine(E7 (x:=y) (y:=x) (by unfold dI;rw[Bool.and_comm];exact hap0) hy (fun s=>ldF r size s (s.env z).v) hxr).2 (fun s p T v hp hT w hw=>?_) s s1 s2 h1 h2;have hk:=X5 hy hp hT;have he:(((T.ap s).put y.dst v).env z)=T.kl (s.env z):=by
  cases hd:y.dst with
  |none=>exact(aP hk s 0 v).2 z
  |some n =>
   simp only[LC.put];rw[if_neg (show ¬z=n from fun e=>a3 n hd (e▸hz))];exact(aP hk s 0 v).2 z
 have hm:∀t n,((T.ap s).put y.dst v).mem t n=(T.ap s).mem t n:=fun t n=>by cases y.dst<;>rfl
 rw[he]
 -- what the call does to memory
 have sq:T=.id\/(∃d m row,T=.row d m row/\y.dst=some d)\/∃t n d m row,T=.rn (some (t,n)) d m row/\y.dst=some d/\L.contains t=false:=by
  obtain⟨v0,e⟩:=p;have hpe:(e=.none)\/(∃row,e=.new row)\/∃t n row,e=.rn (some (t,n)) row/\L.contains t=false:=by
   unfold aD.CA at hp;rw[wb]at hp;split at hp
   ·exact .inr (N3 hp)
   ·split at hp
    ·split at hp
     ·exact .inr (N3 hp)
     ·injection hp with hp;injection hp with _ hp;exact .inl hp.symm
    ·injection hp with hp;injection hp with _ hp;exact .inl hp.symm
    ·cases hp
  rcases hpe with rfl|⟨row,rfl⟩|⟨t,n,row,rfl,ht⟩
  ·injection hT with hT;injection hT with h1 _;exact .inl h1.symm
  ·simp only [aD.kA] at hT;split at hT
   ·cases hT
   ·rename_i d hd;injection hT with hT;injection hT with h1 _;exact .inr (.inl ⟨_,_,_,h1.symm,hd⟩)
  ·simp only [aD.kA] at hT;split at hT
   ·cases hT
   ·rename_i d hd;injection hT with hT;injection hT with h1 _;exact .inr (.inr ⟨_,_,_,_,_,h1.symm,hd,ht⟩)
 have lk:=hw;simp only[ldF]at lk ⊢;cases hv:(s.env z).v with
 |ptr t n o =>
  rw[hv]at lk;simp only at lk;split at lk
  case isFalse=>cases lk
  rename_i hrt;have hrt':r=t:=by simpa using hrt
  subst hrt';obtain⟨row,ja,hl⟩:=yh.1 lk;simp only[eD,yM,if_false]at hl;rcases sq with rfl|⟨d,m,ix,rfl,hd⟩|⟨t',n',d,m,ix,rfl,hd,ht⟩
  ·simp only[Tr.kl,hv,hrt,if_true,hm];show((Tr.id.ap s).mem r n).bind _=_;rw[show(Tr.id.ap s).mem r n=some row from ja];simp[eD,hl]
  ·simp only[Tr.kl,hv,hrt,if_true,hm];have:((Tr.row d m ix).ap s).mem r n=some row:=by
    show(if r=d/\n=m then some ix else s.mem r n)=some row;rw[if_neg (fun e=>tl (by rw[hd,e.1]))];exact ja
   rw[this];simp[eD,hl]
  ·have ua:¬ (r=t'/\n=n'):=fun e=>by rw [<- e.1] at ht; rw [hL] at ht; cases ht
   have hvk:(SC.kill t' n' (s.env z)).v=.ptr r n o:=by
    show(s.env z).v.kill t' n'=_;rw[hv];simp only[AV.kill,AV.rA,if_neg ua]
   simp only[Tr.kl,hvk,hrt,if_true,hm];have:((Tr.rn (some (t',n')) d m ix).ap s).mem r n=some (row.map (SC.kill t' n')):=by
    show(if r=d/\n=m then some ix else(s.kill t' n').mem r n)=_;rw[if_neg (fun e=>tl (by rw[hd,e.1]))];show(if r=t'/\n=n' then none else(s.mem r n).map (·.map (SC.kill t' n')))=_;rw[if_neg ua,ja];rfl
   rw[this];simp[eD,hl]
 |_=>rw[hv]at lk;cases lk
theorem j7 {x y:aD}(h:dI x y=true):dI y x=true:=by
 unfold dI at h ⊢;rw[Bool.and_comm];exact h
theorem commute {x y:aD}(od:dI x y=true)(wa:LQ x y=true)(h1:x.step call s=some s1)(h2:y.step call s1=some s2):∃jj,y.step call s=some jj/\x.step call jj=some s2:=by
 unfold LQ at wa;simp only[Bool.or_eq_true,yg]at wa;rcases wa with h|((⟨h,h'⟩|⟨h,h'⟩)|⟨h,h'⟩)|⟨h,h'⟩
 ·exact Xh od h h1 h2
 ·exact(R7 (j7 od) h' h).2 s s1 s2 h1 h2
 ·exact(R7 od h' h).1 s s1 s2 h1 h2
 ·exact Ch od h h' h1 h2
 ·exact Bh od h h' h1 h2
end
end
section
open Go Go.RowKit
section
variable {P:Program} {O:XH} {nt B:Nat} {F0:pR} {aa:Av} {w0:World} {s s':LC} {a:Act} {w w':World} {ι:Ix} {Θ:kM} {call:sE} {lh:LH} {Q:Exit->Act->World->Prop}
def gsh (nt:Nat)(a:Act)(g:Nat->Value):Nat->Value:=fun t=>if t<nt then a.tmps.getD t undef else g (t-nt)
def pR.wait (F0:pR)(nt:Nat)(a:Act):pR:=⟨F0.b,F0.p,F0.r,F0.z,gsh nt a F0.g⟩
def LC.bare (s:LC):LC:={ s with env:=fun _=>⟨.undef,.no⟩ }
def i7 (P:Program)(O:XH)(B:Nat)(F0:pR)(aa:Av)(w0:World)(s:LC)(w:World)(ι:Ix)(Θ:kM):Prop:=DE P O 0 B F0 aa w0 (fun _=>False) s.bare ⟨#[],[]⟩ w ι Θ
def HI (ι:Ix)(Θ:kM)(av avb:Av)(w:World):List SC->List Value->Prop
 | [],us=>us=[]
 |x::r,us=>∃u gb,us=u::gb/\WD ι av avb w x.v u/\QM Θ x.a u/\HI ι Θ av avb w r gb
theorem FU {av avb:Av}:∀{xs ys:List SC}{us vs:List Value},HI ι Θ av avb w xs us->HI ι Θ av avb w ys vs->HI ι Θ av avb w (xs++ys) (us++vs)
 | [],_,_,_,h,h'=>by simp only[HI]at h;subst h;exact h'
 |x::r,_,_,_,h,h'=>by
  simp only[HI]at h;obtain⟨u,gb,rfl,h0,h1,h⟩:=h;exact⟨u,gb++_,rfl,h0,h1,FU h h'⟩
def J2 (P:Program)(O:XH)(hp:HpT):Prop:=∀f xs s k r,hp f xs s k=some r->(∀vs w,(callFunc f vs).run P w=.ok (.enter f vs) w) ∧
 ∀(B:Nat)(F0:pR)(aa:Av)(w0 w:World)(ι:Ix)(Θ:kM)(us:List Value)(E:Ending->World->Prop),i7 P O B F0 aa w0 s w ι Θ->HI ι Θ (BE aa ι Θ) (uF ι Θ) w xs us →
  (∀y s' w' ι' Θ' v,i7 P O B F0 aa w0 s' w' ι' Θ'->WD ι' (BE aa ι' Θ') (uF ι' Θ') w' y.v v->QM Θ' y.a v->k y s'=some r->E (.returned v) w')->Calls P f us.toArray w E
theorem DE.wait {D:Nat->Prop}(R:DE P O nt B F0 aa w0 D s a w ι Θ):i7 P O B (F0.wait nt a) aa w0 (s.enter nt) w ι Θ :=
 ⟨rfl,rfl,fun _=>trivial,fun _=>trivial,R.rows,fun t n b h=>let⟨h1,h2,h3⟩:=R.mine t n b h;⟨h1,h2,.inl (by simp only[LC.bare,LC.enter];rcases h3 with h|h<;>omega)⟩,R.inj,R.tok,R.ZA,R.apart,R.out,R.pin,R.kept,R.base,R.qB,fun t n H h=>let⟨h1,h2⟩:=R.obs t n H h;⟨h1,.inl (by simp only[LC.bare,LC.enter];rcases h2 with h|h<;>omega)⟩,fun t=>by
  simp only[LC.bare,LC.enter,pR.wait,gsh];split
  ·exact R.env t
  ·exact R.gen _,fun t=>by
  simp only[LC.bare,LC.enter,pR.wait,gsh];split
  ·exact R.aC t
  ·exact R.pB _⟩
theorem DE.resume {D D':Nat->Prop}{s':LC}{ι':Ix}{Θ':kM}(R:DE P O nt B F0 aa w0 D s a w ι Θ)(R':i7 P O B (F0.wait nt a) aa w0 s' w' ι' Θ'):DE P O nt B F0 aa w0 D' (s'.leave nt) a w' ι' Θ' :=
 ⟨R.defers,R.size,fun t=>by
  have:=R'.gen t;simp only[LC.bare,pR.wait,gsh]at this;simp only[LC.leave];split
  ·rename_i h;rw[if_pos h]at this;exact this
  ·trivial,fun t=>by
  have:=R'.pB t;simp only[LC.bare,pR.wait,gsh]at this;simp only[LC.leave];split
  ·rename_i h;rw[if_pos h]at this;exact this
  ·trivial,R'.rows,fun t n b h=>let⟨h1,h2,h3⟩:=R'.mine t n b h;⟨h1,h2,h3.imp id fun h=>h.2.elim⟩,R'.inj,R'.tok,R'.ZA,R'.apart,R'.out,R'.pin,R'.kept,R'.base,R'.qB,fun t n H h=>let⟨h1,h2⟩:=R'.obs t n H h;⟨h1,h2.imp id fun h=>h.2.elim⟩,fun t=>by
  have:=R'.gen (t+nt);simp only[LC.bare,pR.wait,gsh]at this;rw[if_neg (by omega),Nat.add_sub_cancel]at this;exact this,fun t=>by
  have:=R'.pB (t+nt);simp only[LC.bare,pR.wait,gsh]at this;rw[if_neg (by omega),Nat.add_sub_cancel]at this;exact this⟩
theorem JU {D:Nat->Prop}(R:DE P O nt B F0 aa w0 D s a w ι Θ):∀{Xs:List Operand}{xs:List EE},FI Xs=some xs->HI ι Θ (BE aa ι Θ) (uF ι Θ) w (NN s xs) (Xs.map a.eval)
 | [],xs,h=>by injection h with h;subst h;rfl
 |X::Xs,xs,h=>by
  unfold FI at h;split at h
  ·rename_i x l hx hl;injection h with h;subst h;exact⟨_,_,rfl,(R.pA hx).1,(R.pA hx).2,JU R hl⟩
  ·cases h
theorem b7 {av avb:Av}:∀{cs:List AV}{us:List Value},kJ ι av avb w cs us->HI ι Θ av avb w (cs.map (⟨·,.no⟩)) us
 | [],_,h=>h
 |x::r,_,h=>by
  simp only[kJ]at h;obtain⟨u,gb,rfl,h0,h⟩:=h;refine⟨u,gb,rfl,?_,trivial,b7 h⟩;cases x with
  |bp cs=>exact h0
  |int k n=>exact mG (x:=.int k n) h0
  |bool b=>exact mG (x:=.bool b) h0
  |str b=>exact mG (x:=.str b) h0
  |EA=>exact mG (x:=.EA) h0
  |ptr t n o=>exact mG (x:=.ptr t n o) h0
  |ip cs=>exact mG (x:=.ip cs) h0
  |sl n l=>exact mG (x:=.sl n l) h0
  |bl l=>exact mG (x:=.bl l) h0
  |ref a b c d e f=>exact mG (x:=.ref a b c d e f) h0
  |mp t n=>exact mG (x:=.mp t n) h0
  |fn f cs=>exact mG (x:=.fn f cs) h0
  |agg cs=>exact mG (x:=.agg cs) h0
  |fA cs=>exact mG (x:=.fA cs) h0
  |undef=>trivial
theorem A8 {D:Nat->Prop}(R:DE P O nt B F0 aa w0 D s a w ι Θ){lh:LH}(mi:J2 P O lh.h){o:Oper}{hs:Nat->Bool}{nt':Nat}{x:EE}{xs:List EE}(hk:w4 nt hs o.op=some (.mA nt' x xs))(hd:∀d,o.dst=some d->d<nt){k:LC->Option RV}{r:RV}(hr:AG lh o.dst nt' x xs s k=some r)
  {Kn:Act->World->Prop} {Q:Exit->Act->World->Prop} (hK:∀s' a' w',SG P O nt B F0 aa w0 (fun t=>D t\/o.dst=some t) s' a' w'->k s'=some r->Kn a' w'):o.wp P a w Kn Q:=by
 have go:∀{f:FuncId}{Xs:Array Operand}{cs:List AV}{us:List Value},nt'=nt->FI Xs.toList=some xs->kJ ι (BE aa ι Θ) (uF ι Θ) w cs us->lh.h f (NN s xs++cs.map (⟨·,.no⟩)) (s.enter nt) (fun y s'=>k ((s'.leave nt).put o.dst y))=some r->((∀vs w,(callFunc f vs).run P w=.ok (.enter f vs) w)->(execOp a.eval o).run P w=.ok (.enter f (Xs.map a.eval++us.toArray)) w)->o.wp P a w Kn Q:=fun{f Xs cs us} hn hx ol hh run=>by
  obtain⟨h1,h2⟩:=mi _ _ _ _ _ hh;unfold Oper.wp;rw[run h1,Oper.upon_enter];have nr:(Xs.toList.map a.eval++us).toArray=Xs.map a.eval++us.toArray:=by
   apply Array.ext';simp
  rw[<- nr];refine h2 B (F0.wait nt a) aa w0 w ι Θ _ _ R.wait (FU (JU R hx) (b7 ol)) fun y s' w' ι' Θ' v R' hv ha af=>?_
  exact hK _ _ _ ⟨ι',Θ',((R.resume (D':=D) R').cB hd hv ha).more fun _ h=>.inl h⟩ af
 unfold w4 at hk;split at hk
 ·rename_i f Xs ts ho;split at hk
  ·obtain ⟨l,hl,hk⟩:=yq.1 hk;injection hk with hn hx oc;subst hx;subst oc;simp only [AG,EE.get] at hr;refine go (cs:=[]) (us:=[]) hn.symm hl rfl (by rw [hn]; exact hr) fun jd=>?_
   simp only[execOp,ho,resolve,Act.eval,Deferred.ofValue,Sem.run_bind,Sem.run_pure,Result.andThen_ok,invoke];have:=jd (#[]++Xs.map a.eval++#[]) w;simp only[Array.empty_append,Array.append_empty]at this ⊢;exact this
  ·cases hk
 ·rename_i tf Xs ts ho;split at hk
  ·obtain ⟨l,hl,hk⟩:=yq.1 hk;injection hk with hn hx oc;subst hx;subst oc;simp only [AG,EE.get] at hr;split at hr
   ·rename_i f cs xo;have hF:=R.env tf;rw [xo] at hF;obtain ⟨us,ae,ol⟩:=hF;refine go (cs:=cs) (us:=us.toList) hn.symm hl ol (by rw [hn]; exact hr) fun jd=>?_
    have hev:a.eval (.tmp tf)=.func (.func f) #[] us:=ae;simp only[execOp,ho,resolve,hev,Deferred.ofValue,Sem.run_bind,Sem.run_pure,Result.andThen_ok,invoke];have:=jd (#[]++Xs.map a.eval++us) w;simp only[Array.empty_append]at this ⊢;exact this
   ·cases hr
  ·cases hk
 ·obtain⟨_,_,h⟩:=yq.1 hk;cases h
 ·cases hk
theorem op_nxt {D:Nat->Prop}(R:DE P O nt B F0 aa w0 D s a w ι Θ){o:Oper}{X:Operand}{x:EE}(hx:pA X=some x)(ho:o.op=.next X false)(hd:∀d,o.dst=some d->d<nt){k:LC->Option RV}{r:RV}(hr:k0 o.dst x s k=some r)
  {Kn:Act->World->Prop} {Q:Exit->Act->World->Prop} (hK:∀s' a' w',SG P O nt B F0 aa w0 (fun t=>D t\/o.dst=some t) s' a' w'->k s'=some r->Kn a' w'):o.wp P a w Kn Q:=by
 unfold k0 at hr;cases hr
structure u7 (P:Program)(nt:Nat)(ops:Array Oper)(o:Oper)(c:aD):Prop where
 dst:c.dst=o.dst
 op:(Ba c.op=false/\((∃cl mu b q,T7 P cl mu b q o.op=some c.op/\(mu≠none->o.dst≠none))\/∃cl hs L,wY P cl hs L o.op=some c.op))\/∃hs,w4 nt hs o.op=some c.op
 lt:∀d,o.dst=some d->d<nt
 guard:match o.guard with
  |none=>c.guard=none
  |some (g,want)=>∃t,(ops[g]?).bind (·.dst)=some t/\c.guard=some (t,want)
theorem eY {boxes:List Nat}{all:List Oper}{draw:Bool}:∀{ops:List Oper}{cs:List aD},iV P boxes nt all draw ops=some cs->cs.length=ops.length/\∀(i:Nat)(o:Oper),ops[i]?=some o->∃c,cs[i]?=some c/\u7 P nt all.toArray o c
 | [],cs,h=>by injection h with h;subst h;exact⟨rfl,fun i o ho=>by simp at ho⟩
 |o::r,cs,h=>by
  unfold iV at h;split at h
  ·rename_i k l hk hl;split at h
   ·rename_i ba;have fa:∀ d,o.dst=some d->d<nt:=fun d hd=>by rw [hd] at ba; simpa [dstOk] using ba
    obtain⟨h1,h2⟩:=eY hl;have JJ:∀c,cs=c::l->u7 P nt all.toArray o c->cs.length=(o::r).length/\∀(i:Nat)(o':Oper),(o::r)[i]?=some o'->∃c,cs[i]?=some c/\u7 P nt all.toArray o' c:=fun c e hc=>by
     subst e;refine⟨by simp[h1],fun i o' ho=>?_⟩;cases i with
     |zero=>simp at ho;subst ho;exact⟨c,rfl,hc⟩
     |succ i=>simpa using h2 i o' (by simpa using ho)
    have mo:(match o.dst with|some d=>if boxes.contains (nt+1+(2*d+1))then some true else if boxes.contains (nt+1+2*d)then some false else none|none=>none)≠none->o.dst≠none:=fun h e=>by rw[e]at h;exact h rfl
    have wb:(Ba k=false/\((∃cl mu b q,T7 P cl mu b q o.op=some k/\(mu≠none->o.dst≠none))\/∃cl hs L,wY P cl hs L o.op=some k))\/∃hs,w4 nt hs o.op=some k:=by
     split at hk
     ·rename_i k' sf;injection hk with hk;exact .inr ⟨_,hk▸sf⟩
     ·split at hk
      ·rename_i k' sf;injection hk with hk;subst hk;exact .inl ⟨compN_H sf,.inr ⟨_,_,_,sf⟩⟩
      ·obtain⟨h1,h2⟩:=Option.filter_eq_some_iff.1 hk;exact .inl ⟨by simpa using h2,.inl ⟨_,_,_,_,h1,mo⟩⟩
    cases hg:o.guard with
    |none =>
     simp only[hg]at h;injection h with h;exact JJ _ h.symm ⟨rfl,wb,fa,by rw[hg]⟩
    |some p =>
     obtain⟨g,want⟩:=p;simp only[hg]at h;split at h
     ·rename_i t ht;injection h with h;exact JJ _ h.symm ⟨rfl,wb,fa,by rw[hg];exact⟨t,by simpa using ht,rfl⟩⟩
     ·cases h
   ·cases h
  ·cases h
section
variable {D:Nat->Prop} (R:SG P O nt B F0 aa w0 D s a w) (kb:∀ f args S r,call f args S=some r->MD P O f args S r)
include D R kb
theorem Hw {ops:Array Oper}{i:Nat}{o:Oper}{c:aD}(ho:ops[i]?=some o)(ok:u7 P nt ops o c)(hD:∀d,o.dst=some d->(O9 c.op||RW c.op)=true->¬D d)(wb:(∃cl mu b q,T7 P cl mu b q o.op=some c.op/\(mu≠none->o.dst≠none))\/∃cl hs L,wY P cl hs L o.op=some c.op)(hs:c.step call s=some s')
  {Kn:Act->World->Prop} (hK:∀a' w',SG P O nt B F0 aa w0 (fun t=>D t\/o.dst=some t) s' a' w'->Kn a' w'):wpOp P ops Q i Kn a w:=by
 obtain⟨ι,Θ,R⟩:=R;obtain⟨cd,cop,cg⟩:=c;have ka:cd=o.dst:=ok.dst;subst ka;have main:cop.run call s≠none->(cop.run call s).bind (aD.eff ⟨o.dst,cop,cg⟩ s)=some s'->o.wp P a w Kn Q:=fun _ h=>by
  obtain⟨xe,hx,he⟩:=yh.1 h;rcases wb with⟨cl,mu,b,q,wb,mo⟩|⟨cl,tp,L,wb⟩
  case inr=>exact op_own R kb wb ok.lt hD hx he hK
  unfold T7 at wb;split at wb
  ·rename_i k hk;injection wb with wb;subst wb;exact Kx R kb hk mo ok.lt hD hx he hK
  ·split at wb
   ·injection wb with wb;subst wb;cases hx
   ·cases wb
 have main':(cop.run call s).bind (aD.eff ⟨o.dst,cop,cg⟩ s)=some s'->o.wp P a w Kn Q:=fun h=>main (fun e=>by rw[e]at h;cases h) h
 unfold wpOp;simp only[ho];have tw:WD ι (BE aa ι Θ) (uF ι Θ) w (.fA []) undef:=⟨#[],rfl,rfl⟩;have hg:=ok.guard;cases dv:o.guard with
 |none =>
  rw[dv]at hg;simp only at hg;subst hg;have:Region.wanted o (yielded ops a.tmps)=true:=by simp[Region.wanted,dv]
  rw[if_pos this];exact .inl (main' hs)
 |some p =>
  obtain⟨g,want⟩:=p;rw[dv]at hg;obtain⟨t,ht,hg⟩:=hg;simp only at hg;subst hg;unfold aD.step at hs;simp only at hs;split at hs
  ·rename_i b hb;have hr:=R.env t;rw[hb,cE]at hr;have hy:yielded ops a.tmps g=some b:=by
    unfold yielded;rw[ht];simp only[J];rw[Y0j]at hr;cases hh:a.tmps[t]? with
    |none=>rw[hh]at hr;simp[undef]at hr
    |some v=>rw[hh]at hr;simp only[Option.getD_some]at hr;subst hr;rfl
   have hw:Region.wanted o (yielded ops a.tmps)=(b == want):=by
    simp only[Region.wanted,dv,hy];cases b<;>cases want<;>rfl
   rw[hw];split at hs
   ·rename_i e;subst e;rw[if_pos (by simp)];exact .inl (main' hs)
   ·rename_i e;injection hs with hs;subst hs;rw[if_neg (by simpa using e)];exact hK _ _ ⟨ι,Θ,(R.cB ok.lt (x:=⟨.fA [],.no⟩) tw trivial).more fun _ h=>.inl h⟩
  ·rename_i hb;have hr:=R.env t;rw[hb]at hr;obtain⟨us,hv,ne⟩:=hr;have hy:yielded ops a.tmps g=none:=by
    unfold yielded;rw[ht];simp only[J];rw[Y0j]at hv;cases hh:a.tmps[t]? with
    |none=>rfl
    |some v=>rw[hh]at hv;simp only[Option.getD_some]at hv;subst hv;rfl
   have hw:Region.wanted o (yielded ops a.tmps)=false:=by
    simp only[Region.wanted,dv,hy];cases want<;>rfl
   rw[hw];injection hs with hs;subst hs;rw[if_neg (by decide)];exact hK _ _ ⟨ι,Θ,(R.cB ok.lt (x:=⟨.fA [],.no⟩) tw trivial).more fun _ h=>.inl h⟩
  ·cases hs
theorem cY (mi:J2 P O lh.h){ops:Array Oper}{i:Nat}{o:Oper}{c:aD}(ho:ops[i]?=some o)(ok:u7 P nt ops o c)(hD:∀d,o.dst=some d->(O9 c.op||RW c.op)=true->¬D d){k:LC->Option RV}{r:RV}(hs:c.uA call lh s k=some r)
  {Kn:Act->World->Prop} (hK:∀s' a' w',SG P O nt B F0 aa w0 (fun t=>D t\/o.dst=some t) s' a' w'->k s'=some r->Kn a' w'):wpOp P ops Q i Kn a w:=by
 rcases ok.op with⟨hH,wb⟩|⟨po,wb⟩
 ·have hb:(c.step call s).bind k=some r:=by
   unfold aD.uA at hs;split at hs
   ·rename_i h;rw[h]at hH;cases hH
   ·rename_i h;rw[h]at hH;cases hH
   ·exact hs
  obtain⟨s1,h1,h2⟩:=yh.1 hb;exact Hw R kb ho ok hD wb h1 fun a' w' R'=>hK s1 a' w' R' h2
 ·obtain⟨cd,cop,cg⟩:=c;have ka:cd=o.dst:=ok.dst;subst ka;simp only at wb;obtain⟨ι,Θ,R⟩:=R;obtain⟨st,sb,main'⟩:∃st,aD.uA call lh ⟨o.dst,cop,cg⟩ s k=eM s o.dst cg st k/\(st=some r->o.wp P a w Kn Q):=by
   have il:=wb;unfold w4 at il;split at il
   ·split at il
    ·obtain⟨_,_,h⟩:=yq.1 il;subst h;exact⟨_,rfl,fun h=>A8 R mi wb ok.lt h hK⟩
    ·cases il
   ·split at il
    ·obtain⟨_,_,h⟩:=yq.1 il;subst h;exact⟨_,rfl,fun h=>A8 R mi wb ok.lt h hK⟩
    ·cases il
   ·rename_i X hox;obtain⟨x,hx,h⟩:=yq.1 il;subst h;exact⟨_,rfl,fun h=>op_nxt R hx hox ok.lt h hK⟩
   ·cases il
  rw[sb]at hs;unfold wpOp;simp only[ho];have tw:WD ι (BE aa ι Θ) (uF ι Θ) w (.fA []) undef:=⟨#[],rfl,rfl⟩;have hg:=ok.guard;cases dv:o.guard with
  |none =>
   rw[dv]at hg;simp only at hg;subst hg;have:Region.wanted o (yielded ops a.tmps)=true:=by simp[Region.wanted,dv]
   rw[if_pos this];exact .inl (main' hs)
  |some p =>
   obtain⟨g,want⟩:=p;rw[dv]at hg;obtain⟨t,ht,hg⟩:=hg;simp only at hg;subst hg;unfold eM at hs;simp only at hs;split at hs
   ·rename_i b hb;have hr:=R.env t;rw[hb,cE]at hr;have hy:yielded ops a.tmps g=some b:=by
     unfold yielded;rw[ht];simp only[J];rw[Y0j]at hr;cases hh:a.tmps[t]? with
     |none=>rw[hh]at hr;simp[undef]at hr
     |some v=>rw[hh]at hr;simp only[Option.getD_some]at hr;subst hr;rfl
    have hw:Region.wanted o (yielded ops a.tmps)=(b == want):=by
     simp only[Region.wanted,dv,hy];cases b<;>cases want<;>rfl
    rw[hw];split at hs
    ·rename_i e;subst e;rw[if_pos (by simp)];exact .inl (main' hs)
    ·rename_i e;rw[if_neg (by simpa using e)];exact hK _ _ _ ⟨ι,Θ,(R.cB ok.lt (x:=⟨.fA [],.no⟩) tw trivial).more fun _ h=>.inl h⟩ hs
   ·rename_i hb;have hr:=R.env t;rw[hb]at hr;obtain⟨us,hv,ne⟩:=hr;have hy:yielded ops a.tmps g=none:=by
     unfold yielded;rw[ht];simp only[J];rw[Y0j]at hv;cases hh:a.tmps[t]? with
     |none=>rfl
     |some v=>rw[hh]at hv;simp only[Option.getD_some]at hv;subst hv;rfl
    have hw:Region.wanted o (yielded ops a.tmps)=false:=by
     simp only[Region.wanted,dv,hy];cases want<;>rfl
    rw[hw];rw[if_neg (by decide)];exact hK _ _ _ ⟨ι,Θ,(R.cB ok.lt (x:=⟨.fA [],.no⟩) tw trivial).more fun _ h=>.inl h⟩ hs
   ·cases hs
end
theorem SG.next {D:Nat->Prop}(R:SG P O nt B F0 aa w0 D s a w):SG P O nt B F0 aa w0 (fun _=>False) { s with next:=s.next+1 } a w:=by
 obtain⟨ι,Θ,R⟩:=R;exact⟨ι,Θ,R.defers,R.size,R.env,R.aC,R.rows,fun t n b h=>let⟨h1,h2,h3⟩:=R.mine t n b h;⟨h1,h2,.inl (by rcases h3 with h|h<;>simp only<;>omega)⟩,R.inj,R.tok,R.ZA,R.apart,R.out,R.pin,R.kept,R.base,R.qB,fun t n H h=>let⟨h1,h2⟩:=R.obs t n H h;⟨h1,.inl (by rcases h2 with h|h<;>simp only<;>omega)⟩,R.gen,R.pB⟩
theorem IZ {cs:List aD}(h:WV cs=true){i j:Nat}{x y:aD}(hx:cs[i]?=some x)(hy:cs[j]?=some y)(ua:i≠j)(hA:(O9 y.op||RW y.op)=true)(lw:y.dst.isSome=true):x.dst≠y.dst:=by
 have hj:=(yn.1 hy).1;have hi:=(yn.1 hx).1;have h1:=ye.1 h j (List.mem_range.2 hj);rw[hy]at h1;simp only[hA,lw,Bool.true_and,Bool.not_true,Bool.false_or]at h1;have h2:=ye.1 h1 i (List.mem_range.2 hi);rw[hx]at h2;simp only[Bool.or_eq_true]at h2;rcases h2 with h2|h2
 ·exact absurd (by simpa using h2) ua
 ·simpa using h2
theorem H4 {ops:Array Oper}{cs:List aD}(kb:∀f args S r,call f args S=some r->MD P O f args S r)(mi:J2 P O lh.h)(wa:∀(i:Nat) (o:Oper),ops[i]?=some o->∃c,cs[i]?=some c/\u7 P nt ops o c)(da:cs.length=ops.size)(hf:WV cs=true){k:LC->Option RV}{r:RV}:
  ∀(n i:Nat)(s:LC)(a:Act)(w:World),i+n=ops.size->SG P O nt B F0 aa w0 (fun t=>∃j c,j<i/\cs[j]?=some c/\c.dst=some t) s a w->eJ call lh (cs.drop i) s k=some r →
   (∀s' a' w',SG P O nt B F0 aa w0 (fun _=>True) s' a' w'->k s'=some r->Q .normal a' w')->wpOps P ops Q (List.range' i n) a w
 |0,i,s,a,w,hi,R,hr,hQ=>by
  have:cs.drop i=[]:=yw (by omega);rw[this]at hr;obtain⟨ι,Θ,R⟩:=R;exact hQ s a w ⟨ι,Θ,R.more fun _ _=>trivial⟩ hr
 |n+1,i,s,a,w,hi,R,hr,hQ=>by
  have ba:i<ops.size:=by omega
  obtain⟨c,hc,ok⟩:=wa i ops[i] (Y0p ba);have ge:i<cs.length:=by omega
  have hci:cs[i]=c:=(yn.1 hc).2;rw[yv ge,hci]at hr;unfold eJ at hr;rw[List.range'_succ,wpOps_cons];refine cY R kb mi (Y0p ba) ok (fun d hd hA ⟨j,c',hj,nc,xq⟩=>?_) hr fun s' a' w' R' hk=>?_
  ·exact IZ hf nc hc (by omega) hA (by rw[ok.dst,hd];rfl) (by rw[xq,ok.dst,hd])
  ·refine H4 kb mi wa da hf n (i + 1) s' a' w' (by omega) ?_ hk hQ;obtain ⟨ι,Θ,R'⟩:=R';refine ⟨ι,Θ,R'.more fun t ht=>?_⟩;rcases ht with ⟨j,c',hj,nc,xq⟩ | ht
   ·exact⟨j,c',by omega,nc,xq⟩
   ·exact⟨i,c,by omega,hc,by rw[ok.dst,ht]⟩
end
end
section
open Go Go.RowKit
section
variable {P:Program} {O:XH} {nt B:Nat} {F0:pR} {aa:Av} {w0:World} {s s':LC} {a:Act} {w w':World} {call:sE} {lh:LH} {Q:Exit->Act->World->Prop}
noncomputable def fM (call:sE)(lh:LH)(cs:List aD):List Nat->LC->(LC->Option RV)->Option RV
 | [],s,k=>k s
 |i::r,s,k=>match cs[i]? with
  |some c=>c.uA call lh s fun s=>fM call lh cs r s k
  |none=>none
theorem Z1 (cs:List aD)(k:LC->Option RV):∀(n i:Nat)(s:LC),i+n=cs.length->eJ call lh (cs.drop i) s k=fM call lh cs (List.range' i n) s k
 |0,i,s,h=>by rw[yw (by omega)];rfl
 |n+1,i,s,h=>by
  have ba:i<cs.length:=by omega
  rw[yv ba,List.range'_succ];unfold eJ fM;rw[yf ba];simp only;congr 1;funext s1;exact Z1 cs k n (i+1) s1 (by omega)
theorem MK {c:aD}(h:Ba c.op=false)(s:LC)(k:LC->Option RV):c.uA call lh s k=(c.step call s).bind k:=by
 unfold aD.uA;split
 ·rename_i e;rw[e]at h;cases h
 ·rename_i e;rw[e]at h;cases h
 ·rfl
theorem isM_H {k:K}(h:Pl k=false):Ba k=false:=by
 cases k<;>first|rfl|cases h
theorem Rw {x y:aD}(h:LQ x y=true):Ba x.op=false/\Ba y.op=false:=by
 have hN:∀{k:K},Al k=true->Ba k=false:=fun{k} h=>by cases k<;>first|rfl|cases h
 have hV:∀{o:aD},Na o=true->Ba o.op=false:=fun h=>by obtain⟨d,z,rfl⟩:=Wi h;rfl
 unfold LQ at h;simp only[Bool.or_eq_true,yg]at h;rcases h with h|((⟨h,h'⟩|⟨h,h'⟩)|⟨h,h'⟩)|⟨h,h'⟩
 ·unfold PK at h;simp only[yg]at h;exact⟨isM_H (by simpa using h.1.1.1.1.1.1.1),isM_H (by simpa using h.1.1.1.1.1.1.2)⟩
 ·exact⟨hV h,hN h'⟩
 ·exact⟨hN h',hV h⟩
 ·refine ⟨?_,hN h'⟩;unfold Ol at h;split at h
  ·rename_i e _ _;rw[e];rfl
  ·cases h
 ·refine ⟨hN h,?_⟩;unfold Dl at h';split at h'
  ·rename_i e _;rw[e];rfl
  ·rename_i e _;rw[e];rfl
  ·cases h'
theorem Tu {cs:List aD}{i:Nat}{c:aD}(hc:cs[i]?=some c)(hH:Ba c.op=false){L2:List Nat}{k:LC->Option RV}{r:RV}:∀{L1:List Nat}{s:LC},(∀r∈L1,∃cr,cs[r]?=some cr/\dI cr c=true/\LQ cr c=true)->fM call lh cs (L1++i::L2) s k=some r →
  ∃s1,c.step call s=some s1/\fM call lh cs (L1++L2) s1 k=some r
 | [],s,_,h=>by
  simp only[Y00,fM,hc,MK hH]at h;obtain⟨s1,h1,h2⟩:=yh.1 h;exact⟨s1,h1,h2⟩
 |q::L1,s,hL,h=>by
  obtain⟨cr,hr,ha,ho⟩:=hL q (yo);simp only[List.cons_append,fM,hr,MK (Rw ho).1]at h;obtain⟨s1,h1,h2⟩:=yh.1 h;obtain⟨s2,h3,h4⟩:=Tu hc hH (fun q hq=>hL q (yp _ hq)) h2;obtain⟨jj,h5,h6⟩:=commute ha ho h1 h3;refine⟨jj,h5,?_⟩;simp only[List.cons_append,fM,hr,MK (Rw ho).1,h6,J];exact h4
theorem bubble {cs:List aD}{i:Nat}{c:aD}(hc:cs[i]?=some c){L2:List Nat}{k:LC->Option RV}{r:RV}{L1:List Nat}{s:LC}(hL:∀r∈L1,∃cr,cs[r]?=some cr/\dI cr c=true/\LQ cr c=true)(h:fM call lh cs (L1++i::L2) s k=some r):
  c.uA call lh s (fun s1=>fM call lh cs (L1++L2) s1 k)=some r:=by
 cases L1 with
 |nil=>simpa only[Y00,fM,hc]using h
 |cons q L1 =>
  obtain⟨cr,hr,ha,ho⟩:=hL q (yo);have hH:=(Rw ho).2;obtain⟨s1,h1,h2⟩:=Tu hc hH hL h;rw[MK hH,h1,J];exact h2
theorem S4 {o:Oper}{e:Nat}:e∈bM o ↔ ∃d∈o.after,Region.binds .any d=true/\d.on=e:=by
 unfold bM;rw[List.mem_filterMap];constructor
 ·rintro ⟨d,hd,h⟩;split at h
  ·rename_i hb;injection h with h;exact⟨d,by simpa using hd,hb,h⟩
  ·cases h
 ·rintro⟨d,hd,hb,rfl⟩;exact⟨d,by simpa using hd,by rw[if_pos hb]⟩
theorem Wu {ops:List Oper}{bf:List Nat}(h:bfOk ops bf=true){i:Nat}{o:Oper}(ho:ops[i]?=some o):(∀e∈bM o,e<i)/\∀r,r<i->(bf.getD i 0).testBit r=true->∃e∈bM o,e=r\/(r<e/\(bf.getD e 0).testBit r=true):=by
 have hi:=(yn.1 ho).1;have h1:=ye.1 h i (List.mem_range.2 hi);rw[ho]at h1;simp only[yg]at h1;refine⟨fun e he=>by simpa using ye.1 h1.1 e he,fun r hr hb=>?_⟩;have h2:=ye.1 h1.2 r (List.mem_range.2 hr);simp only[hb,Bool.not_true,Bool.false_or,List.any_eq_true,Bool.or_eq_true,beq_iff_eq,yg,decide_eq_true_eq]at h2;exact h2
theorem B3 {ops:List Oper}{bf:List Nat}(h:bfOk ops bf=true){L:List Nat}(ge:∀(j:Nat) (o:Oper),ops[j]?=some o->j ∉ L->∀e∈bM o,e ∉ L):∀(n i:Nat)(o:Oper),i<n->ops[i]?=some o->(∀e∈bM o,e ∉ L)->∀r,r<i->(bf.getD i 0).testBit r=true->r ∉ L
 |0,i,o,hn,_,_,_,_,_=>by omega
 |n+1,i,o,hn,ho,hed,r,hr,hb=>by
  obtain⟨h1,h2⟩:=Wu h ho;obtain⟨e,he,hor⟩:=h2 r hr hb;rcases hor with rfl|⟨ao,hbe⟩
  ·exact hed _ he
  ·have hei:=h1 e he;have ba:i<ops.length:=(yn.1 ho).1;have hoe:ops[e]?=some ops[e]:=yf (by omega);exact B3 h ge n e _ (by omega) hoe (ge e _ hoe (hed e he)) r ao hbe
theorem Wa {ops:List Oper}{cs:List aD}(h:SW ops cs=true){i j:Nat}(hj:j<ops.length)(hij:i<j)(hb:((ZS ops).getD j 0).testBit i=false):∃x y,cs[i]?=some x/\cs[j]?=some y/\dI x y=true/\LQ x y=true:=by
 unfold SW at h;simp only[yg]at h;have h1:=ye.1 h.2 j (List.mem_range.2 hj);have h2:=ye.1 h1 i (List.mem_range.2 hij);rw[hb,Bool.false_or]at h2;split at h2
 ·rename_i x y hx hy;simp only[yg]at h2;exact⟨x,y,hx,hy,h2.1,h2.2⟩
 ·cases h2
theorem Z3 {ops:Array Oper}{cs:List aD}(kb:∀f args S r,call f args S=some r->MD P O f args S r)(mi:J2 P O lh.h)(wa:∀(i:Nat) (o:Oper),ops[i]?=some o->∃c,cs[i]?=some c/\u7 P nt ops o c)(da:cs.length=ops.size)(hf:WV cs=true)(tl:SW ops.toList cs=true){k:LC->Option RV}{r:RV}
  (hQ:∀s' a' w',SG P O nt B F0 aa w0 (fun _=>True) s' a' w'->k s'=some r->Q .normal a' w') :
  ∀(fuel:Nat)(L:List Nat)(listed:Array Bool)(s:LC)(a:Act)(w:World),L.length=fuel->(∀i,i<ops.size->(listed.getD i true=false↔i∈L))->listed.size=ops.size->L.Pairwise (·<·)->(∀i∈L,i<ops.size) →
   (∀(j:Nat)(o:Oper),ops.toList[j]?=some o->j ∉ L->∀e∈bM o,e ∉ L)->SG P O nt B F0 aa w0 (fun t=>∃j c,j ∉ L/\cs[j]?=some c/\c.dst=some t) s a w->fM call lh cs L s k=some r->wpAny P .any ops Q fuel listed a w
 |0,L,listed,s,a,w,hl,hlist,zc,_,_,_,R,hr=>by
  have:L=[]:=Y04 hl;subst this;refine⟨?_,?_⟩
  ·refine List.eq_nil_iff_forall_not_mem.2 fun i hi=>?_
   obtain⟨tw,o,ho,_⟩:=mem_ready.1 hi;have ee:=(Array.getElem?_eq_some_iff.1 ho).1;have:=(hlist i ee).1 tw;cases this
  ·obtain⟨ι,Θ,R⟩:=R;exact hQ s a w ⟨ι,Θ,R.more fun _ _=>trivial⟩ hr
 |fuel+1,L,listed,s,a,w,hl,hlist,zc,hsort,oj,ge,R,hr=>by
  have hbf:bfOk ops.toList (ZS ops.toList)=true:=by
   unfold SW at tl;simp only[yg]at tl;exact tl.1
  refine⟨fun hnone=>?_,fun i hi=>?_⟩
  ·exfalso;cases L with
   |nil=>simp at hl
   |cons i0 L0 =>
    have pg:=oj i0 (yo);have ho:ops.toList[i0]?=some ops[i0]:=by simp[pg]
    have pd:i0∈Region.ready .any ops listed:=by
     refine mem_ready.2 ⟨(hlist i0 pg).2 (yo),ops[i0],Y0p pg,fun e he hb=>?_⟩;have ba:=(Wu hbf ho).1 e.on (S4.2 ⟨e,he,hb,rfl⟩);have hnot:e.on ∉ i0::L0:=fun hm=>by
      rcases yt.1 hm with h|h
      ·omega
      ·have:=(Y0f.1 hsort).1 _ h;omega
     have h1:listed.getD e.on true≠false:=fun h=>hnot ((hlist e.on (by omega)).1 h)
     have hs:e.on<listed.size:=by omega
     simp only[Y0j,Y0p hs,Option.getD_some]at h1 ⊢;simpa using h1
    rw[hnone]at pd;cases pd
  ·obtain ⟨tw,o,ho,hed⟩:=mem_ready.1 hi;have ee:=(Array.getElem?_eq_some_iff.1 ho).1;have hiL:=(hlist i ee).1 tw;have hol:ops.toList[i]?=some o:=by simpa using ho
   have hedL:∀e∈bM o,e ∉ L:=fun e he=>by
    obtain⟨d,hd,hb,rfl⟩:=S4.1 he;have h1:=hed d hd hb;intro hm;have ba:=oj _ hm;have h2:=(hlist _ ba).2 hm;have hs:d.on<listed.size:=by omega
    simp only[Y0j,Y0p hs,Option.getD_some]at h1 h2;rw[h1]at h2;cases h2
   obtain⟨L1,L2,rfl⟩:=List.append_of_mem hiL;obtain⟨c,hc,ok⟩:=wa i o ho;have zi:=List.pairwise_append.1 hsort;have rq:∀r∈L1,∃cr,cs[r]?=some cr/\dI cr c=true/\LQ cr c=true:=fun r hr=>by
    have hri:r<i:=zi.2.2 r hr i (yo);have hbit:((ZS ops.toList).getD i 0).testBit r=false:=by
     cases hb:((ZS ops.toList).getD i 0).testBit r with
     |false=>rfl
     |true=>exact absurd (List.mem_append_left _ hr) (B3 hbf ge (i+1) i o (by omega) hol hedL r hri hb)
    obtain⟨x,y,hx,hy,h1,h2⟩:=Wa tl (by simpa using ee) hri hbit;rw[hc]at hy;injection hy with hy;subst hy;exact⟨x,hx,h1,h2⟩
   have h1:=bubble hc rq hr;have le:i ∉ L1++L2:=fun hm=>by
    rcases yu.1 hm with h|h
    ·have:=zi.2.2 i h i (yo);omega
    ·have:=(Y0f.1 zi.2.1).1 i h;omega
   have kf:∀j,j ∉ L1++i::L2↔(j ∉ L1++L2/\j≠i):=fun j=>by
    simp only[yu,yt,not_or];exact⟨fun⟨h1,h2,h3⟩=>⟨⟨h1,h3⟩,h2⟩,fun⟨⟨h1,h3⟩,h2⟩=>⟨h1,h2,h3⟩⟩
   refine cY R kb mi ho ok (fun d hd hA ⟨j,c',hj,nc,xq⟩=>?_) h1 fun s1 a' w' R' h2=>?_
   ·have:j≠i:=((kf j).1 hj).2;exact IZ hf nc hc this hA (by rw[ok.dst,hd];rfl) (by rw[xq,ok.dst,hd])
   ·refine Z3 kb mi wa da hf tl hQ fuel (L1++L2) (listed.setIfInBounds i true) s1 a' w' (by simp at hl ⊢; omega) (fun j hj=>?_) (by simpa using zc) ?_ (fun j hj=>oj j ?_) (fun j o' jp hj e he hm=>?_) ?_ h2
    ·have hjs:j<listed.size:=by omega
     by_cases e:i=j
     ·subst e;simp only[Y0j,Array.getElem?_setIfInBounds,if_true,hjs,Option.getD_some];exact⟨fun h=>by simp at h,fun h=>absurd h le⟩
     ·simp only[Y0j,Array.getElem?_setIfInBounds,if_neg e];have:=hlist j hj;simp only[Y0j]at this;rw[this];simp only[yu,yt];exact⟨fun h=>by rcases h with h|h|h;exact .inl h;exact absurd h.symm e;exact .inr h,fun h=>by rcases h with h|h;exact .inl h;exact .inr (.inr h)⟩
    ·exact List.pairwise_append.2 ⟨zi.1,(Y0f.1 zi.2.1).2,fun x hx y hy=>zi.2.2 x hx y (yp _ hy)⟩
    ·rcases yu.1 hj with h | h
     ·exact List.mem_append_left _ h
     ·exact List.mem_append_right _ (yp _ h)
    ·have we:e∈L1++i::L2:=by
      rcases yu.1 hm with h|h
      ·exact List.mem_append_left _ h
      ·exact List.mem_append_right _ (yp _ h)
     by_cases e':j=i
     ·subst e';rw[hol]at jp;injection jp with jp;subst jp;exact hedL e he we
     ·exact ge j o' jp ((kf j).2 ⟨hj,e'⟩) e he we
    ·obtain ⟨ι,Θ,R'⟩:=R';refine ⟨ι,Θ,R'.more fun t ht=>?_⟩;rcases ht with ⟨j,c',hj,nc,xq⟩ | ht
     ·exact⟨j,c',((kf j).1 hj).1,nc,xq⟩
     ·exact⟨i,c,le,hc,by rw[ok.dst,ht]⟩
theorem P6 (hm:P.follows .mixedOrders=true)(kb:∀f args S r,call f args S=some r->MD P O f args S r)(mi:J2 P O lh.h){boxes:List Nat}{id:Nat}{ops:Array Oper}{draw:Bool}{cs:List aD}(hc:iV P boxes nt ops.toList draw ops.toList=some cs)(hf:WV cs=true)(hd:draw=true->SW ops.toList cs=true)
  (R:SG P O nt B F0 aa w0 (fun _=>False) s a w) {k:LC->Option RV} {r:RV} (hr:eJ call lh cs s k=some r) (hQ:∀s' a' w',SG P O nt B F0 aa w0 (fun _=>False) { s' with next:=s'.next+1 } a' w'->k s'=some r->Q .normal a' w'):(Code.region id ops draw).wp P Q a w:=by
 obtain⟨da,dl⟩:=eY hc;have gp:cs.length=ops.size:=by simpa using da
 have wa:∀(i:Nat)(o:Oper),ops[i]?=some o->∃c,cs[i]?=some c/\u7 P nt ops o c:=fun i o ho=>by
  have:=dl i o (by simpa using ho);rw[Y07]at this;exact this
 have hQ':∀s' a' w',SG P O nt B F0 aa w0 (fun _=>True) s' a' w'->k s'=some r->Q .normal a' w':=fun s' a' w' h hk=>hQ s' a' w' h.next hk
 cases draw with
 |false =>
  refine wp_region ?_;rw[List.range_eq_range'];refine H4 kb mi wa gp hf ops.size 0 s a w (by omega) ?_ (by simpa using hr) hQ';obtain⟨ι,Θ,R⟩:=R;exact⟨ι,Θ,R.more fun _ h=>h.elim⟩
 |true =>
  refine wp_region_any hm ?_;have oa:fM call lh cs (List.range' 0 ops.size) s k=some r:=by
   rw[<- gp,<- Z1 cs k cs.length 0 s (by omega)];simpa using hr
  refine Z3 kb mi wa gp hf (hd rfl) hQ' ops.size (List.range' 0 ops.size) _ s a _ (by simp) (fun i hi=>?_) (by simp) List.pairwise_lt_range' (fun i hi=>?_) (fun j o ho hj=>?_) ?_ oa
  ·simp[hi]
  ·simpa using hi
  ·have:=(yn.1 ho).1;exact absurd (by simpa using this) (by simpa using hj)
  ·obtain⟨ι,Θ,R⟩:=R;exact⟨ι,Θ,(R.grow (w':=w.drew) (fun _ _=>rfl) (yl _) R.kept.drew).more fun _ h=>h.elim⟩
end
end
section
open Go Go.RowKit
section
variable {P:Program} {O:XH} {nt B:Nat} {F0:pR} {aa:Av} {w0:World} {s s':LC} {a:Act} {w w':World} {call:sE} {lp:LH}
def exOf:Ex->Exit
 |.nrm=>.normal
 |.exit id=>.exit id
 |.ret=>.ret
def Qg (P:Program)(O:XH)(N:Nat)(lp:LpT):Prop :=
 ∀(boxes:List Nat)(nt B:Nat)(F0:pR)(aa:Av)(w0:World)(code:Code)(b:C)(s:LC)(k:Ex->LC->Option RV)(r:RV)(a:Act)(w:World)(Q:Exit->Act->World->Prop),comp P boxes nt code=some b->lp b s k=some r->SG P O nt B F0 aa w0 (fun _=>False) s a w →
  (∀e s' a' w',SG P O nt B F0 aa w0 (fun _=>False) s' a' w'->k e s'=some r->Q (exOf e) a' w')->Code.rounds P code Q N a w
theorem TH (hm:P.follows .mixedOrders=true)(kb:∀f args S r,call f args S=some r->MD P O f args S r){N:Nat}(oh:Qg P O N lp.l)(mi:J2 P O lp.h){boxes:List Nat}:
  ∀(code:Code)(c:C)(s:LC)(k:Ex->LC->Option RV)(r:RV)(a:Act)(w:World)(Q:Exit->Act->World->Prop),comp P boxes nt code=some c->c.run call lp s k=some r->SG P O nt B F0 aa w0 (fun _=>False) s a w →
   (∀e s' a' w',SG P O nt B F0 aa w0 (fun _=>False) s' a' w'->k e s'=some r->Q (exOf e) a' w')->code.wp P Q a w
 |.skip,c,s,k,r,a,w,Q,hc,hr,R,hk=>by
  injection hc with hc;subst hc;exact wp_skip (hk .nrm s a w R hr)
 |.seq x y,c,s,k,r,a,w,Q,hc,hr,R,hk=>by
  unfold comp at hc;split at hc
  ·rename_i cx cy hx hy;injection hc with hc;subst hc;refine wp_seq (TH hm kb oh mi x cx s _ r a w _ hx hr R fun e s' a' w' R' he=>?_);cases e with
   |nrm=>exact TH hm kb oh mi y cy s' k r a' w' Q hy he R' hk
   |exit id=>exact hk _ _ _ _ R' he
   |ret=>exact hk _ _ _ _ R' he
  ·cases hc
 |.region id ops draw,c,s,k,r,a,w,Q,hc,hr,R,hk=>by
  unfold comp at hc;split at hc
  ·rename_i cs ol;split at hc
   ·rename_i wa;injection hc with hc;subst hc;simp only[yg,Bool.or_eq_true]at wa;simp only[C.run]at hr;exact P6 hm kb mi ol wa.1 (fun h=>by rcases wa.2 with h'|h';rw[h]at h';cases h';exact h') R hr fun s' a' w' R' sf=>hk .nrm _ _ _ R' sf
   ·cases hc
  ·cases hc
 |.cond x t e,c,s,k,r,a,w,Q,hc,hr,R,hk=>by
  unfold comp at hc;split at hc
  ·rename_i cx ct ce hx ht he;injection hc with hc;subst hc;simp only [C.run] at hr;split at hr
   ·rename_i b hb;have hv:a.eval x=.bool b:=by
     obtain⟨ι,Θ,R⟩:=R;have:=(R.pA hx).1
     rwa [hb,cE]at this
    cases b with
    |true=>exact wp_cond_true hv (TH hm kb oh mi t ct s k r a w Q ht (by simpa using hr) R hk)
    |false=>exact wp_cond_false hv (TH hm kb oh mi e ce s k r a w Q he (by simpa using hr) R hk)
   ·cases hr
  ·cases hc
 |.block id b,c,s,k,r,a,w,Q,hc,hr,R,hk=>by
  unfold comp at hc;obtain⟨cb,hb,rfl⟩:=yq.1 hc;refine wp_block (TH hm kb oh mi b cb s _ r a w _ hb hr R fun e s' a' w' R' he=>?_);cases e with
  |nrm=>exact hk _ _ _ _ R' he
  |ret=>exact hk _ _ _ _ R' he
  |exit j =>
   simp only at he;show Exit.inBlock id Q (.exit j) a' w';unfold Exit.inBlock;split at he
   ·rename_i e;simp only[e,if_true];exact hk _ _ _ _ R' he
   ·rename_i e;simp only[e,if_false];exact hk _ _ _ _ R' he
 |.loop b,c,s,k,r,a,w,Q,hc,hr,R,hk=>by
  unfold comp at hc;obtain⟨cb,hb,rfl⟩:=yq.1 hc;exact wp_loop_rounds N (oh boxes nt B F0 aa w0 b cb s k r a w Q hb hr R hk)
 |.exit id,c,s,k,r,a,w,Q,hc,hr,R,hk=>by
  injection hc with hc;subst hc;exact wp_exit (hk (.exit id) s a w R hr)
 |.ret,c,s,k,r,a,w,Q,hc,hr,R,hk=>by
  injection hc with hc;subst hc;exact wp_ret (hk .ret s a w R hr)
 |.scope b,c,s,k,r,a,w,Q,hc,hr,R,hk=>by
  unfold comp at hc;refine wp_scope_straight (TH hm kb oh mi b c s k r a w _ hc hr R fun e s' a' w' R' he=>?_);have:=hk _ _ _ _ R' he;cases e<;>exact this
 |.rangeFunc ..,_,_,_,_,_,_,_,hc,_,_,_=>by cases hc
 |.label _,_,_,_,_,_,_,_,hc,_,_,_=>by cases hc
 |.goto _,_,_,_,_,_,_,_,hc,_,_,_=>by cases hc
 |.refuse _,_,_,_,_,_,_,_,hc,_,_,_=>by cases hc
theorem Ec {ι:Ix}{av:Av}{x:AV}{v:Value}(h:WD ι av (fun _ _=>False) w x v)(hx:x.free=true):ZG av w x v:=by
  cases x<;>first
    |exact h
    |(simp[AV.free,AV.tA]at hx;done)
    | (obtain ⟨us,hv,hc⟩:=h
       exact⟨us,hv,IJ hc fun y hy=>ye.1 hx y hy⟩)
theorem CX {av:Av}:∀{xs:List AV}{us:List Value},PO av w xs us->us.length=xs.length
 | [],_,h=>by simp only[PO]at h;subst h;rfl
 |x::r,_,h=>by
  simp only[PO]at h;obtain⟨u,gb,rfl,_,h⟩:=h;simp[CX h]
theorem DU {p:Nat}{av:Av}:∀{xs:List AV}{us:List Value},CN p av w xs us->us.length=xs.length
 | [],_,h=>by simp only[CN]at h;subst h;rfl
 |x::r,_,h=>by
  simp only[CN]at h;obtain⟨u,gb,rfl,_,h⟩:=h;simp[DU h]
def DP (ι:Ix)(av avb:Av)(w:World):List AV->List Value->Prop
 | [],us=>us=[]
 |x::r,us=>∃u gb,us=u::gb/\WD ι av avb w x u/\DP ι av avb w r gb
theorem WD.toRep {ι:Ix}{av pb avb:Av}{x:AV}{v:Value}(h:WD ι av avb w x v)(hx:x.free=true)(ld:∀b o,pb b o->av b o):ZG pb w x v :=
 ZG.held (QD.less ld) _ _ (Ec (UZ (ι':=ι) h hx) hx)
theorem DP.toT {ι:Ix}{av pb avb:Av}(ld:∀b o,pb b o->av b o):∀{xs:List AV}{us:List Value},DP ι av avb w xs us->(∀v∈xs,v.free=true)->PO pb w xs us
 | [],_,h,_=>h
 |x::r,_,h,hf=>by
  simp only[DP]at h;obtain⟨u,gb,rfl,h0,h⟩:=h;exact⟨u,gb,rfl,h0.toRep (hf x yo) ld,h.toT ld fun v hv=>hf v (yp _ hv)⟩
theorem Nw {t n:Nat}{x:AV}(h:(WL t n x).NA=true):x=.ptr t n 0:=by
 cases x with
 |ptr t' n' o =>
  simp only[WL]at h;split at h
  ·rename_i e;obtain⟨rfl,rfl,rfl⟩:=e;rfl
  ·cases h
 |_=>cases h
theorem W9 {t n:Nat}{x:AV}(h:(WL t n x).free=true):WL t n x=x:=by
 cases x with
 |ptr t' n' o =>
  simp only[WL]at h;split at h<;>cases h
 |_=>rfl
theorem DP.toO {ι:Ix}{av pb avb:Av}{t n p:Nat}(hp:ι t n=some p)(ld:∀b o,pb b o->av b o):∀{xs:List AV}{us:List Value},DP ι av avb w xs us->(∀v∈xs,((WL t n v).free||(WL t n v).NA)=true)->CN p pb w (xs.map (WL t n)) us
 | [],_,h,_=>h
 |x::r,_,h,hf=>by
  simp only[DP]at h;obtain⟨u,gb,rfl,h0,h⟩:=h;refine⟨u,gb,rfl,?_,h.toO hp ld fun v hv=>hf v (yp _ hv)⟩;have h1:=hf x yo;unfold UW;split
  ·rename_i ho;have:=Nw ho;subst this;obtain⟨b,hb,hv⟩:=h0;rw[hp]at hb;injection hb with hb;rw[hv,hb]
  ·rename_i ho;have pe:(WL t n x).free=true:=by
    rcases Bool.or_eq_true_iff.1 h1 with h|h
    ·exact h
    ·exact absurd h ho
   have jg:=W9 pe;rw[jg]at pe ⊢;exact h0.toRep pe ld
theorem DP.FA {D:Nat->Prop}{ι:Ix}{Θ:kM}(R:DE P O nt B F0 aa w0 D s a w ι Θ):∀{xs:List AV}{us:List Value},DP ι (BE aa ι Θ) (uF ι Θ) w xs us->DP ι (Ae s (BE aa ι Θ) ι) (uF ι Θ) w (xs.map (AV.FA s)) us
 | [],_,h=>h
 |x::r,_,h=>by
  simp only[DP]at h;obtain⟨u,gb,rfl,h0,h⟩:=h;exact⟨u,gb,rfl,h0.FA R,h.FA R⟩
def fP (us:List Value):Value:=if h:us.toArray.size=1 then us.toArray[0]else .tuple us.toArray
theorem i1 {av:Av}:∀{xs:List AV}{us:List Value},PO av w xs us->ZG av w (KY xs) (fP us)
 | [],us,h=>by simp only[PO]at h;subst h;exact⟨#[],rfl,rfl⟩
 | [x],us,h=>by
  simp only[PO]at h;obtain⟨u,gb,rfl,h0,rfl⟩:=h;exact h0
 |x::y::r,us,h=>by
  have hl:=CX h;have:¬us.toArray.size=1:=by simp;simp at hl;omega
  unfold fP;rw[dif_neg this];exact⟨_,rfl,h⟩
theorem Ud {p:Nat}{av:Av}:∀{xs:List AV}{us:List Value},CN p av w xs us->(∀v∈xs,(v.free||v.NA)=true)->D9 p av w (KY xs) (fP us)
 | [],us,h,_=>by simp only[CN]at h;subst h;exact⟨#[],rfl,rfl⟩
 | [x],us,h,hf=>by
  simp only[CN]at h;obtain⟨u,gb,rfl,h0,rfl⟩:=h;have:=hf x yo;cases x with
  |fA vs=>cases this
  |_=>exact h0
 |x::y::r,us,h,_=>by
  have hl:=DU h;have:¬us.toArray.size=1:=by simp;simp at hl;omega
  unfold fP;rw[dif_neg this];exact⟨_,rfl,h⟩
def RP (tmps:Array Value):ResultVar->Sem Value
 |.tmp t=>pure (tmps.getD t undef)
 |.cell b t=>do loadVar t (<- asAddr (tmps.getD b undef))
theorem wZ {D:Nat->Prop}{ι:Ix}{Θ:kM}(R:DE P O nt B F0 aa w0 D s a w ι Θ):∀{rs:List ResultVar}{cs:List Wp}{vs:List AV},EN P rs=some cs->zW s cs=some vs →
  ∃us,(rs.mapM (RP a.tmps)).run P w=Result.ok us w/\DP ι (BE aa ι Θ) (uF ι Θ) w vs us
 | [],cs,vs,h,hr=>by
  injection h with h;subst h;injection hr with hr;subst hr;exact⟨[],by simp,rfl⟩
 |.tmp t::rs,cs,vs,h,hr=>by
  unfold EN at h;obtain⟨l,hl,rfl⟩:=yq.1 h;simp only[zW]at hr;obtain⟨ly,hv,rfl⟩:=yq.1 hr;obtain⟨us,hu,hT⟩:=wZ R hl hv;refine⟨a.tmps.getD t undef::us,by rw[List.mapM_cons];simp only[RP,Sem.run_bind,Sem.run_pure,Result.andThen_ok,hu],_,us,rfl,R.env t,hT⟩
 |.cell b t::rs,cs,vs,h,hr=>by
  unfold EN at h;split at h
  ·rename_i ag z l hA hz hl;injection h with h;subst h;simp only [zW] at hr;split at hr
   ·rename_i t' n off hb;cases hm:s.mem t' n with
    |none=>rw[hm]at hr;cases hr
    |some row =>
     rw[hm,J]at hr;obtain⟨x,hx,hr⟩:=yh.1 hr;obtain⟨ly,hv,rfl⟩:=yq.1 hr;obtain⟨us,hu,hT⟩:=wZ R hl hv;have hv:=R.env b;rw[hb,BI]at hv;obtain⟨bb,hbb,hv⟩:=hv;obtain⟨cj,b',cur,ty,db,ra,ja,_⟩:=R.rows t' n row hm;rw[hbb]at db;injection db with db;subst db;have jc:∀(j:Nat)(u:Value),((cur.toList.take row.length).drop off)[j]?=some u->w.cell? ⟨bb,off+j,none⟩=some u:=fun j u hu=>by
      rw[cell_of_row w bb (off+j) cur ty (0,0) ra];rw[yI,yK]at hu;split at hu
      ·simpa using hu
      ·cases hu
     have kc:=qI off ja.rep;have hi:XI ag z ((row.map (·.v)).drop off)=some x.v:=by
      cases ag with
      |true =>
       simp only[eD,if_true]at hx;split at hx
       ·rename_i bc;injection hx with hx;subst hx;simp only[XI,if_true,yJ,yc];rw[if_pos (by omega)];simp[yW,Y01]
       ·cases hx
      |false =>
       simp only[eD,yM,if_false]at hx;simp[XI,yI,hx]
     obtain⟨u,oa,hS,_⟩:=xS (P:=P) (avb:=uF ι Θ) hA hz kc jc hi;refine⟨u::us,by rw[List.mapM_cons];simp only[RP,Sem.run_bind,hv,asAddr,Sem.run_pure,Result.andThen_ok,oa,hu],_,us,rfl,hS,hT⟩
   ·cases hr
  ·cases h
structure gD (P:Program)(f:FuncId)(c:FD):Prop where
 enter:∀xs w,(callFunc f xs).run P w=.ok (.enter f xs) w
 fn:∃fn,P.funcs[f]?=some fn/\wU P c.mu fn=some c
theorem ZX {ι:Ix}{av avl:Av}:∀{xs:List AV}{us:List Value},jJ ι av avl w xs us->us.length=xs.length
 | [],_,h=>by simp only[jJ]at h;subst h;rfl
 |x::r,_,h=>by
  simp only[jJ]at h;obtain⟨u,gb,rfl,_,h⟩:=h;simp[ZX h]
theorem o7 {ι:Ix}{av avl:Av}:∀{xs:List AV}{us:List Value}(_:jJ ι av avl w xs us)(t:Nat),WD ι av avl w (xs.getD t .undef) (us.getD t undef)
 | [],_,_,_=>by simp[WD]
 |x::r,_,h,t=>by
  simp only[jJ]at h;obtain⟨u,gb,rfl,h0,h⟩:=h;cases t with
  |zero=>simpa using h0
  |succ t=>simpa using o7 h t
section
variable {vs:List Value} {args:List AV}
include vs args
theorem KW {ι:Ix}{av avl:Av}{np:Nat}(h:jJ ι av avl w args vs)(hl:args.length=np)(hn:np<=nt):(vs.toArray++Array.replicate (nt-vs.toArray.size) undef).size=nt:=by
 have:=ZX h;simp;omega
theorem FZ {ι ι':Ix}{av pb avb avl:Av}{S0:Option AV}(h:jJ ι av avl w args vs)(hι:Ix.Le ι ι')(hA:QD av pb w w)(hB:QD avl avb w w)(t:Nat):
  WD ι' pb avb w ((LC.init args S0).env t).v ((vs.toArray++Array.replicate (nt-vs.toArray.size) undef).getD t undef):=by
 have h1:=WD.held hι hA hB _ _ (o7 h t);have h2:(vs.toArray++Array.replicate (nt-vs.toArray.size) undef).getD t undef=vs.getD t undef:=by
  simp only[Y0j,List.getD_eq_getElem?_getD,Array.getElem?_append,yY,List.getElem?_toArray];split
  ·rfl
  ·rename_i ej;rw[Y08 (by omega)];simp only[Array.getElem?_replicate];split<;>rfl
 rw[h2];exact h1
theorem JW {av:Av}{np:Nat}(h:jJ Ix.none av (fun _ _=>False) w args vs)(ld:O.low (fun _=>False) av w)(hl:args.length=np)(hn:np<=nt):
  SG P O nt w.heap.size ⟨fun _=>False,none,fun _=>False,0,fun _=>undef⟩ av w (fun _=>False) (LC.init args none) { tmps:=vs.toArray++Array.replicate (nt-vs.toArray.size) undef,defers:=[] } w:=by
 have jx:∀b o,uF Ix.none (fun _=>none) b o->False:=fun b o h=>by rcases h with(⟨t,n,h⟩|⟨t,n,H,h,_⟩)|⟨k,ow,h,_⟩<;>cases h
 have hA:QD av (BE av Ix.none (fun _=>none)) w w:=QD.less fun b o h=>h.resolve_right (jx b o)
 have hB:QD (fun _ _=>False) (uF Ix.none (fun _=>none)) w w:=QD.less fun b o h=>jx b o h
 exact⟨Ix.none,fun _=>none,rfl,KW h hl hn,fun t=>FZ h (Ix.Le.refl _) hA hB t,fun t=>trivial,fun t n r h=>(by cases h),fun t n b h=>(by cases h),fun _ _ _ _ _ h=>(by cases h),fun _ _ h=>(by cases h),fun _ _ _ _ h=>(by cases h),fun _ _ _ _ h=>(by cases h),ld.2,fun _ h=>(by cases h),SD.refl _ _,⟨rfl,ld.1⟩,fun t n S h=>(by simp[LC.init]at h),fun t n H h=>(by cases h),fun _=>trivial,fun _=>trivial⟩
theorem Za {av:Av}{np p:Nat}{H:Nat->Prop}{S:AV}(h:jJ (Ix.one p) av (fun b _=>H b) w args vs)(ld:O.low H av w)(hH:∀b o,H b->av b o)(de:O.at_ S H p w)(hni:Ew S=true)(hl:args.length=np)(hn:np<=nt):
  SG P O nt w.heap.size ⟨H,some p,fun _=>False,0,fun _=>undef⟩ av w (fun _=>False) (LC.init args (some S)) { tmps:=vs.toArray++Array.replicate (nt-vs.toArray.size) undef,defers:=[] } w:=by
 obtain⟨ι,hι⟩:∃ι:Ix,ι=⟨fun t n=>if t=0/\n=0 then some p else none,fun t n=>if t=0/\n=0 then some H else none,fun _=>0⟩:=⟨_,rfl⟩;have hf:∀t n b,ι t n=some b->t=0/\n=0/\b=p:=fun t n b h=>by
  subst hι;have h':(if t=0/\n=0 then some p else none)=some b:=h;split at h'
  ·rename_i e;injection h' with h';exact⟨e.1,e.2,h'.symm⟩
  ·cases h'
 have ho:∀t n H1,ι.ob t n=some H1->t=0/\n=0/\H1=H:=fun t n b h=>by
  subst hι;simp only at h;split at h
  ·rename_i e;injection h with h';exact⟨e.1,e.2,h'.symm⟩
  ·cases h
 have h0:ι 0 0=some p:=by subst hι;rfl
 have h1:ι.ob 0 0=some H:=by subst hι;rfl
 have kf:∀t n b,Ix.one p t n=some b->ι t n=some b:=fun t n b h=>by subst hι;exact h
 have bc:Ix.Le (Ix.one p) ι:=⟨kf,fun _ _ _ _=>by subst hι;rfl⟩;clear hι;have hpH:=O.main de;have jx:∀b o,uF ι (fun _=>none) b o->H b:=fun b o h=>by
  rcases h with(⟨t,n,h⟩|⟨t,n,H1,h,hb⟩)|⟨k,ow,h,_⟩
  ·rw[(hf _ _ _ h).2.2];exact hpH
  ·rw[(ho _ _ _ h).2.2]at hb;exact hb
  ·cases h
 have hA:QD av (BE av ι (fun _=>none)) w w:=QD.less fun b o h=>h.elim id fun h=>hH b o (jx b o h)
 refine⟨ι,fun _=>none,rfl,KW h hl hn,fun t=>?_,fun t=>trivial,fun t n r h=>(by cases h),fun t n b h=>?_,fun t n t' n' b h h'=>?_,fun _ _ h=>(by cases h),fun _ _ _ _ h=>(by cases h),fun _ _ _ _ h=>(by cases h),ld.2,fun q h=>?_,SD.refl _ _,⟨rfl,ld.1⟩,fun t n S1 h=>?_,fun t n H1 h=>?_,fun _=>trivial,fun _=>trivial⟩
 ·exact FZ h bc hA (QD.less fun b o h=>jx b o h) t
 ·obtain⟨rfl,rfl,rfl⟩:=hf _ _ _ h;exact⟨.inr hpH,O.lt de hpH,.inl (by simp[LC.init])⟩
 ·obtain⟨rfl,rfl,_⟩:=hf _ _ _ h;obtain⟨rfl,rfl,_⟩:=hf _ _ _ h';exact⟨rfl,rfl⟩
 ·injection h with h;subst h;exact⟨h0,.inr ⟨H,h1⟩⟩
 ·simp only [LC.init] at h;split at h
  ·rename_i e;injection h with h;subst h;exact⟨p,H,by rw[e.1,e.2];exact h0,by rw[e.1,e.2];exact h1,de,Ue.no hni⟩
  ·cases h
 ·obtain ⟨rfl,rfl,rfl⟩:=ho _ _ _ h;refine ⟨fun b hb=>⟨.inr hb,O.lt de hb,fun t' n' h=>?_,fun _ _ h=>(by cases h),fun t' n' H' h _=>?_⟩,.inl (by simp [LC.init])⟩
  ·obtain⟨rfl,rfl,_⟩:=hf _ _ _ h;exact⟨rfl,rfl⟩
  ·obtain⟨rfl,rfl,_⟩:=ho _ _ _ h;exact⟨rfl,rfl⟩
end
theorem Ul {vs:List Value}{args cs:List AV}{av:Av}{np p:Nat}{cur:Array Value}{ty:TypeId}(h:jJ (Ix.row p cur.size) av (fun b _=>b=p) w args vs)(ld:O.low (fun b=>b=p) av w)(od:∀o,av p o)(ra:w.heap[p]?=some (.cells cur ty (0,0)))(ol:cs.length<=cur.size)(kc:eE av w cs (cur.toList.take cs.length))(hl:args.length=np)(hn:np<=nt):
  SG P O nt w.heap.size ⟨fun b=>b=p,some p,fun b=>b=p,cur.size,fun _=>undef⟩ av w (fun _=>False) (LC.NB args cs) { tmps:=vs.toArray++Array.replicate (nt-vs.toArray.size) undef,defers:=[] } w:=by
 have hf:∀t n b,(Ix.row p cur.size) t n=some b->t=0/\n=0/\b=p:=fun t n b h=>by
  have h':(if t=0/\n=0 then some p else none)=some b:=h;split at h'
  ·rename_i e;injection h' with h';exact⟨e.1,e.2,h'.symm⟩
  ·cases h'
 have jx:∀b o,uF (Ix.row p cur.size) (fun _=>none) b o->b=p:=fun b o h=>by
  rcases h with(⟨t,n,h⟩|⟨t,n,H1,h,hb⟩)|⟨k,ow,h,_⟩
  ·exact(hf _ _ _ h).2.2
  ·cases h
  ·cases h
 have hA:QD av (BE av (Ix.row p cur.size) (fun _=>none)) w w:=QD.less fun b o h=>h.elim id fun h=>jx b o h▸od o
 refine⟨Ix.row p cur.size,fun _=>none,rfl,KW h hl hn,fun t=>?_,fun t=>trivial,fun t n r h=>?_,fun t n b h=>?_,fun t n t' n' b h h'=>?_,fun _ _ h=>(by cases h),fun _ _ _ _ h=>(by cases h),fun _ _ _ _ h=>(by cases h),ld.2,fun q h=>?_,SD.refl _ _,⟨rfl,ld.1⟩,fun t n S1 h=>(by cases h),fun t n H1 h=>(by cases h),fun _=>trivial,fun _=>trivial⟩
 ·exact FZ (S0:=none) h (Ix.Le.refl _) hA (QD.less fun b o h=>jx b o h) t
 ·simp only [LC.NB] at h;split at h
  ·rename_i e;injection h with h;subst h;refine⟨rfl,p,cur,ty,by rw[e.1,e.2];rfl,ra,Mi (eE.held hA _ _ kc) fun j u hu=>?_,.inr rfl,rfl⟩;have hj:j<cs.length:=by
    have:=(yn.1 hu).1;rw[yz]at this;omega
   rw[List.getElem?_take_of_lt hj]at hu;simpa using hu
  ·cases h
 ·obtain⟨rfl,rfl,rfl⟩:=hf _ _ _ h;exact⟨.inr rfl,sD ra,.inl (by simp[LC.NB])⟩
 ·obtain⟨rfl,rfl,_⟩:=hf _ _ _ h;obtain⟨rfl,rfl,_⟩:=hf _ _ _ h';exact⟨rfl,rfl⟩
 ·injection h with h;subst h;exact⟨rfl,.inl ⟨rfl,rfl⟩⟩
theorem DE.tB {D:Nat->Prop}{ι:Ix}{Θ:kM}(R:DE P O nt B F0 aa w0 D s a w ι Θ):DE P O nt B F0 aa w0 D s.tB a w ι Θ :=
 ⟨R.defers,R.size,R.env,R.aC,fun t n r h=>by
  simp only[LC.tB]at h;split at h
  ·cases h
  ·exact R.rows t n r h,R.mine,R.inj,R.tok,R.ZA,R.apart,R.out,R.pin,R.kept,R.base,R.qB,R.obs,R.gen,R.pB⟩
theorem xW {D:Nat->Prop}{ι:Ix}{Θ:kM}(R:DE P O nt B F0 aa w0 D s a w ι Θ):∀{rs:List ResultVar}{cs:List Wp}{vs:List SC},EN P rs=some cs->NH s cs=some vs →
  ∃us,(rs.mapM (RP a.tmps)).run P w=Result.ok us w/\HI ι Θ (BE aa ι Θ) (uF ι Θ) w vs us
 | [],cs,vs,h,hr=>by
  injection h with h;subst h;injection hr with hr;subst hr;exact⟨[],by simp,rfl⟩
 |.tmp t::rs,cs,vs,h,hr=>by
  unfold EN at h;obtain⟨l,hl,rfl⟩:=yq.1 h;simp only[NH]at hr;obtain⟨ly,hv,rfl⟩:=yq.1 hr;obtain⟨us,hu,hT⟩:=xW R hl hv;refine⟨a.tmps.getD t undef::us,by rw[List.mapM_cons];simp only[RP,Sem.run_bind,Sem.run_pure,Result.andThen_ok,hu],_,us,rfl,R.env t,R.aC t,hT⟩
 |.cell b t::rs,cs,vs,h,hr=>by
  unfold EN at h;split at h
  ·rename_i ag z l hA hz hl;injection h with h;subst h;simp only [NH] at hr;split at hr
   ·rename_i t' n off hb;cases hm:s.mem t' n with
    |none=>rw[hm]at hr;cases hr
    |some row =>
     rw[hm,J]at hr;obtain⟨x,hx,hr⟩:=yh.1 hr;obtain⟨ly,hv,rfl⟩:=yq.1 hr;obtain⟨us,hu,hT⟩:=xW R hl hv;have hv:=R.env b;rw[hb,BI]at hv;obtain⟨bb,hbb,hv⟩:=hv;obtain⟨cj,b',cur,ty,db,ra,ja,_⟩:=R.rows t' n row hm;rw[hbb]at db;injection db with db;subst db;have jc:∀(j:Nat)(u:Value),((cur.toList.take row.length).drop off)[j]?=some u->w.cell? ⟨bb,off+j,none⟩=some u:=fun j u hu=>by
      rw[cell_of_row w bb (off+j) cur ty (0,0) ra];rw[yI,yK]at hu;split at hu
      ·simpa using hu
      ·cases hu
     have kc:=qI off ja.rep;have hi:XI ag z ((row.map (·.v)).drop off)=some x.v:=by
      cases ag with
      |true =>
       simp only[eD,if_true]at hx;split at hx
       ·rename_i bc;injection hx with hx;subst hx;simp only[XI,if_true,yJ,yc];rw[if_pos (by omega)];simp[yW,Y01]
       ·cases hx
      |false =>
       simp only[eD,yM,if_false]at hx;simp[XI,yI,hx]
     obtain⟨u,oa,hS,_⟩:=xS (P:=P) (avb:=uF ι Θ) hA hz kc jc hi;refine⟨u::us,by rw[List.mapM_cons];simp only[RP,Sem.run_bind,hv,asAddr,Sem.run_pure,Result.andThen_ok,oa,hu],u,us,rfl,hS,trivial,hT⟩
   ·cases hr
  ·cases h
theorem Rd (hm:P.follows .mixedOrders=true){call:sE}{lp:LH}{N:Nat}(kb:∀f args S r,call f args S=some r->MD P O f args S r)(oh:Qg P O N lp.l)(mi:J2 P O lp.h){f:FuncId}{fn:Func}{c:FD}(jd:∀xs w,(callFunc f xs).run P w=.ok (.enter f xs) w)(xo:P.funcs[f]?=some fn)(fe:wU P c.mu fn=some c){args:List AV}{r:RV}(da:args.length=c.np)
  (h:c.code.run call lp (LC.init args none) (FM c)=some r):cK P O f args none r:=by
 unfold wU at fe;split at fe
 ·cases fe
 ·rename_i code tj;split at fe
  ·rename_i cc rr th rz;split at fe
   ·rename_i ia;injection fe with fe;obtain⟨mu,mo⟩:∃mu,mu=c.mu:=⟨_,rfl⟩;rw[<- mo]at fe th;clear mo;subst fe;have pt:fn.params.size+fn.nfree<=fn.ntmps:=ia;have key:∀(av:Av)(w:World)(vs:List Value),O.low (fun _=>False) av w->jJ Ix.none av (fun _ _=>False) w args vs->∀E:Ending->World->Prop,
      (∀s' a' w' ι Θ us xs,DE P O fn.ntmps w.heap.size ⟨fun _=>False,none,fun _=>False,0,fun _=>undef⟩ av w (fun _=>False) s' a' w' ι Θ->HI ι Θ (BE av ι Θ) (uF ι Θ) w' xs us->NH s' rr=some xs->FM ⟨cc,rr,fn.params.size+fn.nfree,mu⟩ .ret s'=some r->E (.returned (fP us)) w')->Calls P f vs.toArray w E:=fun av w vs ld za E hE=>by
     refine calls_of_wp xo tj ?_;refine TH hm kb oh mi code cc _ _ _ _ w _ th h (JW za ld da pt) fun e s' a' w' R' he=>?_
     have uj:e=.nrm\/e=.ret:=by
      cases e with
      |nrm=>exact .inl rfl
      |ret=>exact .inr rfl
      |exit id=>cases he
     have uh:FM ⟨cc,rr,fn.params.size+fn.nfree,mu⟩ .ret s'=some r:=by rcases uj with rfl|rfl<;>exact he
     obtain⟨xs,oc⟩:∃xs,NH s' rr=some xs:=by
      cases hx:NH s' rr with
      |none=>simp only[FM,hx]at uh;cases uh
      |some xs=>exact⟨xs,rfl⟩
     obtain⟨ι,Θ,R'⟩:=R';obtain⟨us,ne,sq⟩:=xW R' rz oc;have fg:(results fn a'.tmps).run P w'=.ok (fP us) w':=by
      have he:results fn a'.tmps=(do let vs <- fn.results.mapM (RP a'.tmps);pure (if h:vs.size=1 then vs[0]else .tuple vs)):=rfl;rw[he,Array.mapM_eq_mapM_toList];simp only[Sem.run_bind,Sem.run_map,ne,Result.andThen_ok,Sem.run_pure];rfl
     have post:a'.defers=[]/\∃v,(results fn a'.tmps).run P w'=.ok v w'/\E (.returned v) w':=⟨R'.defers,_,fg,hE s' a' w' ι Θ us xs R' sq oc uh⟩;rcases uj with rfl|rfl<;>exact post
    have one:∀{x:SC}{us:List Value}{ι:Ix}{Θ:kM}{av avb:Av}{w:World},HI ι Θ av avb w [x] us->∃u,fP us=u/\WD ι av avb w x.v u/\QM Θ x.a u:=fun{x us ι Θ av avb w} h=>by
     simp only[HI]at h;obtain⟨u,gb,rfl,h0,h1,rfl⟩:=h;exact⟨u,rfl,h0,h1⟩
    refine⟨jd,?_⟩;obtain⟨r1,r2⟩:=r;have main:∀(nl:Bool)(l:List (List AV)),(r1,r2)=(.sl nl l,none)->∀(av:Av)(w:World)(vs:List Value),O.low (fun _=>False) av w->jJ Ix.none av (fun _ _=>False) w args vs →
      Calls P f vs.toArray w fun e w'=>∃v,e=.returned v/\(if l=[]then ZG av w' (.sl nl []) v/\∃A,v=.slice A 0 0 else ∀z,kD z l=true->I5 w (fun _=>False) z av w' l v)/\Below w.heap.size w w':=fun nl l hr av w vs ld za=>by
     refine key av w vs ld za _ fun s' a' w' ι Θ us xs R' hT oc hf=>?_
     rw[hr]at hf;simp only[FM,oc]at hf;split at hf
     ·rename_i b a0 he;injection he with he;split at hf
      case isFalse=>cases hf
      rename_i aj;injection hf with hf;injection hf with hf _;injection hf with h1 h2;subst h1;subst h2;subst he;obtain⟨u,hu,h0,h9⟩:=one hT;refine⟨_,rfl,?_,R'.kept.below⟩;rw[if_pos rfl,hu];refine⟨ZG.held (QD.less fun b o h=>.inl h) _ _ h0,?_⟩;obtain⟨A,c,rfl,_,_,h3,_⟩:=h0;cases b with
      |true =>
       obtain⟨rfl,_,rfl⟩:=h3 rfl;exact⟨_,rfl⟩
      |false =>
       unfold LY tE at aj;cases a0 with
       |ex =>
        obtain⟨A',n',h⟩:=h9;injection h with h1 h2 h3;exact⟨A,by rw[h3,<- h2];rfl⟩
       |no=>cases aj
       |own k e=>cases aj
     ·rename_i t n sz len cap a0 he;injection he with he;subst he;obtain ⟨l1,xh,hf⟩:=yq.1 hf;injection hf with hf _;injection hf with h1 h2;subst h1; subst h2;obtain ⟨row,pd,fb⟩:=yh.1 xh;obtain ⟨u,hu,h0,_⟩:=one hT;obtain ⟨b,hb,bc,cc2,hcc2,cq,hv⟩:=h0;obtain ⟨gd,b',cur,ty,db,ra,ja,sk,jo⟩:=R'.rows t n row pd;rw [hb] at db;injection db with db;subst db;obtain ⟨q1,q2,us2,q3,q4⟩:=QJ ja ra fb;have ua:l1≠[]:=fun e=>by rw [e] at q1; simp at q1
      have ne:us2=cur.toList.take l1.flatten.length:=Fo q3 fun j u hj=>by
       have:=q4 j u hj;simpa [World.cell?,ra]using this
      rw[ne]at q3;refine⟨_,rfl,?_,R'.kept.below⟩;rw[if_neg ua,hu];intro z hz;have zc:z=sz:=by
       cases l1 with
       |nil=>exact absurd rfl ua
       |cons c r =>
        rw[wH]at hz;simp only[yg,decide_eq_true_eq]at hz;rw[<- hz.1,q2 c yo]
      subst zc;refine⟨b,cc2,cur,ty,by rw[q1];exact hv,.inl (sk.elim id False.elim),ra,by rw[q1];exact yH bc hcc2,by rw[jo];simpa using cq,eE.held (QD.less fun b' o h=>?_) _ _ q3⟩;rcases h with h|rfl
      ·exact .inl h
      ·exact .inr (.inl (.inl ⟨t,n,hb⟩))
     ·cases hf
    split
    all_goals first
     |exact True.intro
     |exact main _ _ (by assumption)
     |(rename_i e;cases e;done)
     |(rename_i e _;cases e;done)
   ·cases fe
  ·cases fe
theorem Fd (hm:P.follows .mixedOrders=true){call:sE}{lp:LH}{N:Nat}(kb:∀f args S r,call f args S=some r->MD P O f args S r)(oh:Qg P O N lp.l)(mi:J2 P O lp.h){f:FuncId}{fn:Func}{c:FD}(jd:∀xs w,(callFunc f xs).run P w=.ok (.enter f xs) w)(xo:P.funcs[f]?=some fn)(fe:wU P c.mu fn=some c){rest cs:List AV}{r:RV}(da:rest.length=c.np)
  (h:c.code.run call lp (LC.NB rest cs) (Ik c cs.length)=some r):E5 P O f rest (some (.agg cs)) r:=by
 unfold wU at fe;split at fe
 ·cases fe
 ·rename_i code tj;split at fe
  ·rename_i cc rr th rz;split at fe
   ·rename_i ia;injection fe with fe;obtain ⟨mu,mo⟩:∃ mu,mu=c.mu:=⟨_,rfl⟩;rw [<- mo] at fe th;clear mo;subst fe;have pt:fn.params.size + fn.nfree<=fn.ntmps:=ia;refine ⟨jd,?_⟩;obtain ⟨r1,r2⟩:=r
    match r2,h with
    |some (.agg oy),h =>
     intro av w vs p cur ty ld od ra bc kc za;refine calls_of_wp xo tj ?_;refine TH hm kb oh mi code cc _ _ _ _ w _ th h (Ul za ld od ra bc kc da pt) fun e s' a' w' R' he=>?_
     have uj:e=.nrm\/e=.ret:=by
      cases e with
      |nrm=>exact .inl rfl
      |ret=>exact .inr rfl
      |exit id=>cases he
     have uh:∃xs,zW s' rr=some xs/\Ok cs.length s' (xs.map (AV.FA s'.tB))=some (r1,some (.agg oy)):=by
      rcases uj with rfl|rfl<;>exact yh.1 he
     obtain⟨xs,oc,ae⟩:=uh;obtain⟨ι,Θ,R'⟩:=R';obtain⟨us,ne,sq⟩:=wZ R' rz oc;have fg:(results fn a'.tmps).run P w'=.ok (fP us) w':=by
      have he:results fn a'.tmps=(do let vs <- fn.results.mapM (RP a'.tmps);pure (if h:vs.size=1 then vs[0]else .tuple vs)):=rfl;rw[he,Array.mapM_eq_mapM_toList];simp only[Sem.run_bind,Sem.run_map,ne,Result.andThen_ok,Sem.run_pure];rfl
     have hs:=sq.FA R'.tB;unfold Ok at ae;split at ae
     ·rename_i nb;obtain ⟨row,ai,ae⟩:=yh.1 ae;split at ae
      ·rename_i ia;injection ae with ae;injection ae with hfv1 hfv2;injection hfv2 with hfv2;injection hfv2 with hfv2;subst hfv1;subst hfv2;obtain⟨gd,b,sa,dj,hb,er,ja,_,hz⟩:=R'.rows 0 0 row ai;obtain⟨hpp,hpz⟩:=R'.pin p rfl;rw[hpp]at hb;injection hb with hb;subst hb;have hz':ι.z p=cur.size:=by
        rcases hpz with⟨_,h⟩|⟨H,h⟩
        ·exact h
        ·rw[h]at gd;cases gd
       have kf:∀b o,av b o->Ae s'.tB (BE av ι Θ) ι b o:=fun b o h=>⟨.inl h,fun⟨t,n,r,hm,hb⟩=>by
        simp only[LC.tB]at hm;split at hm
        ·cases hm
        ·rename_i hn;obtain ⟨_,b',_,_,db,_,_,sk,_⟩:=R'.rows t n r hm;rw [hb] at db;injection db with db;subst db;rcases sk with sk | sk
         ·have:=ld.2 _ _ h;omega
         ·have:b=p:=sk;subst this;exact hn (R'.inj _ _ _ _ _ hb hpp)⟩
       have post:a'.defers=[]/\∃v,(results fn a'.tmps).run P w'=.ok v w'/\∃v' cur'' ty'',Ending.returned v=.returned v'/\ZG av w' (KY (xs.map (AV.FA s'.tB))) v'/\w'.heap[p]?=some (.cells cur'' ty'' (0,0))/\cur''.size=cur.size/\eE av w' (row.map fun x=>AV.lA s'.tB x.v) (cur''.toList.take (row.map fun x=>AV.lA s'.tB x.v).length)/\SD (fun b=>b=p) w w':=by
        refine⟨R'.defers,_,fg,_,sa,dj,rfl,i1 (hs.toT kf fun v hv=>ye.1 nb v hv),er,hz.trans hz',?_,R'.kept⟩;have h1:=ja.rep.FA R'.tB;rw[y9]at h1;have h2:=IJ h1 fun x hx=>ye.1 ia.1 x hx
        rw[yc];exact eE.held (QD.less kf) _ _ h2
       rcases uj with rfl|rfl<;>exact post
      ·cases ae
     ·cases ae
    |none,h=>trivial
    |some (.int ..),h=>trivial
    |some (.bool _),h=>trivial
    |some (.str _),h=>trivial
    |some .EA,h=>trivial
    |some (.ptr ..),h=>trivial
    |some (.ip _),h=>trivial
    |some (.bp _),h=>trivial
    |some (.sl ..),h=>trivial
    |some (.bl _),h=>trivial
    |some (.ref ..),h=>trivial
    |some (.mp ..),h=>trivial
    |some (.fn ..),h=>trivial
    |some (.fA _),h=>trivial
    |some .undef,h=>trivial
   ·cases fe
  ·cases fe
theorem TQ {ι:Ix}{Θ:kM}{av avb:Av}:∀{xs:List SC}{us:List Value},HI ι Θ av avb w xs us->us.length=xs.length
 | [],_,h=>by simp only[HI]at h;subst h;rfl
 |x::r,_,h=>by
  simp only[HI]at h;obtain⟨u,gb,rfl,_,_,h⟩:=h;simp[TQ h]
theorem IW {ι:Ix}{Θ:kM}{av avb:Av}:∀{xs:List SC}{us:List Value}(_:HI ι Θ av avb w xs us)(t:Nat),WD ι av avb w (xs.getD t ⟨.undef,.no⟩).v (us.getD t undef)/\QM Θ (xs.getD t ⟨.undef,.no⟩).a (us.getD t undef)
 | [],_,_,_=>by simp[WD,QM]
 |x::r,_,h,t=>by
  simp only[HI]at h;obtain⟨u,gb,rfl,h0,h1,h⟩:=h;cases t with
  |zero=>simpa using⟨h0,h1⟩
  |succ t=>simpa using IW h t
theorem Rg {ι:Ix}{av avb:Av}{x:AV}{v:Value}(h:WD ι av avb w x v)(hx:x.UC=true):qS ι av w x v:=by
 cases x<;>first
  |exact h
  |(cases hx;done)
theorem pZ {ι:Ix}{Θ:kM}{av avb:Av}:∀{xs:List SC}{us:List Value},HI ι Θ av avb w xs us->xs.all (fun x=>x.v.UC)=true->rJ ι av w (xs.map (·.v)) us
 | [],_,h,_=>h
 |x::r,_,h,hf=>by
  simp only[HI]at h;obtain⟨u,gb,rfl,h0,_,h⟩:=h;simp only[List.all_cons,yg]at hf;exact⟨u,gb,rfl,Rg h0 hf.1,pZ h hf.2⟩
theorem Td {ι:Ix}{Θ:kM}{av avb:Av}:∀{xs:List SC}{us:List Value}{y:SC},HI ι Θ av avb w xs us->qK xs=some y->WD ι av avb w y.v (fP us)/\QM Θ y.a (fP us)
 | [],us,y,h,hp=>by
  simp only[HI]at h;subst h;injection hp with hp;subst hp;exact⟨⟨#[],rfl,rfl⟩,trivial⟩
 | [x],us,y,h,hp=>by
  simp only[HI]at h;obtain⟨u,gb,rfl,h0,h1,rfl⟩:=h;injection hp with hp;subst hp;exact⟨h0,h1⟩
 |x::z::r,us,y,h,hp=>by
  have hl:=TQ h;have:¬us.toArray.size=1:=by simp;simp at hl;omega
  unfold fP;rw[dif_neg this];unfold qK at hp;split at hp
  ·rename_i e;cases e
  ·split at hp
   ·rename_i nb;injection hp with hp;subst hp;exact⟨⟨_,rfl,pZ h nb⟩,trivial⟩
   ·cases hp
theorem La {B:Nat}{F0:pR}{aa:Av}{w0 w:World}{ι:Ix}{Θ:kM}{xs:List SC}{us:List Value}(R:i7 P O B F0 aa w0 s w ι Θ)(h:HI ι Θ (BE aa ι Θ) (uF ι Θ) w xs us){np:Nat}(hl:xs.length=np)(hn:np<=nt):
  DE P O nt B F0 aa w0 (fun _=>False) (s.lB xs) { tmps:=us.toArray++Array.replicate (nt-us.toArray.size) undef,defers:=[] } w ι Θ:=by
 have hg:∀t,(us.toArray++Array.replicate (nt-us.toArray.size) undef).getD t undef=us.getD t undef:=fun t=>by
  simp only[Y0j,List.getD_eq_getElem?_getD,Array.getElem?_append,yY,List.getElem?_toArray];split
  ·rfl
  ·rename_i ej;rw[Y08 (by omega)];simp only[Array.getElem?_replicate];split<;>rfl
 have zc:(us.toArray++Array.replicate (nt-us.toArray.size) undef).size=nt:=by
  have:=TQ h;simp;omega
 exact⟨rfl,zc,fun t=>by simp only[LC.lB];rw[hg];exact(IW h t).1,fun t=>by simp only[LC.lB];rw[hg];exact(IW h t).2,R.rows,R.mine,R.inj,R.tok,R.ZA,R.apart,R.out,R.pin,R.kept,R.base,R.qB,R.obs,R.gen,R.pB⟩
theorem DE.bare {D:Nat->Prop}{ι:Ix}{Θ:kM}(R:DE P O nt B F0 aa w0 (fun _=>False) s a w ι Θ):i7 P O B F0 aa w0 s w ι Θ :=
 ⟨rfl,rfl,fun _=>trivial,fun _=>trivial,R.rows,R.mine,R.inj,R.tok,R.ZA,R.apart,R.out,R.pin,R.kept,R.base,R.qB,R.obs,R.gen,R.pB⟩
theorem Pq (hm:P.follows .mixedOrders=true){call:sE}{lp:LH}{N:Nat}(kb:∀f args S r,call f args S=some r->MD P O f args S r)(oh:Qg P O N lp.l)(mi:J2 P O lp.h){f:FuncId}{fn:Func}{c:FD}(jd:∀xs w,(callFunc f xs).run P w=.ok (.enter f xs) w)(xo:P.funcs[f]?=some fn)(fe:wU P c.mu fn=some c){xs:List SC}{k:SC->LC->Option RV}{r:RV}(da:xs.length=c.np)
  (h:c.code.run call lp (s.lB xs) (SK c k)=some r):(∀vs w,(callFunc f vs).run P w=.ok (.enter f vs) w) ∧
 ∀(B:Nat)(F0:pR)(aa:Av)(w0 w:World)(ι:Ix)(Θ:kM)(us:List Value)(E:Ending->World->Prop),i7 P O B F0 aa w0 s w ι Θ->HI ι Θ (BE aa ι Θ) (uF ι Θ) w xs us →
  (∀y s' w' ι' Θ' v,i7 P O B F0 aa w0 s' w' ι' Θ'->WD ι' (BE aa ι' Θ') (uF ι' Θ') w' y.v v->QM Θ' y.a v->k y s'=some r->E (.returned v) w')->Calls P f us.toArray w E:=by
 unfold wU at fe;split at fe
 ·cases fe
 ·rename_i code tj;split at fe
  ·rename_i cc rr th rz;split at fe
   ·rename_i ia;injection fe with fe;obtain ⟨mu,mo⟩:∃ mu,mu=c.mu:=⟨_,rfl⟩;rw [<- mo] at fe th;clear mo;subst fe;have pt:fn.params.size + fn.nfree<=fn.ntmps:=ia;refine ⟨jd,fun B F0 aa w0 w ι Θ us E R oc hE=>?_⟩;refine calls_of_wp xo tj ?_;refine TH hm kb oh mi code cc _ _ _ _ w _ th h ⟨ι,Θ,La R oc da pt⟩ fun e s' a' w' R' he=>?_
    have uj:e=.nrm\/e=.ret:=by
     cases e with
     |nrm=>exact .inl rfl
     |ret=>exact .inr rfl
     |exit id=>cases he
    have uh:∃y,(NH s' rr).bind qK=some y/\k y s'=some r:=by
     rcases uj with rfl|rfl<;>exact yh.1 he
    obtain⟨y,hy,hk⟩:=uh;obtain⟨l,hl,hp⟩:=yh.1 hy;obtain⟨ι',Θ',R'⟩:=R';obtain⟨vs,hvs,sq⟩:=xW R' rz hl;have fg:(results fn a'.tmps).run P w'=.ok (fP vs) w':=by
     have he:results fn a'.tmps=(do let vs <- fn.results.mapM (RP a'.tmps);pure (if h:vs.size=1 then vs[0]else .tuple vs)):=rfl;rw[he,Array.mapM_eq_mapM_toList];simp only[Sem.run_bind,Sem.run_map,hvs,Result.andThen_ok,Sem.run_pure];rfl
    obtain⟨rh,jk⟩:=Td sq hp;have post:a'.defers=[]/\∃v,(results fn a'.tmps).run P w'=.ok v w'/\E (.returned v) w':=⟨R'.defers,_,fg,hE y s' w' ι' Θ' _ (DE.bare (D:=fun _=>False) R') rh jk hk⟩;rcases uj with rfl|rfl<;>exact post
   ·cases fe
  ·cases fe
theorem Cq {args rest:List AV}(h:tU args=some rest):args=.undef :: .undef::rest:=by
 unfold tU at h;split at h
 ·injection h with h;subst h;rfl
 ·cases h
theorem gZ (hm:P.follows .mixedOrders=true){T:Nat->Option FD}{ext:sE}(hT:∀f c,T f=some c->gD P f c)(gv:∀f args S r,ext f args S=some r->MD P O f args S r):
  ∀N,(∀f args S r,xG T ext N f args S=some r->MD P O f args S r)/\Qg P O N (RL T ext N)/\J2 P O (MM T ext N)
 |0=>by
  refine⟨fun f args S r h=>?_,fun _ _ _ _ _ _ _ _ _ _ _ _ _ _ _ h _ _=>(by cases h),fun _ _ _ _ _ h=>(by cases h)⟩;unfold xG at h;split at h
  ·exact gv f args S r h
  ·cases h
 |N+1=>by
  obtain⟨iq,pm,jq⟩:=gZ hm hT gv N;refine⟨fun f args S0 r h=>?_,fun boxes nt B F0 aa w0 code b s k r a w Q hc h R hk=>?_,fun f xs s k r h=>?_⟩
  ·unfold xG at h;split at h
   ·exact gv f args S0 r h
   ·rename_i c hTc;obtain ⟨jd,fn,xo,fe⟩:=hT f c hTc;cases hmk:tU args with
    |some rest =>
     rw[hmk]at h
     match S0,h with
     |some (.agg cs),h =>
      simp only at h;split at h
      ·rename_i hl;rw[Cq hmk];exact Fd (lp:=⟨RL T ext N,MM T ext N⟩) hm iq pm jq jd xo fe hl.1 h
      ·cases h
     |none,h=>cases h
     |some (.int ..),h=>cases h
     |some (.bool _),h=>cases h
     |some (.str _),h=>cases h
     |some .EA,h=>cases h
     |some (.ptr ..),h=>cases h
     |some (.ip _),h=>cases h
     |some (.bp _),h=>cases h
     |some (.sl ..),h=>cases h
     |some (.bl _),h=>cases h
     |some (.ref ..),h=>cases h
     |some (.mp ..),h=>cases h
     |some (.fn ..),h=>cases h
     |some (.fA _),h=>cases h
     |some .undef,h=>cases h
    |none =>
    rw[hmk]at h;simp only at h;split at h
    case isFalse =>
     split at h
     ·rename_i xr;obtain ⟨da,ls,hmt,hS⟩:=xr;cases args with
      |nil=>cases ls
      |cons x rest =>
       cases x with
       |undef =>
        simp only[List.tail_cons]at hmt h;cases S0 with
        |some S=>cases hS
        |none =>
         have h2:=Rd (O:=O) (lp:=⟨RL T ext N,MM T ext N⟩) hm iq pm jq jd xo fe (by simpa using da) h;cases rest with
         |nil=>exact h2
         |cons y r=>cases y<;>first|exact h2|(simp[zI]at hmt;done)
       |_=>cases ls
     ·cases h
    ·rename_i xr;obtain ⟨da,ls,hnoit⟩:=xr;unfold wU at fe;split at fe
     ·cases fe
     ·rename_i code tj;split at fe
      ·rename_i cc rr th rz;split at fe
       ·rename_i ia;injection fe with fe;obtain⟨mu,mo⟩:∃mu,mu=c.mu:=⟨_,rfl⟩;rw[<- mo]at fe th;clear mo;subst fe;have pt:fn.params.size+fn.nfree<=fn.ntmps:=ia;have ending:∀{F0:pR}{av:Av}{w:World}{vs:List Value}{E:Ending->World->Prop},
          SG P O fn.ntmps w.heap.size F0 av w (fun _=>False) (LC.init args S0) { tmps:=vs.toArray++Array.replicate (fn.ntmps-vs.toArray.size) undef,defers:=[] } w →
          (∀(s':LC)(a':Act)(w':World)(ι:Ix)(Θ:kM)(us:List Value)(xs:List AV),DE P O fn.ntmps w.heap.size F0 av w (fun _=>False) s' a' w' ι Θ->DP ι (Ae s' (BE av ι Θ) ι) (uF ι Θ) w' xs us->TZ S0 s' xs=some r->E (.returned (fP us)) w')->Calls P f vs.toArray w E:=fun{F0 av w vs E} R hE=>by
         refine calls_of_wp xo tj ?_;refine TH (lp:=⟨RL T ext N,MM T ext N⟩) hm iq pm jq code cc _ _ r _ w _ th h R fun e s' a' w' R' he=>?_
         have uj:e=.nrm\/e=.ret:=by
          cases e with
          |nrm=>exact .inl rfl
          |ret=>exact .inr rfl
          |exit id=>cases he
         have uh:∃xs,zW s' rr=some xs/\TZ S0 s' (xs.map (AV.FA s'))=some r:=by
          rcases uj with rfl|rfl<;>exact yh.1 he
         obtain⟨xs,oc,ae⟩:=uh;obtain⟨ι,Θ,R'⟩:=R';obtain⟨us,ne,sq⟩:=wZ R' rz oc;have fg:(results fn a'.tmps).run P w'=.ok (fP us) w':=by
          have he:results fn a'.tmps=(do let vs <- fn.results.mapM (RP a'.tmps);pure (if h:vs.size=1 then vs[0]else .tuple vs)):=rfl;rw[he,Array.mapM_eq_mapM_toList];simp only[Sem.run_bind,Sem.run_map,ne,Result.andThen_ok,Sem.run_pure];rfl
         have post:a'.defers=[]/\∃v,(results fn a'.tmps).run P w'=.ok v w'/\E (.returned v) w':=⟨R'.defers,_,fg,hE s' a' w' ι Θ us _ R' (sq.FA R') ae⟩;rcases uj with rfl|rfl<;>exact post
        refine(MD.of ls).2 ⟨jd,?_⟩;obtain⟨r1,r2⟩:=r;cases S0 with
        |none =>
         cases r2 with
         |none =>
          intro av w vs ld za;refine ending (JW za ld da pt) fun s' a' w' ι Θ us xs R' hs ae=>?_
          refine⟨_,rfl,?_,R'.kept.below⟩;simp only[TZ]at ae;split at ae
          ·rename_i nb;injection ae with ae;injection ae with ae;subst ae;exact i1 (hs.toT (fun b o h=>⟨.inl h,fun⟨t,n,r,hm,hb⟩=>by
            obtain⟨_,b',cur,ty,db,_,_,sk,_⟩:=R'.rows t n r hm;rw[hb]at db;injection db with db;subst db;have:=ld.2 _ _ h;have:=sk.elim id False.elim;omega⟩) fun v hv=>ye.1 nb v hv)
          ·split at ae
           ·split at ae
            ·split at ae<;>cases ae
            ·cases ae
           ·cases ae
         |some S' =>
          intro av w vs ld za;refine ending (JW za ld da pt) fun s' a' w' ι Θ us xs R' hs ae=>?_
          simp only[TZ]at ae;split at ae
          ·cases ae
          ·split at ae
           ·rename_i t n _;split at ae
            ·rename_i S hS;split at ae
             ·rename_i nb;injection ae with ae;injection ae with hfv1 hfv2;injection hfv2 with hfv2;subst hfv1;subst hfv2;obtain ⟨p,H,hp,uc,de,_⟩:=R'.qB t n S hS;refine ⟨_,p,H,rfl,?_,de,fun b hb=>(((R'.obs t n H uc).1 b hb).1).elim id False.elim,R'.kept.below⟩;have bd:∀ v∈xs,((WL t n v).free||(WL t n v).NA)=true:=fun v hv=>ye.1 nb _ (List.mem_map_of_mem hv)
              refine Ud (hs.toO hp (fun b o h=>?_) bd) fun v hv=>ye.1 nb v hv
              refine⟨?_,fun⟨t',n',r,hm,hb⟩=>?_⟩
              ·rcases h with h | h
               ·exact .inl h
               ·exact .inr (.inl (.inr ⟨t,n,H,uc,h⟩))
              ·obtain ⟨gd,b',cur,ty,db,_,_,sk,_⟩:=R'.rows t' n' r hm;rw [hb] at db;injection db with db;subst db;rcases h with h | h
               ·have:=ld.2 _ _ h;have:=sk.elim id False.elim;omega
               ·have e:=((R'.obs t n H uc).1 b h).2.2.1 t' n' hb;rw[e.1,e.2,uc]at gd;cases gd
             ·cases ae
            ·cases ae
           ·cases ae
        |some S =>
         cases r2 with
         |none =>
          trivial
         |some S' =>
          intro av w vs p H ld hH de za;have hni:Ew S=true:=hnoit;refine ending (Za za ld hH de hni da pt) fun s' a' w' ι Θ us xs R' hs ae=>?_
          simp only[TZ]at ae;split at ae
          ·rename_i nb;obtain ⟨S1,hS1,ae⟩:=yq.1 ae;injection ae with hfv1 hfv2;injection hfv2 with hfv2;subst hfv1;subst hfv2;obtain ⟨p',H',hp,uc,uu,_⟩:=R'.qB 0 0 S1 hS1;have hpp:=(R'.pin p rfl).1;rw [hpp] at hp;injection hp with hp;subst hp;refine ⟨_,H',rfl,i1 (hs.toT (fun b o h=>?_) fun v hv=>ye.1 nb v hv),uu,fun b hb=>(((R'.obs 0 0 H' uc).1 b hb).1).symm,R'.kept⟩;refine ⟨?_,fun ⟨t',n',r,hm,hb⟩=>?_⟩
           ·rcases h with h | h
            ·exact .inl h
            ·exact .inr (.inl (.inr ⟨0,0,H',uc,h⟩))
           ·obtain ⟨gd,b',cur,ty,db,_,_,sk,_⟩:=R'.rows t' n' r hm;rw [hb] at db;injection db with db;subst db;rcases h with h | h
            ·have:=ld.2 _ _ h;have:=sk.elim id False.elim;omega
            ·have e:=((R'.obs 0 0 H' uc).1 b h).2.2.1 t' n' hb;rw[e.1,e.2,uc]at gd;cases gd
          ·cases ae
       ·cases fe
      ·cases fe
  ·unfold RL at h;rw [rounds_succ];refine TH (lp:=⟨RL T ext N,MM T ext N⟩) hm iq pm jq code b s _ r a w _ hc h R fun e s' a' w' R' he=>?_
   cases e with
   |nrm=>exact pm boxes nt B F0 aa w0 code b s' k r a' w' Q hc he R' hk
   |exit id=>exact hk _ _ _ _ R' he
   |ret=>exact hk _ _ _ _ R' he
  ·unfold MM at h;split at h
   ·cases h
   ·rename_i c hTc;obtain ⟨jd,fn,xo,fe⟩:=hT f c hTc;split at h
    ·rename_i da;exact Pq (lp:=⟨RL T ext N,MM T ext N⟩) hm iq pm jq jd xo fe da h
    ·cases h
end
end
section
section
variable {α:Type}
def xE (p:Nat->Prop):Prop:=∃n,∀m,n<=m->p m
theorem xE.and {p q:Nat->Prop}(h:xE p)(h':xE q):xE fun m=>p m/\q m:=by
 obtain⟨n,h⟩:=h;obtain⟨n',h'⟩:=h';exact⟨max n n',fun m hm=>⟨h m (by omega),h' m (by omega)⟩⟩
theorem xE.imp {p q:Nat->Prop}(h:xE p)(hi:∀m,p m->q m):xE q:=by
 obtain⟨n,h⟩:=h;exact⟨n,fun m hm=>hi m (h m hm)⟩
theorem xE.now {p:Prop}(h:p):xE fun _=>p:=⟨0,fun _ _=>h⟩
theorem xE.succ {p:Nat->Prop}(h:xE p):xE fun m=>p (m+1):=by
 obtain⟨n,h⟩:=h;exact⟨n,fun m hm=>h (m+1) (by omega)⟩
theorem xE.pred {p:Nat->Prop}(h:xE fun m=>p (m+1)):xE p:=by
 obtain⟨n,h⟩:=h;exact⟨n+1,fun m hm=>by have:=h (m-1) (by omega);simp only at this;rwa [show m-1+1=m from by omega]at this⟩
theorem xE.some {p:Nat->Prop}(h:xE p):∃m,p m:=by
 obtain⟨n,h⟩:=h;exact⟨n,h n (yl _)⟩
theorem B8 {s:LC}{callA:sE}{callB:Nat->sE}(hc:∀f args S r,callA f args S=some r->xE fun m=>callB m f args S=some r)(k:K){xe:SC×uG}(h:k.run callA s=some xe):xE fun m=>k.run (callB m) s=some xe:=by
 cases k with
 |call cl f xs =>
  simp only[K.run]at h ⊢;cases hl:DH s cl xs with
  |none=>rw[hl]at h;cases h
  |some vs =>
   rw[hl]at h;simp only[J]at h ⊢;split at h
   ·obtain⟨r,hr,h⟩:=yh.1 h;exact(hc f vs _ r hr).imp fun m hm=>by rw[hm];exact h
   ·obtain⟨r,hr,h⟩:=yh.1 h;exact(hc f vs _ r hr).imp fun m hm=>by rw[hm];exact h
   ·cases h
 |sB cl f z xs=>cases h
 |LA cl f z xs =>
  simp only[K.run]at h ⊢;split at h
  ·rename_i vs hl ho
   try simp only[hl,ho]
   obtain⟨r,hr,h⟩:=yh.1 h;exact(hc f (.undef::vs) _ r hr).imp fun m hm=>by rw[hm];exact h
  ·cases h
 |nA cl f z L x xs =>
  simp only[K.run]at h ⊢;split at h
  ·rename_i vs hl ho
   try simp only[hl,ho]
   split at h
   ·rename_i hf
    try simp only[hf,if_true]
    split at h
    ·rename_i t n z' off ln cap hx;split at h
     ·rename_i l he
      try simp only[he]
      split at h
      ·rename_i az
       try simp only[az,and_self,if_true]
       obtain⟨r,hr,h⟩:=yh.1 h;exact(hc f (.undef :: .sl false l::vs) _ r hr).imp fun m hm=>by simp_all
      ·cases h
     ·cases h
    ·rename_i b hx
     try simp only[hx]
     split at h
     ·rename_i aj
      try simp only[aj,if_true]
      obtain⟨r,hr,h⟩:=yh.1 h;exact(hc f (.undef :: .sl b []::vs) _ r hr).imp fun m hm=>by simp_all
     ·cases h
    ·cases h
   ·cases h
  ·cases h
 |bA cl f xs =>
  simp only[K.run]at h ⊢;split at h
  ·rename_i az;obtain⟨r,hr,h⟩:=yh.1 h;exact(hc f _ _ r hr).imp fun m hm=>by rw[if_pos az,hm];exact h
  ·cases h
 |JA cl x xs =>
  simp only[K.run]at h ⊢;split at h
  ·rename_i f cs hx
   try simp only[hx]
   split at h
   ·rename_i vs ws hl hw ho
    try simp only[hl,hw,ho]
    obtain⟨r,hr,h⟩:=yh.1 h;exact(hc f (vs++ws) _ r hr).imp fun m hm=>by rw[hm];exact h
   ·cases h
  ·cases h
 |uB cl f xs =>
  simp only[K.run]at h ⊢;split at h
  ·rename_i t n hp
   try simp only[hp]
   split at h
   ·rename_i wa;simp only [if_pos wa];split at h
    ·rename_i r vs hr hv
     try simp only[hr,hv]
     split at h
     ·rename_i nb;simp only[if_pos nb];obtain⟨q,hq,h⟩:=yh.1 h;exact(hc f _ _ q hq).imp fun m hm=>by rw[hm];exact h
     ·cases h
    ·cases h
   ·cases h
  ·cases h
 |_=>exact xE.now h
theorem Qf {s s1:LC}{callA:sE}{callB:Nat->sE}(hc:∀f args S r,callA f args S=some r->xE fun m=>callB m f args S=some r)(o:aD)(h1:o.step callA s=some s1):xE fun m=>o.step (callB m) s=some s1:=by
 unfold aD.step at h1 ⊢;cases hg:o.guard with
 |none =>
  rw[hg]at h1;simp only at h1 ⊢;obtain⟨xe,hx,he⟩:=yh.1 h1;exact(B8 hc o.op hx).imp fun m hm=>by rw[hm];exact he
 |some p =>
  obtain⟨t,want⟩:=p;rw[hg]at h1;simp only at h1 ⊢;cases hv:(s.env t).v with
  |bool b =>
   rw[hv]at h1;simp only at h1 ⊢;by_cases hb:b=want
   ·rw[if_pos hb]at h1;simp only[if_pos hb];obtain⟨xe,hx,he⟩:=yh.1 h1;exact(B8 hc o.op hx).imp fun m hm=>by rw[hm];exact he
   ·rw[if_neg hb]at h1;simp only[if_neg hb];exact xE.now h1
  |fA l=>rw[hv]at h1;cases l with
   |nil=>exact xE.now h1
   |cons=>cases h1
  |_=>rw[hv]at h1;cases h1
def KX (hA:HpT)(hB:Nat->HpT):Prop:=∀f xs s k r (km:Nat->SC->LC->Option RV),(∀y s' r',k y s'=some r'->xE fun m=>km m y s'=some r')->hA f xs s k=some r->xE fun m=>hB m f xs s (km m)=some r
theorem AZ {s:LC}{lhA:LH}{lhB:Nat->LH}(hh:KX lhA.h fun m=>(lhB m).h)(d:Option Nat)(nt:Nat)(x:EE)(xs:List EE){k:LC->Option RV}{r:RV}{km:Nat->LC->Option RV}(hk:∀s' r',k s'=some r'->xE fun m=>km m s'=some r')(h:AG lhA d nt x xs s k=some r):xE fun m=>AG (lhB m) d nt x xs s (km m)=some r:=by
 unfold AG at h ⊢;split at h
 ·rename_i f cs hx
  try simp only[hx]
  exact hh _ _ _ _ _ (fun m y s'=>km m ((s'.leave nt).put d y)) (fun y s' r' h'=>hk _ _ h') h
 ·cases h
theorem xE.all {l:List Nat}{Q:Nat->Nat->Prop}(h:∀i∈l,xE fun m=>Q i m):xE fun m=>∀i∈l,Q i m:=by
 induction l with
 |nil=>exact⟨0,fun m _ i hi=>by cases hi⟩
 |cons a r ih =>
  refine((h a yo).and (ih fun i hi=>h i (yp _ hi))).imp fun m hm i hi=>?_
  rcases yt.1 hi with rfl|hi
  ·exact hm.1
  ·exact hm.2 i hi
theorem Q0 {s:LC}(d:Option Nat)(x:EE){k:LC->Option RV}{r:RV}{km:Nat->LC->Option RV}(hk:∀s' r',k s'=some r'->xE fun m=>km m s'=some r')(h:k0 d x s k=some r):xE fun m=>k0 d x s (km m)=some r:=by
 unfold k0 at h;cases h
theorem Fw {s:LC}{callA:sE}{callB:Nat->sE}{lhA:LH}{lhB:Nat->LH}(hc:∀f args S r,callA f args S=some r->xE fun m=>callB m f args S=some r)(hh:KX lhA.h fun m=>(lhB m).h)(o:aD){k:LC->Option RV}{r:RV}{km:Nat->LC->Option RV}(hk:∀s' r',k s'=some r'->xE fun m=>km m s'=some r')(h:o.uA callA lhA s k=some r):xE fun m=>o.uA (callB m) (lhB m) s (km m)=some r:=by
 obtain⟨d,op,g⟩:=o;by_cases wb:Ba op=true
 ·cases op with
  |mA nt x xs =>
   simp only[aD.uA,eM]at h ⊢;cases g with
   |none=>exact AZ hh d nt x xs hk h
   |some p =>
    obtain⟨t,want⟩:=p;simp only at h ⊢;cases hv:(s.env t).v with
    |bool b =>
     rw[hv]at h;simp only at h ⊢;by_cases hb:b=want
     ·rw[if_pos hb]at h;simp only[if_pos hb];exact AZ hh d nt x xs hk h
     ·rw[if_neg hb]at h;simp only[if_neg hb];exact hk _ _ h
    |fA l=>rw[hv]at h;cases l with
     |nil=>exact hk _ _ h
     |cons=>cases h
    |_=>rw[hv]at h;cases h
  |XA x =>
   simp only[aD.uA,eM]at h ⊢;cases g with
   |none=>exact Q0 d x hk h
   |some p =>
    obtain⟨t,want⟩:=p;simp only at h ⊢;cases hv:(s.env t).v with
    |bool b =>
     rw[hv]at h;simp only at h ⊢;by_cases hb:b=want
     ·rw[if_pos hb]at h;simp only[if_pos hb];exact Q0 d x hk h
     ·rw[if_neg hb]at h;simp only[if_neg hb];exact hk _ _ h
    |fA l=>rw[hv]at h;cases l with
     |nil=>exact hk _ _ h
     |cons=>cases h
    |_=>rw[hv]at h;cases h
  |_=>cases wb
 ·have wb:Ba op=false:=by simpa using wb
  rw[MK wb]at h;obtain⟨s1,h1,h2⟩:=yh.1 h;exact((Qf hc ⟨d,op,g⟩ h1).and (hk _ _ h2)).imp fun m hm=>by rw[MK wb,hm.1];exact hm.2
theorem D8 {callA:sE}{callB:Nat->sE}{lhA:LH}{lhB:Nat->LH}(hc:∀f args S r,callA f args S=some r->xE fun m=>callB m f args S=some r)(hh:KX lhA.h fun m=>(lhB m).h):∀(ops:List aD){s:LC}{k:LC->Option RV}{r:RV}{km:Nat->LC->Option RV},(∀s' r',k s'=some r'->xE fun m=>km m s'=some r')->eJ callA lhA ops s k=some r->xE fun m=>eJ (callB m) (lhB m) ops s (km m)=some r
 | [],s,k,r,km,hk,h=>hk _ _ h
 |o::l,s,k,r,km,hk,h=>Fw hc hh o (km:=fun m s=>eJ (callB m) (lhB m) l s (km m)) (fun s' r' h'=>D8 hc hh l hk h') h
theorem eG {callA:sE}{lpA:LH}{callB:Nat->sE}{lpB:Nat->LH}(hc:∀f args S r,callA f args S=some r->xE fun m=>callB m f args S=some r)(hh:KX lpA.h fun m=>(lpB m).h)
  (hl:∀b s k r (km:Nat->Ex->LC->Option RV),(∀e s' r',k e s'=some r'->xE fun m=>km m e s'=some r')->lpA b s k=some r->xE fun m=>lpB m b s (km m)=some r) :
  ∀(c:C)(s:LC)(k:Ex->LC->Option RV)(r:RV)(km:Nat->Ex->LC->Option RV),(∀e s' r',k e s'=some r'->xE fun m=>km m e s'=some r')->c.run callA lpA s k=some r->xE fun m=>c.run (callB m) (lpB m) s (km m)=some r
 |.skip,s,k,r,km,hk,h=>hk _ _ _ h
 |.exit id,s,k,r,km,hk,h=>hk _ _ _ h
 |.ret,s,k,r,km,hk,h=>hk _ _ _ h
 |.seq a b,s,k,r,km,hk,h=>by
  refine eG hc hh hl a s _ r (fun m e s'=>match e with|.nrm=>b.run (callB m) (lpB m) s' (km m)|e=>km m e s') (fun e s' r' h'=>?_) h;cases e with
  |nrm=>exact eG hc hh hl b s' k r' km hk h'
  |exit id=>exact hk _ _ _ h'
  |ret=>exact hk _ _ _ h'
 |.reg ops,s,k,r,km,hk,h=>by
  simp only[C.run]at h ⊢;exact D8 hc hh ops (km:=fun m s=>km m .nrm { s with next:=s.next+1 }) (fun s' r' h'=>hk _ _ _ h') h
 |.cond x t e,s,k,r,km,hk,h=>by
  simp only[C.run]at h ⊢;cases hv:x.get s with
  |bool b =>
   rw[hv]at h;cases b with
   |true=>exact eG hc hh hl t s k r km hk (by simpa using h)
   |false=>exact eG hc hh hl e s k r km hk (by simpa using h)
  |_=>rw[hv]at h;cases h
 |.block id b,s,k,r,km,hk,h=>by
  refine eG hc hh hl b s _ r (fun m e s'=>match e with|.exit j=>if j=id then km m .nrm s' else km m (.exit j) s'|e=>km m e s') (fun e s' r' h'=>?_) h;cases e with
  |nrm=>exact hk _ _ _ h'
  |ret=>exact hk _ _ _ h'
  |exit j =>
   simp only at h' ⊢;by_cases e:j=id
   ·rw[if_pos e]at h';simp only[if_pos e];exact hk _ _ _ h'
   ·rw[if_neg e]at h';simp only[if_neg e];exact hk _ _ _ h'
 |.loop b,s,k,r,km,hk,h=>hl b s k r km hk h
variable {T:Nat->Option FD} {ext:sE}
theorem S9 {ext':sE}(hx:∀f args S r,ext f args S=some r->ext' f args S=some r):∀N,(∀f args S r,xG T ext N f args S=some r->xE fun m=>xG T ext' m f args S=some r) ∧
  (∀b s k r (km:Nat->Ex->LC->Option RV),(∀e s' r',k e s'=some r'->xE fun m=>km m e s'=some r')->RL T ext N b s k=some r->xE fun m=>RL T ext' m b s (km m)=some r) ∧
  KX (MM T ext N) (MM T ext')
 |0=>by
  refine⟨fun f args S r h=>⟨0,fun m _=>?_⟩,fun b s k r km _ h=>(by cases h),fun f xs s k r km _ h=>(by cases h)⟩;unfold xG at h;cases hT:T f with
  |none=>rw[hT]at h;cases m<;>(unfold xG;rw[hT];exact hx _ _ _ _ h)
  |some c=>rw[hT]at h;cases h
 |N+1=>by
  obtain⟨iq,pm,jq⟩:=S9 hx N;refine⟨?_,?_,?_⟩
  ·intro f args S0 r h;unfold xG at h;cases hT:T f with
   |none=>rw[hT]at h;exact⟨0,fun m _=>by cases m<;>(unfold xG;rw[hT];exact hx _ _ _ _ h)⟩
   |some c =>
    rw[hT]at h;cases hm:tU args with
    |some rest =>
     cases S0 with
     |none=>rw[hm]at h;cases h
     |some S =>
      cases S with
      |agg cs =>
       rw[hm]at h;simp only at h;split at h
       ·rename_i hl;refine xE.pred ((eG (lpA:=⟨RL T ext N,MM T ext N⟩) (lpB:=fun m=>⟨RL T ext' m,MM T ext' m⟩) iq jq pm c.code _ _ r (fun _=>Ik c cs.length) (fun e s' r' h'=>xE.now h') h).imp fun m we=>?_);unfold xG;rw[hT];simp only[hm];rw[if_pos hl];exact we
       ·cases h
      |_=>rw[hm]at h;cases h
    |none =>
     rw[hm]at h;simp only at h;split at h
     ·rename_i hl;refine xE.pred ((eG (lpA:=⟨RL T ext N,MM T ext N⟩) (lpB:=fun m=>⟨RL T ext' m,MM T ext' m⟩) iq jq pm c.code _ _ r (fun _=>JJ c S0) (fun e s' r' h'=>xE.now h') h).imp fun m we=>?_);unfold xG;rw[hT];simp only[hm];rw[if_pos hl];exact we
     ·rename_i hl;split at h
      ·rename_i ik;refine xE.pred ((eG (lpA:=⟨RL T ext N,MM T ext N⟩) (lpB:=fun m=>⟨RL T ext' m,MM T ext' m⟩) iq jq pm c.code _ _ r (fun _=>FM c) (fun e s' r' h'=>xE.now h') h).imp fun m we=>?_);unfold xG;rw[hT];simp only[hm];rw[if_neg hl,if_pos ik];exact we
      ·cases h
  ·intro b s k r km hk h;unfold RL at h;refine xE.pred ((eG (lpA:=⟨RL T ext N,MM T ext N⟩) (lpB:=fun m=>⟨RL T ext' m,MM T ext' m⟩) iq jq pm b s _ r (fun m=>aN (RL T ext' m) b (km (m + 1))) (fun e s' r' h'=>?_) h).imp fun m hm=>?_)
   ·cases e with
    |nrm=>exact pm b s' k r' (fun m=>km (m+1)) (fun e s'' r'' h''=>(hk e s'' r'' h'').succ) h'
    |exit id=>exact(hk _ _ _ h').succ
    |ret=>exact(hk _ _ _ h').succ
   ·unfold RL;exact hm
  ·intro f xs s k r km hk h;unfold MM at h;cases hT:T f with
   |none=>rw[hT]at h;cases h
   |some c =>
    rw[hT]at h;simp only at h;split at h
    ·rename_i hl;refine xE.pred ((eG (lpA:=⟨RL T ext N,MM T ext N⟩) (lpB:=fun m=>⟨RL T ext' m,MM T ext' m⟩) iq jq pm c.code _ _ r (fun m=>SK c (km (m + 1))) (fun e s' r' h'=>?_) h).imp fun m hm=>?_)
     ·cases e with
      |exit id=>cases h'
      |nrm =>
       simp only[SK]at h' ⊢;obtain⟨y,hy,h'⟩:=yh.1 h';simp only[hy,J];exact(hk _ _ _ h').succ
      |ret =>
       simp only[SK]at h' ⊢;obtain⟨y,hy,h'⟩:=yh.1 h';simp only[hy,J];exact(hk _ _ _ h').succ
     ·unfold MM;rw[hT];simp only;rw[if_pos hl];exact hm
    ·cases h
theorem XN:∀N,(∀f args S r,xG T ext N f args S=some r->xE fun m=>xG T ext m f args S=some r) ∧
  (∀b s k r (km:Nat->Ex->LC->Option RV),(∀e s' r',k e s'=some r'->xE fun m=>km m e s'=some r')->RL T ext N b s k=some r->xE fun m=>RL T ext m b s (km m)=some r)/\KX (MM T ext N) (MM T ext):=S9 fun _ _ _ _ h=>h
open Classical in
noncomputable def sF (T:Nat->Option FD)(ext:sE)(f:Nat)(args:List AV)(S0:Option AV):Option RV:=if h:∃r n,xG T ext n f args S0=some r then some h.choose else none
open Classical in
noncomputable def HJ (T:Nat->Option FD)(ext:sE):LpT:=fun b s k=>if h:∃r n,RL T ext n b s k=some r then some h.choose else none
open Classical in
noncomputable def Rq (T:Nat->Option FD)(ext:sE):HpT:=fun f xs s k=>if h:∃r n,MM T ext n f xs s k=some r then some h.choose else none
noncomputable def jH (T:Nat->Option FD)(ext:sE):LH:=⟨HJ T ext,Rq T ext⟩
theorem zL {f:Nat}{args:List AV}{S0:Option AV}{r:RV}:sF T ext f args S0=some r ↔ ∃n,xG T ext n f args S0=some r:=by
 unfold sF;constructor
 ·intro h;split at h
  ·rename_i hh;injection h with h;exact h▸hh.choose_spec
  ·cases h
 ·rintro⟨n,hn⟩;have hh:∃r n,xG T ext n f args S0=some r:=⟨r,n,hn⟩;rw[dif_pos hh];obtain⟨n',im⟩:=hh.choose_spec;obtain⟨m,h1,h2⟩:=(((XN n).1 f args S0 r hn).and ((XN n').1 f args S0 _ im)).some;rw[h1]at h2;exact h2.symm
theorem EZ {b:C}{s:LC}{k:Ex->LC->Option RV}{r:RV}:HJ T ext b s k=some r ↔ ∃n,RL T ext n b s k=some r:=by
 unfold HJ;constructor
 ·intro h;split at h
  ·rename_i hh;injection h with h;exact h▸hh.choose_spec
  ·cases h
 ·rintro⟨n,hn⟩;have hh:∃r n,RL T ext n b s k=some r:=⟨r,n,hn⟩;rw[dif_pos hh];obtain⟨n',im⟩:=hh.choose_spec;obtain⟨m,h1,h2⟩:=(((XN n).2.1 b s k r (fun _=>k) (fun e s' r' h=>xE.now h) hn).and ((XN n').2.1 b s k _ (fun _=>k) (fun e s' r' h=>xE.now h) im)).some;rw[h1]at h2;exact h2.symm
theorem WZ {f:Nat}{xs:List SC}{s:LC}{k:SC->LC->Option RV}{r:RV}:Rq T ext f xs s k=some r ↔ ∃n,MM T ext n f xs s k=some r:=by
 unfold Rq;constructor
 ·intro h;split at h
  ·rename_i hh;injection h with h;exact h▸hh.choose_spec
  ·cases h
 ·rintro⟨n,hn⟩;have hh:∃r n,MM T ext n f xs s k=some r:=⟨r,n,hn⟩;rw[dif_pos hh];obtain⟨n',im⟩:=hh.choose_spec;obtain⟨m,h1,h2⟩:=(((XN n).2.2 f xs s k r (fun _=>k) (fun e s' r' h=>xE.now h) hn).and ((XN n').2.2 f xs s k _ (fun _=>k) (fun e s' r' h=>xE.now h) im)).some;rw[h1]at h2;exact h2.symm
theorem Rk {ext':sE}(hx:∀f args S r,ext f args S=some r->ext' f args S=some r){f:Nat}{args:List AV}{S0:Option AV}{r:RV}(h:sF T ext f args S0=some r):sF T ext' f args S0=some r:=by
 obtain⟨n,hn⟩:=zL.1 h;exact zL.2 ((S9 hx n).1 f args S0 r hn).some
theorem D7 (f:Nat)(args:List AV)(S0:Option AV)(r:RV)(h:sF T ext f args S0=some r):xE fun m=>xG T ext m f args S0=some r:=by
 obtain⟨n,hn⟩:=zL.1 h;exact(XN n).1 f args S0 r hn
theorem F7 (b:C)(s:LC)(k:Ex->LC->Option RV)(r:RV)(km:Nat->Ex->LC->Option RV)(hk:∀e s' r',k e s'=some r'->xE fun m=>km m e s'=some r')(h:HJ T ext b s k=some r):xE fun m=>RL T ext m b s (km m)=some r:=by
 obtain⟨n,hn⟩:=EZ.1 h;exact(XN n).2.1 b s k r km hk hn
theorem Tk:KX (Rq T ext) (MM T ext):=fun f xs s k r km hk h=>by
 obtain⟨n,hn⟩:=WZ.1 h;exact(XN n).2.2 f xs s k r km hk hn
theorem sV (c:C)(s:LC)(k:Ex->LC->Option RV)(r:RV)(km:Nat->Ex->LC->Option RV)(hk:∀e s' r',k e s'=some r'->xE fun m=>km m e s'=some r')(h:c.run (sF T ext) (jH T ext) s k=some r):xE fun m=>c.run (xG T ext m) ⟨RL T ext m,MM T ext m⟩ s (km m)=some r :=
 eG (lpA:=jH T ext) (lpB:=fun m=>⟨RL T ext m,MM T ext m⟩) D7 Tk F7 c s k r km hk h
theorem GJ {f:Nat}{args:List AV}{S0:Option AV}{r:RV}(c:FD)(hT:T f=some c)(hl:args.length=c.np)(h:c.code.run (sF T ext) (jH T ext) (LC.init args S0) (JJ c S0)=some r)(hm:zI args=false:=by rfl)(hS:Ki S0=true:=by rfl):sF T ext f args S0=some r:=by
 obtain⟨m,we⟩:=(sV c.code _ _ r (fun _=>JJ c S0) (fun e s' r' h'=>xE.now h') h).some;refine zL.2 ⟨m+1,?_⟩;have hR:tU args=none:=by
  unfold tU;split
  ·cases hm
  ·rfl
 unfold xG;rw[hT];simp only[hR];rw[if_pos ⟨hl,hm,hS⟩];exact we
theorem MF {f:Nat}{args:List AV}{r:RV}(c:FD)(hT:T f=some c)(hl:args.length=c.np)(h:c.code.run (sF T ext) (jH T ext) (LC.init args none) (FM c)=some r)(hm:zI args=false:=by rfl):sF T ext f (.undef::args) none=some r:=by
 obtain⟨m,we⟩:=(sV c.code _ _ r (fun _=>FM c) (fun e s' r' h'=>xE.now h') h).some;refine zL.2 ⟨m+1,?_⟩;have hR:tU (.undef::args)=none:=by
  cases args with
  |nil=>rfl
  |cons x r=>cases x<;>first|rfl|(simp[zI]at hm;done)
 unfold xG;rw[hT];simp only[hR];rw[if_neg (fun e=>by cases e.2.1),if_pos ⟨by simp[hl],rfl,hm,rfl⟩];exact we
theorem wM {f:Nat}{xs:List SC}{s:LC}{k:SC->LC->Option RV}{r:RV}(c:FD)(hT:T f=some c)(hl:xs.length=c.np)(h:c.code.run (sF T ext) (jH T ext) (s.lB xs) (SK c k)=some r):Rq T ext f xs s k=some r:=by
 obtain⟨m,we⟩:=(sV c.code _ _ r (fun _=>SK c k) (fun e s' r' h'=>xE.now h') h).some;refine WZ.2 ⟨m+1,?_⟩;unfold MM;rw[hT];simp only;rw[if_pos hl];exact we
theorem SH {f:Nat}{args:List AV}{S0:Option AV}{r:RV}(hT:T f=none)(h:ext f args S0=some r):sF T ext f args S0=some r:=by
 refine zL.2 ⟨0,?_⟩;unfold xG;rw[hT];exact h
theorem wD {b:C}{s:LC}{k:Ex->LC->Option RV}{r:RV}(h:b.run (sF T ext) (jH T ext) s (aN (HJ T ext) b k)=some r):HJ T ext b s k=some r:=by
 have:=sV b s _ r (fun m=>aN (RL T ext m) b k) (fun e s' r' h'=>by
  cases e with
  |nrm=>exact F7 b s' k r' (fun _=>k) (fun e s'' r'' h''=>xE.now h'') h'
  |exit id=>exact xE.now h'
  |ret=>exact xE.now h') h
 obtain⟨m,hm⟩:=this.some;refine EZ.2 ⟨m+1,?_⟩;unfold RL;exact hm
theorem dV {P:Program}{O:XH}(hm:P.follows .mixedOrders=true)(hT:∀f c,T f=some c->gD P f c)(gv:∀f args S r,ext f args S=some r->MD P O f args S r){f:Nat}{args:List AV}{S0:Option AV}{r:RV}(h:sF T ext f args S0=some r):MD P O f args S0 r:=by
 obtain⟨n,hn⟩:=zL.1 h;exact(gZ hm hT gv n).1 f args S0 r hn
end
end
section
open Go Go.RowKit Go.ChangeShapes Go.WideShapes Go.Deep
section
variable {H:Type} {enc:TypeId × Value->H} {P:Program} {w:World} {base:Nat} {spare:Nat->Bool} {held:Bool}
theorem Te {av:Av}{b sz:Nat}:∀{els:List (List AV)}{off:Nat},(∀md∈els,md.length=sz)->(∀(i:Nat)(md:List AV),els[i]?=some md->dH av w md b (off+i*sz))->Rows av w els b off
 | [],_,_,_=>by simp[Rows]
 |md::r,off,hl,h=>by
  simp only[Rows];have h0:=h 0 md rfl;rw[Nat.zero_mul,yV]at h0;refine⟨h0,Te (fun x hx=>hl x (yp _ hx)) fun i x hx=>?_⟩;have:=h (i+1) x (by simpa using hx);rw[hl md yo,show off+sz+i*sz=off+(i+1)*sz from by rw[yN];omega];exact this
abbrev Xo:Av:=fun _ _=>False
end
end
section
open Go Go.RowKit Go.ChangeShapes Go.WideShapes Go.Deep
def OO (P:Program)(t:TypeId):Bool:=match P.underlying t with
 |some (.struct _)|some (.array ..)=>true
 |_=>false
section
variable {H:Type} {enc:TypeId × Value->H} {P:Program} {w:World} {base:Nat} {spare:Nat->Bool} {held:Bool}
theorem C3 (hl:laidOutB P=true){W W':World}(hb:Below W.heap.size W W'):∀{ts:List TypeId}{vs:List Value}{ds:List (DataW H)}{p:List MemPlace},DataW.TrodAll enc P W 0 (fun _=>true) true ts vs ds p->ts.all (fun t=>P.readableRec t&&decide (t<P.types.size))=true →
  DataW.TrodAll enc P W' 0 (fun b=>decide (b<W.heap.size)) true ts vs ds p
 | [],vs,ds,p,h,_=>by
  cases vs with
  |nil=>cases ds with
   |nil=>exact h
   |cons=>exact h.elim
  |cons=>cases ds<;>exact h.elim
 |t::ts,vs,ds,p,h,hs=>by
  have ba:=DataW.TrodAll.lt h;obtain⟨v,ly,d,ds',p',q',rfl,rfl,rfl,h0,h⟩:=trodAll_cons h;simp only[List.all_cons,yg,decide_eq_true_eq]at hs;exact trodAll_cons_mk (Below.trod hl hs.1.1 hs.1.2 h0 hb fun x hx=>ba x (List.mem_append_left _ hx)) (C3 hl hb h hs.2)
end
end
section
open Go Go.RowKit
section
variable {P:Program}
end
set_option maxHeartbeats 1000000
end
section
open Go Go.RowKit
variable {O:XH}
end
abbrev oM (d n:Nat):aD:=⟨some d,.mv (.t n),none⟩
abbrev oF (d a n:Nat):aD:=⟨some d,.PA a (.t n),none⟩
abbrev oL (d n:Nat):aD:=⟨some d,.load .any false 1 (.t n),none⟩
abbrev oA (d z n:Nat):aD:=⟨some d,.load .any true z (.t n),none⟩
abbrev oB (d:Nat)(o:BinOp)(a b:Nat):aD:=⟨some d,.bin o false (.t a) (.t b),none⟩
abbrev oC (d:Nat)(o:BinOp)(a:Nat)(n:Int):aD:=⟨some d,.bin o false (.t a) (.c (.int .i64 n)),none⟩
abbrev oX (d n i:Nat):aD:=⟨some d,.ext (.t n) i,none⟩
abbrev oV (z a b:Nat):aD:=⟨none,.store .any true z (.t a) (.t b),none⟩
abbrev oW (a b:Nat):aD:=⟨none,.store .any false 1 (.t a) (.t b),none⟩
abbrev oI (d z a b:Nat):aD:=⟨some d,.aB z (.t a) (.t b),none⟩
abbrev oJ (d:Nat)(n:Int):aD:=⟨some d,.mv (.c (.int .i64 n)),none⟩
abbrev oH (d n:Nat):aD:=⟨some d,.len false (.t n),none⟩
abbrev oU (d n:Nat):aD:=⟨some d,.un .not (.t n),none⟩
abbrev oZ (d:Nat)(b:Bool):aD:=⟨some d,.mv (.c (.bool b)),none⟩
abbrev oK (d n:Nat):aD:=⟨some d,.WA (.t n),none⟩
abbrev oY (d:Nat)(l:List AV):aD:=⟨some d,.alloc l,none⟩
abbrev oQ (d z n:Nat):aD:=⟨some d,.box z (.t n),none⟩
abbrev oS (d:Nat)(k:K):aD:=⟨some d,k,none⟩
abbrev oN (k:K):aD:=⟨none,k,none⟩
abbrev oG (d:Nat)(k:K)(g:Nat)(b:Bool):aD:=⟨some d,k,some (g,b)⟩
abbrev oP (d n g:Nat)(b:Bool):aD:=⟨some d,.load .any false 1 (.t n),some (g,b)⟩
abbrev oR (l:List aD)(c:C):C:=.seq (.reg l) c
abbrev oD (n:Nat)(a b:C):C:=.cond (.t n) a b
abbrev oFg (d o n g:Nat)(b:Bool):aD:=⟨some d,.PA o (.t n),some (g,b)⟩
abbrev oPa (d a b:Nat):aD:=⟨some d,.pick (.t a) (.t b) (.c (.bool false)),none⟩
abbrev oPo (d a b:Nat):aD:=⟨some d,.pick (.t a) (.c (.bool true)) (.t b),none⟩
abbrev oMg (d n g:Nat)(b:Bool):aD:=⟨some d,.mv (.t n),some (g,b)⟩
abbrev oC1 (d f a:Nat):aD:=⟨some d,.call .any f [.t a],none⟩
abbrev oC2 (d f a b:Nat):aD:=⟨some d,.call .any f [.t a,.t b],none⟩
abbrev oC4 (d f a b c e:Nat):aD:=⟨some d,.call .any f [.t a,.t b,.t c,.t e],none⟩
abbrev oLr (d r z n:Nat):aD:=⟨some d,.load (.root r) false z (.t n),none⟩
abbrev oLg (d z n g:Nat)(b:Bool):aD:=⟨some d,.load .any true z (.t n),some (g,b)⟩
abbrev oBg (d:Nat)(o:BinOp)(a b g:Nat)(w:Bool):aD:=⟨some d,.bin o false (.t a) (.t b),some (g,w)⟩
abbrev oCi (d:Nat)(o:BinOp)(a:Nat)(n:Int)(g:Nat)(w:Bool):aD:=⟨some d,.bin o false (.t a) (.c (.int .i64 n)),some (g,w)⟩
abbrev oHg (d n g:Nat)(b:Bool):aD:=⟨some d,.len false (.t n),some (g,b)⟩
abbrev oUg (d n g:Nat)(b:Bool):aD:=⟨some d,.un .not (.t n),some (g,b)⟩
abbrev oIg (d z a b g:Nat)(w:Bool):aD:=⟨some d,.aB z (.t a) (.t b),some (g,w)⟩
abbrev oAp (d e z y a b:Nat):aD:=⟨some d,.app .any e z y (.t a) (.t b),none⟩
abbrev oPb (d a b g:Nat)(w:Bool):aD:=⟨some d,.pick (.t a) (.t b) (.c (.bool false)),some (g,w)⟩
abbrev oCg (d f a b g:Nat)(w:Bool):aD:=⟨some d,.call .any f [.t a,.t b],some (g,w)⟩
abbrev zza:List AV:=[(.int .i64 0),(.int .i64 0),(.int .i64 0),(.str (ByteArray.mk #[])),(.int .i64 0),(.str (ByteArray.mk #[])),(.int .i64 0),(.bool false),(.bool false),(.int .i64 0),(.bool false),(.int .i64 0),(.str (ByteArray.mk #[])),(.int .i64 0),(.sl true []),(.sl true []),(.sl true []),(.int .i64 0),(.str (ByteArray.mk #[])),(.int .i64 0),(.int .i64 0),(.int .i64 0),(.bool false),(.int .i64 0),(.int .i64 0)]
abbrev zzb:List AV:=[(.int .i64 0),(.str (ByteArray.mk #[])),(.int .i64 0),(.int .i64 0),(.int .i64 0),(.sl true []),(.sl true []),(.int .i64 0),(.int .i64 0),(.bool false)]
abbrev zzc:List AV:=[(.int .i64 0),(.bool false),(.int .i64 0),(.str (ByteArray.mk #[])),(.int .i64 0),(.sl true []),(.sl true []),(.sl true [])]
abbrev zzd:List AV:=[(.int .i64 0),(.str (ByteArray.mk #[])),(.int .i64 0),(.bool false),(.bool false),(.int .i64 0),(.bool false),(.int .i64 0),(.str (ByteArray.mk #[])),(.int .i64 0),(.sl true []),(.sl true []),(.sl true [])]
abbrev zze:List AV:=[(.int .i64 0),(.str (ByteArray.mk #[]))]
abbrev zzf:List AV:=[(.int .u8 0),(.int .u8 0),(.int .u8 0),(.int .u8 0),(.sl true [])]
abbrev zzg:List AV:=[(.int .u8 0),(.int .u8 0),(.int .u8 0),(.int .u8 0)]
abbrev zzh:List AV:=[(.int .u8 0),(.int .u8 0),(.int .u8 0)]
noncomputable def cF (l:List Nat)(f:Func):FD:=(wU Tryz.prog l f).getD ⟨.skip,[],0,[]⟩
def gE:FD:=⟨(oR [oQ 2 1 0,oZ 4 false] (oR [oA 21 1 2,oM 22 1,oC2 23 4 21 22,oM 20 23,oX 24 20 0,oX 25 20 1,oX 26 20 2,oS 5 (.alloc [(.sl true [])]),oS 6 (.alloc [(.sl true [])]),oV 1 5 24,oV 1 6 25,oM 7 26] (.seq (oR [oS 27 (.call .any 5 []),oU 28 27,oM 29 28,oMg 30 7 29 false,oUg 31 30 29 false,oPo 32 29 31] (oD 32 (oR [oS 33 (.call .any 5 []),oM 4 33] .ret) .skip)) (oR [oA 35 1 5,oA 36 1 6,oC2 37 6 35 36,oM 34 37,oX 38 34 0,oX 39 34 1,oM 8 38,oM 9 39] (.seq (oR [oA 41 1 5,oA 42 1 6,oC2 43 7 41 42,oM 40 43,oX 44 40 0,oX 45 40 1,oM 10 44,oM 11 45] (oR [oM 46 11,oC 47 .neq 46 0] (oD 47 (oR [oM 48 9,oM 49 11,oB 50 .eql 48 49,oM 4 50] .ret) .skip))) (oR [oA 52 1 5,oM 53 8,oC2 54 8 52 53,oM 51 54,oX 55 51 0,oX 56 51 1,oX 57 51 2,oS 12 (.alloc [(.sl true [])]),oV 1 12 55,oM 13 56,oM 14 57] (oR [oA 59 1 5,oM 60 8,oC2 61 9 59 60,oM 58 61,oX 62 58 0,oX 63 58 1,oM 15 62,oM 16 63] (oR [oA 65 1 6,oM 66 15,oC2 67 8 65 66,oM 64 67,oX 68 64 0,oX 69 64 1,oX 70 64 2,oS 17 (.alloc [(.sl true [])]),oV 1 17 68,oM 18 69,oM 19 70] (oR [oM 71 9,oC 72 .eql 71 0,oM 73 72,oMg 74 14 73 true,oCi 75 .eql 74 0 73 true,oPa 76 73 75,oM 77 76,oMg 78 13 77 true,oMg 79 8 77 true,oHg 80 79 77 true,oBg 81 .eql 78 80 77 true,oPa 82 77 81,oM 83 82,oMg 84 16 83 true,oCi 85 .eql 84 0 83 true,oPa 86 83 85,oM 87 86,oMg 88 19 87 true,oCi 89 .eql 88 0 87 true,oPa 90 87 89,oM 91 90,oLg 92 1 12 91 true,oLg 93 1 6 91 true,oCg 94 10 92 93 91 true,oPa 95 91 94,oM 96 95,oLg 97 1 17 96 true,oLg 98 1 5 96 true,oCg 99 10 97 98 96 true,oPa 100 96 99,oM 101 100,oMg 102 8 101 true,oHg 103 102 101 true,oCi 104 .eql 103 0 101 true,oLg 105 1 5 101 true,oLg 106 1 6 101 true,oCg 107 10 105 106 101 true,oG 108 (.bin .eql true (.t 104) (.t 107)) 101 true,oPa 109 101 108,oM 4 109] .ret))))))))),[(.tmp 4)],2,[]⟩
theorem okF {n:Nat}{f:Func}{c:FD}(h:Tryz.prog.funcs[n]?=some f)(a:∀xs w,(callFunc n xs).run Tryz.prog w=.ok (.enter n xs) w:=by intro _ _;kernel_rfl)(b:wU Tryz.prog c.mu f=some c:=by kernel_rfl):gD Tryz.prog n c:=⟨a,f,h,b⟩
theorem BK:gD Tryz.prog 3 gE:=okF Tryz.func3
noncomputable def BT:FD:=cF [] Tryz.f5
theorem U0:gD Tryz.prog 5 BT:=okF Tryz.func5
def tJ:C:=oR [oB 24 .lss 23 22] (.seq (oD 24 .skip (.exit 0)) (.seq (.block 1 (oR [oM 25 23,oI 26 25 21 23,oA 27 25 26,oY 10 zza,oM 9 25,oV 25 10 27] (oR [oF 28 4 10,oF 29 5 28,oA 30 8 29,oC1 31 26 30,oF 32 4 10,oF 33 5 32,oV 8 33 31] (oR [oA 34 25 10,oS 35 (.mA 53 (.c (.fn 27 [])) [(.t 8),(.t 34)]),oM 11 35] (oR [oM 36 11,oC 37 .neq 36 0] (oD 37 (oR [oS 38 (.build [(.sl true [])] []),oM 39 9,oM 40 11,oV 1 4 38,oM 5 39,oM 6 40] .ret) .skip)))))) (.reg [oC 41 .add 23 1,oM 23 41])))
def iG:FD:=⟨(oR [oQ 2 1 0,oS 4 (.alloc [(.sl true [])]),oJ 5 0,oJ 6 0] (.seq (oR [oA 13 1 2,oS 14 (.bA .any 19 [(.t 13)]),oM 7 14] (oR [oM 15 7,oC 16 .neq 15 0] (oD 16 (oR [oS 17 (.build [(.sl true [])] []),oM 18 7,oV 1 4 17,oJ 5 0,oM 6 18] .ret) .skip))) (oR [oA 19 1 2,oS 20 (.mA 53 (.c (.fn 25 [])) [(.t 19)]),oS 8 (.alloc [(.sl true [])]),oV 1 8 20] (.seq (oR [oM 21 1,oH 22 21,oJ 23 0] (.block 0 (.loop tJ))) (.seq (oR [oA 42 1 8,oS 43 (.bA .any 19 [(.t 42)]),oM 12 43] (oR [oM 44 12,oC 45 .neq 44 0] (oD 45 (oR [oS 46 (.build [(.sl true [])] []),oM 47 1,oH 48 47,oM 49 12,oV 1 4 46,oM 5 48,oM 6 49] .ret) .skip))) (oR [oA 50 1 8,oM 51 1,oH 52 51,oV 1 4 50,oM 5 52,oJ 6 0] .ret)))))),[(.cell 4 true 1),(.tmp 5),(.tmp 6)],2,[1000000+25,1000000+27,30000000+19]⟩
theorem AR:gD Tryz.prog 8 iG:=okF Tryz.func8
def jI:C:=.seq (oR [oM 13 5,oF 14 0 2,oL 15 14,oH 16 15,oB 17 .lss 13 16] (oD 17 .skip (.exit 0))) (.seq (.block 1 (oR [oF 20 0 2,oL 21 20,oM 22 5,oI 23 10 21 22,oA 24 10 23,oF 25 0 3,oL 26 25,oM 27 5,oI 28 10 26 27,oA 29 10 28,oC2 30 28 24 29,oU 31 30] (oD 31 (oR [oZ 4 false] .ret) .skip))) (.reg [oM 18 5,oC 19 .add 18 1,oM 5 19]))
def iK:FD:=⟨(oR [oQ 2 1 0,oQ 3 1 1,oZ 4 false] (.seq (oR [oF 6 0 2,oL 7 6,oH 8 7,oF 9 0 3,oL 10 9,oH 11 10,oB 12 .neq 8 11] (oD 12 (oR [oZ 4 false] .ret) .skip)) (.seq (oR [oJ 5 0] (.block 0 (.loop jI))) (oR [oZ 4 true] .ret)))),[(.tmp 4)],2,[]⟩
theorem O0:gD Tryz.prog 10 iK:=okF Tryz.func10
def gI:C:=oR [oB 35 .lss 34 33] (.seq (oD 35 .skip (.exit 2)) (.seq (.block 3 (oR [oM 36 34,oM 10 36] (.reg [oM 37 9,oM 38 10,oF 39 0 2,oL 40 39,oM 41 10,oI 42 10 40 41,oA 43 10 42,oF 44 0 3,oL 45 44,oM 46 10,oI 47 10 45 46,oA 48 10 47,oS 49 (.call .any 22 [(.t 38),(.t 43),(.t 48)]),oAp 50 54 25 272 37 49,oM 9 50]))) (.reg [oC 51 .add 34 1,oM 34 51])))
def bF:C:=oR [oB 16 .lss 15 14] (.seq (oD 16 .skip (.exit 0)) (.seq (.block 1 (oR [oI 17 1 13 15,oA 18 1 17,oS 7 (.alloc [(.sl true [])]),oV 1 7 18] (oR [oA 19 1 7,oC1 20 19 19,oM 8 20] (oR [oM 21 8,oC 22 .neq 21 0] (oD 22 (oR [oM 23 8,oS 4 (.mv (.c (.sl true []))),oM 5 23] .ret) .skip))))) (.reg [oC 24 .add 15 1,oM 15 24])))
def uK:FD:=⟨(oR [oQ 2 1 0,oQ 3 1 1,oS 4 (.mv (.c (.sl true []))),oJ 5 0] (.seq (oR [oA 11 1 2,oA 12 1 3,oS 13 (.IA [(.sl true [])] 2 [(0,(.t 11)),(1,(.t 12))]),oH 14 13,oJ 15 0] (.block 0 (.loop bF))) (.seq (oR [oF 25 0 2,oL 26 25,oF 27 0 3,oL 28 27,oS 29 (.call .any 20 [(.t 26),(.t 28),(.c (.fn 21 []))]),oU 30 29] (oD 30 (oR [oS 4 (.mv (.c (.sl true []))),oJ 5 1] .ret) .skip)) (oR [oS 9 (.mv (.c (.sl true [])))] (.seq (oR [oF 31 0 2,oL 32 31,oH 33 32,oJ 34 0] (.block 2 (.loop gI))) (oR [oM 52 9,oM 4 52,oJ 5 0] .ret)))))),[(.tmp 4),(.tmp 5)],2,[]⟩
theorem nS:gD Tryz.prog 6 uK:=okF Tryz.func6
def KH:C:=.seq (oR [oM 27 9,oF 28 0 2,oL 29 28,oH 30 29,oB 31 .lss 27 30] (oD 31 .skip (.exit 0))) (.seq (.block 1 (.seq (oR [oF 34 0 2,oL 35 34,oM 36 9,oI 37 10 35 36,oF 38 0 37,oL 39 38,oF 40 0 3,oL 41 40,oM 42 9,oI 43 10 41 42,oF 44 0 43,oL 45 44,oB 46 .neq 39 45] (oD 46 (oR [oS 4 (.mv (.c (.sl true []))),oJ 5 1] .ret) .skip)) (.reg [oM 47 8,oM 48 9,oF 49 0 2,oL 50 49,oM 51 9,oI 52 10 50 51,oA 53 10 52,oF 54 0 3,oL 55 54,oM 56 9,oI 57 10 55 56,oA 58 10 57,oS 59 (.call .any 24 [(.t 48),(.t 53),(.t 58)]),oAp 60 54 25 272 47 59,oM 8 60]))) (.reg [oM 32 9,oC 33 .add 32 1,oM 9 33]))
def PI:FD:=⟨(oR [oQ 2 1 0,oQ 3 1 1,oS 4 (.mv (.c (.sl true []))),oJ 5 0] (.seq (oR [oA 10 1 2,oC1 11 23 10,oM 6 11] (oR [oM 12 6,oC 13 .neq 12 0] (oD 13 (oR [oM 14 6,oS 4 (.mv (.c (.sl true []))),oM 5 14] .ret) .skip))) (.seq (oR [oA 15 1 3,oC1 16 23 15,oM 7 16] (oR [oM 17 7,oC 18 .neq 17 0] (oD 18 (oR [oM 19 7,oS 4 (.mv (.c (.sl true []))),oM 5 19] .ret) .skip))) (.seq (oR [oF 20 0 2,oL 21 20,oH 22 21,oF 23 0 3,oL 24 23,oH 25 24,oB 26 .neq 22 25] (oD 26 (oR [oS 4 (.mv (.c (.sl true []))),oJ 5 1] .ret) .skip)) (oR [oS 8 (.mv (.c (.sl true [])))] (.seq (oR [oJ 9 0] (.block 0 (.loop KH))) (oR [oM 61 8,oM 4 61,oJ 5 0] .ret))))))),[(.tmp 4),(.tmp 5)],2,[]⟩
theorem s3:gD Tryz.prog 7 PI:=okF Tryz.func7
noncomputable def BU:FD:=cF [] Tryz.f17
theorem j3:gD Tryz.prog 17 BU:=okF Tryz.func17
noncomputable def jR:FD:=cF [] Tryz.f15
theorem uX:gD Tryz.prog 15 jR:=okF Tryz.func15
def pS:C:=oR [oB 34 .lss 33 32] (.seq (oD 34 .skip (.exit 0)) (.seq (.block 1 (oR [oM 35 33,oI 36 25 31 33,oA 37 25 36,oY 13 zza,oM 12 35,oV 25 13 37] (.seq (oR [oA 38 25 13,oS 39 (.mA 62 (.c (.fn 27 [])) [(.t 11),(.t 38)]),oM 14 39] (oR [oM 40 14,oC 41 .neq 40 0] (oD 41 (oR [oM 42 14,oJ 6 0,oM 7 42] .ret) .skip))) (oR [oA 44 1 3,oA 45 1 11,oM 46 1,oS 47 (.bA .any 15 [(.t 44),(.t 45),(.t 46)]),oM 43 47,oX 48 43 0,oX 49 43 1,oX 50 43 2,oM 15 48,oM 16 49,oM 17 50] (.seq (oR [oM 51 17,oC 52 .neq 51 0] (oD 52 (oR [oM 53 17,oJ 6 0,oM 7 53] .ret) .skip)) (oR [oM 54 15,oU 55 54,oM 56 55,oMg 57 16 56 false,oUg 58 57 56 false,oPo 59 56 58] (oD 59 (oR [oM 60 12,oM 6 60,oJ 7 0] .ret) .skip))))))) (.reg [oC 61 .add 33 1,oM 33 61])))
def uL:FD:=⟨(oR [oQ 3 1 0,oJ 6 0,oJ 7 0] (.seq (oR [oA 19 1 3,oA 20 1 3,oM 21 1,oS 22 (.bA .any 15 [(.t 19),(.t 20),(.t 21)]),oM 18 22,oX 23 18 0,oX 24 18 1,oX 25 18 2,oM 8 23,oM 9 24,oM 10 25] (oR [oM 26 10,oC 27 .neq 26 0] (oD 27 (oR [oM 28 10,oJ 6 0,oM 7 28] .ret) .skip))) (oR [oA 29 1 3,oS 30 (.mA 62 (.c (.fn 25 [])) [(.t 29)]),oS 11 (.alloc [(.sl true [])]),oV 1 11 30] (.seq (oR [oM 31 2,oH 32 31,oJ 33 0] (.block 0 (.loop pS))) (oR [oJ 6 0,oJ 7 15] .ret))))),[(.tmp 6),(.tmp 7)],3,[1000000+25,1000000+27,30000000+15]⟩
theorem cO:gD Tryz.prog 16 uL:=okF Tryz.func16
noncomputable def gR:FD:=cF [16,71,83,95,163,181,213,233,2000052,2000061,2000070,2000121,30000000+43] Tryz.f18
theorem tX:gD Tryz.prog 18 gR:=okF Tryz.func18
def TE:FD:=⟨(oR [oQ 2 1 0,oS 4 (.alloc [(.sl true [])]),oS 5 (.alloc [(.sl true [])]),oZ 6 false] (oR [oA 12 1 2,oC1 13 11 12,oM 11 13,oX 14 11 0,oX 15 11 1,oS 7 (.alloc [(.sl true [])]),oV 1 7 14,oM 8 15] (oR [oA 17 1 2,oM 18 1,oC2 19 12 17 18,oC1 20 11 19,oM 16 20,oX 21 16 0,oX 22 16 1,oS 9 (.alloc [(.sl true [])]),oV 1 9 21,oM 10 22] (oR [oS 23 (.load (.root 7) true 1 (.t 7)),oS 24 (.load (.root 9) true 1 (.t 9)),oM 25 8,oM 26 25,oMg 27 10 26 true,oPa 28 26 27,oM 29 28,oMg 30 1 29 true,oHg 31 30 29 true,oCi 32 .leq 31 5 29 true,oPa 33 29 32,oN (.store (.root 4) true 1 (.t 4) (.t 23)),oN (.store (.root 5) true 1 (.t 5) (.t 24)),oM 6 33] .ret)))),[(.cell 4 true 1),(.cell 5 true 1),(.tmp 6)],2,[]⟩
theorem gX:gD Tryz.prog 4 TE:=okF Tryz.func4
end Go.Proofs.YtpmklcpajcfpjaaGreatDoor
