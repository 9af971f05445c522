/- A part of the proof. -/
import Derived.Test.YtpmklcpajcfpjaaGreatDoorWm
import Derived.Test.YtpmklcpajcfpjaaGreatDoorWn
import Derived.Test.YtpmklcpajcfpjaaGreatDoorWp
import Derived.Test.YtpmklcpajcfpjaaGreatDoorTie
import Derived.Test.YtpmklcpajcfpjaaGreatDoorCards
import Derived.LaidMore
import Derived.SevenTiedAt
import Derived.LaidHandle
set_option linter.all false
set_option maxRecDepth 100000
set_option maxHeartbeats 8000000
open Option renaming bind_some → J, map_some → yB
open List renaming range_succ → y0, map_map → y9, length_map → yc, all_eq_true → ye, length_append → yj, getElem?_map → yk, map_cons → ym, getElem?_eq_some_iff → yn, mem_cons_self → yo, mem_cons_of_mem → yp, mem_of_getElem? → yr, mem_cons → yt, mem_append → yu, append_assoc → yx, mem_map → yD, length_cons → yG, getElem?_append_right → yP, mem_flatMap → yR, mem_singleton → yU, map_take → yW, nil_append → Y00, map_append → Y03, flatMap_cons → Y0a, getElem?_set_self → Y0n
open Int renaming toNat_lt → yb
open Bool renaming and_eq_true → yg
open Nat renaming le_refl → yl, zero_add → yy
open Array renaming toArray_toList → Y07
namespace Go.Proofs.YtpmklcpajcfpjaaGreatDoor
open Go
mutual
def Vl.norm:Vl->Vl
 |.mk k b i s d _ ks _ xs _ rs=>.mk k b i s d false (Vl.KA ks) false (Vl.KA xs) false rs
def Vl.KA:List Vl->List Vl
 | []=>[]
 |v::r=>Vl.norm v::Vl.KA r
end
mutual
theorem Vl.QA:∀u v:Vl,u.same v=true↔u.norm=v.norm
 |.mk k b i s d kn ks xn xs rn rs,.mk k' b' i' s' d' kn' ks' xn' pk rn' rs'=>by
  have h1:=Vl.RB ks ks'
  have h2:=Vl.RB xs pk
  rw[Vl.same,Vl.norm,Vl.norm]
  simp only[yg,decide_eq_true_eq,beq_iff_eq,h1,h2,Vl.mk.injEq,true_and]
  constructor
  ·rintro ⟨⟨⟨⟨⟨⟨⟨a1,a2⟩,a3⟩,a4⟩,a5⟩,a6⟩,a7⟩,a8⟩
   exact⟨a1,a2,a3,a4,a5,a7,a8,a6⟩
  ·rintro ⟨a1,a2,a3,a4,a5,a7,a8,a6⟩
   exact⟨⟨⟨⟨⟨⟨⟨a1,a2⟩,a3⟩,a4⟩,a5⟩,a6⟩,a7⟩,a8⟩
theorem Vl.RB:∀u v:List Vl,Vl.jA u v=true↔Vl.KA u=Vl.KA v
 | [],[]=>by rw[Vl.jA];simp
 | [],_::_=>by rw[Vl.jA,Vl.KA,Vl.KA];simp
 |_::_,[]=>by rw[Vl.jA,Vl.KA,Vl.KA];simp
 |v::r,w::r'=>by
  have h1:=Vl.QA v w
  have h2:=Vl.RB r r'
  rw[Vl.jA,Vl.KA,Vl.KA,yg,h1,h2,List.cons.injEq]
end
mutual
theorem Vl.uC:∀u:Vl,u.norm.norm=u.norm
 |.mk k b i s d kn ks xn xs rn rs=>by rw[Vl.norm,Vl.norm,Vl.kB ks,Vl.kB xs]
theorem Vl.kB:∀u:List Vl,Vl.KA (Vl.KA u)=Vl.KA u
 | []=>by rw[Vl.KA,Vl.KA]
 |v::r=>by rw[Vl.KA,Vl.KA,Vl.uC v,Vl.kB r]
end
def ED.norm (m:ED):ED:={ m with dflt:=m.dflt.norm }
def BC.norm (t:BC):BC:={ t with sn:=false,mn:=false,qA:=t.qA.map ED.norm }
theorem ED.QA (m m':ED):m.same m'=true↔m.norm=m'.norm:=by
 have h:=Vl.QA m.dflt m'.dflt;unfold ED.same ED.norm;cases m;cases m';simp only at h;simp[h,and_assoc]
theorem uU:∀l m:List ED,mD l m=true↔l.map ED.norm=m.map ED.norm
 | [],[]=>by simp[mD]
 | [],_::_=>by simp[mD]
 |_::_,[]=>by simp[mD]
 |v::r,w::r'=>by
  have h1:=ED.QA v w;have h2:=uU r r';rw[mD,ym,ym,yg,h1,h2,List.cons.injEq]
theorem BC.QA (t u:BC):t.same u=true↔t.norm=u.norm:=by
 have h:=uU t.qA u.qA;unfold BC.same BC.norm;cases t;cases u;simp only at h;simp only[yg,decide_eq_true_eq,beq_iff_eq,h,BC.mk.injEq,true_and];constructor
 ·rintro⟨⟨⟨⟨⟨⟨⟨⟨⟨a1,a2⟩,a3⟩,a4⟩,a5⟩,a6⟩,a7⟩,a8⟩,a9⟩,a10⟩;exact⟨a1,a2,a3,a4,a5,a9,a10,a6,a7,a8⟩
 ·rintro⟨a1,a2,a3,a4,a5,a9,a10,a6,a7,a8⟩;exact⟨⟨⟨⟨⟨⟨⟨⟨⟨a1,a2⟩,a3⟩,a4⟩,a5⟩,a6⟩,a7⟩,a8⟩,a9⟩,a10⟩
theorem kP:∀l m:List BC,bI l m=true↔l.map BC.norm=m.map BC.norm
 | [],[]=>by simp[bI]
 | [],_::_=>by simp[bI]
 |_::_,[]=>by simp[bI]
 |v::r,w::r'=>by
  have h1:=BC.QA v w;have h2:=kP r r';rw[bI,ym,ym,yg,h1,h2,List.cons.injEq]
theorem u6 (rc:Bool)(m:ED):AD rc m.norm=AD rc m:=by
 have h:m.dflt.norm.same Vl.zero=m.dflt.same Vl.zero:=by
  have h1:=Vl.QA m.dflt.norm Vl.zero;have h2:=Vl.QA m.dflt Vl.zero;rw[Vl.uC,<- h2]at h1;cases a:m.dflt.norm.same Vl.zero<;>cases b:m.dflt.same Vl.zero<;>simp_all
 unfold AD ED.norm;rw[h]
theorem W8 (rc:Bool)(l:List ED):xI rc (l.map ED.norm)=xI rc l:=by
 have h1:(l.map ED.norm).all (AD rc)=l.all (AD rc):=by
  rw[List.all_map];congr 1;funext m;exact u6 rc m
 have h2:(l.map ED.norm).map IH=l.map IH:=by
  rw[y9];rfl
 unfold xI;rw[h1,h2,yc]
theorem X6 (t:BC):bD t.norm=bD t:=by
 have e1:EI t.norm=EI t:=by
  unfold EI;simp only[show t.norm.qA=t.qA.map ED.norm from rfl,W8];rfl
 have hm:mD (t.qA.map ED.norm) []=mD t.qA []:=by cases t.qA<;>rfl
 have e2:t.norm.left.same pE=t.left.same pE:=by
  unfold BC.left;simp only[show t.norm.kind=t.kind from rfl]
  repeat' split
  all_goals first|rfl|(simp only[BC.same,BC.norm,pE,hm];rfl)|simp[BC.same,BC.norm,pE,hm]
 unfold bD;rw[e1,e2];rfl
theorem gM (L:List BC):valid (L.map BC.norm)=valid L:=by
 have h1:∀k,tM (L.map BC.norm) k=tM L k:=fun k=>by
  unfold tM;rw[yk];cases L[k.toNat]?<;>rfl
 have h5:∀t:BC,t.norm.dA=t.dA:=fun t=>by
  unfold BC.dA;simp only[show t.norm.qA=t.qA.map ED.norm from rfl,y9];rfl
 have h3:∀i (t:BC),ZE (L.map BC.norm) i t.norm=ZE L i t:=fun i t=>by
  unfold ZE;simp only[h1,X6,h5,yc];rw[<- yW,y9];rfl
 have h4:∀n i,bE (L.map BC.norm) n i=bE L n i:=by
  intro n
  induction n with
  |zero=>intro i;rfl
  |succ n ih =>
   intro i;unfold bE;rw[yk];cases L[i]? with
   |none=>rfl
   |some t=>simp only[yB];rw[h3 i t,ih (i+1)]
 unfold valid;rw[show(L.map BC.norm).length=L.length from yc _,h4]
theorem JN {t:BC}(h:bD t=true):(¬(t.kind=4\/t.kind=5\/t.kind=6)->t.name=⟨#[]⟩)/\(¬t.kind=2->t.low=0/\t.high=0)/\(¬(t.kind=3\/t.kind=7\/t.kind=8)->t.max=0)/\(¬(t.kind=4\/t.kind=6)->t.opn=false)/\(¬t.kind=8->t.key=0)/\(¬(t.kind=7\/t.kind=8\/t.kind=9)->t.elem=0)/\(¬t.kind=4->t.wA=[])/\(¬(t.kind=5\/t.kind=6)->t.qA=[]):=by
 have bg:mD t.qA []=true->t.qA=[]:=fun h=>by
  cases hx:t.qA with
  |nil=>rfl
  |cons m r=>rw[hx]at h;simp[mD]at h
 have hk:=rT h;unfold bD at h;rw[yg,yg]at h;obtain⟨_,_,h⟩:=h;unfold BC.left at h;rcases kinds t.kind with e|e|e|e|e|e|e|e|e|e
 all_goals first|exact absurd hk e|skip
 all_goals simp[e,BC.same,pE]at h
 all_goals simp[e,h]
 all_goals first|exact bg (by simp[h])|skip
def WI:BC->List aF->Option BC
 |x,[]=>some x
 |x,e::r=>if(jD x e).1=0 then WI (jD x e).2 r else none
theorem GN:∀(p q:List aF)(x:BC),WI x (p++q)=(WI x p).bind fun y=>WI y q
 | [],q,x=>rfl
 |e::p,q,x=>by
  rw[List.cons_append,WI,WI];split
  ·exact GN p q _
  ·rfl
def edM (n:Int):Ee ED->aF
 |.rem z=>xZ n z
 |.upd m=>P7 n m
 |.ins m=>lZ n m
def edS (n:Int):Ee PG->aF
 |.rem z=>fU n z
 |.upd m=>IR n m
 |.ins m=>IR n m
theorem foldM {n:Int}:∀{o:List (Ee ED)}{t:BC}{M:List ED},iH t.kind=true->GO ED.id t.qA o=some M->WI t (o.map (edM n))=some { t with qA:=M }
 | [],t,M,_,h=>by injection h with h;subst h;rfl
 |o::r,t,M,hk,h=>by
  rw[GO]at h;split at h
  ·rename_i ho;have hs:jD t (edM n o)=(0,{ t with qA:=Hf ED.id t.qA o }):=by
    cases o with
    |rem z =>
     have jp:nT t.qA z=true:=ho;have hd:Hf ED.id t.qA (.rem z)=t.qA.filter fun m=>!decide (m.id=z):=rfl
     rw[hd];simp[jD,edM,xZ,aF.zero,QG,hk,jp]<;>first|rfl|(intro a _;rfl)
    |upd m =>
     have jp:nT t.qA m.id=true:=ho;have hd:Hf ED.id t.qA (.upd m)=t.qA.map fun y=>if y.id=m.id then m else y:=rfl
     rw[hd];simp[jD,edM,P7,aF.zero,QG,hk,jp]<;>first|rfl|(intro a _;rfl)
    |ins m =>
     have jp:nT t.qA m.id=false:=(by simpa [z6]using ho:FH ED.id t.qA m.id=false);have hd:Hf ED.id t.qA (.ins m)=FQ ED.id m t.qA:=rfl;rw[hd];simp[jD,edM,lZ,aF.zero,QG,hk,jp]<;>first|rfl|(intro a _;rfl)
   rw[ym,WI,hs,if_pos rfl];exact foldM (t:={ t with qA:=Hf ED.id t.qA o }) hk h
  ·cases h
theorem foldS {n:Int}:∀{o:List (Ee PG)}{t:BC}{M:List PG},t.kind=4->GO PG.id t.wA o=some M->WI t (o.map (edS n))=some { t with wA:=M }
 | [],t,M,_,h=>by injection h with h;subst h;rfl
 |o::r,t,M,hk,h=>by
  rw[GO]at h;split at h
  ·rename_i ho;have hs:jD t (edS n o)=(0,{ t with wA:=Hf PG.id t.wA o }):=by
    cases o with
    |rem z =>
     have jp:HW t.wA z=true:=ho;have hd:Hf PG.id t.wA (.rem z)=t.wA.filter fun m=>!decide (m.id=z):=rfl
     rw[hd];simp[jD,edS,fU,aF.zero,QG,hk,jp]<;>first|rfl|(intro a _;rfl)
    |upd m =>
     have jp:HW t.wA m.id=true:=ho;have hd:Hf PG.id t.wA (.upd m)=t.wA.map fun y=>if y.id=m.id then m else y:=rfl
     rw[hd];simp[jD,edS,IR,aF.zero,QG,hk,jp]<;>first|rfl|(intro a _;rfl)
    |ins m =>
     have jp:HW t.wA m.id=false:=(by simpa [z6]using ho:FH PG.id t.wA m.id=false);have hd:Hf PG.id t.wA (.ins m)=FQ PG.id m t.wA:=rfl;rw[hd];simp[jD,edS,IR,aF.zero,QG,hk,jp]<;>first|rfl|(intro a _;rfl)
   rw[ym,WI,hs,if_pos rfl];exact foldS (t:={ t with wA:=Hf PG.id t.wA o }) hk h
  ·cases h
theorem dQ (q:List ED)(z:Int):iE q z<0↔FH ED.id q z=false:=by
 have h:=gO (fun x:ED=>decide (x.id=z)) q;have hg:=DI (fun x:ED=>decide (x.id=z)) q;unfold iE FH;rw[<- h];simp
theorem EQ (q:List PG)(z:Int):oE q z<0↔FH PG.id q z=false:=by
 have h:=gO (fun x:PG=>decide (x.id=z)) q;unfold oE FH;rw[<- h];simp
theorem tQ {α β γ:Type}(g:β->γ)(a:α->List β)(b:α->List γ)(l:List α)(h:∀x∈l,b x=(a x).map g):l.flatMap b=(l.flatMap a).map g:=by
 induction l with
 |nil=>rfl
 |cons x r ih=>rw[Y0a,Y0a,Y03,h x (yo ..),ih fun y hy=>h y (yp _ hy)]
def zP (a b:PG):Bool:=decide (a.name=b.name)
theorem Jj (n:Int)(X Y:List ED)(hX:uI ED.id X):tN n Y X++(XM n X Y++ZM n X Y)=(fS ED.id ED.same X Y).map (edM n):=by
 unfold fS;rw[Y03,Y03];unfold tN XM ZM Iw Mw Sq;congr 1
 ·refine tQ _ _ _ _ fun m _=>?_
  cases h:FH ED.id Y m.id with
  |true=>rw[if_neg (fun e=>by rw[dQ,h]at e;cases e)];rfl
  |false=>rw[if_pos ((dQ _ _).2 h)];rfl
 congr 1
 ·refine tQ _ _ _ _ fun m _=>?_
  unfold AO;by_cases hi:0<=iE X m.id
  ·obtain⟨a,ha,hp⟩:=wJ (fun x:ED=>decide (x.id=m.id)) X (by unfold iE at hi;omega);change X[(iE X m.id).toNat]?=some a at ha;have KN:a.id=m.id:=of_decide_eq_true hp;rw[ha];have hc:FR ED.id ED.same X m=!a.same m:=by
    unfold FR;cases hs:a.same m with
    |true =>
     refine List.any_eq_false.2 fun z hz=>?_
     by_cases ez:z.id=m.id
     ·have:=LS hX hz (yr ha) (by omega);subst this;simp[hs]
     ·simp[ez]
    |false=>exact List.any_eq_true.2 ⟨a,yr ha,by simp[KN,hs]⟩
   simp only[hc];cases hs:a.same m with
   |true=>simp
   |false=>simp[hi];rfl
  ·have hc:FR ED.id ED.same X m=false:=by
    have hn:=tT.1 ((dQ _ _).1 (by omega:iE X m.id<0));refine List.any_eq_false.2 fun z hz=>?_
    simp[hn z hz]
   rw[hc];cases X[(iE X m.id).toNat]? with
   |none=>rfl
   |some a=>simp[hi]
 ·refine tQ _ _ _ _ fun m _=>?_
  cases h:FH ED.id X m.id with
  |true=>rw[if_neg (fun e=>by rw[dQ,h]at e;cases e)];rfl
  |false=>rw[if_pos ((dQ _ _).2 h)];rfl
theorem Kj (n:Int)(X Y:List PG)(hX:uI PG.id X):CM n Y X++(iN n X Y++uN n X Y)=(fS PG.id zP X Y).map (edS n):=by
 unfold fS;rw[Y03,Y03];unfold CM iN uN Iw Mw Sq;congr 1
 ·refine tQ _ _ _ _ fun m _=>?_
  cases h:FH PG.id Y m.id with
  |true=>rw[if_neg (fun e=>by rw[EQ,h]at e;cases e)];rfl
  |false=>rw[if_pos ((EQ _ _).2 h)];rfl
 congr 1
 ·refine tQ _ _ _ _ fun m _=>?_
  unfold JO;by_cases hi:0<=oE X m.id
  ·obtain⟨a,ha,hp⟩:=wJ (fun x:PG=>decide (x.id=m.id)) X (by unfold oE at hi;omega);change X[(oE X m.id).toNat]?=some a at ha;have KN:a.id=m.id:=of_decide_eq_true hp;rw[ha];have hc:FR PG.id zP X m=!zP a m:=by
    unfold FR;cases hs:zP a m with
    |true =>
     refine List.any_eq_false.2 fun z hz=>?_
     by_cases ez:z.id=m.id
     ·have:=LS hX hz (yr ha) (by omega);subst this;simp[hs]
     ·simp[ez]
    |false=>exact List.any_eq_true.2 ⟨a,yr ha,by simp[KN,hs]⟩
   simp only[hc];unfold zP;by_cases hs:a.name=m.name
   ·simp[hs]
   ·simp[hi,hs];rfl
  ·have hc:FR PG.id zP X m=false:=by
    have hn:=tT.1 ((EQ _ _).1 (by omega:oE X m.id<0));refine List.any_eq_false.2 fun z hz=>?_
    simp[hn z hz]
   rw[hc];cases X[(oE X m.id).toNat]? with
   |none=>rfl
   |some a=>simp[hi]
 ·refine tQ _ _ _ _ fun m _=>?_
  cases h:FH PG.id X m.id with
  |true=>rw[if_neg (fun e=>by rw[EQ,h]at e;cases e)];rfl
  |false=>rw[if_pos ((EQ _ _).2 h)];rfl
theorem Rp {F Y:List ED}(h:G2 (fun x y:ED=>x.id=y.id/\x.norm=y.norm) F Y):F.map ED.norm=Y.map ED.norm:=by
 induction h with
 |nil=>rfl
 |cons h _ ih=>rw[ym,ym,h.2,ih]
theorem G4:∀{F Y:List ED},F.map ED.norm=Y.map ED.norm->G2 (fun x y:ED=>x.id=y.id/\x.same y=true) F Y
 | [],[],_=>.nil
 | [],_::_,h=>by cases h
 |_::_,[],h=>by cases h
 |x::F,y::Y,h=>by
  rw[ym,ym,List.cons.injEq]at h;exact .cons ⟨show x.norm.id=y.norm.id by rw[h.1],(ED.QA x y).2 h.1⟩ (G4 h.2)
theorem Bz {X' X Y:List ED}(hX':X'.map ED.norm=X.map ED.norm)(hX:uI ED.id X)(hY:uI ED.id Y):∃F,GO ED.id X' (fS ED.id ED.same X Y)=some F/\F.map ED.norm=Y.map ED.norm:=by
 have nh:X'.map ED.id=X.map ED.id:=by
  have:=congrArg (List.map ED.id) hX';rw[y9,y9]at this;exact this
 have hasc:uI ED.id X':=by
  unfold uI at hX ⊢;rw[<- List.pairwise_map (f:=ED.id) (R:=fun a b:Int=>a<b)]at hX ⊢;rw[nh];exact hX
 obtain⟨F,h1,h2,h3,h4⟩:=L7 (f:=ED.id) ED.same X' X Y hasc hX hY fun z=>by
  have hm:∀l:List ED,FH ED.id l z=(l.map ED.id).any fun a=>decide (a=z):=fun l=>by unfold FH;rw[List.any_map];rfl
  rw[hm,hm,nh]
 have key:∀x y:ED,x.id=y.id->(x=y\/x∈X'/\∃a∈X,a.id=y.id/\a.same y=true)->x.norm=y.norm:=fun x y e h=>by
  rcases h with rfl|⟨hx,a,ha,ea,hs⟩
  ·rfl
  ·have hm:x.norm∈X.map ED.norm:=by rw [<- hX']; exact List.mem_map_of_mem hx
   obtain⟨b,hb,eb⟩:=yD.1 hm;have eid:b.id=x.id:=show b.norm.id=x.norm.id by rw[eb]
   have:=LS hX hb ha (by omega);subst this;rw[<- eb];exact(ED.QA b y).1 hs
 refine⟨F,h1,Rp (KU h2 hY (fun y hy=>?_) fun x hx=>?_)⟩
 ·obtain⟨x,hx,e,h⟩:=h3 y hy;exact⟨x,hx,e,key x y e h⟩
 ·obtain⟨y,hy,e,h⟩:=h4 x hx;exact⟨y,hy,e,key x y e h⟩
theorem Rb {F Y:List PG}(h:G2 (fun x y:PG=>x.id=y.id/\x=y) F Y):F=Y:=by
 induction h with
 |nil=>rfl
 |cons h _ ih=>rw[h.2,ih]
theorem Pv {X Y:List PG}(hX:uI PG.id X)(hY:uI PG.id Y):GO PG.id X (fS PG.id zP X Y)=some Y:=by
 obtain⟨F,h1,h2,h3,h4⟩:=L7 (f:=PG.id) zP X X Y hX hX hY fun z=>rfl
 have key:∀x y:PG,x.id=y.id->(x=y\/x∈X/\∃a∈X,a.id=y.id/\zP a y=true)->x=y:=fun x y e h=>by
  rcases h with rfl|⟨hx,a,ha,ea,hs⟩
  ·rfl
  ·have:=LS hX hx ha (by omega);subst this;have hn:x.name=y.name:=of_decide_eq_true hs;cases x;cases y;simp_all
 rw[h1,Rb (KU h2 hY (fun y hy=>?_) fun x hx=>?_)]
 ·obtain⟨x,hx,e,h⟩:=h3 y hy;exact⟨x,hx,e,key x y e h⟩
 ·obtain⟨y,hy,e,h⟩:=h4 x hx;exact⟨y,hy,e,key x y e h⟩
theorem Ms {n:Int}{t:BC}{a b:ByteArray}(ha:t.name=a)(hk:a≠b->t.kind=4\/t.kind=5\/t.kind=6):WI t (if a=b then []else [AQ n b])=some { t with name:=b }:=by
 by_cases h:a=b
 ·rw[if_pos h,<- h,<- ha];rfl
 ·rw[if_neg h];rcases hk h with e|e|e<;>simp[WI,jD,AQ,aF.zero,QG,iH,e]
theorem Fp {n:Int}{t:BC}{a b c a' b' c':Int}(ha:t.low=a/\t.high=b/\t.max=c)(hk:¬(a=a'/\b=b'/\c=c')->(t.kind=2/\c=c')\/(t.kind=3\/t.kind=7\/t.kind=8)/\a=a'/\b=b'):WI t (if a=a'/\b=b'/\c=c' then []else [xP n a' b' c'])=some { t with low:=a',high:=b',max:=c' }:=by
 obtain⟨rfl,rfl,rfl⟩:=ha;by_cases h:t.low=a'/\t.high=b'/\t.max=c'
 ·rw[if_pos h];obtain⟨rfl,rfl,rfl⟩:=h;rfl
 ·rw [if_neg h];rcases hk h with ⟨e,e2⟩ | ⟨e | e | e,e2,e3⟩
  ·subst e2;simp[WI,jD,xP,aF.zero,QG,iH,e]
  all_goals
   subst e2;subst e3;simp[WI,jD,xP,aF.zero,QG,iH,e]
theorem Ed {n:Int}{t:BC}{a b:Bool}(ha:t.opn=a)(hk:a≠b->t.kind=4\/t.kind=6):WI t (if a=b then []else [SQ n b])=some { t with opn:=b }:=by
 by_cases h:a=b
 ·rw[if_pos h,<- h,<- ha];rfl
 ·rw[if_neg h];rcases hk h with e|e<;>simp[WI,jD,SQ,aF.zero,QG,iH,e]
theorem Uf {n:Int}{t:BC}{a b a' b':Int}(ha:t.key=a/\t.elem=b)(hk:¬(a=a'/\b=b')->t.kind=8\/(t.kind=7\/t.kind=9)/\a=a'):WI t (if a=a'/\b=b' then []else [cP n a' b'])=some { t with key:=a',elem:=b' }:=by
 obtain⟨rfl,rfl⟩:=ha;by_cases h:t.key=a'/\t.elem=b'
 ·rw[if_pos h];obtain⟨rfl,rfl⟩:=h;rfl
 ·rw [if_neg h];rcases hk h with e | ⟨e | e,e2⟩
  ·simp[WI,jD,cP,aF.zero,QG,iH,e]
  all_goals
   subst e2;simp[WI,jD,cP,aF.zero,QG,iH,e]
theorem Ja {n:Int}{x y t:BC}(hx:bD x=true)(hy:bD y=true)(hk:x.kind=y.kind)(ht:t.kind=x.kind/\t.name=x.name/\t.low=x.low/\t.high=x.high/\t.max=x.max/\t.opn=x.opn/\t.key=x.key/\t.elem=x.elem):WI t (iP n x y)=some { t with name:=y.name,low:=y.low,high:=y.high,max:=y.max,opn:=y.opn,key:=y.key,elem:=y.elem }:=by
 obtain⟨x1,x2,x3,x4,x5,x6,_,_⟩:=JN hx;obtain⟨y1,y2,y3,y4,y5,y6,_,_⟩:=JN hy;rw[<- hk]at y1 y2 y3 y4 y5 y6;obtain⟨t1,t2,t3,t4,t5,t6,t7,t8⟩:=ht;unfold iP;rw[GN,Ms t2 (fun h=>?cn),J,GN,Fp (t:={ t with name:=y.name }) ⟨t3,t4,t5⟩ (fun h=>?cb),J,GN,Ed (t:={ t with name:=y.name,low:=y.low,high:=y.high,max:=y.max }) t6 (fun h=>?co),J,Uf (t:={ t with name:=y.name,low:=y.low,high:=y.high,max:=y.max,opn:=y.opn }) ⟨t7,t8⟩ (fun h=>?cu)]
 case cn =>
  by_cases c:x.kind=4\/x.kind=5\/x.kind=6
  ·rw[t1];exact c
  ·exact absurd ((x1 c).trans (y1 c).symm) h
 case cb =>
  show(t.kind=2/\_)\/(t.kind=3\/t.kind=7\/t.kind=8)/\_;rw[t1];by_cases c2:x.kind=2
  ·exact .inl ⟨c2,by rw[x3 (by omega),y3 (by omega)]⟩
  ·obtain ⟨p1,p2⟩:=x2 c2;obtain ⟨q1,q2⟩:=y2 c2;by_cases c3:x.kind=3\/x.kind=7\/x.kind=8
   ·exact .inr ⟨c3,by omega,by omega⟩
   ·have:=x3 c3;have:=y3 c3;exact absurd ⟨by omega,by omega,by omega⟩ h
 case co =>
  show t.kind=4\/t.kind=6;rw[t1];by_cases c:x.kind=4\/x.kind=6
  ·exact c
  ·exact absurd ((x4 c).trans (y4 c).symm) h
 case cu =>
  show t.kind=8\/(t.kind=7\/t.kind=9)/\_;rw[t1];by_cases c8:x.kind=8
  ·exact .inl c8
  ·have p:=x5 c8;have q:=y5 c8;by_cases c:x.kind=7\/x.kind=8\/x.kind=9
   ·exact .inr ⟨by omega,by omega⟩
   ·have:=x6 c;have:=y6 c;exact absurd ⟨by omega,by omega⟩ h
theorem kZ (n:Int)(x y:BC)(hm:uI ED.id x.qA)(hs:uI PG.id x.wA):AM n x y=iP n x y++((fS ED.id ED.same x.qA y.qA).map (edM n)++(fS PG.id zP x.wA y.wA).map (edS n)):=by
 rw[<- Jj n _ _ hm,<- Kj n _ _ hs];unfold AM;simp only[yx]
theorem Q9 {n:Int}{x y t:BC}(hx:bD x=true)(hy:bD y=true)(hk:x.kind=y.kind)(ht:t.norm=x.norm):∃u,WI t (AM n x y)=some u/\u.norm=y.norm:=by
 have ax:=(JK hx).1;have ay:=(JK hy).1;have f1:t.kind=x.kind:=show t.norm.kind=x.norm.kind by rw[ht]
 have f2:t.name=x.name:=show t.norm.name=x.norm.name by rw[ht]
 have f3:t.low=x.low:=show t.norm.low=x.norm.low by rw[ht]
 have f4:t.high=x.high:=show t.norm.high=x.norm.high by rw[ht]
 have f5:t.max=x.max:=show t.norm.max=x.norm.max by rw[ht]
 have f6:t.opn=x.opn:=show t.norm.opn=x.norm.opn by rw[ht]
 have f7:t.key=x.key:=show t.norm.key=x.norm.key by rw[ht]
 have f8:t.elem=x.elem:=show t.norm.elem=x.norm.elem by rw[ht]
 have f9:t.wA=x.wA:=show t.norm.wA=x.norm.wA by rw[ht]
 have f10:t.qA.map ED.norm=x.qA.map ED.norm:=show t.norm.qA=x.norm.qA by rw[ht]
 obtain⟨_,_,_,_,_,_,x7,x8⟩:=JN hx;obtain⟨_,_,_,_,_,_,y7,y8⟩:=JN hy;rw[<- hk]at y7 y8;rw[kZ n x y ax.1 ax.2,GN,Ja hx hy hk ⟨f1,f2,f3,f4,f5,f6,f7,f8⟩,J,GN];obtain⟨u,hu,hn⟩:∃u:BC,u={ t with name:=y.name,low:=y.low,high:=y.high,max:=y.max,opn:=y.opn,key:=y.key,elem:=y.elem }/\u=u:=⟨_,rfl,rfl⟩;rw[<- hu];have um:u.qA=t.qA:=by rw[hu]
 have us:u.wA=x.wA:=by rw[hu];exact f9
 have uk:u.kind=x.kind:=by rw[hu];exact f1
 obtain⟨F,hF,hFn⟩:∃F,WI u ((fS ED.id ED.same x.qA y.qA).map (edM n))=some { u with qA:=F }/\F.map ED.norm=y.qA.map ED.norm:=by
  by_cases c:x.kind=5\/x.kind=6
  ·obtain⟨F,h1,h2⟩:=Bz f10 ax.1 ay.1;rw[<- um]at h1;exact⟨F,foldM (by rw[uk];rcases c with e|e<;>rw[e]<;>rfl) h1,h2⟩
  ·have e1:=x8 c;have e2:=y8 c;refine⟨u.qA,by rw[e1,e2];rfl,?_⟩;rw[um,f10,e1,e2]
 have hG:WI { u with qA:=F } ((fS PG.id zP x.wA y.wA).map (edS n))=some { u with qA:=F,wA:=y.wA }:=by
  by_cases c:x.kind=4
  ·have h1:=Pv ax.2 ay.2;rw[<- us]at h1;rw[<- us];exact foldS (t:={ u with qA:=F }) (by rw[<- c];exact uk) h1
  ·have e1:=x7 c;have e2:=y7 c;rw[e1,e2];rw[e1]at us;cases u;simp only at us;subst us;rfl
 rw[hF,J,hG];refine⟨_,rfl,?_⟩;rw[hu];unfold BC.norm;simp only[hFn,f1,hk]
theorem difL_ty {n:Int}{x y:BC}:∀e∈AM n x y,e.ty=n:=by
 intro e he;simp only[AM,iP,yu]at he;rcases he with((he|he|he|he)|he|he|he|he|he|he)
 ·split at he<;>simp at he;subst he;rfl
 ·split at he<;>simp at he;subst he;rfl
 ·split at he<;>simp at he;subst he;rfl
 ·split at he<;>simp at he;subst he;rfl
 ·simp only[tN,yR]at he;obtain⟨m,_,he⟩:=he;split at he<;>simp at he;subst he;rfl
 ·simp only [XM,yR] at he;obtain ⟨m,hm,he⟩:=he;unfold AO at he;split at he
  ·split at he<;>simp at he;subst he;rfl
  ·simp at he
 ·simp only[ZM,yR]at he;obtain⟨m,hm,he⟩:=he;split at he<;>simp at he;subst he;rfl
 ·simp only[CM,yR]at he;obtain⟨m,_,he⟩:=he;split at he<;>simp at he;subst he;rfl
 ·simp only [iN,yR] at he;obtain ⟨m,hm,he⟩:=he;unfold JO at he;split at he
  ·split at he<;>simp at he;subst he;rfl
  ·simp at he
 ·simp only[uN,yR]at he;obtain⟨m,hm,he⟩:=he;split at he<;>simp at he;subst he;rfl
theorem B4:∀(D:List aF)(B:List BC)(i k:Nat)(x y:BC)(r:List aF),B[k]?=some x->(∀e∈D,e.ty=(k:Int))->WI x D=some y->zK B i (D++r)=zK (B.set k y) (i+D.length) r
 | [],B,i,k,x,y,r,hx,_,hf=>by
  injection hf with hf;subst hf;obtain⟨h1,h2⟩:=yn.1 hx;subst h2;rw[List.set_getElem_self];rfl
 |e::D,B,i,k,x,y,r,hx,ht,hf=>by
  rw[WI]at hf;split at hf
  ·rename_i h0;have hs:LG B e=(0,B.set k (jD x e).2):=by
    unfold LG;have hk:=ht e (yo ..);have ek:e.ty.toNat=k:=by omega
    rw[if_pos (by omega),ek,hx];simp only[h0,if_true]
   have ba:=(yn.1 hx).1;rw[List.cons_append,zK,hs,if_pos rfl];have:=B4 D (B.set k (jD x e).2) (i+1) k (jD x e).2 y r (by rw[Y0n ba]) (fun e he=>ht e (yp _ he)) hf;rw[this,List.set_set,yG];congr 1;omega
  ·cases hf
theorem g7:∀(l m d l':List BC)(i:Nat),qE l m=true->(∀t∈l,bD t=true)->(∀t∈m,bD t=true)->l'.map BC.norm=l.map BC.norm->∃F,zK (d++l') i (lG d.length l m)=(i+(lG d.length l m).length,0,d++F)/\F.map BC.norm=m.map BC.norm
 | [],[],d,l',i,_,_,_,hn=>by
  have:l'=[]:=by simpa using hn
  subst this;exact⟨[],rfl,rfl⟩
 | [],_::_,_,_,_,h,_,_,_=>by simp[qE]at h
 |_::_,[],_,_,_,h,_,_,_=>by simp[qE]at h
 |x::l,y::m,d,l',i,h,gl,gm,hn=>by
  rw[qE,yg]at h;cases l' with
  |nil=>cases hn
  |cons t l' =>
   rw[ym,ym,List.cons.injEq]at hn;obtain⟨u,hu,tw⟩:=Q9 (n:=(d.length:Int)) (gl x (yo ..)) (gm y (yo ..)) (of_decide_eq_true h.1) hn.1;obtain⟨F,h1,h2⟩:=g7 l m (d++[u]) l' (i+(AM (d.length:Int) x y).length) h.2 (fun t ht=>gl t (yp _ ht)) (fun t ht=>gm t (yp _ ht)) hn.2;have da:(d++[u]).length=d.length+1:=by simp
   rw[da,yx,yx]at h1;refine⟨u::F,?_,by rw[ym,ym,tw,h2]⟩;rw[lG,B4 _ _ _ d.length t u _ (by rw[yP (yl _)];simp) difL_ty hu];rw[List.set_append_right _ _ (yl _),Nat.sub_self,List.set_cons_zero];rw[show d++u::l'=d++([u]++l')from rfl,h1,yj];rw[show i+(AM (d.length:Int) x y).length+(lG (d.length+1) l m).length=i+((AM (d.length:Int) x y).length+(lG (d.length+1) l m).length)from by omega];rfl
theorem Gj {n:Int}{x y:BC}(hx:bD x=true)(hy:bD y=true)(hk:x.kind=y.kind):AM n x y=[]↔x.norm=y.norm:=by
 have ax:=(JK hx).1;have ay:=(JK hy).1;constructor
 ·intro h;obtain⟨u,h1,h2⟩:=Q9 (n:=n) hx hy hk (t:=x) rfl;rw[h]at h1;injection h1 with h1;subst h1;exact h2
 ·intro h;have f2:x.name=y.name:=show x.norm.name=y.norm.name by rw [h]
  have f3:x.low=y.low:=show x.norm.low=y.norm.low by rw[h]
  have f4:x.high=y.high:=show x.norm.high=y.norm.high by rw[h]
  have f5:x.max=y.max:=show x.norm.max=y.norm.max by rw[h]
  have f6:x.opn=y.opn:=show x.norm.opn=y.norm.opn by rw[h]
  have f7:x.key=y.key:=show x.norm.key=y.norm.key by rw[h]
  have f8:x.elem=y.elem:=show x.norm.elem=y.norm.elem by rw[h]
  have f9:x.wA=y.wA:=show x.norm.wA=y.norm.wA by rw[h]
  have f10:x.qA.map ED.norm=y.qA.map ED.norm:=show x.norm.qA=y.norm.qA by rw[h]
  rw[kZ n x y ax.1 ax.2,(K7 ax.1 ay.1).2 (G4 f10)];have hs:fS PG.id zP x.wA y.wA=[]:=by
   rw[f9];refine(K7 ay.2 ay.2).2 ?_;have:∀l:List PG,G2 (fun x y:PG=>x.id=y.id/\zP x y=true) l l:=by
    intro l
    induction l with
    |nil=>exact .nil
    |cons a l ih=>exact .cons ⟨rfl,by simp[zP]⟩ ih
   exact this _
  rw[hs];unfold iP;simp[f2,f3,f4,f5,f6,f7,f8]
theorem d7:∀{l m:List BC}{i:Nat},qE l m=true->(∀t∈l,bD t=true)->(∀t∈m,bD t=true)->(lG i l m=[]↔l.map BC.norm=m.map BC.norm)
 | [],[],_,_,_,_=>by simp[lG]
 | [],_::_,_,h,_,_=>by simp[qE]at h
 |_::_,[],_,h,_,_=>by simp[qE]at h
 |x::l,y::m,i,h,gl,gm=>by
  rw[qE,yg]at h;have h1:=Gj (n:=(i:Int)) (gl x (yo ..)) (gm y (yo ..)) (of_decide_eq_true h.1);have h2:=d7 (i:=i+1) h.2 (fun t ht=>gl t (yp _ ht)) (fun t ht=>gm t (yp _ ht));rw[lG,List.append_eq_nil_iff,h1,h2,ym,ym,List.cons.injEq]
theorem KM {l:List BC}(h:valid l=0):∀t∈l,bD t=true:=fun t ht=>by
 obtain⟨j,hj,rfl⟩:=List.mem_iff_getElem.1 ht;exact(QZ (GX h j hj)).1
theorem dU (l:List BC):(ZD l).map BC.norm=l.map BC.norm:=by
 unfold ZD;rw[y9];rfl
theorem X3 {a b a':List BC}(ha:valid a=0)(hb:valid b=0)(hk:qE a b=true)(hn:a'.map BC.norm=a.map BC.norm):(kH (ZD a') (lG 0 a b)).1=(lG 0 a b).length/\(kH (ZD a') (lG 0 a b)).2.1=0/\(kH (ZD a') (lG 0 a b)).2.2.map BC.norm=b.map BC.norm:=by
 obtain⟨F,h1,h2⟩:=g7 a b [] (ZD a') 0 hk (KM ha) (KM hb) (by rw[dU,hn]);rw[Y00,Y00,List.length_nil,yy]at h1;have v1:valid (ZD a')=0:=by rw[WJ,<- gM,hn,gM,ha]
 have v2:valid F=0:=by rw[<- gM,h2,gM,hb]
 unfold kH;rw[h1];simp[v1,v2,h2]
theorem sY:∀{l m l' m':List BC},l.map BC.norm=l'.map BC.norm->m.map BC.norm=m'.map BC.norm->qE l m=qE l' m'
  | [],m,l',m',h1,h2=>by
    have:l'=[]:=by simpa using h1.symm
    subst this;cases m with
    |nil=>
      have:m'=[]:=by simpa using h2.symm
      subst this;rfl
    | cons=>cases m' with
      |nil=>cases h2
      |cons=>rfl
  | x :: l,m,l',m',h1,h2=>by
    cases l' with
    |nil=>cases h1
    | cons x' l' =>
      rw[ym,ym,List.cons.injEq]at h1;cases m with
      |nil=>
        have:m'=[]:=by simpa using h2.symm
        subst this;rfl
      | cons y m=>cases m' with
        |nil=>cases h2
        | cons y' m' =>
          rw[ym,ym,List.cons.injEq]at h2;have e1:x.kind=x'.kind:=show x.norm.kind=x'.norm.kind by rw[h1.1]
          have e2:y.kind=y'.kind:=show y.norm.kind=y'.norm.kind by rw[h2.1]
          rw[qE,qE,e1,e2,sY h1.2 h2.2]
theorem dY:∀(l m:List BC),qE l m=qE m l
 | [],[]=>rfl
 | [],_::_=>rfl
 |_::_,[]=>rfl
 |x::l,y::m=>by rw[qE,qE,dY l m,decide_eq_decide.2 (eq_comm (a:=x.kind) (b:=y.kind))]
theorem lay_of (k:Int)(b:Bool)(i:Int)(s:ByteArray)(d:Int):(Vl.of k b i s d).lay:=by
 rw[Vl.pC];simp[Vl.of,Vl.keys,Vl.items,Vl.rest]
theorem w8:Vl.zero.lay:=by
 rw[Vl.pC];simp[Vl.zero,Vl.keys,Vl.items,Vl.rest]
theorem lY (l:List OF)(i:Int)(rc:Bool)(ps:List MR):∀n,∀m∈gJ l i rc ps n,m.dflt.lay
 |0,m,h=>by simp[gJ]at h
 |n+1,m,h=>by
  rw[gJ,yu]at h;rcases h with h|h
  ·exact lY l i rc ps n m h
  ·unfold PR at h;split at h
   ·simp only [yU] at h;subst h;unfold QT;dsimp only;split
    ·unfold pP;split<;>exact lay_of ..
    ·exact w8
   ·cases h
theorem Qa (l:List OF):C1 ⟨false,PE l⟩:=by
 refine⟨fun h=>(by cases h),fun t ht=>?_⟩;unfold PE at ht;obtain⟨j,_,rfl⟩:=yD.1 ht;unfold MH;dsimp only;have hp:=fun rc=>lY l (j:Int) rc (TD l (j:Int)).parts 12
 split
 all_goals first
  |(simp[BC.of];done)
  |skip
 ·refine⟨by simp[BC.of],fun h=>?_,fun m hm=>hp true m hm⟩;simpa using h
 ·split
  ·simp[BC.of]
  ·exact⟨by simp[BC.of],fun h=>by simp at h,fun m hm=>hp false m hm⟩
 ·split<;>simp[BC.of]
theorem Np (n:Int)(x y:BC)(hx:bD x=true)(hy:bD y=true)(hk:x.kind=y.kind):(AM n x y).length<=52:=by
 have l1:=eK (x.name=y.name) (AQ n y.name);have l2:=eK (x.low=y.low/\x.high=y.high/\x.max=y.max) (xP n y.low y.high y.max);have l3:=eK (x.opn=y.opn) (SQ n y.opn);have l4:=eK (x.key=y.key/\x.elem=y.elem) (cP n y.key y.elem);have l5:=lW n y.qA x.qA;have l6:=uV n x.qA y.qA;have l7:=HU n x.qA y.qA;have l8:=pV n y.wA x.wA;have l9:=nW n x.wA y.wA;have l10:=g9 n x.wA y.wA;obtain⟨_,_,_,_,_,_,x7,x8⟩:=JN hx;obtain⟨_,_,_,_,_,_,y7,y8⟩:=JN hy;rw[<- hk]at y7 y8;obtain⟨_,mx,sx⟩:=JK hx;obtain⟨_,my,sy⟩:=JK hy;have h:(x.qA.length=0/\y.qA.length=0)\/(x.wA.length=0/\y.wA.length=0):=by
  by_cases c:x.kind=4
  ·left;rw[x8 (by omega),y8 (by omega)];exact⟨rfl,rfl⟩
  ·right;rw[x7 c,y7 c];exact⟨rfl,rfl⟩
 simp only[AM,iP,yj];omega
theorem OW:∀(l m:List BC)(i:Nat),qE l m=true->(∀t∈l,bD t=true)->(∀t∈m,bD t=true)->(lG i l m).length<=52*l.length
 | [],m,i,_,_,_=>by simp[lG]
 |x::l,[],i,_,_,_=>by simp[lG]
 |x::l,y::m,i,h,gl,gm=>by
  rw[qE,yg]at h;have h1:=Np (i:Int) x y (gl x (yo ..)) (gm y (yo ..)) (of_decide_eq_true h.1);have h2:=OW l m (i+1) h.2 (fun t ht=>gl t (yp _ ht)) (fun t ht=>gm t (yp _ ht));rw[lG,yj,yG];omega
theorem p0 {l m:List BC}(h:l.map BC.norm=m.map BC.norm):l.length=m.length:=by
 have:=congrArg List.length h;simpa using this
theorem Hj {n:Int}{x y:BC}(hy:∀m∈y.qA,F2 m):∀e∈AM n x y,F2 e.mem:=by
 have hz:F2 ED.zero:=⟨by simp[ED.ok,ED.zero,Vl.zero,Vl.ok,Vl.oks];decide,w8⟩;intro e he;simp only[AM,iP,yu]at he;rcases he with((he|he|he|he)|he|he|he|he|he|he)
 ·split at he<;>simp at he;subst he;exact hz
 ·split at he<;>simp at he;subst he;exact hz
 ·split at he<;>simp at he;subst he;exact hz
 ·split at he<;>simp at he;subst he;exact hz
 ·simp only[tN,yR]at he;obtain⟨m,_,he⟩:=he;split at he<;>simp at he;subst he;exact hz
 ·simp only [XM,yR] at he;obtain ⟨m,hm,he⟩:=he;unfold AO at he;split at he
  ·split at he<;>simp at he;subst he;exact hy m hm
  ·simp at he
 ·simp only[ZM,yR]at he;obtain⟨m,hm,he⟩:=he;split at he<;>simp at he;subst he;exact hy m hm
 ·simp only[CM,yR]at he;obtain⟨m,_,he⟩:=he;split at he<;>simp at he;subst he;exact hz
 ·simp only [iN,yR] at he;obtain ⟨m,hm,he⟩:=he;unfold JO at he;split at he
  ·split at he<;>simp at he;subst he;exact hz
  ·simp at he
 ·simp only[uN,yR]at he;obtain⟨m,hm,he⟩:=he;split at he<;>simp at he;subst he;exact hz
theorem sZ:∀(l m:List BC)(i:Nat),(∀t∈m,∀x∈t.qA,F2 x)->∀e∈lG i l m,F2 e.mem
 | [],m,i,_,e,he=>by simp[lG]at he
 |x::l,[],i,_,e,he=>by simp[lG]at he
 |x::l,y::m,i,h,e,he=>by
  rw[lG,yu]at he;rcases he with he|he
  ·exact Hj (h y (yo ..)) e he
  ·exact sZ l m (i+1) (fun t ht=>h t (yp _ ht)) e he
structure DrS (S:List BC):Prop where
 fine:CT.fine ⟨false,S⟩
 valid:valid S=0
 lay:C1 ⟨false,S⟩
 len:S.length<=5
theorem Hu {l:List OF}(hl:oks l):DrS (PE l) :=
 ⟨(rwS_ok hl (M8 l)).1,Kd hl (M8 l),Qa l,by simp[PE];exact hl.2.1⟩
section
variable {dn cn:Bool} {l:List OF} {cs:List D2} (hx:∀ x∈l,x.ok/\x.sized) (zc:l.length * 32<=140737488355328) (hc:∀ c∈cs,c.ok) (ge:cs.length<=9223372036854775807)
include dn cn l cs hx zc hc ge
theorem Sw:(∃(x y:Bool)(a b:List (List AV)),BD 4 [.agg (TG dn l),.sl cn (cs.map pO)] (.fA [.agg [.sl x a],.agg [.sl y b],.bool false]))\/∃S1 S2,DrS S1/\DrS S2/\BD 4 [.agg (TG dn l),.sl cn (cs.map pO)] (.fA [.agg [.sl false (S1.map GC)],.agg [.sl false (S2.map GC)],.bool true]):=by
 obtain⟨r1,⟨l2,ik,rfl⟩,hch⟩:=L9 (dn:=dn) (cn:=cn) hx zc hc ge;have rt:=Li (dn:=dn) (l:=l) fun x h=>(hx x h).1
 have oo:=Li (dn:=false) (l:=l2) ik;simp only[BD,TG]at rt oo hch;have wk:(cs.map pO).length=cs.length:=yc _;rcases rt with⟨hok1,rt⟩|⟨_,rt⟩
 ·rcases oo with ⟨ri,oo⟩ | ⟨_,oo⟩
  ·have d1:=Hu hok1;have d2:=Hu ri;by_cases h5:(cs.length:Int)<=5
   ·refine .inr ⟨_,_,d1,d2,?_⟩;refine tD (c:=TE) rfl rfl ?_;generalize (PE l).map GC=S1 at *
    generalize(PE l2).map GC=S2 at *
    generalize cs.map pO=cm at *
    simp[TE,TG,-J,-yb,-y9,y0,rt,hch,oo,h5,wk]
   ·refine .inl ⟨false,false,(PE l).map GC,(PE l2).map GC,?_⟩;refine tD (c:=TE) rfl rfl ?_;generalize (PE l).map GC=S1 at *
    generalize(PE l2).map GC=S2 at *
    generalize cs.map pO=cm at *
    simp[TE,TG,-J,-yb,-y9,y0,rt,hch,oo,h5,wk]
  ·refine .inl ⟨false,true,(PE l).map GC,[],?_⟩;refine tD (c:=TE) rfl rfl ?_;generalize (PE l).map GC=S1 at *
   generalize cs.map pO=cm at *
   simp[TE,TG,-J,-yb,-y9,y0,rt,hch,oo,wk]
 ·rcases oo with ⟨_,oo⟩ | ⟨_,oo⟩
  ·refine .inl ⟨true,false,[],(PE l2).map GC,?_⟩;refine tD (c:=TE) rfl rfl ?_;generalize (PE l2).map GC=S2 at *
   generalize cs.map pO=cm at *
   simp[TE,TG,-J,-yb,-y9,y0,rt,hch,oo,wk]
  ·refine .inl ⟨true,true,[],[],?_⟩;refine tD (c:=TE) rfl rfl ?_;generalize cs.map pO=cm at *
   simp[TE,TG,-J,-yb,-y9,y0,rt,hch,oo,wk]
theorem fV:GR 3 [.agg (TG dn l),.sl cn (cs.map pO)] (.bool true):=by
 have haw:=ev_V F9;refine GJ gE rfl rfl ?_;rcases Sw (dn:=dn) (cn:=cn) hx zc hc ge with⟨x,y,a,b,hs⟩|⟨S1,S2,d1,d2,hs⟩
 ·have hs:=fJ hs;simp only [GR,TG] at hs ⊢;generalize cs.map pO=cm at *
  simp[gE,-J,-yb,-y9,y0,TG,haw,hs]
 have hs:=fJ hs;have o1:=zT d1.valid fun t ht m hm=>((⟨((d1.fine.2 t ht).1.2.2 m hm),(d1.lay.2 t ht).2.2 m hm⟩):F2 m)
 have o2:=zT d2.valid fun t ht m hm=>((⟨((d2.fine.2 t ht).1.2.2 m hm),(d2.lay.2 t ht).2.2 m hm⟩):F2 m)
 have s1:=cW d1.fine d1.valid fun t ht=>(d1.lay.2 t ht).2.2
 have s2:=cW d2.fine d2.valid fun t ht=>(d2.lay.2 t ht).2.2
 have l1:=d1.len;have l2:=d2.len;have q1:=Gu ⟨false,S1⟩ ⟨false,S2⟩ d1.fine d2.fine (fun _=>⟨by show S1.length<=100;omega,s1⟩) (fun _=>s2);have q2:=fJ (Nx ⟨false,S1⟩ ⟨false,S2⟩ d1.fine d2.fine (fun _=>⟨by show S1.length<=100;omega,s1⟩) (fun _=>s2));have hd:fK ⟨false,S1⟩ ⟨false,S2⟩=if qE S1 S2=true then .fA [SM (lG 0 S1 S2),.int .i64 0]else .fA [.sl true [],.int .i64 1]:=by
  unfold fK;simp[d1.valid,d2.valid]
 rw[hd]at q1 q2;by_cases hk:qE S1 S2=true
 case neg =>
  rw[if_neg hk]at q1 q2;simp only[GR,TG,xK]at hs q1 q2 ⊢;generalize cs.map pO=cm at *
  generalize S1.map GC=m1 at *
  generalize S2.map GC=m2 at *
  simp[gE,-J,-yb,-y9,y0,TG,haw,hs,q1,q2]
 rw[if_pos hk]at q1 q2;have g1:=KM d1.valid;have g2:=KM d2.valid;have hD:=OW S1 S2 0 hk g1 g2;have hDo:=sZ S1 S2 0 o2.mem;obtain⟨r1,r2,r3⟩:=X3 (a':=S1) d1.valid d2.valid hk rfl;obtain⟨b1,L1,a1,e1⟩:=dZ ⟨false,S1⟩ (lG 0 S1 S2).isEmpty (lG 0 S1 S2) d1.fine d1.lay.1 d1.lay.2 (by omega) hDo;have a2:=Ca ⟨false,S1⟩ (lG 0 S1 S2).isEmpty (lG 0 S1 S2) d1.fine d1.lay (by omega) hDo;have wa:=PW ⟨false,S1⟩ (lG 0 S1 S2) d1.fine d1.lay (by omega) hDo;simp only at e1 wa;unfold invA at a2;simp only at a2;rw[r2,if_pos rfl]at a2;rw[r1,r2]at a1;generalize hN:(kH (ZD S1) (lG 0 S1 S2)).2.2=N at *
 -- what leads back
 have vN:valid N=0:=by rw[<- gM,r3,gM];exact d2.valid
 have kN:qE N S1=true:=by rw[sY r3 rfl,dY];exact hk
 have hdN:fK ⟨false,N⟩ ⟨false,S1⟩=.fA [SM (lG 0 N S1),.int .i64 0]:=by
  unfold fK;simp[d1.valid,vN,kN]
 rw[hdN]at a2;have gN:=KM vN;have lN:N.length=S2.length:=p0 r3;have hE:=OW N S1 0 kN gN g1;have hEo:=sZ N S1 0 o1.mem;obtain⟨t1,t2,t3⟩:=X3 (a':=S2) vN d1.valid kN r3.symm;obtain⟨b2,L2,a3,e3⟩:=dZ ⟨false,S2⟩ (lG 0 N S1).isEmpty (lG 0 N S1) d2.fine d2.lay.1 d2.lay.2 (by omega) hEo;have ri:=PW ⟨false,S2⟩ (lG 0 N S1) d2.fine d2.lay (by omega) hEo;simp only at e3 ri;rw[t2]at a3
 -- they are equal
 have n1:L1.map BC.norm=S2.map BC.norm:=by rw[<- dU,e1,r3]
 have n2:L2.map BC.norm=S1.map BC.norm:=by rw[<- dU,e3,t3]
 rw[<- e1]at wa;rw[<- e3]at ri;have okT:∀{L:List BC},XT F2 400 (ZD L)->∀t∈L,t.ok:=fun{L} h t ht=>by
  have h:=h.un;exact⟨by have:=h.len t ht;omega,by have:=h.len t ht;omega,fun m hm=>(h.mem t ht m hm).1⟩
 have f1:=fJ (mZ b1 false L1 S2 (by have:=p0 n1;omega) (okT wa));have f2:=fJ (mZ b2 false L2 S1 (by have:=p0 n2;omega) (okT ri));have f3:=fJ (mZ false false S1 S2 (by omega) fun t ht=>(d1.fine.2 t ht).1);rw[(kP _ _).2 n1]at f1;rw[(kP _ _).2 n2]at f2;have aw:(decide (((lG 0 S1 S2).length:Int)=0))=bI S1 S2:=by
  have h1:=d7 (i:=0) hk g1 g2;rw[<- kP]at h1;cases h:bI S1 S2 with
  |true=>rw[h1.2 h];rfl
  |false =>
   refine decide_eq_false fun e=>?_
   have:lG 0 S1 S2=[]:=List.length_eq_zero_iff.1 (by omega);rw[h1.1 this]at h;cases h
 rw[<- aw]at f3;have ac:((lG 0 S1 S2).map qJ).length=(lG 0 S1 S2).length:=yc _;simp only[GR,TG,xK,SM]at hs q1 q2 a1 a2 a3 f1 f2 f3 ⊢;generalize(lG 0 N S1).isEmpty=y2 at *
 generalize(lG 0 S1 S2).isEmpty=y1 at *
 generalize(lG 0 S1 S2).length=z1 at *
 generalize(lG 0 S1 S2).map qJ=x1 at *
 generalize(lG 0 N S1).map qJ=x2 at *
 generalize cs.map pO=cm at *
 generalize S1.map GC=m1 at *
 generalize S2.map GC=m2 at *
 generalize L1.map GC=m3 at *
 generalize L2.map GC=m4 at *
 by_cases h0:(z1:Int)=0
 ·rw[decide_eq_true h0]at f3;simp[gE,-J,-yb,-y9,y0,TG,haw,hs,q1,q2,a1,a2,a3,f1,f2,f3,ac,h0]
 ·rw [decide_eq_false h0] at f3;have xg:¬ z1=0:=by omega
  simp[gE,-J,-yb,-y9,y0,TG,haw,hs,q1,q2,a1,a2,a3,f1,f2,f3,ac,xg]
end
section
open Go Go.RowKit Go.ChangeShapes Go.WideShapes
theorem EW {H:Type}{P:Program}{m:Nat}:∀{ts us:List TypeId}{ds gs:List (DataW H)},m∈DataW.weightsEach P ts ds->ts.length=ds.length->m∈DataW.weightsEach P (ts++us) (ds++gs)
 | [],_,[],_,h,_=>by simp[DataW.weightsEach]at h
 | [],_,_::_,_,_,h=>by simp at h
 |_::_,_,[],_,_,h=>by simp at h
 |t::ts,us,d::ds,gs,h,hl=>by
  simp only[DataW.weightsEach,yu,List.cons_append]at h ⊢;rcases h with h|h
  ·exact .inl h
  ·exact .inr (EW h (by simpa using hl))
theorem w6 {α:Type}{P:List AV->Prop}{f:α->List AV}{p:α->Prop}(h:∀x,P x->∃o,x=f o/\p o):∀els:List (List AV),(∀x∈els,P x)->∃L:List α,els=L.map f/\∀o∈L,p o
 | [],_=>⟨[],rfl,fun _ h=>by cases h⟩
 |x::r,hx=>by
  obtain⟨L,h1,h2⟩:=w6 h r fun y hy=>hx y (yp _ hy)
  obtain⟨o,h3,h4⟩:=h x (hx x yo);refine⟨o::L,by rw[h1,h3];rfl,fun y hy=>?_⟩;rcases yt.1 hy with rfl|hy
  ·exact h4
  ·exact h2 y hy
theorem Qc:reachBytes=140737488351232:=rfl
end
section
open Go Go.RowKit Go.ChangeShapes Go.WideShapes
def Dj:List TypeId:=[24,22,77,75,89,25,86,5]
theorem Qq:Dj.all (gS Tryz.prog Dj)=true:=by kernel_rfl
theorem u8_of {n:Int}(h:(Lit.int .u8 n).wf=true):u8 n:=by
 simp only[Lit.wf,yg,decide_eq_true_eq]at h;have h1:IntKind.u8.min=0:=rfl;have h2:IntKind.u8.max=255:=rfl;exact⟨by omega,by omega⟩
theorem Gp:Tryz.prog.bytesOf 77=32:=by kernel_rfl
theorem Hp:Tryz.prog.bytesOf 89=3:=by kernel_rfl
section
variable {n:Nat} {a:List AV}
include n a
theorem Gv (h:OP Tryz.prog n 5 a):∃x,a=[.int .u8 x]/\u8 x:=by
 cases n with
 |zero=>exact h.elim
 |succ n =>
  simp only[OP,Tryz.underlying5]at h;obtain⟨x,rfl,hx⟩:=h;exact⟨x,rfl,u8_of hx⟩
theorem tyPart (h:OP Tryz.prog n 89 a):∃p:MR,a=IG p/\p.ok:=by
 cases n with
 |zero=>exact h.elim
 |succ n =>
  simp only[OP,Tryz.underlying89,aU]at h;obtain⟨_,_,rfl,_,h1,_,_,rfl,_,h2,_,_,rfl,_,h3,rfl⟩:=h;obtain⟨x1,rfl,u1⟩:=Gv h1;obtain⟨x2,rfl,u2⟩:=Gv h2;obtain⟨x3,rfl,u3⟩:=Gv h3;exact⟨⟨x1,x2,x3⟩,rfl,u1,u2,u3⟩
theorem tyChg (h:OP Tryz.prog n 86 a):∃c:D2,a=pO c/\c.ok:=by
 cases n with
 |zero=>exact h.elim
 |succ n =>
  simp only[OP,Tryz.underlying86,aU]at h;obtain⟨_,_,rfl,_,h1,_,_,rfl,_,h2,_,_,rfl,_,h3,_,_,rfl,_,h4,rfl⟩:=h;obtain⟨x1,rfl,u1⟩:=Gv h1;obtain⟨x2,rfl,u2⟩:=Gv h2;obtain⟨x3,rfl,u3⟩:=Gv h3;obtain⟨x4,rfl,u4⟩:=Gv h4;exact⟨⟨x1,x2,x3,x4⟩,rfl,u1,u2,u3,u4⟩
theorem tyParts (h:OP Tryz.prog n 75 a):∃nl,∃ps:List MR,a=[.sl nl (ps.map IG)]/\(∀p∈ps,p.ok)/\ps.length*3<=140737488351232:=by
 cases n with
 |zero=>exact h.elim
 |succ n =>
  simp only[OP,Tryz.underlying75,Hp,Qc]at h;obtain⟨nl,els,rfl,_,h2,_,h4⟩:=h;obtain⟨L,rfl,hL⟩:=w6 (P:=fun x=>OP Tryz.prog n 89 x) (fun x hx=>tyPart hx) els (fun x hx=>(h4 x hx).2);exact⟨nl,L,rfl,hL,by simpa using h2⟩
theorem tyChgs (h:OP Tryz.prog n 25 a):∃nl,∃ps:List D2,a=[.sl nl (ps.map pO)]/\(∀p∈ps,p.ok)/\ps.length<=9223372036854775807:=by
 cases n with
 |zero=>exact h.elim
 |succ n =>
  simp only[OP,Tryz.underlying25]at h;obtain⟨nl,els,rfl,h1,_,_,h4⟩:=h;obtain⟨L,rfl,hL⟩:=w6 (P:=fun x=>OP Tryz.prog n 86 x) (fun x hx=>tyChg hx) els (fun x hx=>(h4 x hx).2);exact⟨nl,L,rfl,hL,by simpa [maxLen]using h1⟩
theorem tyNode (h:OP Tryz.prog n 77 a):∃x:OF,a=qG x/\x.ok/\x.sized:=by
 cases n with
 |zero=>exact h.elim
 |succ n =>
  simp only[OP,Tryz.underlying77,aU]at h;obtain⟨_,_,rfl,_,h1,_,_,rfl,_,h2,_,_,rfl,_,h3,_,_,rfl,_,h4,_,_,rfl,_,h5,rfl⟩:=h;obtain⟨x1,rfl,u1⟩:=Gv h1;obtain⟨x2,rfl,u2⟩:=Gv h2;obtain⟨x3,rfl,u3⟩:=Gv h3;obtain⟨x4,rfl,u4⟩:=Gv h4;obtain⟨nl,ps,rfl,p1,p2⟩:=tyParts h5;exact⟨⟨x1,x2,x3,x4,nl,ps⟩,rfl,⟨u1,u2,u3,u4,by dsimp only;omega,p1⟩,by unfold OF.sized;dsimp only;omega⟩
theorem tyDraft (h:OP Tryz.prog n 24 a):∃nl,∃l:List OF,a=[.sl nl (l.map qG)]/\(∀x∈l,x.ok/\x.sized)/\l.length*32<=140737488351232:=by
 cases n with
 |zero=>exact h.elim
 |succ n =>
  simp only[OP,Tryz.underlying24,aU]at h;obtain⟨_,_,rfl,_,h1,rfl⟩:=h;cases n with
  |zero=>exact h1.elim
  |succ n =>
   simp only[OP,Tryz.underlying22,Gp,Qc]at h1;obtain⟨nl,els,rfl,_,h2,_,h4⟩:=h1;obtain⟨L,rfl,hL⟩:=w6 (P:=fun x=>OP Tryz.prog n 77 x) (fun x hx=>tyNode hx) els (fun x hx=>(h4 x hx).2);exact⟨nl,L,rfl,hL,by simpa using h2⟩
end
theorem dftTy {a:AV}(h:Eg Tryz.prog 24 a):∃(dn:Bool)(l:List OF),a=.agg (TG dn l)/\(∀x∈l,x.ok/\x.sized)/\l.length*32<=140737488351232:=by
 obtain⟨n,⟨_,c,rfl,h⟩|⟨hw,_⟩⟩:=h
 ·obtain⟨dn,l,rfl,h1,h2⟩:=tyDraft h;exact⟨dn,l,rfl,h1,h2⟩
 ·have lk:OO Tryz.prog 24=true:=by kernel_rfl
  rw[lk]at hw;cases hw
theorem chgsTy {a:AV}(h:Eg Tryz.prog 25 a):∃(cn:Bool)(cs:List D2),a=.sl cn (cs.map pO)/\(∀c∈cs,c.ok)/\cs.length<=9223372036854775807:=by
 obtain⟨n,⟨hw,_⟩|⟨_,h⟩⟩:=h
 ·have lk:OO Tryz.prog 25=false:=by kernel_rfl
  rw[lk]at hw;cases hw
 ·obtain⟨cn,cs,e,h1,h2⟩:=tyChgs h;injection e with e;exact⟨cn,cs,e,h1,h2⟩
end
section
open Go Go.RowKit Go.ChangeShapes Go.WideShapes Go.ChangeAt
set_option maxRecDepth 100000 in
theorem bT (os:Os)(args:Array Value):laidMetH Tryz.prog Rows.evolveRestoredRow.laid ((World.doorLaid Tryz.prog 4000 os).forCall (fun _ _=>0) ⟨#[],args,[]⟩).memory :=
 laidMetH_of_parts3 (fuel:=80) (laidMet_of_run' 80 (by kernel_rfl) (by kernel_rfl)) (by kernel_rfl) (by kernel_rfl)
set_option maxRecDepth 100000 in
theorem HR (os:Os)(started:os.Started)(H:Type)(enc:TypeId×Value->H):
  ReturnsInHanded {} Tryz.checked os 3 .any (fun w args=>(Rows.evolveRestoredSpec.pre enc Tryz.prog Tryz.f3 Rows.evolveRestoredRow.domain false w args/\laidMetH Tryz.prog Rows.evolveRestoredRow.laid w)/\sizedMet enc Tryz.prog Tryz.f3 (OpenSpec.ofChange Rows.evolveRestoredSpec) false w args) (Rows.evolveRestoredSpec.post enc Tryz.prog Tryz.f3 false true false false):=by
 refine returnsInHanded_of_change_and (C:=Tryz.checked) (X:=fun w _=>laidMetH Tryz.prog Rows.evolveRestoredRow.laid w) (fun _ _ _ hh h=>h.of_heap hh) own started (by kernel_rfl) Tryz.func3
  (ChangeSpec.witness_shaped (enc:=enc) (C:=Tryz.checked) (os:=os) (X:=fun w _=>laidMetH Tryz.prog Rows.evolveRestoredRow.laid w) false (World.doorLaid Tryz.prog 4000 os) #[.agg #[.slice none 0 0],.slice none 0 0] 8 rfl (World.shaped_of_RefB (by kernel_rfl) (by kernel_rfl)) (by kernel_rfl) (by kernel_rfl) (by kernel_rfl) (bT os _)) ?_
 intro W base args ds gs before hval0 hW az zc hL _;have hval:∀(j:Nat) t v,Tryz.f3.params[j]?=some t->args[j]?=some v->Value.okWide Tryz.prog W .any base t v:=hval0;have hW':=hW;obtain⟨p,q,wm,hV,rfl,hfz,le⟩:=hW;have hA:DataW.TrodAll enc Tryz.prog W 0 (fun _=>true) true Tryz.f3.params.toList args.toList ds p:=wm;rw[Tryz.params3]at hA hval;have hA1:DataW.TrodAll enc Tryz.prog W 0 (fun _=>true) true [24,25] args.toList ds p:=hA;have hd:∃d0 d1,ds=[d0,d1]:=by
  obtain⟨_,_,d0,_,_,_,_,rfl,_,_,r0⟩:=trodAll_cons hA1;obtain⟨_,_,d1,_,_,_,_,rfl,_,_,r1⟩:=trodAll_cons r0;obtain⟨_,rfl,_⟩:=trodAll_nil r1;exact⟨d0,d1,rfl⟩
 obtain⟨d0,d1,rfl⟩:=hd;obtain⟨xs,hx,lc⟩:=Fg (T:=Dj) Qq hA1 (fun j t v e e'=>hval j t v (by simpa using e) (by simpa using e')) (fun m hm=>of_decide_eq_true (ye.1 zc m (EW hm rfl))) (by kernel_rfl);simp only[Xf]at lc;obtain⟨a0,_,rfl,t0,a1,_,rfl,t1,rfl⟩:=lc;obtain⟨dn,l,rfl,hlx,zx⟩:=dftTy t0;obtain⟨cn,cs,rfl,ol,jo⟩:=chgsTy t1;obtain⟨rfl,rfl⟩:=trodVars_none hV;have hev:=fV (dn:=dn) (cn:=cn) hlx (by omega) ol jo;have hC:=(dV d6 evoT_ok (evoX_ok (O:=noObjs.of)) hev).2 Xo W args.toList ⟨⟨trivial,fun _ h=>h.elim⟩,fun _ _ h=>h.elim⟩ hx;rw[Y07]at hC;refine hC.mono fun e W' ⟨v,he,hv,hb⟩=>?_
 have hv':v=.bool true:=hv;subst he;subst hv';exact⟨_,rfl,A3 (pa:=p) (pv:=[]) hW' (fun _ _ _=>trodAll_cons_mk (shut_bool Tryz.underlying4 _) trodAll_mk0) (C3 laidOut hb hA1 (by kernel_rfl)) rfl hb⟩
theorem gV:Jl Tryz.pinned.checked.prog 3 Tryz.f3 Rows.evolveRestoredSpec Rows.evolveRestoredRow=true:=by kernel_rfl
theorem jV:Kl Tryz.pinned.checked.prog 3 Tryz.f3 Rows.evolveRestoredSpec Rows.evolveRestoredRow=true:=by kernel_rfl
theorem kV:Ll Tryz.pinned.checked.prog 3 Tryz.f3 Rows.evolveRestoredSpec Rows.evolveRestoredRow=true:=by kernel_rfl
theorem lV:Zl Tryz.pinned.checked.prog 3 Tryz.f3 Rows.evolveRestoredSpec Rows.evolveRestoredRow=true:=by kernel_rfl
theorem zV:Xl Tryz.pinned.checked.prog 3 Tryz.f3 Rows.evolveRestoredSpec Rows.evolveRestoredRow=true:=by kernel_rfl
theorem xV:Bl Tryz.pinned.checked.prog 3 Tryz.f3 Rows.evolveRestoredSpec Rows.evolveRestoredRow=true:=by kernel_rfl
theorem cV:Nl Tryz.pinned.checked.prog 3 Tryz.f3 Rows.evolveRestoredSpec Rows.evolveRestoredRow=true:=by kernel_rfl
theorem dS:Rows.EvolveRestoredSaid :=
 OpenClaim.holds_of_wide 3 Tryz.f3 rfl rfl rfl rfl rfl rfl rfl ⟨rfl,rfl,rfl,rfl,rfl⟩ rfl rfl rfl rfl rfl (by kernel_rfl) Tryz.func3 (Es gV jV kV lV zV xV cV)
  (of_decide_eq_true (by kernel_rfl)) (by unfold Func.isWrapper;first|(rw[if_pos (by decide +kernel)];kernel_rfl)|(rw[if_neg (by decide +kernel)];exact⟨rfl,rfl⟩))
  (fun os started H enc _=>HR os started H enc)
end
end Go.Proofs.YtpmklcpajcfpjaaGreatDoor
