/- A part of the proof. -/
import Derived.Test.YtbhbeakhognieaaGreatDoorWa
import Derived.Laws.BytesString
import Derived.OrdersHeld
set_option linter.all false
set_option maxRecDepth 100000
set_option maxHeartbeats 8000000
open Option renaming bind_some → J, bind_eq_some_iff → y9, map_eq_some_iff → yl, map_some → yt
open List renaming map_map → y5, length_map → y7, all_eq_true → y8, length_append → yb, getElem?_map → yc, getElem?_eq_getElem → yg, getElem?_eq_some_iff → yh, drop_eq_getElem_cons → yj, map_cons → yk, length_take → ym, drop_eq_nil_of_le → yn, append_assoc → yo, mem_cons_self → yp, mem_append → yq, getElem?_drop → yu, flatten_cons → yv, mem_cons → yw, replicate → yx, getElem?_take → yy, append_nil → yz, length_cons → yA, length_drop → yC, mem_of_getElem? → yD, getElem?_append_right → yE, mem_cons_of_mem → yG, map_congr_left → yH, getElem?_append_left → yL, size_toArray → yO, mem_map → yQ, map_nil → yR, take_of_length_le → yS, nil_append → yW, eq_nil_of_length_eq_zero → Y00, mem_singleton → Y03, take_append_drop → Y05, getElem?_eq_none → Y07
open Bool renaming and_eq_true → ye, false_eq_true → yI
open Nat renaming le_refl → yf, zero_add → yr, le_trans → yB, add_zero → yJ, add_mul → yK, succ_mul → yM, eq_zero_or_pos → yT, mul_le_mul_right → Y02
open Array renaming length_toList → yP, toArray_toList → yX, getD_eq_getD_getElem? → Y04, getElem?_eq_getElem → Y06
namespace Go.Proofs.YtbhbeakhognieaaGreatDoor
open Go
section
open Go Go.RowKit
section
variable {P:Program} {O:XE} {nt B:Nat} {F0:BN} {aa:Av} {w0:World} {D:Nat->Prop} {s:pA} {a:Act} {w w':World} {ι:Ix} {Θ:aJ} {o:Oper}
def An.twice (A:An) (d:Nat) (x:An):An:=match A with
 | .own k _=>(x.strip k).strip d
 | _=>x.strip d
theorem twice_eq (A:An) (d:Nat):(s.stripA A).strip d=s.mapAn (A.twice d):=by
 cases A with
 | own k e=>simp [pA.stripA,pA.strip,pA.mapAn,rA.strip,An.twice,Function.comp_def]
 | no=>rfl
 | ex=>rfl
def aJ.less (Θ:aJ) (A:An) (d:Nat):aJ:=fun j=>match A with
 | .own k _=>if j=d\/j=k then none else Θ j
 | _=>if j=d then none else Θ j
theorem bC {A:An} {d j:Nat} {o:Ow} (h:Θ.less A d j=some o):Θ j=some o/\j≠d/\∀ k e,A=.own k e->j≠k:=by
 unfold aJ.less at h;cases A with
 | own k e =>
  simp only at h;split at h
  ·cases h
  ·rename_i hn; exact ⟨h,fun e=>hn (.inl e),fun k' e' he=>by injection he with h1; subst h1; exact fun e=>hn (.inr e)⟩
 | no =>
  simp only at h;split at h
  ·cases h
  ·rename_i hn; exact ⟨h,hn,fun k' e' he=>by cases he⟩
 | ex =>
  simp only at h;split at h
  ·cases h
  ·rename_i hn; exact ⟨h,hn,fun k' e' he=>by cases he⟩
theorem less_d {A:An} {d:Nat}:Θ.less A d d=none:=by
 unfold aJ.less;cases A <;> simp
theorem less_an {A:An} {d:Nat} {Θ':aJ} (hΘ:∀ j o,Θ.less A d j=some o->Θ' j=some o) (x:An) (v:Value) (h:kJ Θ x v):kJ Θ' (A.twice d x) v:=by
 have h1:∀ k,x.strip k=.no\/(x.strip k=x/\∀ j e,x=.own j e->j≠k):=fun k=>by
  cases x with
  | no=>exact .inl rfl
  | ex=>exact .inr ⟨rfl,fun _ _ h=>by cases h⟩
  | own j e =>
   simp only [An.strip];split
   ·exact .inl rfl
   ·rename_i hn; exact .inr ⟨rfl,fun j' e' h=>by injection h with h; subst h; exact hn⟩
 have key:A.twice d x=.no\/(A.twice d x=x/\(∀ j e,x=.own j e->j≠d)/\∀ k e',A=.own k e'->∀ j e,x=.own j e->j≠k):=by
  cases A with
  | own k e' =>
   simp only [An.twice];rcases h1 k with h2 | ⟨h2,h3⟩
   ·rw [h2]; exact .inl rfl
   ·rw [h2];rcases h1 d with h4 | ⟨h4,h5⟩
    ·exact .inl h4
    ·exact .inr ⟨h4,h5,fun k' e'' he=>by injection he with he; subst he; exact h3⟩
  | no=>rcases h1 d with h4 | ⟨h4,h5⟩; exact .inl h4; exact .inr ⟨h4,h5,fun _ _ he=>by cases he⟩
  | ex=>rcases h1 d with h4 | ⟨h4,h5⟩; exact .inl h4; exact .inr ⟨h4,h5,fun _ _ he=>by cases he⟩
 rcases key with h2 | ⟨h2,h3,h4⟩
 ·rw [h2]; trivial
 ·rw [h2];cases x with
  | no=>trivial
  | ex=>exact h
  | own j e =>
   refine h.imp id fun ⟨ow,h5,h6⟩=>⟨ow,hΘ _ _ ?_,h6⟩
   unfold aJ.less;cases A with
   | own k e'=>simp only; rw [if_neg]; exact h5; rintro (e1 | e1); exact h3 _ _ rfl e1; exact h4 _ _ rfl _ _ rfl e1
   | no=>simp only; rw [if_neg (h3 _ _ rfl)]; exact h5
   | ex=>simp only; rw [if_neg (h3 _ _ rfl)]; exact h5
theorem DB.apob (R:DB P O nt B F0 aa w0 D s a w ι Θ) {k:Nat} {o:Ow} {t n:Nat} {H:Nat->Prop} (h:Θ k=some o) (hH:ι.ob t n=some H):¬ H o.g:=fun hb=>((R.obs t n H hH).1 _ hb).2.2.2.1 k o h rfl
theorem DB.less (R:DB P O nt B F0 aa w0 D s a w ι Θ) (A:An) (d:Nat):DB P O nt B F0 aa w0 D (s.mapAn (A.twice d)) a w ι (Θ.less A d) :=
 R.fam _ _ (fun _ _ h=>h.imp id fun ⟨k,ow,h1,h2⟩=>⟨k,ow,(bC h1).1,h2⟩) (less_an fun _ _ h=>h) (fun k o h=>R.tok k o (bC h).1) (fun k k' o o' h h'=>R.tinj k k' o o' (bC h).1 (bC h').1) (fun k o t n h=>R.apart k o t n (bC h).1) (fun _ _ _ _ _ h=>R.apob (bC h).1)
theorem pE {av:Av}:∀ {xs ys:List AV} {us vs:List Value},rB av w xs us->rB av w ys vs->rB av w (xs++ys) (us++vs)
 | [],_,_,_,h,h'=>by simp only [rB] at h; subst h; exact h'
 | x :: r,_,_,_,h,h'=>by
  simp only [rB] at h;obtain ⟨u,db,rfl,h0,h1,h⟩:=h;exact ⟨u,db++_,rfl,h0,h1,pE h h'⟩
theorem zM {av:Av}:∀ {xs:List AV} {us:List Value},rB av w xs us->∀ u∈us,u.oneCell'=true
 | [],_,h,u,hu=>by simp only [rB] at h; subst h; cases hu
 | x :: r,_,h,u,hu=>by
  simp only [rB] at h;obtain ⟨v,db,rfl,h0,h1,h⟩:=h;rcases yw.1 hu with rfl | hu
  ·exact h1
  ·exact zM h u hu
theorem op_app (R:DB P O nt B F0 aa w0 D s a w ι Θ) {t e:TypeId} {i:TypeInfo} {z:List AV} (ht:P.underlying t=some (.slice e)) (hi:P.info? e=some i) (hz:cI P e=some z) (oc:z.length=i.size) (pb:0<i.size) {X Y:Operand} {x y:bB} (hx:opd X=some x) (hy:opd Y=some y)
  (ho:o.op=.call { callee:=.builtin .append,args:=#[X,Y],argTypes:=#[t,t] }) {d:Nat} (ka:o.dst=some d) (hd:d<nt) {cl:Cl} {call} {xe:rA × SC} (hr:(K.app cl e i.size i.bytes x y).run call s=some xe) {g} {s':pA} (he:WA.eff ⟨o.dst,.app cl e i.size i.bytes x y,g⟩ s xe=some s') :
  ∃ v w',(execOp a.eval o).run P w=.ok (.value v) w'/\WD P O nt B F0 aa w0 D s' (a.put o.dst v) w':=by
 obtain ⟨zv,i',bd,bq,si,hl⟩:=BF hz w;rw [hi] at bd;injection bd with bd;subst bd;have ti:zv.cells.size=i.size:=by
  have:=nF hl;simp only [yP] at this;omega
 have hX:=R.opd hx;have hY:=(R.opd hy).1;have il:∀ v w',(Builtin.append_ #[t,t] o.type #[a.eval X,a.eval Y]).run P w=.ok v w'->(execOp a.eval o).run P w=.ok (.value v) w':=fun v w' h=>by
  simp only [execOp,ho,resolve,invoke,builtin,Sem.run_bind,Sem.run_pure,Result.andThen_ok,List.map_toArray,yk,yR,h]
 simp only [K.run] at hr;split at hr
 ·rename_i b l m md gb;split at hr
  ·rename_i ia;obtain ⟨ga,bc⟩:=ia;obtain ⟨xg,ff⟩:=sA.1 ga;have fd:∀ c∈l++m,c.length=i.size:=fun c hc=>by simpa using y8.1 bc c hc
   have ae:∀ c∈m,c.length=i.size:=fun c hc=>fd c (List.mem_append_right _ hc)
   have pu:∀ c∈l,c.length=i.size:=fun c hc=>fd c (List.mem_append_left _ hc)
   obtain ⟨news,zb,xf⟩:=XK R hY gb pb ae;rw [md] at hX;have dw:=hX.1;rw [WC] at dw;obtain ⟨xs,lc,tv⟩:=XK (cl:=cl) R hX.1 (m:=l) rfl pb pu;simp only [ID] at dw;obtain ⟨A,c,hv,iw,hu,hn,hs⟩:=dw;have rf:xs.length=l.length * i.size:=tv.1;have ig:∀ a',A=some a'->∀ j u,xs[j]?=some u->w.cell? (a'.add j)=some u:=fun a' ha j u hj=>by
    obtain ⟨_,A2,c2,hv2,_,h2⟩:=tv;rw [hv] at hv2;injection hv2 with e1 e2 e3;subst e1;have hp:0<l.length:=by
     rcases yT l.length with h | h
     ·rw [h] at rf; have:=(yh.1 hj).1; omega
     ·exact h
    obtain ⟨b',off,hA,_,_,re⟩:=h2 hp;rw [ha] at hA;injection hA with hA;subst hA;rw [Addr.add_lit];exact re j u hj
   have oh:news.length=m.length * i.size:=xf.1;have ii:∀ u∈news,u.oneCell'=true:=zM zb;have ry:∃ A0,iB b (x.an s)=A0/\(A0=.ex\/∃ k,A0=.own k e)/\xe=(⟨.sl (b&&m.isEmpty) (l++m),.own 0 e⟩,.app A0 0):=by
    cases tk:iB b (x.an s) with
    | no=>rw [tk] at hr; cases hr
    | ex=>rw [tk] at hr; injection hr with hr; exact ⟨_,rfl,.inl rfl,hr.symm⟩
    | own k e' =>
     rw [tk] at hr;simp only at hr;split at hr
     ·rename_i hee; subst hee; injection hr with hr; exact ⟨_,rfl,.inr ⟨k,rfl⟩,hr.symm⟩
     ·cases hr
   obtain ⟨A0,tk,hAk,rfl⟩:=ry;simp only [WA.eff,ka] at he;injection he with he;subst he;rw [twice_eq,ka];have fw:kJ Θ A0 (a.eval X):=by
    rw [<- tk];cases b with
    | false=>exact hX.2
    | true =>
     obtain ⟨h1,h2,h3⟩:=hn rfl;exact ⟨none,0,by rw [hv,h1,h2,h3]⟩
   -- what is read of the old elements and the new ones behind
   have ic:rB (BB aa ι Θ) w (l++m).flatten (xs++news):=by rw [List.flatten_append]; exact pE lc zb
   have huni:∀ c∈l++m,∀ c'∈l++m,c.length=c'.length:=fun c hc c' jc=>(fd c hc).trans (fd c' jc).symm
   -- a new block
   have grow:c<l.length + m.length->∃ v w',(execOp a.eval o).run P w=.ok (.value v) w'/\WD P O nt B F0 aa w0 D ((s.mapAn (A0.twice d)).put (some d) ⟨.sl (b&&m.isEmpty) (l++m),.own d e⟩) (a.put (some d) v) w':=fun ba=>by
    have na:=OV (P:=P) (w:=w) ht hi bq o.type rf (fun hA=>by
     cases b with
     | true=>have:=hn rfl; exact ⟨this.2.1,this.2.2⟩
     | false =>
      obtain ⟨h1,h2⟩:=hs rfl;refine ⟨?_,h1 hA⟩;rcases yT l.length with h0 | h0
      ·exact h0
      ·obtain ⟨_,_,ha,_⟩:=h2 h0; rw [hA] at ha; cases ha) ig xf ba iw ff xg
    rw [<- hv] at na;have th:=grownCap_ge w (l.length + m.length) c e;have aw:grownCap w (l.length + m.length) c e<=maxLen:=grownCap_le_maxLen w (l.length + m.length) c e (by unfold maxLen; omega);have kv:(xs.toArray++news.toArray++Builtin.zeroCells zv.cells (grownCap w (l.length + m.length) c e - (l.length + m.length))).size=grownCap w (l.length + m.length) c e * i.size:=by
     simp only [Array.size_append,yO,size_zeroCells,ti,rf,oh,<- yK];congr 1;omega
    have R1:=(R.less A0 d).fresh (d:=d) less_d kv pb th aw (e:=e) (by simp [CB,hi]);refine ⟨_,_,il _ _ na,ι,_,R1.put hd ?_ (.inr ⟨_,if_pos rfl,rfl,rfl⟩)⟩;have hb:(b&&m.isEmpty)=false:=by
     cases b with
     | false=>rfl
     | true =>
      have:=(hn rfl);have:m≠[]:=fun h=>by subst h; simp at ba; omega
      simpa using this
    show GA _ _ _ _ (.sl (b&&m.isEmpty) (l++m)) _;rw [hb,WC];simp only [ID,yb];refine ⟨_,_,rfl,th,huni,(fun h=>by cases h),fun _=>⟨fun h=>(by cases h),fun _=>⟨w.heap.size,0,rfl,?_⟩⟩⟩;rw [XD];have lu:FA (BB aa ι Θ) (BB aa ι (fun j=>if j=d then some ⟨w.heap.size,l.length + m.length,grownCap w (l.length + m.length) c e,i.size,e⟩ else Θ.less A0 d j)) w (grewW w xs news zv e (l.length + m.length) c):=FA.grown (fun b hb=>Below.heap_alloc w.drew _ b hb) fun b' o' jb h=>h.imp id fun h=>h.imp id fun ⟨k,ow,h1,h2,h3⟩=>by
     by_cases ek:k=d
     ·simp only [if_pos ek] at h1; injection h1 with h1; subst h1; simp only at h2; omega
     ·simp only [if_neg ek] at h1; exact ⟨k,ow,(bC h1).1,h2,h3⟩
    refine zJ (rB.held lu _ _ ic) fun j u hj=>⟨?_,fun h=>?_⟩
    ·rw [yr];rw [cell_of_row _ w.heap.size j _ e (0,0) (OR (w:=w.drew) rfl)];have cq:=(yh.1 hj).1;rw [Array.getElem?_append_left (by simp only [Array.size_append,yO]; simpa using cq)];simpa using hj
    ·rw [yr] at h;have cq:=(yh.1 hj).1;rw [yb,rf,oh,<- yK] at cq;rcases h with h | (⟨t',n',h⟩ | ⟨t',n',H,h,jb⟩) | ⟨k,ow,h1,h2,h3⟩
     ·have:=R.out _ _ h; have:=R.lowB; omega
     ·have:=(R.mine _ _ _ h).2.1; omega
     ·have:=((R.obs _ _ _ h).1 _ jb).2.1; omega
     ·by_cases ek:k=d
      ·simp only [if_pos ek] at h1; injection h1 with h1; subst h1; simp only at h3; omega
      ·simp only [if_neg ek] at h1;obtain ⟨_,_,_,_,ua,h5,_⟩:=R.tok _ _ (bC h1).1;have:=cA h5;omega
   -- nothing new
   have same:m=[]->exV (a.eval X)->∃ v w',(execOp a.eval o).run P w=.ok (.value v) w'/\WD P O nt B F0 aa w0 D ((s.mapAn (A0.twice d)).put (some d) ⟨.sl (b&&m.isEmpty) (l++m),.own d e⟩) (a.put (some d) v) w':=fun wu kj=>by
    subst wu;have na:=PV (P:=P) (w:=w) ht hi o.type (A:=A) iw xf;rw [<- hv] at na;have R1:=R.less A0 d;refine ⟨_,_,il _ _ na,ι,_,R1.put hd ?_ (.inl kj)⟩;have hb:(b&&List.isEmpty ([]:List (List AV)))=b:=by simp
    show GA _ _ _ _ (.sl (b&&List.isEmpty []) (l++[])) _;rw [hb,yz];have hless:FA (BB aa ι Θ) (BB aa ι (Θ.less A0 d)) w w:=FA.less fun b o h=>h.imp id fun h=>h.imp id fun ⟨k,ow,h1,h2⟩=>⟨k,ow,(bC h1).1,h2⟩
    have hlessB:FA (eC ι Θ) (eC ι (Θ.less A0 d)) w w:=FA.less fun b o h=>h.imp id fun ⟨k,ow,h1,h2⟩=>⟨k,ow,(bC h1).1,h2⟩
    exact GA.held (Ix.Le.refl _) hless hlessB _ _ hX.1
   have exact:exV (a.eval X)->∃ v w',(execOp a.eval o).run P w=.ok (.value v) w'/\WD P O nt B F0 aa w0 D ((s.mapAn (A0.twice d)).put (some d) ⟨.sl (b&&m.isEmpty) (l++m),.own d e⟩) (a.put (some d) v) w':=fun kj=>by
    obtain ⟨A',n',hex'⟩:=kj;rw [hv] at hex';injection hex' with e1 e2 e3;rcases yT m.length with h0 | h0
    ·exact same (Y00 h0) ⟨A',n',by rw [hv,e1,e2,e3]⟩
    ·exact grow (by omega)
   rcases hAk with rfl | ⟨k,rfl⟩
   ·exact exact fw
   ·rcases fw with fw | ⟨ow,hk,hoe,fw⟩
    ·exact exact fw
    ·rw [hv] at fw;injection fw with e1 e2 e3;obtain ⟨hgB,hosz,honc,hocm,cur,fg,jx⟩:=R.tok k ow hk;rw [hoe] at fg;have zq:ow.sz=i.size:=by
      have:=jx.2;rw [hoe] at this;simp [CB,hi] at this;exact this.symm
     rcases Nat.lt_or_ge c (l.length + m.length) with ba | th
     ·exact grow ba
     ·subst e1;have na:=D5 (P:=P) (w:=w) ht hi o.type fg (by rw [jx.1,zq]) bq xf ii (n:=l.length) (m:=m.length) (c:=ow.c) (by omega);have zh:l.length * i.size + news.length<=cur.toList.length:=by
       have re:cur.toList.length=ow.c * i.size:=by rw [yP,jx.1,zq]
       rw [oh,<- yK,re];exact Y02 _ (by omega)
      obtain ⟨new,uc⟩:∃ new,new=(cur.toList.take (l.length * i.size)++news++cur.toList.drop (l.length * i.size + news.length)).toArray:=⟨_,rfl⟩;rw [<- uc] at na;have ey:new.size=cur.size:=by
       rw [uc];simp only [yO,yb,ym,yC];simp only [yP] at zh ⊢;omega
      have zu:ow.n * ow.sz=l.length * i.size:=by rw [<- e2,zq]
      have ro:(cur.toList.take (l.length * i.size)).length=l.length * i.size:=by rw [ym]; omega
      have gv:∀ j,j<l.length * i.size->new[j]?=cur[j]?:=fun j hj=>by
       rw [uc,List.getElem?_toArray,yo,yL (by omega),yy,if_pos hj];simp
      have hxs':∀ j u,(xs++news)[j]?=some u->new[j]?=some u:=fun j u hj=>by
       rcases Nat.lt_or_ge j (l.length * i.size) with cq | cq
       ·rw [gv j cq];rw [yL (by omega)] at hj;have:=ig _ rfl j u hj;rw [Addr.add_lit,yr,cell_of_row w ow.g j cur e (0,0) fg] at this;exact this
       ·rw [yE (by omega),rf] at hj;have hjn:=(yh.1 hj).1;rw [uc,List.getElem?_toArray,yo,yE (by omega),ro,yL hjn];exact hj
      have R1:=R.spare (new:=new) hk (by rw [hoe]; exact fg) ey (fun j hj=>gv j (by omega));have fu:(w.setRow ow.g new).heap[ow.g]?=some (.cells new e (0,0)):=setRow_heap w ow.g cur new e (0,0) fg;have pd:∀ b o,eC ι (fun j=>if j=d then some ⟨ow.g,l.length + m.length,ow.c,i.size,e⟩ else Θ.less (.own k e) d j) b o->eC ι Θ b o:=fun b o h=>h.imp id fun ⟨k',ow',h1,h2,h3⟩=>by
       by_cases ek:k'=d
       ·simp only [if_pos ek] at h1;injection h1 with h1;subst h1;refine ⟨k,ow,hk,h2,?_⟩;simp only [yK] at h3;omega
       ·simp only [if_neg ek] at h1; exact ⟨k',ow',(bC h1).1,h2,h3⟩
      have R2:=R1.fam (fun j=>if j=d then some ⟨ow.g,l.length + m.length,ow.c,i.size,e⟩ else Θ.less (.own k e) d j) ((An.own k e).twice d) pd
       (less_an fun j o' h=>by have:=(bC h).2.1; simp only [if_neg this]; exact h)
       (fun k' o' h=>by
        by_cases ek:k'=d
        ·simp only [if_pos ek] at h;injection h with h;subst h;exact ⟨hgB,pb,by simp only; omega,hocm,new,fu,by rw [ey,jx.1,zq],by simp [CB,hi]⟩
        ·simp only [if_neg ek] at h;exact R1.tok k' o' (bC h).1)
       (fun k' k'' o' o'' h h' hg=>by
        by_cases e1:k'=d <;> by_cases e2:k''=d
        ·rw [e1,e2]
        ·simp only [if_pos e1] at h; simp only [if_neg e2] at h';injection h with h; subst h;exact absurd (R.tinj _ _ _ _ hk (bC h').1 hg).symm ((bC h').2.2 k e rfl)
        ·simp only [if_neg e1] at h; simp only [if_pos e2] at h';injection h' with h'; subst h';exact absurd (R.tinj _ _ _ _ (bC h).1 hk hg) ((bC h).2.2 k e rfl)
        ·simp only [if_neg e1] at h; simp only [if_neg e2] at h';exact R.tinj _ _ _ _ (bC h).1 (bC h').1 hg)
       (fun k' o' t' n' h=>by
        by_cases ek:k'=d
        ·simp only [if_pos ek] at h;injection h with h;subst h;exact R.apart k ow t' n' hk
        ·simp only [if_neg ek] at h;exact R.apart k' o' t' n' (bC h).1)
       (fun k' o' t' n' H h hH=>by
        by_cases ek:k'=d
        ·simp only [if_pos ek] at h;injection h with h;subst h;show ¬ H ow.g;exact R.apob hk hH
        ·simp only [if_neg ek] at h;exact R.apob (bC h).1 hH)
      have hv':a.eval X=.slice (some ⟨ow.g,0,none⟩) l.length ow.c:=by rw [hv,e3]
      rw [<- hv'] at na;refine ⟨_,_,il _ _ na,ι,_,R2.put hd ?_ (.inr ⟨_,if_pos rfl,rfl,rfl⟩)⟩;show GA _ _ _ _ (.sl (b&&m.isEmpty) (l++m)) _;have hb:b=false:=by
       cases b with
       | false=>rfl
       | true=>have:=(hn rfl).1; cases this
      rw [hb,Bool.false_and,WC];simp only [ID,yb];refine ⟨_,_,rfl,by omega,huni,(fun h=>by cases h),fun _=>⟨fun h=>(by cases h),fun _=>⟨ow.g,0,rfl,?_⟩⟩⟩;rw [XD];have lu:FA (BB aa ι Θ) (BB aa ι (fun j=>if j=d then some ⟨ow.g,l.length + m.length,ow.c,i.size,e⟩ else Θ.less (.own k e) d j)) w (w.setRow ow.g new):=⟨fun b' o' u hc hna=>by
       refine ⟨?_,fun h=>hna (h.imp id (pd b' o'))⟩;by_cases jb:b'=ow.g
       ·subst jb;rw [cell_of_row _ ow.g o' new e (0,0) fu];have:o'<l.length * i.size:=by
         rcases Nat.lt_or_ge o' (l.length * i.size) with h | h
         ·exact h
         ·exact absurd (.inr (.inr ⟨k,ow,hk,rfl,by omega⟩)) hna
        rw [gv o' this,<- cell_of_row w ow.g o' cur e (0,0) fg];exact hc
       ·exact (World.cell?_of_block (w:=w) (a:=⟨b',o',none⟩) (setRow_other w ow.g b' new jb)).trans hc⟩
      refine zJ (rB.held lu _ _ ic) fun j u hj=>⟨?_,fun h=>?_⟩
      ·rw [yr,cell_of_row _ ow.g j new e (0,0) fu];exact hxs' j u hj
      ·rw [yr] at h;have cq:=(yh.1 hj).1;rw [yb,rf,oh,<- yK] at cq;rcases h with h | (⟨t',n',h⟩ | ⟨t',n',H,h,jb⟩) | ⟨k',ow',h1,h2,h3⟩
       ·have:=R.out _ _ h; omega
       ·exact R.apart k ow t' n' hk h
       ·exact R.apob hk h jb
       ·by_cases ek:k'=d
        ·simp only [if_pos ek] at h1; injection h1 with h1; subst h1; simp only at h3; omega
        ·simp only [if_neg ek] at h1;exact absurd (R.tinj _ _ _ _ (bC h1).1 hk h2) ((bC h1).2.2 k e rfl)
  ·cases hr
 ·cases hr
def Ix.del (ι:Ix) (t n:Nat):Ix:=⟨fun t' n'=>if t'=t/\n'=n then .none else ι t' n',ι.ob,ι.z⟩
theorem Ix.del_some {ι:Ix} {t n t' n' b:Nat} (h:(ι.del t n) t' n'=some b):ι t' n'=some b/\¬ (t'=t/\n'=n):=by
 have h':(if t'=t/\n'=n then Option.none else ι t' n')=Option.some b:=h;split at h'
 ·cases h'
 ·rename_i hn; exact ⟨h',hn⟩
theorem Ix.del_lk (ι:Ix) (t n:Nat):Ix.Lk t n ι (ι.del t n):=⟨fun t' n' b hn h=>by
 show (if t'=t/\n'=n then Option.none else ι t' n')=Option.some b;rw [if_neg hn]; exact h,fun _ _ _ _=>rfl⟩
theorem aD.kill {t n:Nat} {ι':Ix} {av rb:Av} {r:List rA} {cur:Array Value} (h:aD ι Θ av w r cur) (hι:Ix.Lk t n ι ι') (hh:FA av rb w w):aD ι' Θ rb w (r.map (rA.kill t n)) cur:=by
 refine ⟨by simpa using h.1,fun j x hx=>?_⟩;rw [yc] at hx;cases hj:r[j]? with
 | none=>rw [hj] at hx; cases hx
 | some y =>
  rw [hj] at hx;injection hx with hx;subst hx;obtain ⟨u,hu,h1,hr,ha⟩:=h.2 j y hj;refine ⟨u,hu,h1,?_,ha⟩;have hk:=HA.kill hι hh y.v u hr;show HA ι' rb w (y.v.kill t n) u;cases hy:y.v with
  | agg cs=>rw [hy] at hr; obtain ⟨us,rfl,_⟩:=hr; simp [Value.oneCell'] at h1
  | tup cs=>rw [hy] at hr; obtain ⟨us,rfl,_⟩:=hr; simp [Value.oneCell'] at h1
  | _=>rw [hy] at hk; exact hk
theorem DB.kill (R:DB P O nt B F0 aa w0 D s a w ι Θ) {t n:Nat} (zu:t≠0) {r:List rA} (hm:s.mem t n=some r):DB P O nt B F0 aa w0 D (s.kill t n) a w (ι.del t n) Θ:=by
 have zc:=(R.rows t n r hm).1;have ec:=Ix.del_lk ι t n;have ij:∀ b o,eC (ι.del t n) Θ b o->eC ι Θ b o:=fun b o h=>h.imp (fun h=>h.imp (fun ⟨t',n',h⟩=>⟨t',n',(Ix.del_some h).1⟩) id) id
 have hB:FA (eC ι Θ) (eC (ι.del t n) Θ) w w:=FA.less ij;have hA:FA (BB aa ι Θ) (BB aa (ι.del t n) Θ) w w:=FA.less fun b o h=>h.imp id (ij b o)
 refine ⟨R.defers,R.size,fun j=>GA.kill ec hA hB _ _ (R.env j),R.ann,fun t' n' r' hr=>?_,fun t' n' b h=>R.mine t' n' b (Ix.del_some h).1,fun t1 n1 t2 n2 b h h'=>R.inj t1 n1 t2 n2 b (Ix.del_some h).1 (Ix.del_some h').1,R.tok,R.tinj,fun k o t' n' h h'=>R.apart k o t' n' h (Ix.del_some h').1,R.out,fun p h=>?_,R.kept,R.base,fun t' n' S h=>?_,fun t' n' H h=>?_,fun j=>GA.kill ec hA hB _ _ (R.gen j),R.gann⟩
 ·simp only [pA.kill] at hr;split at hr
  ·cases hr
  ·rename_i hn;cases ae:s.mem t' n' with
   | none=>rw [ae] at hr; cases hr
   | some r0 =>
    rw [ae] at hr;injection hr with hr;subst hr;obtain ⟨h0,b,cur,ty,h1,h2,h3,h4⟩:=R.rows t' n' r0 ae;exact ⟨h0,b,cur,ty,ec.f _ _ _ hn h1,h2,h3.kill ec hA,h4⟩
 ·obtain ⟨h1,h2⟩:=R.pin p h;exact ⟨ec.f _ _ _ (fun e=>zu e.1.symm) h1,h2.imp (fun g=>⟨g.1,(ec.z _ _ _ h1).trans g.2⟩) id⟩
 ·obtain ⟨p,H,h1,h2,h3,h4⟩:=R.objs t' n' S h;have af:∀ t1 n1 b1 H1,ι t1 n1=some b1->ι.ob t1 n1=some H1->(ι.del t n) t1 n1=some b1:=fun t1 n1 b1 H1 g1 g2=>ec.f _ _ _ (fun e=>by rw [<- e.1,<- e.2,g2] at zc; cases zc) g1
  exact ⟨p,H,af _ _ _ _ h1 h2,h2,h3,h4.keep (fun t1 n1 b1 H1 g1 g2=>⟨af _ _ _ _ g1 g2,H1,g2⟩) fun x hx=>hx⟩
 ·obtain ⟨h1,h2⟩:=R.obs t' n' H h;refine ⟨fun b hb=>?_,h2⟩;obtain ⟨g1,g2,g3,g4,g5⟩:=h1 b hb;exact ⟨g1,g2,fun t2 n2 h=>g3 t2 n2 (Ix.del_some h).1,g4,g5⟩
theorem DB.ren (R:DB P O nt B F0 aa w0 D s a w ι Θ) {t n:Nat} (zu:t≠0) {r:List rA} (hm:s.mem t n=some r) (df:r.map (rA.kill t n)=r) {d:Nat} (hd:d<nt) (hD:¬ D d) {x:AV} {v:Value}
  (hx:∀ ι':Ix,ι' d s.next=ι t n->(∀ b,ι'.z b=ι.z b)->GA ι' (BB aa ι' Θ) (eC ι' Θ) w x v) :
  ∃ ι',DB P O nt B F0 aa w0 (fun j=>D j\/j=d) (((s.kill t n).setRow d s.next r).put (some d) ⟨x,.no⟩) (a.put (some d) v) w ι' Θ:=by
 obtain ⟨zc,b0,cur0,lw,bx,wz,pe,ew,je⟩:=R.rows t n r hm;have le:ι d s.next=none:=by
  cases h:ι d s.next with
  | none=>rfl
  | some b =>
   rcases (R.mine _ _ _ h).2.2 with h1 | h1
   ·omega
   ·exact absurd h1.2 hD
 have fe:ι.ob d s.next=none:=by
  cases h:ι.ob d s.next with
  | none=>rfl
  | some b =>
   rcases (R.obs _ _ _ h).2 with h1 | h1
   ·omega
   ·exact absurd h1.2 hD
 have za:¬ (t=d/\n=s.next):=fun e=>by rw [e.1,e.2,le] at bx; cases bx
 obtain ⟨ι',hι'⟩:∃ ι':Ix,ι'=⟨fun t' n'=>if t'=d/\n'=s.next then some b0 else (ι.del t n) t' n',ι.ob,ι.z⟩:=⟨_,rfl⟩;have uc:ι' d s.next=some b0:=by subst hι'; show (if d=d/\s.next=s.next then some b0 else _)=_; rw [if_pos ⟨rfl,rfl⟩]
 have rd:∀ t' n' b,ι' t' n'=some b->(t'=d/\n'=s.next/\b=b0)\/(ι t' n'=some b/\¬ (t'=t/\n'=n)/\¬ (t'=d/\n'=s.next)):=fun t' n' b h=>by
  subst hι';have h':(if t'=d/\n'=s.next then some b0 else (ι.del t n) t' n')=some b:=h;split at h'
  ·rename_i e; injection h' with h'; exact .inl ⟨e.1,e.2,h'.symm⟩
  ·rename_i e; exact .inr ⟨(Ix.del_some h').1,(Ix.del_some h').2,e⟩
 have ub:ι'.ob=ι.ob:=by subst hι'; rfl
 have ec:Ix.Lk t n ι ι':=⟨fun t' n' b hn h=>by
  subst hι';show (if t'=d/\n'=s.next then some b0 else (ι.del t n) t' n')=some b;rw [if_neg (fun e=>by rw [e.1,e.2,le] at h; cases h)];exact (Ix.del_lk ι t n).f _ _ _ hn h,fun _ _ _ _=>by subst hι'; rfl⟩
 have en:∀ b,ι'.z b=ι.z b:=fun b=>by subst hι'; rfl
 clear hι';have ij:∀ b o,eC ι' Θ b o->eC ι Θ b o:=fun b o h=>h.imp (fun h=>h.imp (fun ⟨t',n',h⟩=>by
  rcases rd _ _ _ h with ⟨_,_,e⟩ | ⟨h,_⟩
  ·exact ⟨t,n,e ▸ bx⟩
  ·exact ⟨t',n',h⟩) (fun ⟨t',n',H,h,hb⟩=>⟨t',n',H,ub ▸ h,hb⟩)) id
 have hB:FA (eC ι Θ) (eC ι' Θ) w w:=FA.less ij;have hA:FA (BB aa ι Θ) (BB aa ι' Θ) w w:=FA.less fun b o h=>h.imp id (ij b o)
 refine ⟨ι',DB.put (s:=(s.kill t n).setRow d s.next r) ⟨R.defers,R.size,fun j=>GA.kill ec hA hB _ _ (R.env j),R.ann,fun t' n' r' hr=>?_,fun t' n' b h=>?_,fun t1 n1 t2 n2 b h h'=>?_,R.tok,R.tinj,fun k o t' n' h h'=>?_,R.out,fun p h=>?_,R.kept,R.base,fun t' n' S h=>?_,fun t' n' H h=>?_,fun j=>GA.kill ec hA hB _ _ (R.gen j),R.gann⟩ hd (hx _ (uc.trans bx.symm) en) trivial⟩
 ·simp only [pA.setRow] at hr;split at hr
  ·rename_i e;injection hr with hr;subst hr;refine ⟨by rw [ub,e.1,e.2]; exact fe,b0,cur0,lw,by rw [e.1,e.2]; exact uc,wz,?_,ew,je.trans (en _).symm⟩;have:=pe.kill ec hA;rw [df] at this;exact this
  ·simp only [pA.kill] at hr;split at hr
   ·cases hr
   ·rename_i hn;cases ae:s.mem t' n' with
    | none=>rw [ae] at hr; cases hr
    | some r0 =>
     rw [ae] at hr;injection hr with hr;subst hr;obtain ⟨h0,b,cur,ty,h1,h2,h3,h4,h5⟩:=R.rows t' n' r0 ae;exact ⟨ub ▸ h0,b,cur,ty,ec.f _ _ _ hn h1,h2,h3.kill ec hA,h4,h5.trans (en _).symm⟩
 ·rcases rd _ _ _ h with ⟨e1,e2,e3⟩ | ⟨h,_⟩
  ·subst e1; subst e3;obtain ⟨h1,h2,_⟩:=R.mine t n b bx;exact ⟨h1,h2,.inr ⟨e2,.inr rfl⟩⟩
  ·obtain ⟨h1,h2,h3⟩:=R.mine t' n' b h;exact ⟨h1,h2,h3.imp id fun ⟨e,d⟩=>⟨e,.inl d⟩⟩
 ·rcases rd _ _ _ h with ⟨e1,e2,e3⟩ | ⟨h,hn,_⟩ <;> rcases rd _ _ _ h' with ⟨f1,f2,f3⟩ | ⟨h',wn,_⟩
  ·exact ⟨e1.trans f1.symm,e2.trans f2.symm⟩
  ·subst e3; exact absurd (R.inj _ _ _ _ _ h' bx) wn
  ·subst f3; exact absurd (R.inj _ _ _ _ _ h bx) hn
  ·exact R.inj _ _ _ _ _ h h'
 ·rcases rd _ _ _ h' with ⟨e1,e2,e3⟩ | ⟨h',_⟩
  ·exact R.apart k o t n h (e3 ▸ bx)
  ·exact R.apart k o t' n' h h'
 ·obtain ⟨h1,h2⟩:=R.pin p h;exact ⟨ec.f _ _ _ (fun e=>zu e.1.symm) h1,h2.imp (fun g=>⟨g.1,(ec.z _ _ _ h1).trans g.2⟩) fun g=>ub ▸ g⟩
 ·obtain ⟨p,H,h1,h2,h3,h4⟩:=R.objs t' n' S h;have af:∀ t1 n1 b1 H1,ι t1 n1=some b1->ι.ob t1 n1=some H1->ι' t1 n1=some b1:=fun t1 n1 b1 H1 g1 g2=>ec.f _ _ _ (fun e=>by rw [<- e.1,<- e.2,g2] at zc; cases zc) g1
  exact ⟨p,H,af _ _ _ _ h1 h2,ub ▸ h2,h3,h4.keep (fun t1 n1 b1 H1 g1 g2=>⟨af _ _ _ _ g1 g2,H1,ub ▸ g2⟩) fun x hx=>hx⟩
 ·rw [ub] at h;obtain ⟨h1,h2⟩:=R.obs t' n' H h;refine ⟨fun b hb=>?_,h2.imp id fun ⟨e,d⟩=>⟨e,.inl d⟩⟩;obtain ⟨g1,g2,g3,g4,g5⟩:=h1 b hb;refine ⟨g1,g2,fun t2 n2 h'=>?_,g4,ub ▸ g5⟩;rcases rd _ _ _ h' with ⟨e1,e2,e3⟩ | ⟨h',_⟩
  ·exfalso;have e:=g3 t n (e3 ▸ bx);rw [<- e.1,<- e.2] at h;rw [zc] at h;cases h
  ·exact g3 t2 n2 h'
theorem row_of {av:Av} {cs:List AV} {us:List Value} (h:rB av w cs us) {cur:Array Value} (hc:∀ (j:Nat) (u:Value),us[j]?=some u->cur[j]?=some u):aD ι Θ av w (cs.map (⟨·,.no⟩)) cur:=by
 have da:=mC (cD (ι:=ι) h);constructor
 ·rw [y7];rcases yT cs.length with h0 | h0
  ·omega
  ·have:=hc (cs.length - 1) us[cs.length - 1] (yg (by omega));have:=(Array.getElem?_eq_some_iff.1 this).1;omega
 ·intro j x hx;rw [yc] at hx;cases hj:cs[j]? with
  | none=>rw [hj] at hx; cases hx
  | some y =>
   rw [hj] at hx;injection hx with hx;subst hx;obtain ⟨u,hu,h1,hr⟩:=GI (cD (ι:=ι) h) hj;exact ⟨u,hc j u hu,h1,hr,trivial⟩
theorem DB.drew (R:DB P O nt B F0 aa w0 D s a w ι Θ):DB P O nt B F0 aa w0 D s a w.drew ι Θ:=R.grow (w':=w.drew) (fun _ _=>rfl) (yf _) R.kept.drew
theorem j7 (s:pA) (t n:Nat) (r:List rA):(s.setRow t n r).kill t n=s.kill t n:=by
 simp only [pA.setRow,pA.kill];congr 1;funext t' n';by_cases h:t'=t/\n'=n <;> simp [h]
theorem i5 {av:Av} {cs:List AV} {us:List Value} (h:SA ι av w cs us) {cur:Array Value} (hc:∀ (j:Nat) (u:Value),us[j]?=some u->cur[j]?=some u):aD ι Θ av w (cs.map (⟨·,.no⟩)) cur:=by
 have da:=mC h;constructor
 ·rw [y7];rcases yT cs.length with h0 | h0
  ·omega
  ·have:=hc (cs.length - 1) us[cs.length - 1] (yg (by omega));have:=(Array.getElem?_eq_some_iff.1 this).1;omega
 ·intro j x hx;rw [yc] at hx;cases hj:cs[j]? with
  | none=>rw [hj] at hx; cases hx
  | some y =>
   rw [hj] at hx;injection hx with hx;subst hx;obtain ⟨u,hu,h1,hr⟩:=GI h hj;exact ⟨u,hc j u hu,h1,hr,trivial⟩
theorem jT {t n:Nat} {v:AV} (h:v.noName t n=true):v.kill0 t n=v/\v.kill t n=v:=by
  cases v <;> first
    | exact ⟨rfl,rfl⟩
    | (simp only [AV.noName,Bool.not_eq_true',Bool.and_eq_false_imp,decide_eq_true_eq,decide_eq_false_iff_not] at h
       have h':¬ (_=t/\_=n):=fun e=>h e.1 e.2
       exact ⟨by simp only [AV.kill0,if_neg h'],by simp only [AV.kill,AV.kill0,if_neg h']⟩)
    | cases h
theorem D6 {t n:Nat} {l:List AV} (h:l.all (AV.noName t n)=true):l.map (AV.kill0 t n)=l:=by
 have:l.map (AV.kill0 t n)=l.map id:=yH fun x hx=>(jT (y8.1 h x hx)).1
 rwa [List.map_id] at this
theorem S6 {t n:Nat} {l:List AV} (h:l.all (AV.noName t n)=true):(l.map (⟨·,.no⟩)).map (rA.kill t n)=l.map (⟨·,.no⟩):=by
 rw [y5];apply yH;intro x hx;show (⟨x.kill t n,.no⟩:rA)=⟨x,.no⟩;rw [(jT (y8.1 h x hx)).2]
theorem C4 (R:DB P O nt B F0 aa w0 D s a w ι Θ) {t e:TypeId} {i:TypeInfo} {z:List AV} (ht:P.underlying t=some (.slice e)) (hi:P.info? e=some i) (hz:cI P e=some z) (oc:z.length=i.size) (pb:0<i.size) {X Y:Operand} {x y:bB} (hx:opd X=some x) (hy:opd Y=some y)
  (ho:o.op=.call { callee:=.builtin .append,args:=#[X,Y],argTypes:=#[t,t] }) {d:Nat} (ka:o.dst=some d) (hd:d<nt) (hD:¬ D d) {cl:Cl} {call} {xe:rA × SC} (hr:(K.appn cl e i.size i.bytes x y).run call s=some xe) {g} {s':pA} (he:WA.eff ⟨o.dst,.appn cl e i.size i.bytes x y,g⟩ s xe=some s') :
  ∃ v w',(execOp a.eval o).run P w=.ok (.value v) w'/\WD P O nt B F0 aa w0 (fun t=>D t\/t=d) s' (a.put o.dst v) w':=by
 obtain ⟨zv,i',bd,bq,si,hl⟩:=BF hz w;rw [hi] at bd;injection bd with bd;subst bd;have ti:zv.cells.size=i.size:=by
  have:=nF hl;simp only [yP] at this;omega
 have hX:=R.opd hx;have hY:=(R.opd hy).1;have il:∀ v w',(Builtin.append_ #[t,t] o.type #[a.eval X,a.eval Y]).run P w=.ok v w'->(execOp a.eval o).run P w=.ok (.value v) w':=fun v w' h=>by
  simp only [execOp,ho,resolve,invoke,builtin,Sem.run_bind,Sem.run_pure,Result.andThen_ok,List.map_toArray,yk,yR,h]
 -- a new block for l++m
 have grow:∀ {s1:pA} {ι1:Ix} {l m:List (List AV)} {xs news:List Value} {A:Option Addr} {ln c:Nat},DB P O nt B F0 aa w0 D s1 a w.drew ι1 Θ->a.eval X=.slice A ln c->xs.length=ln * i.size->(A=none->ln=0/\c=0)->(∀ a',A=some a'->∀ j u,xs[j]?=some u->w.cell? (a'.add j)=some u) →
   l.length=ln->Sl (fun _=>False) w i.size (a.eval Y) m.length news->c<ln + m.length->ln<=c->SA ι1 (BB aa ι1 Θ) w.drew (l++m).flatten (xs++news)->RA i.bytes (ln + m.length)=true →
   ∃ v w',(execOp a.eval o).run P w=.ok (.value v) w'/\WD P O nt B F0 aa w0 (fun t=>D t\/t=d) ((s1.setRow d s1.next ((l++m).flatten.map (⟨·,.no⟩))).put (some d) ⟨.ref d s1.next i.size 0 (ln + m.length) (ln + m.length),.no⟩) (a.put (some d) v) w':=by
  intro s1 ι1 l m xs news A ln c R1 hv lc hA uo wb xf ba iw ic ga;obtain ⟨xg,ff⟩:=sA.1 ga;have na:=OV (P:=P) (w:=w) ht hi bq o.type lc hA uo xf ba iw ff xg;rw [<- hv] at na;have th:=grownCap_ge w (ln + m.length) c e;have ey:news.length=m.length * i.size:=xf.1;have ja:aD ι1 Θ (BB aa ι1 Θ) w.drew ((l++m).flatten.map (⟨·,.no⟩)) (xs.toArray++news.toArray++Builtin.zeroCells zv.cells (grownCap w (ln + m.length) c e - (ln + m.length))):=i5 ic fun j u hj=>by
   have cq:=(yh.1 hj).1;rw [Array.getElem?_append_left (by simp only [Array.size_append,yO]; simpa using cq)];simpa using hj
  obtain ⟨ι',h⟩:=R1.new hd hD e ja (x:=.ref d s1.next i.size 0 (ln + m.length) (ln + m.length)) (v:=.slice (some ⟨w.heap.size,0,none⟩) (ln + m.length) (grownCap w (ln + m.length) c e)) (fun ι' h hz=>⟨_,h,yf _,_,th,by
   rw [show ι'.z w.drew.heap.size=_ from hz,yr];simp only [Array.size_append,yO,size_zeroCells,ti,lc,ey,<- yK];exact Y02 _ (by omega),rfl⟩)
  exact ⟨_,_,il _ _ na,ι',Θ,h⟩
 have drewHeld:FA (BB aa ι Θ) (BB aa ι Θ) w w.drew:=FA.grown (fun _ _=>rfl) fun _ _ _ h=>h
 simp only [K.run] at hr;split at hr
 ·rename_i b l m md gb;split at hr
  ·rename_i ia;obtain ⟨ga,bc,wu⟩:=ia;have fd:∀ c∈l++m,c.length=i.size:=fun c hc=>by simpa using y8.1 bc c hc
   have ae:∀ c∈m,c.length=i.size:=fun c hc=>fd c (List.mem_append_right _ hc)
   have pu:∀ c∈l,c.length=i.size:=fun c hc=>fd c (List.mem_append_left _ hc)
   obtain ⟨news,zb,xf⟩:=raws_sl R hY gb pb ae;rw [md] at hX;have dw:=hX.1;rw [WC] at dw;obtain ⟨xs,lc,tv⟩:=XK (cl:=cl) R hX.1 (m:=l) rfl pb pu;simp only [ID] at dw;obtain ⟨A,c,hv,iw,hu,hn,hs⟩:=dw;have rf:xs.length=l.length * i.size:=tv.1;have ig:∀ a',A=some a'->∀ j u,xs[j]?=some u->w.cell? (a'.add j)=some u:=fun a' ha j u hj=>by
    obtain ⟨_,A2,c2,hv2,_,h2⟩:=tv;rw [hv] at hv2;injection hv2 with e1 e2 e3;subst e1;have hp:0<l.length:=by
     rcases yT l.length with h | h
     ·rw [h] at rf; have:=(yh.1 hj).1; omega
     ·exact h
    obtain ⟨b',off,hA,_,_,re⟩:=h2 hp;rw [ha] at hA;injection hA with hA;subst hA;rw [Addr.add_lit];exact re j u hj
   split at hr
   ·rename_i tk;have hXe:exV (a.eval X):=by
     cases b with
     | false=>have h2:=hX.2; rw [show x.an s=.ex from tk] at h2; exact h2
     | true =>
      obtain ⟨h1,h2,h3⟩:=hn rfl;exact ⟨none,0,by rw [hv,h1,h2,h3]⟩
    obtain ⟨A',n',kj⟩:=hXe;rw [hv] at kj;injection kj with e1 e2 e3;injection hr with hr;subst hr;simp only [WA.eff,ka] at he;injection he with he;subst he;rw [ka];exact grow R.drew hv rf (fun hA=>by
     cases b with
     | true=>have:=hn rfl; exact ⟨this.2.1,this.2.2⟩
     | false =>
      obtain ⟨h1,h2⟩:=hs rfl;refine ⟨?_,h1 hA⟩;rcases yT l.length with h0 | h0
      ·exact h0
      ·obtain ⟨_,_,ha,_⟩:=h2 h0; rw [hA] at ha; cases ha) ig rfl xf (by omega) iw (by rw [List.flatten_append]; exact DG (cD (rB.held drewHeld _ _ lc)) (SA.held (Ix.Le.refl _) drewHeld _ _ zb)) ga
   ·cases hr
  ·cases hr
 ·rename_i t' n sz off ln cp m md gb;split at hr
  ·rename_i l wb;split at hr
   ·rename_i ia;obtain ⟨rfl,rfl,ga,bc,zu,zg⟩:=ia;injection hr with hr;subst hr;have ae:∀ c∈m,c.length=i.size:=fun c hc=>by simpa using y8.1 bc c hc
    obtain ⟨news,zb,xf⟩:=raws_sl R hY gb pb ae;rw [md] at hX;obtain ⟨b,hb,sb,cc,ah,hzb,hv⟩:=RG.1 hX.1;simp only [AV.raws] at wb;split at wb
    ·cases hm:s.mem t' n with
     | none=>rw [hm] at wb; cases wb
     | some r =>
      rw [hm,J] at wb;obtain ⟨zc,b',cur,ty,jb,ra,ja,cj,xk⟩:=R.rows t' n r hm;rw [hb] at jb;injection jb with jb;subst jb;obtain ⟨hln,pu,xs,lc,ig⟩:=LP ja ra wb;simp only [yr] at ig hzb;have cu:∀ {q:List (List AV)},(∀ c∈q,c.length=i.size)->q.flatten.length=q.length * i.size:=fun {q} hq=>by
       induction q with
       | nil=>simp
       | cons c r ih=>rw [yv,yb,hq c (by simp),ih (fun c hc=>hq c (by simp [hc])),yA,yM]; omega
      have rf:xs.length=ln * i.size:=by
       have:=mC lc;rw [this,cu pu,hln]
      have oh:news.length=m.length * i.size:=xf.1;have ic:SA ι (BB aa ι Θ) w (l++m).flatten (xs++news):=by rw [List.flatten_append]; exact DG lc zb
      have hkill:(l++m).flatten.map (AV.kill0 t' n)=(l++m).flatten:=D6 zg;simp only [WA.eff,ka,pA.killO] at he;injection he with he;subst he;rw [ka];rcases Nat.lt_or_ge cc (ln + m.length) with ba | th
      ·have ec:FA (BB aa ι Θ) (BB aa (ι.del t' n) Θ) w w.drew:=FA.grown (fun _ _=>rfl) fun b o _ h=>h.imp id fun h=>h.imp (fun h=>h.imp (fun ⟨t',n',h⟩=>⟨t',n',(Ix.del_some h).1⟩) id) id
       exact grow (R.drew.kill zu hm) hv rf (fun h=>by cases h) (fun a' ha j u hj=>by
        injection ha with ha;subst ha;rw [Addr.add_lit,yr];exact ig j u hj) hln xf ba (yB sb ah) (by have:=SA.kill (Ix.del_lk ι t' n) ec _ _ ic; rwa [hkill] at this) ga
      ·obtain ⟨new,uc⟩:∃ new,new=(cur.toList.take (ln * i.size)++news++cur.toList.drop (ln * i.size + news.length)).toArray:=⟨_,rfl⟩;have zh:ln * i.size + news.length<=cur.size:=by
        rw [oh,<- yK,xk];exact yB (Y02 _ th) hzb
       have na:(Builtin.append_ #[t,t] o.type #[a.eval X,a.eval Y]).run P w=.ok (.slice (some ⟨b,0,none⟩) (ln + m.length) cc) (w.setRow b new):=by
        rw [hv,uc];obtain ⟨gg,A,c',hsv,hc,gc⟩:=xf;rw [hsv];cases A with
        | none =>
         have wu:m.length=0:=by
          rcases yT m.length with h | h
          ·exact h
          ·obtain ⟨b,off,hA,_⟩:=gc h; cases hA
         have zg:news=[]:=Y00 (by rw [oh,wu,Nat.zero_mul]);subst zg;rw [wu] at th ⊢;have jv:w.setRow b (cur.toList.take (ln * i.size)++[]++cur.toList.drop (ln * i.size + ([]:List Value).length)).toArray=w:=by
          simp only [yz,List.length_nil,yJ,Y05,yX];exact setRow_self w b cur ty (0,0) ra
         rw [jv];simp only [yJ] at th;simp [Builtin.append_,run_underlying ht,sizeOf,typeInfo,hi,Builtin.lenOf,Builtin.firstCells,th,storeCells]
        | some a' =>
         have hnews':∀ (j:Nat) (u:Value),news[j]?=some u->w.cell? (a'.add j)=some u:=fun j u hu=>by
          have wu:0<m.length:=by
           rcases yT m.length with h | h
           ·rw [h] at oh; have:=(yh.1 hu).1; omega
           ·exact h
          obtain ⟨b,off,hA,_,_,re⟩:=gc wu;injection hA with hA;subst hA;rw [Addr.add_lit];exact re j u hu
         have wx:=run_loadCells_list (P:=P) w a' news hnews';rw [oh] at wx;have ac:=run_storeCells_at P b (ln * i.size) ty news 0 cur w ra (by simpa using zh) (NT zb);simp only [yJ] at ac;simp [Builtin.append_,run_underlying ht,sizeOf,typeInfo,hi,Builtin.lenOf,Builtin.firstCells,th,wx,Addr.add_lit,ac]
       have hns:new.size=cur.size:=by
        rw [uc];simp only [yO,yb,ym,yC,yP];omega
       have ko:aD ι Θ (BB aa ι Θ) w ((l++m).flatten.map (⟨·,.no⟩)) new:=i5 ic fun j u hj=>by
        have ro:(cur.toList.take (ln * i.size)).length=ln * i.size:=by rw [ym,yP]; omega
        rw [uc,List.getElem?_toArray,yo];rcases Nat.lt_or_ge j (ln * i.size) with h | h
        ·rw [yL (by omega)] at hj;have:=ig j u hj;rw [cell_of_row w b j cur ty (0,0) ra] at this;rw [yL (by omega),yy,if_pos h];simpa using this
        ·rw [yE (by omega),rf] at hj;have hjn:=(yh.1 hj).1;rw [yE (by omega),ro,yL hjn];exact hj
       have R1:=R.set hb zc ra ko cj (hns.trans xk);have R2:=R1.ren (t:=t') (n:=n) zu (d:=d) (r:=(l++m).flatten.map (⟨·,.no⟩)) (by simp [pA.setRow]) (S6 zg) hd hD (x:=.ref d s.next i.size 0 (ln + m.length) (ln + m.length)) (v:=.slice (some ⟨b,0,none⟩) (ln + m.length) cc) (fun ι' h1 h2=>⟨b,h1.trans hb,yf _,cc,th,by rw [h2,yr]; exact hzb,rfl⟩);rw [j7] at R2;obtain ⟨ι',R2⟩:=R2;exact ⟨_,_,il _ _ na,ι',Θ,R2⟩
    ·cases wb
   ·cases hr
  ·cases hr
 ·cases hr
theorem N4 {v:AV} {cl:Cl} {l:List (List AV)} (h:v.elems s cl=some l):v.raws s cl=some l:=by
 cases v with
 | ref t n sz off len cap =>
  simp only [AV.elems,AV.raws] at h ⊢;split at h
  ·rename_i hc;rw [if_pos hc];cases hm:s.mem t n with
   | none=>rw [hm] at h; cases h
   | some r =>
    rw [hm,J,UG] at h;split at h
    ·rename_i hr;rw [J,lL,if_pos hr.1];exact h
    ·cases h
  ·cases h
 | _=>exact h
theorem J3 {av:Av} (t n:Nat):∀ {xs:List AV} {us:List Value},rB av w xs us->xs.all (AV.noName t n)=true
 | [],_,_=>rfl
 | x :: r,_,h=>by
  simp only [rB] at h;obtain ⟨u,db,rfl,h0,h1,h⟩:=h;rw [List.all_cons,J3 t n h,Bool.and_true];cases x <;> first | rfl | (simp [ID] at h0; done) | (simp only [ID] at h0; obtain ⟨us,rfl,_⟩:=h0; simp [Value.oneCell'] at h1; done)
theorem op_appf (R:DB P O nt B F0 aa w0 D s a w ι Θ) {t e:TypeId} {i:TypeInfo} {z:List AV} (ht:P.underlying t=some (.slice e)) (hi:P.info? e=some i) (hz:cI P e=some z) (oc:z.length=i.size) (pb:0<i.size) {X Y:Operand} {x y:bB} (hx:opd X=some x) (hy:opd Y=some y)
  (ho:o.op=.call { callee:=.builtin .append,args:=#[X,Y],argTypes:=#[t,t] }) {d:Nat} (ka:o.dst=some d) (hd:d<nt) (hD:¬ D d) {cl:Cl} {call} {xe:rA × SC} (hr:(K.appf cl e i.size i.bytes x y).run call s=some xe) {g} {s':pA} (he:WA.eff ⟨o.dst,.appf cl e i.size i.bytes x y,g⟩ s xe=some s') :
  ∃ v w',(execOp a.eval o).run P w=.ok (.value v) w'/\WD P O nt B F0 aa w0 (fun t=>D t\/t=d) s' (a.put o.dst v) w':=by
 have hX:=R.opd hx;have hY:=(R.opd hy).1;simp only [K.run] at hr;split at hr
 ·rename_i b l m md gb;split at hr
  ·rename_i ia;split at hr
   ·rename_i tk;split at hr
    ·rename_i fc;cases hr;have wu:m=[]:=by simpa using fc
     subst wu;have fd:∀ c∈l,c.length=i.size:=fun c hc=>by simpa using y8.1 ia.2 c (List.mem_append_left _ hc)
     obtain ⟨news,zb,xf⟩:=XK R hY gb pb (fun _ h=>by cases h);rw [md] at hX;obtain ⟨hX,fw⟩:=hX;obtain ⟨A,c,hv,iw,_,hn,_⟩:=WC.1 hX;cases he;have na:=PV (P:=P) (w:=w) ht hi o.type (A:=A) iw xf;rw [<- hv] at na;refine ⟨_,_,by simp only [execOp,ho,resolve,invoke,builtin,Sem.run_bind,Sem.run_pure,Result.andThen_ok,List.map_toArray,yk,yR,na],ι,Θ,(R.putN (d:=o.dst) (x:=⟨.sl b l,.ex⟩) (fun t h=>by rw [ka] at h; cases h; exact hd) hX ?_).more fun _ h=>.inl h⟩;cases b with
     | false=>rw [show x.an s=.ex from tk] at fw; exact fw
     | true=>obtain ⟨h1,h2,h3⟩:=hn rfl; exact ⟨none,0,by rw [hv,h1,h2,h3]⟩
    ·rename_i fc;exact C4 R ht hi hz oc pb hx hy ho ka hd hD (cl:=cl) (call:=call) (xe:=xe) (by simp only [K.run,md,N4 gb]; rw [if_pos ⟨ia.1,ia.2,by cases m <;> simp at fc ⊢⟩,tk]; exact hr) (g:=g) he
   ·cases hr
  ·cases hr
 ·cases hr
theorem op_appm (R:DB P O nt B F0 aa w0 D s a w ι Θ) {t e:TypeId} {i:TypeInfo} {z:List AV} (ht:P.underlying t=some (.slice e)) (hi:P.info? e=some i) (hz:cI P e=some z) (oc:z.length=i.size) (pb:0<i.size) {X Y:Operand} {x y:bB} (hx:opd X=some x) (hy:opd Y=some y)
  (ho:o.op=.call { callee:=.builtin .append,args:=#[X,Y],argTypes:=#[t,t] }) {d:Nat} (ka:o.dst=some d) (hd:d<nt) (hD:¬ D d) {cl:Cl} {call} {xe:rA × SC} (hr:(K.appm cl e i.size i.bytes x y).run call s=some xe) {g} {s':pA} (he:WA.eff ⟨o.dst,.appm cl e i.size i.bytes x y,g⟩ s xe=some s') :
  ∃ v w',(execOp a.eval o).run P w=.ok (.value v) w'/\WD P O nt B F0 aa w0 (fun t=>D t\/t=d) s' (a.put o.dst v) w':=by
 have hX:=R.opd hx;have hY:=(R.opd hy).1;simp only [K.run] at hr;split at hr
 ·rename_i b l m md gb;exact op_appf R ht hi hz oc pb hx hy ho ka hd hD (cl:=cl) (call:=call) (xe:=xe) (by simp only [K.run,md,gb]; exact hr) (g:=g) he
 ·rename_i t' n sz off ln cp m md gb;split at hr
  ·rename_i l wb;split at hr
   ·rename_i ia;obtain ⟨h1,h2,ga,bc,zu⟩:=ia;obtain ⟨news,zb,xf⟩:=XK R hY gb pb fun c hc=>by simpa using y8.1 bc c hc
    rw [md] at hX;have zc:(l++m).flatten.all (AV.noName t' n)=true:=by
     rw [List.flatten_append,List.all_append,J3 t' n zb,Bool.and_true];simp only [AV.elems] at wb;split at wb
     ·cases hm:s.mem t' n with
      | none=>rw [hm] at wb; cases wb
      | some r =>
       rw [hm,J] at wb;obtain ⟨_,b',cur,ty,_,ra,ja,_⟩:=R.rows t' n r hm;obtain ⟨_,_,xs,lc,_⟩:=IG ja ra wb;exact J3 t' n lc
     ·cases wb
    exact C4 R ht hi hz oc pb hx hy ho ka hd hD (cl:=cl) (call:=call) (xe:=xe) (by simp only [K.run,md,N4 gb,N4 wb]; rw [if_pos ⟨h1,h2,ga,bc,zu,zc⟩]; exact hr) (g:=g) he
   ·cases hr
  ·cases hr
 ·cases hr
theorem op_bslr (R:DB P O nt B F0 aa w0 D s a w ι Θ) {t e:TypeId} {n z:Nat} {zero:List AV} (ht:P.underlying t=some (.slice e)) (hz:cI P e=some zero) (hs:CB P e=some z) (oc:zero.length=z) (pb:0<z) (hmax:n * z<=16777216) {ps:Array (Nat × Operand)} {ys:List (Nat × bB)} (hy:opds ps.toList=some ys) (ho:o.op=.buildSlice t n ps)
  {d:Nat} (ka:o.dst=some d) (hd:d<nt) (hD:¬ D d) {call} {xe:rA × SC} (hr:(K.bslr z zero n ys).run call s=some xe) {g} {s':pA} (he:WA.eff ⟨o.dst,.bslr z zero n ys,g⟩ s xe=some s') :
  ∃ v w',(execOp a.eval o).run P w=.ok (.value v) w'/\WD P O nt B F0 aa w0 (fun t=>D t\/t=d) s' (a.put o.dst v) w':=by
 obtain ⟨zv,i',bd,bq,si,hl⟩:=BF hz w;have hisz:i'.size=z:=by simp [CB,bd] at hs; exact hs
 have ti:zv.cells.size=z:=by
  have:=nF hl;simp only [yP] at this;omega
 simp only [K.run] at hr;split at hr
 ·rename_i ia;obtain ⟨ki,bc,_,_⟩:=ia;injection hr with hr; subst hr;simp only [WA.eff,ka] at he;injection he with he;subst he;have fd:∀ p∈ys,(p.2.get s).whole=true/\(p.2.get s).cells.length=zero.length:=fun p hp=>by
   have:=y8.1 bc p hp;simpa using this
  have hn:ys.length=n:=by
   have:=congrArg List.length ki;simpa using this
  have jl:=sU (s:=s) z ys 0 [] (yx n zero).flatten (by rw [ki,List.range_eq_range',hn]) (by simp) (by simp [hn,oc]) (fun p hp=>by rw [(fd p hp).2,oc]);rw [yW,yW] at jl;have hp:=XR z ys;have ol:((Array.range (n * z)).map (((if n * z=0 then (#[]:Array Value) else zv.cells)[· % (if n * z=0 then (#[]:Array Value) else zv.cells).size]!))).toList=(yx n zv.cells.toList).flatten:=by
   rcases yT n with h0 | h0
   ·subst h0; simp
   ·have:¬ n * z=0:=by have:=Nat.mul_pos h0 pb; omega
    simp only [if_neg this];rw [<- ti];exact jQ zv.cells n
  obtain ⟨db,h1,h2⟩:=XS (pl:=fun i=>some (i * z,z)) (ι:=ι) (av:=BB aa ι Θ) (avb:=eC ι Θ) (w:=w) (s:=s) (a:=a) rfl (fun X y h=>(R.opd h).1) hy hp (fun p hp=>by
   obtain ⟨q,hq,rfl⟩:=yQ.1 hp;exact (fd q hq).1) (by rw [y5]; exact jl) (us:=(Array.range (n * z)).map (((if n * z=0 then (#[]:Array Value) else zv.cells)[· % (if n * z=0 then (#[]:Array Value) else zv.cells).size]!))) (by
    rw [ol];exact kQ _ _ (PH hl _ _) n)
  have na:(execOp a.eval o).run P w=.ok (.value (.slice (some ⟨w.heap.size,0,none⟩) n n)) (w.alloc (.cells db e)):=by
   have h3:Instr.fill (fun i=>some (i * z,z)) ((Array.range (n * z)).map (((if n * z=0 then (#[]:Array Value) else zv.cells)[· % (if n * z=0 then (#[]:Array Value) else zv.cells).size]!))) (ps.map fun (i,x)=>(i,a.eval x)).toList=some db:=by
    rw [Array.toList_map];exact h1
   have sb:¬ (n * z > 2 ^ 24):=by omega
   by_cases h0:n * z=0
   ·simp only [if_pos h0] at h3;simp only [execOp,ho,Instr.buildSlice,Sem.run_bind,run_underlying ht,Result.andThen_ok,jC hs,if_neg sb,if_pos h0,Sem.run_pure,h3,newRow,run_newObj_alloc]
   ·simp only [if_neg h0] at h3;simp only [execOp,ho,Instr.buildSlice,Sem.run_bind,run_underlying ht,Result.andThen_ok,jC hs,if_neg sb,if_neg h0,Sem.run_pure,si,h3,newRow,run_newObj_alloc]
  refine ⟨_,_,na,?_⟩;rw [ka];have da:=mC h2;have fi:(ys.map fun p=>(p.2.get s).cells).flatten.length=n * z:=by
   rw [<- hn];clear jl h2 da h1 ki bc hp hy hmax ol hn
   induction ys with
   | nil=>simp
   | cons p r ih=>rw [yk,yv,yb,(fd p (by simp)).2,ih (fun q hq=>fd q (by simp [hq])),oc,yA,yM]; omega
  have de:db.size=n * z:=by
   rw [fi,yP] at da;exact da
  have ja:aD ι Θ (BB aa ι Θ) w (xA (ys.map fun p=>(p.2.get s).cells)) db:=i5 h2 fun j u hj=>by simpa using hj
  obtain ⟨ι',h⟩:=R.new hd hD e ja (x:=.ref d s.next z 0 n n) (v:=.slice (some ⟨w.heap.size,0,none⟩) n n) (fun ι' h hz=>⟨_,h,yf _,_,yf _,by
   rw [show ι'.z w.heap.size=_ from hz,yr,de];exact yf _,rfl⟩)
  exact ⟨ι',Θ,h⟩
 ·cases hr
end
end
section
open Go Go.RowKit
section
variable {P:Program} {O:XE} {nt B:Nat} {F0:BN} {aa:Av} {w0:World} {D:Nat->Prop} {s:pA} {a:Act} {w w':World} {ι:Ix} {Θ:aJ} {o:Oper}
def sG (ι:Ix) (av avl:Av) (w:World):List AV->List Value->Prop
 | [],us=>us=[]
 | x :: r,us=>∃ u db,us=u :: db/\GA ι av avl w x u/\sG ι av avl w r db
def Ix.one (p:Nat):Ix:=⟨fun t n=>if t=0/\n=0 then some p else .none,fun _ _=>.none,fun _=>0⟩
def MT (p:Nat) (av:Av) (w:World) (x:AV) (v:Value):Prop:=if x.isObj then v=.pointer (some ⟨p,0,none⟩) else ID av w x v
def WK (p:Nat) (av:Av) (w:World):List AV->List Value->Prop
 | [],us=>us=[]
 | x :: r,us=>∃ u db,us=u :: db/\MT p av w x u/\WK p av w r db
def G7 (p:Nat) (av:Av) (w:World):AV->Value->Prop
 | .tup vs,v=>∃ us,v=.tuple us/\WK p av w vs us.toList
 | x,v=>MT p av w x v
def OwnV (base:Nat) (H:Nat->Prop) (w:World) (l:List (List AV)) (v:Value):Prop :=
 (l=[]/\∃ A c,v=.slice A 0 c/\(A=none->c=0))\/∃ g c cur ty,v=.slice (some ⟨g,0,none⟩) l.length c/\base<=g/\¬ H g/\w.heap[g]?=some (.cells cur ty (0,0))/\l.length<=c/\(∀ sz,AA sz l=true->0<l.length->c * sz<=cur.size)/\∀ (j:Nat) (x:AV),l.flatten[j]?=some x->cur[j]?=some x.scalV
def H3 (w:World) (g0:Nat->Prop) (z:Nat) (av:Av) (w':World) (l:List (List AV)) (v:Value):Prop :=
 ∃ g c cur ty,v=.slice (some ⟨g,0,none⟩) l.length c/\(w.heap.size<=g\/g0 g/\∃ cur0 lw,w.heap[g]?=some (.cells cur0 lw (0,0))/\cur.size=cur0.size)/\w'.heap[g]?=some (.cells cur ty (0,0))/\l.length<=c/\c * z<=cur.size/\rB (fun b o=>av b o\/b=g) w' l.flatten (cur.toList.take l.flatten.length)
def G3 (z:Nat) (av:Av) (w:World) (b:Bool) (l:List (List AV)) (v:Value) (g0:Nat->Prop):Prop :=
 (l=[]/\(∃ A,v=.slice A 0 0)/\(b=true->v=.slice none 0 0)/\∀ g,¬ g0 g)\/(b=false/\∃ g c cur ty,v=.slice (some ⟨g,0,none⟩) l.length c/\(∀ g',g0 g' ↔ g'=g)/\w.heap[g]?=some (.cells cur ty (0,0))/\l.length<=c/\c * z<=cur.size/\(∀ o,av g o)/\rB av w l.flatten (cur.toList.take l.flatten.length))
def SG (P:Program) (O:XE) (f:FuncId) (args:List AV) (S0:Option AV) (r:RV):Prop :=
 (∀ xs w,(callFunc f xs).run P w=.ok (.enter f xs) w) ∧
 match r,S0 with
 | (.sl nl l,none),none=>∀ (av:Av) (w:World) (vs:List Value),(∀ b o,av b o->b<w.heap.size)->sG Ix.none av (fun _ _=>False) w args vs →
  Calls P f vs.toArray w fun e w'=>∃ v,e=.returned v/\(if l=[] then ID av w' (.sl nl []) v/\∃ A,v=.slice A 0 0 else ∀ z,AA z l=true->H3 w (fun _=>False) z av w' l v)/\Below w.heap.size w w'
 | (.sl false l,none),some (.int _ z)=>match args with
  | .sl nl l0 :: rest=>∀ (av:Av) (w:World) (v0:Value) (vs:List Value) (g0:Nat->Prop),(∀ b o,av b o->b<w.heap.size)->sG Ix.none av (fun _ _=>False) w rest vs->G3 z.toNat av w nl l0 v0 g0 →
   Calls P f (v0 :: vs).toArray w fun e w'=>∃ v,e=.returned v/\H3 w g0 z.toNat av w' l v/\ZA g0 w w'
  | _=>True
 | (.sl false l,some S'),some S=>∀ (av:Av) (w:World) (vs:List Value) (p:Nat) (H:Nat->Prop),(∀ b o,av b o->b<w.heap.size)->(∀ b o,H b->av b o)->O.at_ S H p w->sG (Ix.one p) av (fun b _=>H b) w args vs →
  Calls P f vs.toArray w fun e w'=>∃ v H',e=.returned v/\OwnV w.heap.size H' w' l v/\O.at_ S' H' p w'/\(∀ b,H' b->H b\/w.heap.size<=b)/\ZA H w w'
 | _,_=>True
def A3 (P:Program) (O:XE) (f:FuncId) (args:List AV) (S0:Option AV) (r:RV):Prop :=
 (∀ xs w,(callFunc f xs).run P w=.ok (.enter f xs) w) ∧
 match S0,r.2 with
 | none,none=>∀ (av:Av) (w:World) (vs:List Value),(∀ b o,av b o->b<w.heap.size)->sG Ix.none av (fun _ _=>False) w args vs →
  Calls P f vs.toArray w fun e w'=>∃ v,e=.returned v/\ID av w' r.1 v/\Below w.heap.size w w'
 | some S,some S'=>∀ (av:Av) (w:World) (vs:List Value) (p:Nat) (H:Nat->Prop),(∀ b o,av b o->b<w.heap.size)->(∀ b o,H b->av b o)->O.at_ S H p w->sG (Ix.one p) av (fun b _=>H b) w args vs →
  Calls P f vs.toArray w fun e w'=>∃ v H',e=.returned v/\ID (fun b o=>av b o\/H' b) w' r.1 v/\O.at_ S' H' p w'/\(∀ b,H' b->H b\/w.heap.size<=b)/\ZA H w w'
 | none,some S'=>∀ (av:Av) (w:World) (vs:List Value),(∀ b o,av b o->b<w.heap.size)->sG Ix.none av (fun _ _=>False) w args vs →
  Calls P f vs.toArray w fun e w'=>∃ v p H',e=.returned v/\G7 p (fun b o=>av b o\/H' b) w' r.1 v/\O.at_ S' H' p w'/\(∀ b,H' b->w.heap.size<=b)/\Below w.heap.size w w'
 | some _,none=>True
def Ix.row (p z:Nat):Ix:=⟨fun t n=>if t=0/\n=0 then some p else .none,fun _ _=>.none,fun _=>z⟩
def S3 (P:Program) (f:FuncId) (args:List AV) (S0:Option AV) (r:RV):Prop :=
 (∀ xs w,(callFunc f xs).run P w=.ok (.enter f xs) w) ∧
 match S0,r with
 | some (.agg cs),(r1,some (.agg pw))=>∀ (av:Av) (w:World) (vs:List Value) (p:Nat) (cur:Array Value) (ty:TypeId),(∀ b o,av b o->b<w.heap.size)->(∀ o,av p o)->w.heap[p]?=some (.cells cur ty (0,0))->cs.length<=cur.size->rB av w cs (cur.toList.take cs.length)->sG (Ix.row p cur.size) av (fun b _=>b=p) w args vs →
  Calls P f vs.toArray w fun e w'=>∃ v ua uh,e=.returned v/\ID av w' r1 v/\w'.heap[p]?=some (.cells ua uh (0,0))/\ua.size=cur.size/\rB av w' pw (ua.toList.take pw.length)/\ZA (fun b=>b=p) w w'
 | _,_=>True
def LA (P:Program) (O:XE) (f:FuncId) (args:List AV) (S0:Option AV) (r:RV):Prop:=match args with
 | .undef :: .undef :: rest=>S3 P f rest S0 r
 | .undef :: rest=>SG P O f rest S0 r
 | _=>A3 P O f args S0 r
theorem LA.of {P:Program} {O:XE} {f:FuncId} {args:List AV} {S0:Option AV} {r:RV} (hm:OF args=false):LA P O f args S0 r ↔ A3 P O f args S0 r:=by
 unfold LA;split
 ·cases hm
 ·cases hm
 ·simp_all
theorem LA.own {P:Program} {O:XE} {f:FuncId} {args:List AV} {S0:Option AV} {r:RV} (hm:OF args=false) (h:LA P O f (.undef :: args) S0 r):SG P O f args S0 r:=by
 cases args with
 | nil=>exact h
 | cons x r=>cases x <;> first | exact h | (simp [OF] at hm; done)
theorem pY {ι':Ix} {av avb avl:Av} {x:AV} {v:Value} (h:GA ι av avb w x v) (hx:x.free=true):GA ι' av avl w x v:=by
  cases x <;> first
    | exact h
    | (simp [AV.free,AV.free0] at hx; done)
    | (obtain ⟨us,hv,hc⟩:=h
       exact ⟨us,hv,cD (FG hc fun y hy=>y8.1 hx y hy)⟩)
theorem BT {av avb:Av}:∀ {cs:List AV} {us:List Value} {b off:Nat},rB av w cs us->(∀ (j:Nat) (u:Value),us[j]?=some u->w.cell? ⟨b,off + j,none⟩=some u/\¬ avb b (off + j))->fC av avb w cs b off
 | [],_,_,_,_,_=>by simp [fC]
 | x :: r,_,b,off,h,hj=>by
  simp only [rB] at h;obtain ⟨u,db,rfl,h0,h1,h⟩:=h;simp only [fC];have h2:=hj 0 u rfl;refine ⟨⟨u,h2.1,h0,h1⟩,h2.2,BT h fun j v hv=>?_⟩;have:=hj (j + 1) v (by simpa using hv);rw [show off + 1 + j=off + (j + 1) from by omega];exact this
section
variable (R:DB P O nt B F0 aa w0 D s a w ι Θ) {avl:Av}
include R avl
theorem QU {cl:Cl} {y x:AV} (hB:∀ b o,avl b o->eC ι Θ b o) (hsep:∀ t n b o,ι t n=some b->ι.ob t n=none->(∃ sz off len cap,y=.ref t n sz off len cap)->¬ avl b o) {v:Value} {ι':Ix} (hY:GA ι (BB aa ι Θ) (eC ι Θ) w y v) (h:oT s cl y=some x) (ub:∀ t n,y=.ptr t n 0->ι' 0 0=ι t n):GA ι' (BB aa ι Θ) avl w x v:=by
 unfold oT at h;split at h
 ·rename_i t n sz off len cap;split at h
  ·cases hm:s.mem t n with
   | none=>rw [hm] at h; cases h
   | some r =>
    rw [hm,J] at h;cases hr:UG r sz off len with
    | none=>rw [hr] at h; cases h
    | some m =>
     rw [hr] at h;cases h;obtain ⟨b,hb,sb,cc,ah,_,hv⟩:=RG.1 hY;obtain ⟨zc,b',cur,ty,jb,ra,ja,_⟩:=R.rows t n r hm;rw [hb] at jb;injection jb with jb
     subst jb;obtain ⟨h1,h2,us,hl,de⟩:=IG ja ra hr;subst h1;exact ⟨_,cc,hv,yB sb ah,fun c hc c' jc=>(h2 c hc).trans (h2 c' jc).symm,fun _=>⟨b,off,rfl,HI.2 (BT hl fun j u hj=>⟨de j u hj,hsep t n b _ hb zc ⟨_,_,_,_,rfl⟩⟩)⟩⟩
  ·cases h
 ·cases h;obtain ⟨a',c,hv,hc,hu,hs⟩:=hY;refine ⟨a',c,hv,hc,hu,fun h0=>?_⟩;obtain ⟨b,off,ha,hr⟩:=hs h0;exact ⟨b,off,ha,EK.held (FA.refl _ _) (FA.less hB) _ _ _ hr⟩
 ·cases h;obtain ⟨b,off,hv,hc⟩:=hY;exact ⟨b,off,hv,fC.held (FA.refl _ _) (FA.less hB) _ _ _ hc⟩
 ·rename_i t n off;split at h
  ·rename_i hc;cases h;obtain ⟨h0,_,_⟩:=hc;subst h0;obtain ⟨b,hb,hv⟩:=KF.1 hY;exact ⟨b,(ub t n rfl).trans hb,hv⟩
  ·cases h
 ·split at h
  ·rename_i hf;cases h;exact pY hY hf
  ·cases h
theorem lend_rep (ch:∀ b o,avl b o->∃ t n H,ι.ob t n=some H/\H b) {cl:Cl} {y x:AV} {v:Value} {ι':Ix} (hY:GA ι (BB aa ι Θ) (eC ι Θ) w y v) (h:oT s cl y=some x) (ub:∀ t n,y=.ptr t n 0->ι' 0 0=ι t n):GA ι' (BB aa ι Θ) avl w x v :=
 QU R (fun b o h=>.inl (.inr (ch b o h))) (fun t n b o hb zc _ h=>by
  obtain ⟨t',n',H,ho,hH⟩:=ch _ _ h;obtain ⟨e1,e2⟩:=((R.obs _ _ _ ho).1 _ hH).2.2.1 _ _ hb;rw [e1,e2,ho] at zc;cases zc) hY h ub
theorem lendP_rep (ch:∀ b o,avl b o->∃ t n H,ι.ob t n=some H/\H b) {cl:Cl} {y x:AV} {v:Value} {ι':Ix} (hY:xW ι (BB aa ι Θ) (eC ι Θ) w y v) (h:TP s cl y=some x):xW ι' (BB aa ι Θ) avl w x v:=by
 have hB:∀ b o,avl b o->eC ι Θ b o:=fun b o h=>.inl (.inr (ch b o h))
 unfold TP at h;split at h
 ·rename_i t n off;split at h
  ·split at h
   ·rename_i r hm;split at h
    ·rename_i bc;cases h;obtain ⟨b,hb,hv⟩:=hY;obtain ⟨zc,b',cur,ty,jb,ra,ja,_⟩:=R.rows t n r hm;rw [hb] at jb;injection jb with jb
     subst jb;have ic:=GE off ja.rep;rw [<- List.map_drop] at ic;have df:∀ x∈(r.drop off).map (·.v),x.free0=true:=fun x hx=>by
      grind
     refine ⟨b,off,hv,BT (FG ic df) fun j u hu=>⟨?_,fun h=>?_⟩⟩
     ·rw [yu] at hu;have hj:off + j<r.length:=by
       grind
      rw [List.getElem?_take_of_lt hj] at hu;simp only [World.cell?,ra];simp_all
     ·obtain ⟨t',n',H,ho,hH⟩:=ch _ _ h;obtain ⟨e1,e2⟩:=((R.obs _ _ _ ho).1 _ hH).2.2.1 _ _ hb;simp_all
    ·cases h
   ·cases h
  ·cases h
 ·cases h;obtain ⟨b,off,hv,hc⟩:=hY;exact ⟨b,off,hv,fC.held (FA.refl _ _) (FA.less hB) _ _ _ hc⟩
 ·cases h;exact hY
 ·cases h
end
theorem RR (R:DB P O nt B F0 aa w0 D s a w ι Θ) {avl:Av} (ch:∀ b o,avl b o->∃ t n H,ι.ob t n=some H/\H b) {cl:Cl} {ι':Ix}:∀ {ys xs:List AV} {us:List Value},dG ι (BB aa ι Θ) (eC ι Θ) w ys us->kD s cl ys=some xs->dG ι' (BB aa ι Θ) avl w xs us
 | [],xs,us,hY,h=>by
  injection h with h;subst h;exact hY
 | y :: r,xs,us,hY,h=>by
  obtain ⟨u,db,rfl,h0,hY⟩:=hY;unfold kD at h;split at h
  ·rename_i v vs hv hr;injection h with h;subst h;exact ⟨u,db,rfl,lendP_rep R ch h0 hv,RR R ch hY hr⟩
  ·cases h
theorem lendF_rep (R:DB P O nt B F0 aa w0 D s a w ι Θ) {avl:Av} (ch:∀ b o,avl b o->∃ t n H,ι.ob t n=some H/\H b) {cl:Cl} {y x:AV} {v:Value} {ι':Ix} (hY:GA ι (BB aa ι Θ) (eC ι Θ) w y v) (h:ZE s cl y=some x) (ub:∀ t n,y=.ptr t n 0->ι' 0 0=ι t n):GA ι' (BB aa ι Θ) avl w x v:=by
 unfold ZE at h;split at h
 ·rename_i f cs;obtain ⟨ws,hw,h⟩:=yl.1 h;subst h;obtain ⟨us,hv,hc⟩:=hY;exact ⟨us,hv,RR R ch hc hw⟩
 ·exact lend_rep R ch hY h ub
theorem O1 {ι':Ix} {av avl:Av}:∀ {xs:List AV} {us:List Value},(∀ x∈xs,x.capOk=true)->dG ι' av avl w xs us->sG ι' av avl w xs us
 | [],_,_,h=>h
 | x :: r,_,hc,h=>by
  obtain ⟨u,db,rfl,h0,h⟩:=h;refine ⟨u,db,rfl,?_,O1 (fun y hy=>hc y (yG _ hy)) h⟩;have:=hc x (yp);cases x <;> first | (simp [AV.capOk] at this; done) | exact h0
theorem WV {ι':Ix} {av avl:Av}:∀ {xs ys:List AV} {us vs:List Value},sG ι' av avl w xs us->sG ι' av avl w ys vs->sG ι' av avl w (xs++ys) (us++vs)
 | [],_,_,_,h,h'=>by cases h; exact h'
 | x :: r,_,_,_,h,h'=>by
  obtain ⟨u,db,rfl,h0,h⟩:=h;exact ⟨u,db++_,rfl,h0,WV h h'⟩
theorem mU {cl:Cl}:∀ {ys xs:List AV},kD s cl ys=some xs->∀ x∈xs,x.capOk=true
 | [],xs,h=>by injection h with h; subst h; intro x hx; cases hx
 | y :: r,xs,h=>by
  unfold kD at h;split at h
  ·rename_i v vs hv hr;injection h with h;subst h;intro x hx;rcases yw.1 hx with rfl | hx
   ·unfold TP at hv;split at hv
    ·split at hv
     ·split at hv
      ·split at hv
       ·injection hv with hv; subst hv; rfl
       ·cases hv
      ·cases hv
     ·cases hv
    ·injection hv with hv; subst hv; rfl
    ·injection hv with hv; subst hv; rfl
    ·cases hv
   ·exact mU hr x hx
  ·cases h
theorem mG (R:DB P O nt B F0 aa w0 D s a w ι Θ) {avl:Av} (ch:∀ b o,avl b o->∃ t n H,ι.ob t n=some H/\H b) {cl:Cl} {ι':Ix}:∀ {Xs:List Operand} {xs:List bB} {vs:List AV},kF Xs=some xs->JD s cl xs=some vs->(∀ x∈xs,∀ t n,x.get s=.ptr t n 0->ι' 0 0=ι t n)->sG ι' (BB aa ι Θ) avl w vs (Xs.map a.eval)
 | [],xs,vs,h,hl,_=>by
  injection h with h;subst h;injection hl with hl;subst hl;rfl
 | X :: Xs,xs,vs,h,hl,ub=>by
  unfold kF at h;split at h
  ·rename_i x l hx hr;injection h with h;subst h;unfold JD at hl;split at hl
   ·rename_i v mw hv hr';injection hl with hl;subst hl;exact ⟨_,_,rfl,lendF_rep R ch (R.opd hx).1 hv (ub x (yp)),mG R ch hr hr' fun y hy=>ub y (yG _ hy)⟩
   ·cases hl
  ·cases h
theorem named_rep {p d n:Nat} {ι':Ix} {av avb:Av} {x:AV} {v:Value} (h:G7 p av w x v) (hp:ι' d n=some p) (hx:x.backN=true):GA ι' av avb w (x.named d n) v:=by
 have one:∀ {x:AV} {u:Value},MT p av w x u->HA ι' av w (if x.isObj then .ptr d n 0 else x) u:=fun {x u} h=>by
  unfold MT at h;split at h
  ·rename_i ho; rw [if_pos ho]; exact ⟨p,hp,h⟩
  ·rename_i ho; rw [if_neg ho]; exact xJ h
 have oneU:∀ {x:AV} {u:Value},MT p av w x u->qP ι' av w (if x.isObj then .ptr d n 0 else x) u:=fun {x u} h=>by
  unfold MT at h;split at h
  ·rename_i ho; rw [if_pos ho]; exact ⟨p,hp,h⟩
  ·rename_i ho; rw [if_neg ho]; exact fG h
 have all:∀ {xs:List AV} {us:List Value},WK p av w xs us->wG ι' av w (xs.map fun v=>if v.isObj then .ptr d n 0 else v) us:=by
  intro xs
  induction xs with
  | nil=>intro us h; simpa [WK,wG] using h
  | cons x r ih =>
   intro us h;simp only [WK] at h;obtain ⟨u,db,rfl,h0,h⟩:=h;exact ⟨u,db,rfl,oneU h0,ih h⟩
 cases x with
 | tup vs =>
  obtain ⟨us,hv,hc⟩:=h;exact ⟨us,hv,all hc⟩
 | ptr t' n' off =>
  have h1:=one (x:=.ptr t' n' off) h;have h2:(AV.ptr t' n' off).isObj=true:=hx;simp only [h2,if_true] at h1;show GA ι' av avb w (if (AV.ptr t' n' off).isObj then .ptr d n 0 else .ptr t' n' off) v;rw [if_pos h2];exact h1
 | _=>simp [AV.backN,AV.isObj] at hx
theorem MT.held {p:Nat} {av rb:Av} {w w':World} (h:FA av rb w w') {x:AV} {v:Value} (hr:MT p av w x v):MT p rb w' x v:=by
 unfold MT at hr ⊢;split at hr
 ·rename_i ho; rw [if_pos ho]; exact hr
 ·rename_i ho; rw [if_neg ho]; exact ID.held h _ _ hr
theorem G7.held {p:Nat} {av rb:Av} {w w':World} (h:FA av rb w w') {x:AV} {v:Value} (hr:G7 p av w x v):G7 p rb w' x v:=by
 have all:∀ {xs:List AV} {us:List Value},WK p av w xs us->WK p rb w' xs us:=by
  intro xs
  induction xs with
  | nil=>intro us h; exact h
  | cons x r ih =>
   intro us h';simp only [WK] at h' ⊢;obtain ⟨u,db,rfl,h0,h'⟩:=h';exact ⟨u,db,rfl,MT.held h h0,ih h'⟩
 cases x <;> first | exact MT.held h hr | (obtain ⟨us,hv,hc⟩:=hr; exact ⟨us,hv,all hc⟩)
theorem DB.turnObj (R:DB P O nt B F0 aa w0 D s a w ι Θ) {t n p:Nat} {H H':Nat->Prop} {S':AV} (hp:ι t n=some p) (ub:ι.ob t n=some H) (jd:O.at_ S' H' p w') (xm:W5 ι S' p w') (hH:∀ b,H' b->H b\/w.heap.size<=b) (hk:ZA H w w') :
  ∃ ι':Ix,DB P O nt B F0 aa w0 D (s.setObj t n S') a w' ι' Θ/\FA (fun b o=>BB aa ι Θ b o\/H' b) (BB aa ι' Θ) w' w':=by
 obtain ⟨jq,dv⟩:=R.obs t n H ub;have tj:∀ t' n' H1,(if t'=t/\n'=n then some H' else ι.ob t' n')=some H1->(t'=t/\n'=n/\H1=H')\/(¬ (t'=t/\n'=n)/\ι.ob t' n'=some H1):=fun t' n' H1 h=>by
  grind
 have ij:∀ b o,b<w.heap.size->eC ⟨ι.f,fun t' n'=>if t'=t/\n'=n then some H' else ι.ob t' n',ι.z⟩ Θ b o->eC ι Θ b o:=fun b o hb h=>h.imp (fun h=>h.imp id fun ⟨t',n',H1,h1,h2⟩=>by
  rcases tj _ _ _ h1 with ⟨e1,e2,e3⟩ | ⟨_,h1⟩
  ·subst e3;rcases hH b h2 with h3 | h3
   ·exact ⟨t,n,H,ub,h3⟩
   ·omega
  ·exact ⟨t',n',H1,h1,h2⟩) id
 have ri:∀ t1 n1 b1 H1,ι t1 n1=some b1->ι.ob t1 n1=some H1->(⟨ι.f,fun t' n'=>if t'=t/\n'=n then some H' else ι.ob t' n',ι.z⟩:Ix) t1 n1=some b1/\∃ H2,(⟨ι.f,fun t' n'=>if t'=t/\n'=n then some H' else ι.ob t' n',ι.z⟩:Ix).ob t1 n1=some H2:=fun t1 n1 b1 H1 g1 g2=>⟨g1,by
  by_cases e:t1=t/\n1=n
  ·exact ⟨H',by simp only [if_pos e]⟩
  ·exact ⟨H1,by simp only [if_neg e]; exact g2⟩⟩
 have gc:∀ b o u,w.cell? ⟨b,o,none⟩=some u->¬ H b->w'.cell? ⟨b,o,none⟩=some u:=fun b o u hc hn=>(World.cell?_of_block (w:=w) (a:=⟨b,o,none⟩) (hk.block b (EE hc) hn)).trans hc
 have hB:FA (eC ι Θ) (eC ⟨ι.f,fun t' n'=>if t'=t/\n'=n then some H' else ι.ob t' n',ι.z⟩ Θ) w w':=⟨fun b o u hc hn=>⟨gc b o u hc fun h=>hn (.inl (.inr ⟨t,n,H,ub,h⟩)),fun h=>hn (ij b o (EE hc) h)⟩⟩;have hA:FA (BB aa ι Θ) (BB aa ⟨ι.f,fun t' n'=>if t'=t/\n'=n then some H' else ι.ob t' n',ι.z⟩ Θ) w w':=⟨fun b o u hc hn=>⟨gc b o u hc fun h=>hn (.inr (.inl (.inr ⟨t,n,H,ub,h⟩))),fun h=>hn (h.imp id (ij b o (EE hc)))⟩⟩;have ir:=R.lowB;have oc:=hk.size;have ox:∀ t1,GA ⟨ι.f,fun t' n'=>if t'=t/\n'=n then some H' else ι.ob t' n',ι.z⟩ (BB aa ⟨ι.f,fun t' n'=>if t'=t/\n'=n then some H' else ι.ob t' n',ι.z⟩ Θ) (eC ⟨ι.f,fun t' n'=>if t'=t/\n'=n then some H' else ι.ob t' n',ι.z⟩ Θ) w' (s.env t1).v (a.tmps.getD t1 undef):=fun t1=>GA.held (ι:=ι) (ι':=⟨ι.f,fun t' n'=>if t'=t/\n'=n then some H' else ι.ob t' n',ι.z⟩) ⟨fun _ _ _ h=>h,fun _ _ _ _=>rfl⟩ hA hB _ _ (R.env t1)
 have hgen:∀ t1,GA ⟨ι.f,fun t' n'=>if t'=t/\n'=n then some H' else ι.ob t' n',ι.z⟩ (BB aa ⟨ι.f,fun t' n'=>if t'=t/\n'=n then some H' else ι.ob t' n',ι.z⟩ Θ) (eC ⟨ι.f,fun t' n'=>if t'=t/\n'=n then some H' else ι.ob t' n',ι.z⟩ Θ) w' (s.gh t1).v (F0.g t1):=fun t1=>GA.held (ι:=ι) (ι':=⟨ι.f,fun t' n'=>if t'=t/\n'=n then some H' else ι.ob t' n',ι.z⟩) ⟨fun _ _ _ h=>h,fun _ _ _ _=>rfl⟩ hA hB _ _ (R.gen t1)
 refine ⟨⟨ι.f,fun t' n'=>if t'=t/\n'=n then some H' else ι.ob t' n',ι.z⟩,⟨R.defers,R.size,ox,R.ann,fun t' n' r hr=>?_,fun t' n' b h=>?_,R.inj,fun k o h=>?_,R.tinj,R.apart,R.out,(fun p' h=>⟨(R.pin p' h).1,by
  rcases (R.pin p' h).2 with iv | ⟨H1,h1⟩
  ·exact .inl iv
  refine .inr ?_;show ∃ H2,(if 0=t/\0=n then some H' else ι.ob 0 0)=some H2;split
  ·exact ⟨_,rfl⟩
  ·exact ⟨H1,h1⟩⟩),?_,R.base,fun t' n' S1 h=>?_,fun t' n' H1 h=>?_,hgen,R.gann⟩,?_⟩
 ·obtain ⟨h0,b,cur,ty,h1,h2,h3,h8⟩:=R.rows t' n' r hr;have za:¬ (t'=t/\n'=n):=fun e=>by rw [e.1,e.2,ub] at h0; cases h0
  have hbn:¬ H b:=fun hb=>za ((jq b hb).2.2.1 t' n' h1)
  exact ⟨by simp only [if_neg za]; exact h0,b,cur,ty,h1,(hk.block b (cA h2) hbn).trans h2,h3.held ⟨fun _ _ _ h=>h,fun _ _ _ _=>rfl⟩ hA (fun _ _ h=>h),h8⟩
 ·obtain ⟨h1,h2,h3⟩:=R.mine t' n' b h;exact ⟨h1,by omega,h3⟩
 ·obtain ⟨h1,h2,h3,h4,ua,h5,h6⟩:=R.tok k o h;exact ⟨h1,h2,h3,h4,ua,(hk.block _ (cA h5) (R.apob h ub)).trans h5,h6⟩
 ·refine R.kept.trans hk fun i hi h=>?_
  have:=R.base
  grind
 ·simp only [pA.setObj] at h;split at h
  ·rename_i e;injection h with h;subst h;exact ⟨p,H',by rw [e.1,e.2]; exact hp,by simp only [if_pos e],jd,xm.keep ri fun x hx=>hx⟩
  ·rename_i e;obtain ⟨p1,H1,h1,h2,h3,h4⟩:=R.objs t' n' S1 h;have ep:∀ b,H1 b->¬ H b:=fun b hb jb=>e ((jq b jb).2.2.2.2 t' n' H1 h2 hb)
   exact ⟨p1,H1,h1,by simp only [if_neg e]; exact h2,O.keep h3 (fun b hb=>hk.block b (O.lt h3 hb) (ep b hb)) oc,h4.keep ri fun x hx=>(hk.block _ (cA hx) (ep _ (O.main h3))).trans hx⟩
 ·rcases tj _ _ _ h with ⟨e1,e2,e3⟩ | ⟨e,h⟩
  ·subst e1; subst e2; subst e3;refine ⟨fun b hb=>?_,dv⟩;rcases hH b hb with h1 | h1
   ·grind
   ·refine ⟨.inl (by omega),O.lt jd hb,fun t1 n1 h2=>?_,fun k o h2 e=>?_,fun t1 n1 H2 h2 h3=>?_⟩
    ·have:=(R.mine _ _ _ h2).2.1; omega
    ·obtain ⟨_,_,_,_,ua,h5,_⟩:=R.tok k o h2; have:=cA h5; omega
    ·rcases tj _ _ _ h2 with ⟨e1,e2,_⟩ | ⟨_,h2⟩
     ·omega
     ·have:=((R.obs _ _ _ h2).1 b h3).2.1; omega
  ·obtain ⟨h1,h2⟩:=R.obs t' n' H1 h;refine ⟨fun b hb=>?_,h2⟩;obtain ⟨g1,g2,g3,g4,g5⟩:=h1 b hb;refine ⟨g1,by omega,g3,g4,fun t1 n1 H2 h2 h3=>?_⟩;rcases tj _ _ _ h2 with ⟨e1,e2,e3⟩ | ⟨_,h2⟩
   ·subst e3;rcases hH b h3 with h4 | h4
    ·have:=g5 t n H ub h4;omega
    ·omega
   ·exact g5 t1 n1 H2 h2 h3
 ·refine FA.less fun b o h=>?_
  rcases h with h | h | h
  ·exact .inl (.inl h)
  ·rcases h with h | ⟨t1,n1,H2,h2,h3⟩
   ·exact .inl (.inr (.inl (.inl h)))
   ·rcases tj _ _ _ h2 with ⟨_,_,e3⟩ | ⟨_,h2⟩
    ·grind
    ·exact .inl (.inr (.inl (.inr ⟨t1,n1,H2,h2,h3⟩)))
  ·exact .inl (.inr (.inr h))
theorem DB.newObj (R:DB P O nt B F0 aa w0 D s a w ι Θ) {d p:Nat} {H:Nat->Prop} {S:AV} (hb:Below w.heap.size w w') (hD:¬ D d) (jd:O.at_ S H p w') (xm:W5 ι S p w') (hH:∀ b,H b->w.heap.size<=b) :
  ∃ ι':Ix,DB P O nt B F0 aa w0 (fun t=>D t\/t=d) (s.setObj d s.next S) a w' ι' Θ/\ι' d s.next=some p/\FA (fun b o=>BB aa ι Θ b o\/H b) (BB aa ι' Θ) w' w':=by
 have ir:=R.lowB;have oc:=hb.size;have hpH:=hH p (O.main jd);have le:ι d s.next=none:=by
  cases h:ι d s.next with
  | none=>rfl
  | some b =>
   rcases (R.mine _ _ _ h).2.2 with h1 | h1
   ·omega
   ·simp_all
 have fe:ι.ob d s.next=none:=by
  cases h:ι.ob d s.next with
  | none=>rfl
  | some b =>
   rcases (R.obs _ _ _ h).2 with h1 | h1
   ·omega
   ·simp_all
 have hmemn:s.mem d s.next=none:=by
  cases h:s.mem d s.next with
  | none=>rfl
  | some r=>obtain ⟨_,b,cur,ty,h1,_⟩:=R.rows _ _ _ h; rw [le] at h1; cases h1
 obtain ⟨ι',hι'⟩:∃ ι':Ix,ι'=⟨fun t' n'=>if t'=d/\n'=s.next then some p else ι t' n',fun t' n'=>if t'=d/\n'=s.next then some H else ι.ob t' n',ι.z⟩:=⟨_,rfl⟩;have hf:∀ t' n' b,ι' t' n'=some b->(t'=d/\n'=s.next/\b=p)\/(¬ (t'=d/\n'=s.next)/\ι t' n'=some b):=fun t' n' b h=>by
  subst hι'
  grind
 have ho:∀ t' n' H1,ι'.ob t' n'=some H1->(t'=d/\n'=s.next/\H1=H)\/(¬ (t'=d/\n'=s.next)/\ι.ob t' n'=some H1):=fun t' n' H1 h=>by
  subst hι'
  grind
 have wc:∀ t n b,ι t n=some b->ι' t n=some b:=fun t n b h=>by
  subst hι'
  grind
 have er:∀ t n H1,¬ (t=d/\n=s.next)->ι.ob t n=H1->ι'.ob t n=H1:=fun t n H1 e h=>by
  simp_all
 have uc:ι' d s.next=some p:=by
  simp_all
 have ev:ι'.ob d s.next=some H:=by subst hι'; simp
 have ri:∀ t1 n1 b1 H1,ι t1 n1=some b1->ι.ob t1 n1=some H1->ι' t1 n1=some b1/\∃ H2,ι'.ob t1 n1=some H2:=fun t1 n1 b1 H1 g1 g2=>⟨wc _ _ _ g1,H1,er _ _ _ (fun e=>by rw [e.1,e.2,fe] at g2; cases g2) g2⟩
 have en:∀ b,ι'.z b=ι.z b:=fun b=>by subst hι'; rfl
 have sb:Ix.Le ι ι':=⟨wc,fun _ _ _ _=>en _⟩;clear hι';have ij:∀ b o,b<w.heap.size->eC ι' Θ b o->eC ι Θ b o:=fun b o fk h=>h.imp (fun h=>by
  rcases h with ⟨t',n',h⟩ | ⟨t',n',H1,h,h2⟩
  ·rcases hf _ _ _ h with ⟨_,_,e⟩ | ⟨_,h⟩
   ·omega
   ·exact .inl ⟨t',n',h⟩
  ·rcases ho _ _ _ h with ⟨_,_,e⟩ | ⟨_,h⟩
   ·subst e; have:=hH b h2; omega
   ·exact .inr ⟨t',n',H1,h,h2⟩) id
 have hB:FA (eC ι Θ) (eC ι' Θ) w w':=FA.grown (fun b jb=>hb.block b jb) ij;have hA:FA (BB aa ι Θ) (BB aa ι' Θ) w w':=FA.grown (fun b jb=>hb.block b jb) fun b o fk h=>h.imp id (ij b o fk)
 refine ⟨ι',⟨R.defers,R.size,fun t=>GA.held sb hA hB _ _ (R.env t),R.ann,fun t' n' r hr=>?_,fun t' n' b h=>?_,fun t n t' n' b h h'=>?_,fun k o h=>?_,R.tinj,fun k o t n h h'=>?_,R.out,fun p h=>⟨wc _ _ _ (R.pin p h).1,by
  rcases (R.pin p h).2 with iv | ⟨H1,h1⟩
  ·exact .inl ⟨iv.1,(sb.z _ _ _ (R.pin p h).1).trans iv.2⟩
  refine .inr ?_;by_cases e:0=d/\0=s.next
  ·exact ⟨H,by rw [<- e.1,<- e.2] at ev; exact ev⟩
  ·exact ⟨H1,er _ _ _ e h1⟩⟩,R.kept.trans_below hb,R.base,fun t' n' S1 h=>?_,fun t' n' H1 h=>?_,fun t=>GA.held sb hA hB _ _ (R.gen t),R.gann⟩,uc,?_⟩
 ·obtain ⟨h0,b,cur,ty,h1,h2,h3,h8,h9⟩:=R.rows t' n' r hr;have za:¬ (t'=d/\n'=s.next):=fun e=>by
   simp_all
  exact ⟨er _ _ _ za h0,b,cur,ty,wc _ _ _ h1,(hb.block b (cA h2)).trans h2,h3.held sb hA (fun _ _ h=>h),h8,h9.trans (en _).symm⟩
 ·rcases hf _ _ _ h with ⟨e1,e2,e⟩ | ⟨_,h⟩
  ·subst e;exact ⟨.inl (by omega),O.lt jd (O.main jd),.inr ⟨e2,.inr e1⟩⟩
  ·obtain ⟨h1,h2,h3⟩:=R.mine t' n' b h;exact ⟨h1,by omega,h3.imp id fun ⟨e,d⟩=>⟨e,.inl d⟩⟩
 ·rcases hf _ _ _ h with ⟨e1,e2,e⟩ | ⟨_,h⟩ <;> rcases hf _ _ _ h' with ⟨g1,g2,g⟩ | ⟨_,h'⟩
  ·omega
  ·have:=(R.mine _ _ _ h').2.1; omega
  ·have:=(R.mine _ _ _ h).2.1; omega
  ·exact R.inj t n t' n' b h h'
 ·obtain ⟨h1,h2,h3,h4,ua,h5,h6⟩:=R.tok k o h;exact ⟨h1,h2,h3,h4,ua,(hb.block _ (cA h5)).trans h5,h6⟩
 ·obtain ⟨_,_,_,_,ua,h5,_⟩:=R.tok k o h;have ba:=cA h5;rcases hf _ _ _ h' with ⟨_,_,e⟩ | ⟨_,h'⟩
  ·omega
  ·exact R.apart k o t n h h'
 ·simp only [pA.setObj] at h;split at h
  ·rename_i e;injection h with h;subst h;exact ⟨p,H,by rw [e.1,e.2]; exact uc,by rw [e.1,e.2]; exact ev,jd,xm.keep ri fun x hx=>hx⟩
  ·rename_i e;obtain ⟨p1,H1,h1,h2,h3,h4⟩:=R.objs t' n' S1 h;exact ⟨p1,H1,wc _ _ _ h1,er _ _ _ e h2,O.keep h3 (fun b jb=>hb.block b (O.lt h3 jb)) oc,h4.keep ri fun x hx=>(hb.block _ (cA hx)).trans hx⟩
 ·rcases ho _ _ _ h with ⟨e1,e2,e⟩ | ⟨_,h⟩
  ·subst e;refine ⟨fun b jb=>⟨.inl (by have:=hH b jb; omega),O.lt jd jb,fun t1 n1 h2=>?_,fun k o h2 e=>?_,fun t1 n1 H2 h2 h3=>?_⟩,.inr ⟨e2,.inr e1⟩⟩
   ·have:=hH b jb;rcases hf _ _ _ h2 with ⟨g1,g2,_⟩ | ⟨_,h2⟩
    ·omega
    ·have:=(R.mine _ _ _ h2).2.1; omega
   ·have:=hH b jb;obtain ⟨_,_,_,_,ua,h5,_⟩:=R.tok k o h2; have:=cA h5; omega
   ·have:=hH b jb;rcases ho _ _ _ h2 with ⟨g1,g2,_⟩ | ⟨_,h2⟩
    ·omega
    ·have:=((R.obs _ _ _ h2).1 b h3).2.1; omega
  ·obtain ⟨h1,h2⟩:=R.obs t' n' H1 h;refine ⟨fun b jb=>?_,h2.imp id fun ⟨e,d⟩=>⟨e,.inl d⟩⟩;obtain ⟨g1,g2,g3,g4,g5⟩:=h1 b jb;refine ⟨g1,by omega,fun t1 n1 h2=>?_,g4,fun t1 n1 H2 h2 h3=>?_⟩
   ·grind
   ·grind
 ·refine FA.less fun b o h=>?_
  rcases h with h | h | h
  ·exact .inl (.inl h)
  ·rcases h with ⟨t',n',h⟩ | ⟨t',n',H1,h,h2⟩
   ·rcases hf _ _ _ h with ⟨_,_,e⟩ | ⟨_,h⟩
    ·subst e; exact .inr (O.main jd)
    ·exact .inl (.inr (.inl (.inl ⟨t',n',h⟩)))
   ·rcases ho _ _ _ h with ⟨_,_,e⟩ | ⟨_,h⟩
    ·simp_all
    ·exact .inl (.inr (.inl (.inr ⟨t',n',H1,h,h2⟩)))
  ·exact .inl (.inr (.inr h))
theorem ZM {s:pA} {cl:Cl}:∀ {xs:List bB} {vs:List AV},JD s cl xs=some vs->OF vs=false
 | [],vs,h=>by injection h with h; subst h; rfl
 | x :: r,vs,h=>by
  unfold JD at h;split at h
  ·rename_i v us hv hr;injection h with h;subst h;cases v with
   | undef =>
    exfalso;unfold ZE at hv;split at hv
    ·obtain ⟨_,_,hv⟩:=yl.1 hv; cases hv
    unfold oT at hv;split at hv
    ·split at hv
     ·obtain ⟨_,_,hv⟩:=yl.1 hv; cases hv
     ·cases hv
    ·injection hv with hv; cases hv
    ·injection hv with hv; cases hv
    ·split at hv
     ·injection hv with hv; cases hv
     ·cases hv
    ·split at hv
     ·rename_i hf; injection hv with hv; rw [hv] at hf; cases hf
     ·cases hv
   | _=>rfl
  ·cases h
section
variable (R:DB P O nt B F0 aa w0 D s a w ι Θ) {call:uB} (ib:∀ f args S r,call f args S=some r->LA P O f args S r)
include R call ib
theorem op_call {f:FuncId} {Xs:Array Operand} {ts:Array TypeId} {xs:List bB} (hx:kF Xs.toList=some xs) (ho:o.op=.call { callee:=.value (.func f),args:=Xs,argTypes:=ts }) (hd:∀ d,o.dst=some d->d<nt) (hD:∀ d,o.dst=some d->¬ D d) {cl:Cl} {xe:rA × SC} (hr:(K.call cl f xs).run call s=some xe) {g} {s':pA} (he:WA.eff ⟨o.dst,.call cl f xs,g⟩ s xe=some s')
  {Kn:Act->World->Prop} {Q:Exit->Act->World->Prop} (hK:∀ a' w',WD P O nt B F0 aa w0 (fun t=>D t\/o.dst=some t) s' a' w'->Kn a' w'):o.wp P a w Kn Q:=by
 simp only [K.run] at hr;obtain ⟨vs,hl,hr⟩:=y9.1 hr;have gp:(Xs.toList.map a.eval).toArray=Xs.map a.eval:=by rw [<- Array.toList_map,yX]
 have run:∀ {S0:Option AV} {r:RV},A3 P O f vs S0 r->(execOp a.eval o).run P w=.ok (.enter f (Xs.map a.eval)) w:=fun h=>by
  simp only [execOp,ho,resolve,Act.eval,Deferred.ofValue,Sem.run_bind,Sem.run_pure,Result.andThen_ok,invoke];have:=h.1 (#[]++Xs.map a.eval++#[]) w;simp_all
 have oj:∀ b o,BB aa ι Θ b o->b<w.heap.size:=fun b o h=>R.low h
 split at hr
 ·rename_i sh;have nob:∀ x∈xs,∀ t n,x.get s=.ptr t n 0->False:=fun x hx t n h=>by
   have:(t,n)∈NF s xs:=List.mem_filterMap.2 ⟨x,hx,by rw [h]⟩;simp_all
  have eb:=mG (ι':=Ix.none) (avl:=fun _ _=>False) R (fun _ _ h=>h.elim) hx hl fun x hx t n h=>(nob x hx t n h).elim
  obtain ⟨r,hc,hr⟩:=y9.1 hr;have sa:=(LA.of (ZM hl)).1 (ib f vs none r hc);obtain ⟨r1,r2⟩:=r;unfold Oper.wp;rw [run sa,Oper.upon_enter];cases r2 with
  | none =>
   simp only at hr;split at hr
   ·cases hr;simp only [WA.eff] at he;cases he;have hC:=sa.2 (BB aa ι Θ) w _ oj eb;rw [gp] at hC;refine hC.mono ?_;rintro e w' ⟨v,rfl,hv,hb⟩;have R':DB P O nt B F0 aa w0 D s a w' ι Θ:=R.grow (fun b jb=>hb.block b jb) hb.size (R.kept.trans_below hb);exact hK _ _ ⟨ι,Θ,(R'.putN (x:=⟨_,.no⟩) hd (cJ hv) trivial).more fun _ h=>.inl h⟩
   ·cases hr
  | some S' =>
   simp only at hr;split at hr
   ·rename_i uq;cases hr;simp only [WA.eff] at he;split at he
    ·cases he
    ·rename_i d ka;cases he;have hC:=sa.2 (BB aa ι Θ) w _ oj eb;rw [gp] at hC;refine hC.mono ?_;rintro e w' ⟨v,p,H',rfl,hv,jd,hH,hb⟩;obtain ⟨ι',R2,hι,pd⟩:=R.newObj (d:=d) hb (hD d ka) jd (W5.no uq.2.2) hH;rw [ka];refine hK _ _ ⟨ι',Θ,(R2.put (x:=⟨_,.no⟩) (hd d ka) (named_rep (G7.held pd hv) hι uq.1) trivial).more fun t h=>h.imp id fun e=>by rw [ka,e]⟩
   ·cases hr
 ·rename_i t n ii;obtain ⟨r,hc,hr⟩:=y9.1 hr;obtain ⟨r1,r2⟩:=r;cases r2 with
  | none=>cases hr
  | some S' =>
   simp only at hr;split at hr
   ·rename_i ia;cases hr;simp only [WA.eff] at he;cases he;obtain ⟨S,hS⟩:=Option.isSome_iff_exists.1 ia.2.1;rw [hS] at hc;have sa:=(LA.of (ZM hl)).1 (ib f vs (some S) _ hc);obtain ⟨p,H,hp,ub,jd,_⟩:=R.objs t n S hS;have eb:=mG (ι':=Ix.one p) (avl:=fun b _=>H b) R (fun b _ h=>⟨t,n,H,ub,h⟩) hx hl fun x hx t' n' h=>by
     have:(t',n')∈NF s xs:=List.mem_filterMap.2 ⟨x,hx,by rw [h]⟩;rw [ii] at this;have:=Y03.1 this;injection this with e1 e2;rw [e1,e2,hp];rfl
    unfold Oper.wp;rw [run sa,Oper.upon_enter];have hC:=sa.2 (BB aa ι Θ) w _ p H oj (fun b o h=>.inr (.inl (.inr ⟨t,n,H,ub,h⟩))) jd eb;rw [gp] at hC;refine hC.mono ?_;rintro e w' ⟨v,H',rfl,hv,wk,hH,hk⟩;obtain ⟨ι',R',pd⟩:=R.turnObj hp ub wk (W5.no ia.2.2) hH hk;refine hK _ _ ⟨ι',Θ,(R'.putN (x:=⟨_,.no⟩) hd (cJ (ID.held pd _ _ hv)) trivial).more fun _ h=>.inl h⟩
   ·cases hr
 ·cases hr
theorem op_callv {tf:Nat} {Xs:Array Operand} {ts:Array TypeId} {xs:List bB} (hx:kF Xs.toList=some xs) (ho:o.op=.call { callee:=.value (.tmp tf),args:=Xs,argTypes:=ts }) (hd:∀ d,o.dst=some d->d<nt) {cl:Cl} {xe:rA × SC} (hr:(K.callv cl (.t tf) xs).run call s=some xe) {g} {s':pA} (he:WA.eff ⟨o.dst,.callv cl (.t tf) xs,g⟩ s xe=some s')
  {Kn:Act->World->Prop} {Q:Exit->Act->World->Prop} (hK:∀ a' w',WD P O nt B F0 aa w0 (fun t=>D t\/o.dst=some t) s' a' w'->Kn a' w'):o.wp P a w Kn Q:=by
 simp only [K.run,bB.get] at hr;have hF:=R.env tf;split at hr
 ·rename_i f cs om;rw [om] at hF;obtain ⟨us,ee,al⟩:=hF;split at hr
  ·rename_i vs ws hl hw sh;have oj:∀ b o,BB aa ι Θ b o->b<w.heap.size:=fun b o h=>R.low h
   have nob:∀ x∈xs,∀ t n,x.get s=.ptr t n 0->False:=fun x hx t n h=>by
    have:(t,n)∈NF s xs:=List.mem_filterMap.2 ⟨x,hx,by rw [h]⟩;simp_all
   have eb:=mG (ι':=Ix.none) (avl:=fun _ _=>False) R (fun _ _ h=>h.elim) hx hl fun x hx t n h=>(nob x hx t n h).elim
   have hcaps:=O1 (mU hw) (RR (ι':=Ix.none) (avl:=fun _ _=>False) R (fun _ _ h=>h.elim) al hw);have bc:=WV eb hcaps;obtain ⟨r,hc,hr⟩:=y9.1 hr;have hm:OF (vs++ws)=false:=by
    cases vs with
    | cons v r=>have:=ZM hl; cases v <;> first | rfl | exact this
    | nil =>
     cases ws with
     | nil=>rfl
     | cons v r =>
      have:=mU hw v (yp);cases v <;> first | rfl | (simp [AV.capOk] at this; done)
   have sa:=(LA.of hm).1 (ib f (vs++ws) none r hc);obtain ⟨r1,r2⟩:=r;cases r2 with
   | some S'=>cases hr
   | none =>
    simp only at hr;split at hr
    ·cases hr;simp only [WA.eff] at he;cases he;have gp:(Xs.toList.map a.eval++us.toList).toArray=Xs.map a.eval++us:=by
      simp_all
     have run:(execOp a.eval o).run P w=.ok (.enter f (Xs.map a.eval++us)) w:=by
      have ls:a.eval (.tmp tf)=.func (.func f) #[] us:=ee;simp only [execOp,ho,resolve,ls,Deferred.ofValue,Sem.run_bind,Sem.run_pure,Result.andThen_ok,invoke];have:=sa.1 (#[]++Xs.map a.eval++us) w;simp_all
     unfold Oper.wp;rw [run,Oper.upon_enter];have hC:=sa.2 (BB aa ι Θ) w _ oj bc;rw [gp] at hC;refine hC.mono ?_;rintro e w' ⟨v,rfl,hv,hb⟩;have R':DB P O nt B F0 aa w0 D s a w' ι Θ:=R.grow (fun b jb=>hb.block b jb) hb.size (R.kept.trans_below hb);exact hK _ _ ⟨ι,Θ,(R'.putN (x:=⟨_,.no⟩) hd (cJ hv) trivial).more fun _ h=>.inl h⟩
    ·cases hr
  ·cases hr
 ·cases hr
end
theorem val_rstr (R:DB P O nt B F0 aa w0 D s a w ι Θ) {t t':TypeId} {k:IntKind} (ht:P.underlying t=some (.int k)) (ht':P.underlying t'=some .string) {X:Operand} {x:bB} (hx:opd X=some x) (ho:o.op=.convert t t' X)
  {call} {y:rA} {e:SC} (hr:(K.rstr x).run call s=some (y,e)):e=.none/\pS P aa a w ι Θ o y:=by
 have hX:=(R.opd hx).1;simp only [K.run] at hr;split at hr
 ·rename_i k' n hy;injection hr with hr; injection hr with h1 h2; subst h1; subst h2;rw [hy,JA] at hX;exact ⟨rfl,.string (Utf8.encode n),by simp [execOp,ho,convert,run_underlying ht,run_underlying ht',hX,Conv.intToString],by rw [LF],trivial⟩
 ·cases hr
theorem dS {av:Av}:∀ {m:List (List AV)} {bs:List UInt8} {us:List Value},bytesOf m=some bs->rB av w m.flatten us->∃ ns:List Int,us=ns.map (Value.int .u8)/\bs=ns.map (fun n=>UInt8.ofNat n.toNat)/\∀ c∈m,c.length=1
 | [],bs,us,hb,h=>by
  injection hb with hb;subst hb;cases h;exact ⟨[],rfl,rfl,by simp⟩
 | c :: r,bs,us,hb,h=>by
  unfold bytesOf at hb;split at hb
  ·rename_i n l hr;injection hb with hb;subst hb;simp only [yv,List.cons_append,yW,rB] at h;obtain ⟨u,db,rfl,h0,_,h⟩:=h;obtain ⟨ns,e1,e2,e3⟩:=dS hr h;refine ⟨n :: ns,?_,by rw [e2]; rfl,?_⟩
   ·simp only [ID] at h0;rw [h0,e1]; rfl
   ·intro c hc;rcases yw.1 hc with rfl | hc
    ·rfl
    ·exact e3 c hc
  ·cases hb
theorem C2:∀ (ns:List Int) (acc:ByteArray),ns.foldl (fun r n=>r.push (UInt8.ofNat n.toNat)) acc=⟨acc.data++(ns.map fun n=>UInt8.ofNat n.toNat).toArray⟩
 | [],acc=>by simp
 | n :: r,acc=>by
  rw [List.foldl_cons,C2 r];congr 1;apply Array.ext';simp [ByteArray.push]
theorem val_bstr (R:DB P O nt B F0 aa w0 D s a w ι Θ) {t t' e':TypeId} (ht:P.underlying t=some (.slice e')) (kh:P.underlying e'=some (.int .u8)) (ht':P.underlying t'=some .string) {X:Operand} {x:bB} (hx:opd X=some x) (ho:o.op=.convert t t' X)
  {call} {cl:Cl} {y:rA} {e:SC} (hr:(K.bstr cl x).run call s=some (y,e)):e=.none/\pS P aa a w ι Θ o y:=by
 have hX:=(R.opd hx).1;simp only [K.run] at hr;split at hr
 ·rename_i m hm;obtain ⟨bs,hbs,hr⟩:=yl.1 hr;injection hr with h1 h2; subst h1; subst h2;have hlen1:∀ c∈m,c.length=1:=by
   clear hX hm hr
   induction m generalizing bs with
   | nil=>simp
   | cons c r ih =>
    unfold bytesOf at hbs
    grind
  obtain ⟨us,ic,hl,A,c,hv,hc,gc⟩:=XK R hX hm (sz:=1) (by omega) hlen1;obtain ⟨ns,e1,e2,_⟩:=dS hbs ic;refine ⟨rfl,.string ⟨bs.toArray⟩,?_,by rw [LF],trivial⟩;have hns:ns.length=m.length:=by rw [e1] at hl; simpa using hl
  simp only [execOp,ho,hv,Sem.run_bind];rw [run_convert_bytes_string w t t' e' A m.length c ht kh ht'];cases A with
  | none =>
   rcases yT m.length with h0 | h0
   ·have:ns=[]:=Y00 (by omega);subst this;subst e2;simp [Conv.bytesToString];rfl
   ·simp_all
  | some a' =>
   have wx:(loadCells a' m.length).run P w=.ok (ns.map (Value.int .u8)).toArray w:=by
    have:=run_loadCells_list (P:=P) w a' (ns.map (Value.int .u8)) (fun j v hj=>by
     have cq:j<m.length:=by
      grind
     obtain ⟨b,off,hA,_,_,re⟩:=gc (by omega);cases hA;rw [Addr.add_lit];rw [<- e1] at hj;exact re j v hj)
    simp_all
   rw [run_bytesToString w a' m.length c ns wx,C2];simp_all
 ·cases hr
theorem I1 {t e:TypeId} {z n:Nat} (ht:P.underlying t=some (.array n e)) (hz:CB P e=some z) {b off:Nat} {L H:Option Operand} {l h:Nat} (hl:XX a 0 L (L.map a.eval,l)) (hh:XX a n H (H.map a.eval,h)) (h1:l<=h) (h2:h<=n) :
  (Instr.sliceAt t (.pointer (some ⟨b,off,none⟩)) (L.map a.eval) (H.map a.eval) none).run P w=.ok (.slice (some (if n=l then ⟨b,off,none⟩ else ⟨b,off + l * z,none⟩)) (h - l) (n - l)) w:=by
 cases L with
 | none =>
  obtain ⟨_,rfl⟩:=hl;cases H with
  | none =>
   obtain ⟨_,rfl⟩:=hh;simp [Instr.sliceAt,Instr.sureAddr,Instr.sliceBounds,run_underlying ht,jC hz,Addr.add_lit]
  | some x =>
   obtain ⟨_,k,i,hx,h0,rfl⟩:=hh;have:0<=i/\i<=(n:Int):=⟨h0,by omega⟩;simp [Instr.sliceAt,Instr.sureAddr,Instr.sliceBounds,Instr.sliceBound,run_underlying ht,jC hz,hx,asIntOf,this,Addr.add_lit]
 | some y =>
  obtain ⟨_,k',i',hy,fh,rfl⟩:=hl;cases H with
  | none =>
   obtain ⟨_,rfl⟩:=hh;have:0<=i'/\i'<=(h:Int):=⟨fh,by omega⟩;simp [Instr.sliceAt,Instr.sureAddr,Instr.sliceBounds,Instr.sliceBound,run_underlying ht,jC hz,hy,asIntOf,this,Addr.add_lit]
  | some x =>
   obtain ⟨_,k,i,hx,h0,rfl⟩:=hh;have h3:0<=i/\i<=(n:Int):=⟨h0,by omega⟩;have h4:0<=i'/\i'<=i:=⟨fh,by omega⟩;have h5:((i.toNat:Nat):Int)=i:=by omega
   simp [Instr.sliceAt,Instr.sureAddr,Instr.sliceBounds,Instr.sliceBound,run_underlying ht,jC hz,hy,hx,asIntOf,h3,h4,h5,Addr.add_lit]
section
variable (R:DB P O nt B F0 aa w0 D s a w ι Θ)
include R
theorem val_aslc {t e':TypeId} {n z:Nat} (ht:P.underlying t=some (.array n e')) (hz:CB P e'=some z) {X:Operand} {L H:Option Operand} {x:bB} {l h:Option bB} (hx:opd X=some x) (hl:rX L=some l) (hh:rX H=some h)
  (ho:o.op=.slice t X L H none) {call} {cl:Cl} {y:rA} {e:SC} (hr:(K.aslc cl n z x l h).run call s=some (y,e)):e=.none/\pS P aa a w ι Θ o y:=by
 have hX:=(R.opd hx).1;simp only [K.run] at hr;split at hr
 ·rename_i t' n' off hy;split at hr
  ·rename_i lo hi r uy rx hm;have hL:=rJ R hl uy;have hH:=rJ R hh rx;rw [hy,KF] at hX;obtain ⟨b,hb,hv⟩:=hX;obtain ⟨_,b',cur,ty,jb,ra,ja,_,xk⟩:=R.rows t' n' r hm;rw [hb] at jb;injection jb with jb;subst jb;split at hr
   ·rename_i ia;obtain ⟨h1,h2,je,h3,_⟩:=ia;have na:=I1 (w:=w) (b:=b) (off:=off) ht hz hL hH h1 h2;split at hr
    ·rename_i heq;injection hr with hr; injection hr with e1 e2; subst e1; subst e2;refine ⟨rfl,.slice (some (if n=lo then ⟨b,off,none⟩ else ⟨b,off + lo * z,none⟩)) (hi - lo) (n - lo),by simp only [execOp,ho,hv,Option.map_none,Sem.run_bind,na,Result.andThen_ok,Sem.run_pure],?_,trivial⟩;simp only [WC,ID];refine ⟨some (if n=lo then ⟨b,off,none⟩ else ⟨b,off + lo * z,none⟩),n - lo,by rw [heq]; simp,by simp,by simp,by simp,fun _=>⟨by simp,by simp⟩⟩
    ·rename_i za;injection hr with hr; injection hr with e1 e2; subst e1; subst e2;refine ⟨rfl,.slice (some (if n=lo then ⟨b,off,none⟩ else ⟨b,off + lo * z,none⟩)) (hi - lo) (n - lo),by simp only [execOp,ho,hv,Option.map_none,Sem.run_bind,na,Result.andThen_ok,Sem.run_pure],?_,trivial⟩;rw [RG];refine ⟨b,hb,by omega,n - lo,yf _,?_,by rw [if_neg (by omega)]⟩;have:(n - lo) * z + lo * z=n * z:=by rw [<- yK]; congr 1; omega
     have:=ja.1;omega
   ·cases hr
  ·cases hr
 ·cases hr
theorem val_mkf {f:FuncId} {fs Xs:Array Operand} (hfs:fs.size=0) {xs:List bB} (hx:kF Xs.toList=some xs) (ho:o.op=.makeFunc (.func f) fs Xs)
  {call} {y:rA} {e:SC} (hr:(K.mkf f xs).run call s=some (y,e)):e=.none/\pS P aa a w ι Θ o y:=by
 simp only [K.run] at hr;split at hr
 ·rename_i bc;injection hr with hr; injection hr with e1 e2; subst e1; subst e2;have key:∀ {Xs:List Operand} {xs:List bB},kF Xs=some xs->xs.all (fun x=>(x.get s).capOk)=true->dG ι (BB aa ι Θ) (eC ι Θ) w (xs.map (·.get s)) (Xs.map a.eval):=by
   intro Xs
   induction Xs with
   | nil=>intro xs h _; injection h with h; subst h; rfl
   | cons X r ih =>
    intro xs h hc;unfold kF at h;split at h
    ·rename_i x l h1 h2;cases h;simp only [List.all_cons,ye] at hc;refine ⟨_,_,rfl,?_,ih h2 hc.2⟩;have hX:=(R.opd h1).1;have hk:=hc.1;show xW ι (BB aa ι Θ) (eC ι Θ) w (x.get s) (a.eval X);cases hg:x.get s <;> rw [hg] at hX hk <;> first | exact hX | (simp [AV.capOk] at hk; done)
    ·cases h
  have hfs0:fs=#[]:=Array.eq_empty_of_size_eq_zero hfs;refine ⟨rfl,.func (.func f) #[] (Xs.map a.eval),by simp [execOp,ho,Instr.makeFunc,hfs0],⟨Xs.map a.eval,rfl,?_⟩,trivial⟩;simp_all
 ·cases hr
theorem DB.turnRow {t n b:Nat} (hb:ι t n=some b) (zc:ι.ob t n=none) {r:List rA} {new:Array Value} {uh:TypeId} (jd:w'.heap[b]?=some (.cells new uh (0,0))) (hk:ZA (fun k=>k=b) w w') (ja:aD ι Θ (BB aa ι Θ) w' r new) (cj:B<=b\/F0.r b) (hnz:new.size=ι.z b) :
  DB P O nt B F0 aa w0 D (s.setRow t n r) a w' ι Θ:=by
 have za:∀ b',b'<w.heap.size->b'≠b->w'.heap[b']?=w.heap[b']?:=fun b' h1 h=>hk.block b' h1 h
 have hB:FA (eC ι Θ) (eC ι Θ) w w':=⟨fun b' o u hc hn=>by
  have:b'≠b:=fun e=>hn (.inl (.inl ⟨t,n,e ▸ hb⟩))
  exact ⟨(World.cell?_of_block (w:=w) (a:=⟨b',o,none⟩) (za b' (EE hc) this)).trans hc,hn⟩⟩
 have hA:FA (BB aa ι Θ) (BB aa ι Θ) w w':=⟨fun b' o u hc hn=>by
  have:b'≠b:=fun e=>hn (.inr (.inl (.inl ⟨t,n,e ▸ hb⟩)))
  exact ⟨(World.cell?_of_block (w:=w) (a:=⟨b',o,none⟩) (za b' (EE hc) this)).trans hc,hn⟩⟩
 have xu:=R.mine t n b hb;have oc:=hk.size;refine ⟨R.defers,R.size,fun t=>GA.held (Ix.Le.refl _) hA hB _ _ (R.env t),R.ann,fun t' n' r' hr=>?_,fun t n b h=>?_,R.inj,fun k o h=>?_,R.tinj,R.apart,R.out,R.pin,?_,R.base,fun t' n' S h=>?_,fun t n H h=>(R.obs t n H h).grow oc,fun t=>GA.held (Ix.Le.refl _) hA hB _ _ (R.gen t),R.gann⟩
 ·simp only [pA.setRow] at hr;split at hr
  ·rename_i e;simp_all
  ·rename_i e;obtain ⟨h0,b',ua,uh,h1,h2,h3,h4⟩:=R.rows t' n' r' hr;have:b'≠b:=fun e'=>e (R.inj _ _ _ _ _ (e' ▸ h1) hb)
   exact ⟨h0,b',ua,uh,h1,(za b' (cA h2) this).trans h2,h3.held (Ix.Le.refl _) hA (fun _ _ h=>h),h4⟩
 ·obtain ⟨h1,h2,h3⟩:=R.mine t n b h;exact ⟨h1,by omega,h3⟩
 ·obtain ⟨h1,h2,h3,h4,ua,h5,h6⟩:=R.tok k o h;have:o.g≠b:=fun e=>R.apart k o t n h (e ▸ hb)
  grind
 ·refine R.kept.trans hk fun i hi h=>?_
  subst h;rcases xu.1 with h | h
  ·have:=R.base; omega
  ·exact h
 ·obtain ⟨p,H,h1,h2,h3,h4⟩:=R.objs t' n' S h;have ep:∀ b',H b'->b'≠b:=fun b' hH e=>by
   subst e;have:=((R.obs _ _ _ h2).1 _ hH).2.2.1 t n hb;simp_all
  exact ⟨p,H,h1,h2,O.keep h3 (fun b' hH=>za b' (O.lt h3 hH) (ep b' hH)) oc,h4.keep (fun t n b H h g=>⟨h,H,g⟩) fun x hx=>(za _ (cA hx) (ep _ (O.main h3))).trans hx⟩
end
theorem UY (R:DB P O nt B F0 aa w0 D s a w ι Θ) {t n p z:Nat} (hp:ι t n=some p) (hz:ι.z p=z) {cl:Cl}:∀ {Xs:List Operand} {xs:List bB} {vs:List AV},kF Xs=some xs->NI s cl t n xs=some vs->sG (Ix.row p z) (BB aa ι Θ) (fun b _=>b=p) w vs (Xs.map a.eval)
 | [],xs,vs,h,hl=>by
  injection h with h;subst h;injection hl with hl;subst hl;rfl
 | X :: Xs,xs,vs,h,hl=>by
  unfold kF at h;split at h
  ·rename_i x l hx hr;injection h with h;subst h;unfold NI at hl;split at hl
   ·rename_i v mw hv hr';injection hl with hl;subst hl;refine ⟨_,_,rfl,?_,UY R hp hz hr hr'⟩;have hX:=(R.opd hx).1;have hB:∀ (b o:Nat),b=p->eC ι Θ b o:=fun b o h=>.inl (.inl ⟨t,n,h ▸ hp⟩)
    unfold pW at hv;split at hv
    ·rename_i t' n' off hg;split at hv
     ·rename_i e;injection hv with hv;subst hv;rw [hg,e.1,e.2] at hX;obtain ⟨b,hb,hv⟩:=KF.1 hX;rw [hp] at hb;injection hb with hb;subst hb;exact ⟨p,rfl,hv⟩
     ·cases hv
    ·rename_i t' n' sz off len cap hg;split at hv
     ·rename_i e;injection hv with hv;subst hv;rw [hg,e.1,e.2] at hX;obtain ⟨b,hb,h1,c,h2,h3,hv⟩:=RG.1 hX;rw [hp] at hb;injection hb with hb;subst hb;exact ⟨p,rfl,h1,c,h2,by rw [hz] at h3; exact h3,hv⟩
     ·rename_i e;rw [hg] at hX;refine QU R hB (fun t1 n1 b o hb1 _ ⟨sz1,off1,len1,cap1,hy⟩ h=>e ?_) hX hv fun t n h=>by cases h
      injection hy with e1 e2;subst h;exact R.inj _ _ _ _ _ (by rw [e1,e2]; exact hb1) hp
    ·rename_i f cs hg;split at hv
     ·rename_i hc;injection hv with hv;subst hv;rw [hg,List.isEmpty_iff.1 hc] at hX;exact hX
     ·cases hv
    ·rename_i y h1 h2 h3;exact QU R hB (fun t1 n1 b o _ _ ⟨sz1,off1,len1,cap1,hy⟩=>absurd hy (h2 _ _ _ _ _ _)) hX hv fun t n h=>absurd h (h1 _ _ _)
   ·cases hl
  ·cases h
theorem row_ofz {av:Av} {cs:List AV} {us:List Value} (h:rB av w cs us) {cur:Array Value} (hc:∀ (j:Nat) (u:Value),us[j]?=some u->cur[j]?=some u):aD ι Θ av w (cs.map fun v=>⟨v,OG v⟩) cur:=by
 have h0:=row_of (ι:=ι) (Θ:=Θ) h hc;refine ⟨by simpa using h0.1,fun j x hx=>?_⟩;rw [yc] at hx;obtain ⟨v,hv,rfl⟩:=yl.1 hx;obtain ⟨u,h1,h2,h3,_⟩:=h0.2 j ⟨v,.no⟩ (by rw [yc,hv]; rfl);refine ⟨u,h1,h2,h3,?_⟩;unfold OG;split
 ·rename_i b l hh;simp only at h3;obtain ⟨A,c,hv,_,_,hn,_⟩:=(by simpa [HA,ID] using h3:ID av w (.sl true _) u);obtain ⟨rfl,e1,rfl⟩:=hn rfl;exact ⟨none,0,by rw [hv,e1]⟩
 ·trivial
theorem op_callr (R:DB P O nt B F0 aa w0 D s a w ι Θ) {call:uB} (ib:∀ f args S r,call f args S=some r->LA P O f args S r) {f:FuncId} {Xs:Array Operand} {ts:Array TypeId} {xs:List bB} (hx:kF Xs.toList=some xs) (ho:o.op=.call { callee:=.value (.func f),args:=Xs,argTypes:=ts }) (hd:∀ d,o.dst=some d->d<nt) {cl:Cl} {xe:rA × SC} (hr:(K.callr cl f xs).run call s=some xe) {g} {s':pA} (he:WA.eff ⟨o.dst,.callr cl f xs,g⟩ s xe=some s')
  {Kn:Act->World->Prop} {Q:Exit->Act->World->Prop} (hK:∀ a' w',WD P O nt B F0 aa w0 (fun t=>D t\/o.dst=some t) s' a' w'->Kn a' w'):o.wp P a w Kn Q:=by
 simp only [K.run] at hr;split at hr
 ·rename_i t n _;split at hr
  ·split at hr
   ·rename_i r vs hm hl;split at hr
    ·rename_i bc;obtain ⟨q,hc,hr⟩:=y9.1 hr;split at hr
     ·rename_i cs hq;split at hr
      ·rename_i ia;cases hr;simp only [WA.eff] at he;cases he;obtain ⟨q1,q2⟩:=q;simp only at hq;subst hq;obtain ⟨zc,p,cur,ty,hp,ra,ja,cj,xk⟩:=R.rows t n r hm;have sa:S3 P f vs (some (.agg (r.map (·.v)))) (q1,some (.agg cs)):=ib f (.undef :: .undef :: vs) _ _ hc;have df:∀ x∈r.map (·.v),x.free0=true:=fun x hx=>by
        grind
       have gp:(Xs.toList.map a.eval).toArray=Xs.map a.eval:=by rw [<- Array.toList_map,yX]
       have run:(execOp a.eval o).run P w=.ok (.enter f (Xs.map a.eval)) w:=by
        simp only [execOp,ho,resolve,Act.eval,Deferred.ofValue,Sem.run_bind,Sem.run_pure,Result.andThen_ok,invoke];have:=sa.1 (#[]++Xs.map a.eval++#[]) w;simp_all
       unfold Oper.wp;rw [run,Oper.upon_enter];have hC:=sa.2 (BB aa ι Θ) w _ p cur ty (fun b o h=>R.low h) (fun o=>.inr (.inl (.inl ⟨t,n,hp⟩))) ra (by simpa using ja.1) (by simpa using FG ja.rep df) (UY R hp xk.symm hx hl);rw [gp] at hC;refine hC.mono ?_;rintro e w' ⟨v,ua,uh,rfl,hv,dq,oc,ic,hk⟩;have ko:aD ι Θ (BB aa ι Θ) w' (cs.map fun v=>⟨v,OG v⟩) ua:=row_ofz ic fun j u hu=>by
        grind
       have R':=R.turnRow hp zc dq hk ko cj (oc.trans xk);exact hK _ _ ⟨ι,Θ,(R'.putN (x:=⟨_,.no⟩) hd (cJ hv) trivial).more fun _ h=>.inl h⟩
      ·cases hr
     ·cases hr
    ·cases hr
   ·cases hr
  ·cases hr
 ·cases hr
end
end
section
open Go Go.RowKit
section
variable {P:Program} {O:XE} {nt B:Nat} {F0:BN} {aa:Av} {w0:World} {D:Nat->Prop} {s:pA} {a:Act} {w w':World} {ι:Ix} {Θ:aJ} {o:Oper}
theorem iN {av:Av} {x:AV} (h:x.scal=true):ID av w x x.scalV/\x.scalV.oneCell'=true:=by
 cases x <;> first | (simp [AV.scal] at h; done) | exact ⟨rfl,rfl⟩
theorem zV {av:Av}:∀ {cs:List AV},cs.all AV.scal=true->rB av w cs (cs.map AV.scalV)
 | [],_=>rfl
 | x :: r,h=>by
  simp only [List.all_cons,ye] at h;exact ⟨_,_,rfl,(iN h.1).1,(iN (av:=av) (w:=w) h.1).2,zV h.2⟩
theorem HM {av:Av} {x:AV} (h:x.flat=true):ID av w x x.flatV:=by
 cases x with
 | agg cs=>exact ⟨_,rfl,by simpa using zV (av:=av) (w:=w) h⟩
 | int k n=>exact (iN (x:=.int k n) rfl).1
 | bool b=>exact (iN (x:=.bool b) rfl).1
 | str b=>exact (iN (x:=.str b) rfl).1
 | _=>simp [AV.flat,AV.scal] at h
theorem flat_S {av avb:Av} {x:AV} (h:x.flat=true):GA ι av avb w x x.flatV:=by
 have h1:=HM (av:=av) (w:=w) h;cases x with
 | agg cs=>obtain ⟨us,hv,hc⟩:=h1; exact ⟨us,hv,cD hc⟩
 | _=>first | exact h1 | (simp [AV.flat,AV.scal] at h; done)
theorem CS {av avb:Av} {x:AV} {v:Value} (hf:x.flat=true) (h:GA ι av avb w x v):v=x.flatV:=by
 cases x with
 | agg cs =>
  obtain ⟨us,hv,hc⟩:=h;subst hv;have key:∀ {cs:List AV} {us:List Value},cs.all AV.scal=true->SA ι av w cs us->us=cs.map AV.scalV:=by
   intro cs
   induction cs with
   | nil=>intro us _ h; simpa [SA] using h
   | cons x r ih =>
    intro us hf h;simp only [SA] at h;obtain ⟨u,db,rfl,h0,_,h⟩:=h;simp only [List.all_cons,ye] at hf;rw [yk,ih hf.2 h];congr 1;cases x <;> first | exact h0 | (simp [AV.scal] at hf; done)
  have:=key hf hc;show Value.agg us=.agg (cs.map AV.scalV).toArray;rw [<- this,yX]
 | int k n=>exact h
 | bool b=>exact h
 | str b=>exact h
 | _=>simp [AV.flat,AV.scal] at hf
theorem avC_flat {v:Value} {x:AV} (h:avC v=some x) (hf:x.flat=true):v=x.flatV :=
 CS (ι:=Ix.none) (av:=fun _ _=>False) (avb:=fun _ _=>False) (w:=default) hf (O9 h _ _ _ _)
theorem J7 (a b:ByteArray):(a == b)=decide (a=b):=by
 obtain ⟨a⟩:=a;obtain ⟨b⟩:=b;rw [Bool.eq_iff_iff];simp only [decide_eq_true_eq,ByteArray.mk.injEq];exact beq_iff_eq (α:=Array UInt8)
def FF {κ:Type} [DecidableEq κ] (L:List (κ × Value)) (n:κ) (m:Nat):Option (Nat × Value):=((L.map (·.1)).idxOf? n).bind fun i=>(L[i]?).map fun p=>(m + i,p.2)
theorem pM {κ:Type} [DecidableEq κ] (p:κ × Value) (L:List (κ × Value)) (n:κ) (m:Nat):FF (p :: L) n m=if n=p.1 then some (m,p.2) else FF L n (m + 1):=by
 unfold FF;simp only [yk,List.idxOf?_cons];by_cases hk:n=p.1
 ·subst hk; simp
 ·have hb:(p.1 == n)=false:=by simpa using fun e:p.1=n=>hk e.symm
  simp only [hb,hk,if_false];cases hi:List.idxOf? n (List.map (fun x=>x.1) L) with
  | none=>simp
  | some i=>simp [Nat.add_assoc,Nat.add_comm 1 i]
theorem eW (k:IntKind) (n:Int):∀ (es:List MapEntry) (L:List (Int × Value)) (m:Nat),es.map (fun e=>(e.key,e.val))=L.map (fun p=>(Value.int k p.1,p.2)) →
   Instr.findNow (.int k) (.int k n) es m=some (FF L n m)
 | [],[],m,_=>by simp [Instr.findNow,FF]
 | [],_ :: _,_,h=>by simp at h
 | _ :: _,[],_,h=>by simp at h
 | e :: es,p :: L,m,h=>by
  simp only [yk,List.cons.injEq,Prod.mk.injEq] at h;obtain ⟨⟨h1,h2⟩,h3⟩:=h;have ih:=eW k n es L (m + 1) h3;have hs:Instr.sameNow (.int k) (.int k n) e.key=some (n == p.1):=by rw [h1]; simp [Instr.sameNow]
  simp only [Instr.findNow,hs,pM];by_cases hk:n=p.1
  ·subst hk; simp [h2]
  ·have jb:(n == p.1)=false:=by simpa using hk
   simp only [jb,ih,hk,if_false]
theorem rW (n:ByteArray):∀ (es:List MapEntry) (L:List (ByteArray × Value)) (m:Nat),es.map (fun e=>(e.key,e.val))=L.map (fun p=>(Value.string p.1,p.2)) →
   Instr.findNow .string (.string n) es m=some (FF L n m)
 | [],[],m,_=>by simp [Instr.findNow,FF]
 | [],_ :: _,_,h=>by simp at h
 | _ :: _,[],_,h=>by simp at h
 | e :: es,p :: L,m,h=>by
  simp only [yk,List.cons.injEq,Prod.mk.injEq] at h;obtain ⟨⟨h1,h2⟩,h3⟩:=h;have ih:=rW n es L (m + 1) h3;have hs:Instr.sameNow .string (.string n) e.key=some (decide (n=p.1)):=by
   rw [h1];simp only [Instr.sameNow,J7]
  simp only [Instr.findNow,hs,pM];by_cases hk:n=p.1
  ·subst hk; simp [h2]
  ·simp only [hk,decide_false,ih,if_false]
theorem Q4 {T:TypeId} {k:IntKind} (u:P.underlying T=some (.int k)):MO P T (fun n:Int=>Value.int k n) where
 check empty n w:=by
  have hq:∀ (d:Nat),(Instr.checkKey empty (d + 1) T (.int k n)).run P w=.ok () w:=fun d=>by simp [Instr.checkKey,run_underlying u]
  exact hq 9999
 find n es L w h:=by
  simp only [Instr.findKey,Sem.run_bind,run_underlying u,Result.andThen_ok,eW k n es L 0 h,FF,yr,Sem.run_pure]
 same n:=by
  have hq:∀ (d:Nat),Instr.sameBits (d + 1) (.int k n) (.int k n)=true:=fun d=>by simp [Instr.sameBits]
  exact hq 9999
theorem W4 {T:TypeId} (u:P.underlying T=some .string):MO P T Value.string where
 check empty n w:=by
  have hq:∀ (d:Nat),(Instr.checkKey empty (d + 1) T (.string n)).run P w=.ok () w:=fun d=>by simp [Instr.checkKey,run_underlying u]
  exact hq 9999
 find n es L w h:=by
  simp only [Instr.findKey,Sem.run_bind,run_underlying u,Result.andThen_ok,rW n es L 0 h,FF,yr,Sem.run_pure]
 same n:=by
  have hq:∀ (d:Nat),Instr.sameBits (d + 1) (.string n) (.string n)=true:=fun d=>by simp [Instr.sameBits,J7]
  exact hq 9999
structure KQ (ty:KTy) (κ:Type) [DecidableEq κ] (ke:κ->Value) (kx:κ->AV):Prop where
 val:∀ a,(kx a).flatV=ke a
 eq:∀ a b,lR (kx a) (kx b)=decide (a=b)
 of:∀ x,GH ty x=true->∃ a,x=kx a
 flat:∀ a,(kx a).flat=true
section
variable {κ:Type} [DecidableEq κ] {ke:κ->Value} {kx:κ->AV} {ty:KTy}
theorem P2 (K:KQ ty κ ke kx) (n:κ):∀ M:List (κ × AV),MI (M.map fun p=>[kx p.1,p.2]) (kx n)=GJ M n
 | []=>rfl
 | p :: r=>by
  simp only [yk,MI,GJ,K.eq,decide_eq_true_eq,P2 K n r];by_cases h:p.1=n
  ·rw [if_pos h,if_pos h.symm]
  ·rw [if_neg h,if_neg fun e=>h e.symm]
theorem D2 (K:KQ ty κ ke kx) (n:κ) (v:AV):∀ M:List (κ × AV),IH (M.map fun p=>[kx p.1,p.2]) (kx n) v=(U1 M n v).map fun p=>[kx p.1,p.2]
 | []=>rfl
 | p :: r=>by
  simp only [yk,IH,U1,K.eq,decide_eq_true_eq,D2 K n v r];by_cases h:p.1=n
  ·rw [if_pos h,if_pos h.symm]; rfl
  ·rw [if_neg h,if_neg fun e=>h e.symm]; rfl
theorem dY (g:AV->Value) (n:κ):∀ M:List (κ × AV),GJ (M.map fun p=>(p.1,g p.2)) n=(GJ M n).map g
 | []=>rfl
 | p :: r=>by
  simp only [yk,GJ,dY g n r];split <;> rfl
theorem d7 (g:AV->Value) (n:κ) (v:AV):∀ M:List (κ × AV),U1 (M.map fun p=>(p.1,g p.2)) n (g v)=(U1 M n v).map fun p=>(p.1,g p.2)
 | []=>rfl
 | p :: r=>by
  simp only [yk,U1,d7 g n v r];split <;> rfl
theorem I2 (K:KQ ty κ ke kx):∀ L:List (List AV),aM ty L=true->∃ M:List (κ × AV),L=M.map (fun p=>[kx p.1,p.2])/\∀ p∈M,p.2.flat=true
 | [],_=>⟨[],rfl,fun _ h=>by cases h⟩
 | e :: r,h=>by
  unfold aM at h;simp only [List.all_cons,ye] at h;obtain ⟨M,hM,hf⟩:=I2 K r h.2;have h1:=h.1;split at h1
  ·rename_i k v;simp only [ye] at h1;obtain ⟨n,rfl⟩:=K.of k h1.1;exact ⟨(n,v) :: M,by rw [hM]; rfl,fun p hp=>by
    rcases yw.1 hp with rfl | hp
    ·exact h1.2
    ·exact hf p hp⟩
  ·cases h1
theorem O2 (K:KQ ty κ ke kx) (M:List (κ × AV)):(M.map fun p=>[kx p.1,p.2]).map entV=(M.map fun p=>(p.1,p.2.flatV)).map fun p=>(ke p.1,p.2):=by
 rw [y5,y5];apply yH;intro p _;simp [entV,K.val]
end
theorem cU (k:IntKind):KQ (.some k) Int (fun n=>Value.int k n) (fun n=>.int k n) where
 val _:=rfl
 eq a b:=by simp [lR]
 of x h:=by
  cases x <;> first | (simp [GH] at h; done) | (simp only [GH,decide_eq_true_eq] at h; subst h; exact ⟨_,rfl⟩)
 flat _:=rfl
theorem bU:KQ .none ByteArray Value.string AV.str where
 val _:=rfl
 eq a b:=by simp [lR]
 of x h:=by
  cases x <;> first | (simp [GH] at h; done) | exact ⟨_,rfl⟩
 flat _:=rfl
inductive KV where
 | i (k:IntKind) (n:Int)
 | s (b:ByteArray)
 deriving DecidableEq
def KV.av:KV->AV
 | .i k n=>.int k n
 | .s b=>.str b
def KV.kd:KV->Option IntKind
 | .i k _=>some k
 | .s _=>none
abbrev AKey (l:List (Option IntKind)):={ a:List KV // a.map KV.kd=l }
theorem U2:∀ a b:List KV,mY (a.map KV.av) (b.map KV.av)=decide (a=b)
 | [],[]=>rfl
 | [],b :: r=>by cases b <;> rfl
 | a :: r,[]=>by cases a <;> rfl
 | a :: r,b :: r'=>by
  have ih:=U2 r r';cases a <;> cases b <;> simp [KV.av,mY,ih,Bool.decide_and]
theorem zU:∀ (l:List (Option IntKind)) (cs:List AV),EP l cs=true->∃ a:List KV,a.map KV.kd=l/\cs=a.map KV.av
 | [],[],_=>⟨[],rfl,rfl⟩
 | [],_ :: _,h=>by simp [EP] at h
 | k :: r,[],h=>by cases k <;> simp [EP] at h
 | k :: r,c :: cs,h=>by
  cases k with
  | none =>
   cases c <;> simp only [EP] at h <;> first | (cases h; done) | skip
   rename_i b;obtain ⟨a,h1,h2⟩:=zU r cs h;exact ⟨.s b :: a,by simp [KV.kd,h1],by simp [KV.av,h2]⟩
  | some k =>
   cases c <;> simp only [EP] at h <;> first | (cases h; done) | skip
   rename_i k' n;simp only [ye,decide_eq_true_eq] at h;obtain ⟨rfl,h⟩:=h;obtain ⟨a,h1,h2⟩:=zU r cs h;exact ⟨.i k n :: a,by simp [KV.kd,h1],by simp [KV.av,h2]⟩
theorem kv_scal (a:List KV):(a.map KV.av).all AV.scal=true:=by
 simp only [List.all_map,y8];intro x _;cases x <;> rfl
theorem xU (l:List (Option IntKind)):KQ (.agg l) (AKey l) (fun a=>.agg ((a.1.map KV.av).map AV.scalV).toArray) (fun a=>.agg (a.1.map KV.av)) where
 val _:=rfl
 eq a b:=by
  simp only [lR,U2];by_cases h:a.1=b.1
  ·rw [decide_eq_true h,decide_eq_true (Subtype.ext h)]
  ·rw [decide_eq_false h,decide_eq_false fun e=>h (congrArg Subtype.val e)]
 of x h:=by
  cases x <;> first | (simp [GH] at h; done) | skip
  rename_i cs;obtain ⟨a,h1,h2⟩:=zU l cs h;exact ⟨⟨a,h1⟩,by rw [h2]⟩
 flat a:=kv_scal a.1
theorem eqC_kv:∀ a b:List KV,a.map KV.kd=b.map KV.kd->FJ ((a.map KV.kd).map hJ) (a.map KV.av) (b.map KV.av)=some (decide (a=b))
 | [],[],_=>rfl
 | [],_ :: _,h=>by simp at h
 | _ :: _,[],h=>by simp at h
 | a :: r,b :: r',h=>by
  simp only [yk,List.cons.injEq] at h;have ih:=eqC_kv r r' h.2;cases a <;> cases b <;> simp only [KV.kd,reduceCtorEq,Option.some.injEq,false_and] at h
  ·obtain ⟨rfl,h⟩:=h;rename_i n m;by_cases e:n=m
   ·subst e; simp [KV.kd,KV.av,hJ,FJ,ih,-y5]
   ·simp [KV.kd,KV.av,hJ,FJ,e]
  ·rename_i n m;by_cases e:n=m
   ·subst e; simp [KV.kd,KV.av,hJ,FJ,ih,-y5]
   ·simp [KV.kd,KV.av,hJ,FJ,e]
theorem NP {t:TypeId} {ks:List Nat} (h:bR P t=some ks):nG P 8 t=some ks/\xI P t=some true:=by
 unfold bR at h;split at h
 ·cases h
 ·split at h
  ·rename_i ur; exact ⟨h,by simp [xI,ur]⟩
  ·rename_i ur; exact ⟨h,by simp [xI,ur]⟩
  ·cases h
theorem equal_kv {T:TypeId} {l:List (Option IntKind)} (ht:bR P T=some (l.map hJ)) (a b:AKey l) (w:World) :
  (Op.equal T (.agg ((a.1.map KV.av).map AV.scalV).toArray) (.agg ((b.1.map KV.av).map AV.scalV).toArray)).run P w=.ok (decide (a=b)) w:=by
 obtain ⟨hk,hA⟩:=NP ht;have he:=eqC_kv a.1 b.1 (a.2.trans b.2.symm);rw [a.2] at he;have hd:decide (a.1=b.1)=decide (a=b):=by
  by_cases h:a.1=b.1
  ·rw [decide_eq_true h,decide_eq_true (Subtype.ext h)]
  ·rw [decide_eq_false h,decide_eq_false fun e=>h (congrArg Subtype.val e)]
 rw [hd] at he;have hl:∀ c:AKey l,SA Ix.none (fun _ _=>False) w (c.1.map KV.av) (((c.1.map KV.av).map AV.scalV).toArray.toList.take (l.map hJ).length):=fun c=>by
  rw [yS (by simp [<- c.2])];exact cD (zV (kv_scal c.1))
 exact (mV (ι:=Ix.none) (av:=fun _ _=>False) (fun t ks h=>nU 7 t ks h) 9992 hk hA (hl a) (hl b) he).2
theorem bN (em:Bool) (w:World):∀ (n:Nat) (t:TypeId) (ks:List Nat),nG P n t=some ks->∀ (d:Nat) (us:Array Value) (off:Nat),off + ks.length<=us.size->(∃ a,(part t us off).run P w=.ok a w/\(Instr.checkKey em (d + n) t a).run P w=.ok () w)/\(xI P t=some true->off=0->(Instr.checkKey em (d + n) t (.agg us)).run P w=.ok () w)
 | 0,_,_,h=>by cases h
 | n + 1,t,ks,hk=>by
  intro d us off sb;have whole:xI P t=some true->∀ vs:Array Value,ks.length<=vs.size->CB P t=some ks.length/\(Instr.checkKey em (d + (n + 1)) t (.agg vs)).run P w=.ok () w:=by
   intro hA vs hvs;unfold nG at hk;split at hk
   ·rename_i k ge;unfold xI at hA;unfold DZ at ge;split at ge <;> first | (cases ge; done) | (rename_i ht _; rw [ht] at hA; injection hA with hA; cases hA) | (rename_i ht; rw [ht] at hA; injection hA with hA; cases hA)
   ·split at hk
    ·rename_i m e ht;obtain ⟨l,hl,hk⟩:=y9.1 hk;split at hk
     ·rename_i hc;injection hk with hk;subst hk;obtain ⟨i,hi⟩:=rT hc.2.1;refine ⟨hc.2.2,?_⟩;have oc:i.size=l.length:=by
       have:=hc.2.1;simp only [CB,hi,yt,Option.some.injEq] at this;exact this
      have fi:(yx m l).flatten.length=m * l.length:=by simp
      rw [show d + (n + 1)=(d + n) + 1 from rfl,Instr.checkKey];simp only [Sem.run_bind,run_underlying ht,Result.andThen_ok];simp only [Std.Legacy.Range.forIn_eq_forIn_range',Std.Legacy.Range.size,Nat.sub_zero,Nat.add_one_sub_one,Nat.div_one];have each:∀ j∈List.range' 0 m,∃ a,(part e vs (j * P.cellsOf e)).run P w=.ok a w/\(Instr.checkKey em (d + n) e a).run P w=.ok () w:=fun j hj=>by
       have hjm:j<m:=by simpa using hj
       refine (bN em w n e l hl d vs (j * P.cellsOf e) ?_).1;rw [hc.1,<- yM];rw [fi] at hvs;exact yB (Y02 _ hjm) hvs
      generalize List.range' 0 m=is at each
      induction is with
      | nil=>simp
      | cons j is ih =>
       obtain ⟨a,p1,p2⟩:=each j (by simp);simp only [List.forIn_cons,Sem.run_bind,run_sizeOf w hi,Result.andThen_ok,p1,p2,Sem.run_pure];exact ih (fun y hy=>each y (by simp [hy]))
     ·cases hk
    ·rename_i fs ht;split at hk
     ·cases hk
     ·obtain ⟨l,hl,hk⟩:=y9.1 hk;split at hk
      ·rename_i hc;injection hk with hk;subst hk;refine ⟨hc,?_⟩;rw [show d + (n + 1)=(d + n) + 1 from rfl,Instr.checkKey];simp only [Sem.run_bind,run_underlying ht,Result.andThen_ok];rw [<- Array.forIn_toList];have go:∀ (L:List Field) (i:Nat) (l:List Nat),aQ (nG P n) i L=some l->i + l.length<=vs.size->∀ f∈L,f.name≠"_"/\∃ a,(part f.type vs f.offset).run P w=.ok a w/\(Instr.checkKey em (d + n) f.type a).run P w=.ok () w:=by
        intro L
        induction L with
        | nil=>intro i l _ _ f hf; cases hf
        | cons g L ih =>
         intro i l hl sb f hf;unfold aQ at hl;obtain ⟨l1,h1,hl⟩:=y9.1 hl;split at hl
         ·rename_i hn;obtain ⟨l2,h2,rfl⟩:=yl.1 hl;rw [yb] at sb;rcases yw.1 hf with rfl | hf
          ·exact ⟨hn.1,(bN em w n _ l1 h1 d vs f.offset (by rw [hn.2]; omega)).1⟩
          ·exact ih (i + l1.length) l2 h2 (by omega) f hf
         ·cases hl
       have each:=go fs.toList 0 l hl (by omega);clear go hl;generalize fs.toList=L at each
       induction L with
       | nil=>simp
       | cons f L ih =>
        obtain ⟨hn,a,p1,p2⟩:=each f (by simp);simp only [List.forIn_cons,Sem.run_bind,hn,ne_eq,not_false_eq_true,if_true,Result.andThen_ok,p1,p2,Sem.run_pure];exact ih (fun y hy=>each y (by simp [hy]))
      ·cases hk
    ·cases hk
  refine ⟨?_,fun hA h0=>(whole hA us (by omega)).2⟩;by_cases hA:xI P t=some true
  ·obtain ⟨h1,h2⟩:=whole hA (us.extract off (off + ks.length)) (by simp; omega);exact ⟨_,(ZR hA h1 us off).1,h2⟩
  ·have rg:=hk;unfold nG at hk;split at hk
   ·rename_i k ge;injection hk with hk;subst hk;simp only [yA,List.length_nil] at sb;have hu:us[off]?=some us[off]:=Y06 (by omega);have hp:=(Q7 (w:=w) 0 ge hu hu).1;refine ⟨_,hp,?_⟩;unfold DZ at ge;rw [show d + (n + 1)=(d + n) + 1 from rfl];split at ge
    ·rename_i ht _; simp [Instr.checkKey,run_underlying ht]
    ·rename_i ht _; simp [Instr.checkKey,run_underlying ht]
    ·rename_i ht _; simp [Instr.checkKey,run_underlying ht]
    ·cases ge
   ·split at hk
    ·rename_i ht; exact absurd (by simp [xI,ht]) hA
    ·rename_i ht; exact absurd (by simp [xI,ht]) hA
    ·cases hk
theorem find_kv {T:TypeId} {l:List (Option IntKind)} (ht:bR P T=some (l.map hJ)) (a:AKey l) (w:World):∀ (es:List MapEntry) (L:List (AKey l × Value)) (m:Nat),es.map (fun e=>(e.key,e.val))=L.map (fun p=>(Value.agg ((p.1.1.map KV.av).map AV.scalV).toArray,p.2)) →
  (Instr.findAsking T (.agg ((a.1.map KV.av).map AV.scalV).toArray) es m).run P w=.ok (FF L a m) w
 | [],[],m,_=>by simp [Instr.findAsking,FF]
 | [],_ :: _,_,h=>by simp at h
 | _ :: _,[],_,h=>by simp at h
 | e :: es,p :: L,m,h=>by
  simp only [yk,List.cons.injEq,Prod.mk.injEq] at h;obtain ⟨⟨h1,h2⟩,h3⟩:=h;have ih:=find_kv ht a w es L (m + 1) h3;have he:=equal_kv (P:=P) ht a p.1 w;simp only [Instr.findAsking,Sem.run_bind,h1,he,Result.andThen_ok,pM,Sem.run_ite];by_cases hk:a=p.1
  ·simp [hk,h2]
  ·simp [hk,ih,-y5]
theorem j4 {T:TypeId} {l:List (Option IntKind)} (ht:bR P T=some (l.map hJ)):MO P T (fun a:AKey l=>Value.agg ((a.1.map KV.av).map AV.scalV).toArray) where
 check empty a w:=by
  obtain ⟨hk,hA⟩:=NP ht;exact (bN empty w 8 T _ hk 9992 _ 0 (by simp [<- a.2])).2 hA rfl
 find a es L w h:=by
  have hu:∃ desc,P.underlying T=some desc/\∀ x e,Instr.sameNow desc (.agg x) e=none:=by
   obtain ⟨hk,hA⟩:=NP ht;unfold xI at hA;cases hd:P.underlying T with
   | none=>rw [hd] at hA; cases hA
   | some desc =>
    refine ⟨desc,rfl,fun x e=>?_⟩;cases desc <;> rfl
  obtain ⟨desc,hu,hn⟩:=hu;cases es with
  | nil =>
   cases L with
   | nil=>simp [Instr.findKey,run_underlying hu,Instr.findNow]
   | cons=>simp at h
  | cons e es =>
   have:=find_kv ht a w (e :: es) L 0 h;simp only [Instr.findKey,Sem.run_bind,run_underlying hu,Result.andThen_ok,Instr.findNow,hn,this,FF,yr]
 same a:=by
  have hq:∀ l:List KV,(((l.map KV.av).map AV.scalV).zip ((l.map KV.av).map AV.scalV)).all (fun (x,y)=>Instr.sameBits 9999 x y)=true:=by
   intro l
   induction l with
   | nil=>rfl
   | cons c r ih =>
    simp only [yk,List.zip_cons_cons,List.all_cons,ih,Bool.and_true];cases c <;> simp [KV.av,AV.scalV,Instr.sameBits,J7]
  show Instr.sameBits (9999 + 1) _ _=true;simp only [Instr.sameBits,beq_self_eq_true,Bool.true_and];exact hq a.1
theorem zero_run {e:TypeId} {z:AV} (h:((P.info? e).bind (·.zero)).bind avC=some z) (w:World):∃ zv,(zeroValue e).run P w=.ok zv w/\avC zv=some z:=by
 obtain ⟨zv,h1,h2⟩:=y9.1 h;obtain ⟨i,hi,hz⟩:=y9.1 h1;exact ⟨zv,by simp [zeroValue,typeInfo,hi,hz],h2⟩
theorem P6 {κ:Type} [DecidableEq κ] {ke:κ->Value} {kx:κ->AV} {ty:KTy} (R:DB P O nt B F0 aa w0 D s a w ι Θ) (K:KQ ty κ ke kx) {t n:Nat} {v:Value} (hv:GA ι (BB aa ι Θ) (eC ι Θ) w (.mp t n) v) {L:List (List AV)} (hL:(s.obj t n).bind JH=some L) (hk:aM ty L=true) :
  ∃ (b:Nat) (H:Nat->Prop) (M:List (κ × AV)),v=.map (some b)/\ι t n=some b/\ι.ob t n=some H/\(∀ x,H x ↔ x=b)/\L=M.map (fun p=>[kx p.1,p.2])/\(∀ p∈M,p.2.flat=true)/\CN ke w b (M.map fun p=>(p.1,p.2.flatV))/\∃ es clock,w.heap[b]?=some (.map es clock)/\K3 es clock:=by
 obtain ⟨b,hb,rfl⟩:=hv;obtain ⟨S,hS,hm⟩:=y9.1 hL;obtain ⟨p,H,hp,ub,jd,_⟩:=R.objs t n S hS;rw [hb] at hp;injection hp with hp;subst hp;have zw:S=QG L:=by
  unfold JH at hm;split at hm
  ·injection hm with hm; subst hm; rfl
  ·cases hm
 subst zw;obtain ⟨hH,es,clock,he,mh,ac⟩:=(O.maps L H b w).1 jd;obtain ⟨M,rfl,hf⟩:=I2 K L hk;exact ⟨b,H,M,rfl,hb,ub,hH,rfl,hf,⟨es,clock,he,mh.trans (O2 K M)⟩,es,clock,he,ac⟩
theorem Q2 {κ:Type} [DecidableEq κ]:∀ {M:List (κ × AV)} {n:κ} {x:AV},(∀ p∈M,p.2.flat=true)->GJ M n=some x->x.flat=true
 | [],_,_,_,h=>by cases h
 | p :: r,n,x,hf,h=>by
  unfold GJ at h;split at h
  ·injection h with h; subst h; exact hf p yp
  ·exact Q2 (fun q hq=>hf q (yG _ hq)) h
theorem OY {κ:Type} [DecidableEq κ] {ke:κ->Value} {kx:κ->AV} {ty:KTy} (R:DB P O nt B F0 aa w0 D s a w ι Θ) (K:KQ ty κ ke kx) {T kT eT:TypeId} (KL:MO P kT ke) (hT:P.underlying T=some (.map kT eT)) {zero:AV} (hz:((P.info? eT).bind (·.zero)).bind avC=some zero) (hzf:zero.flat=true)
  {X I:Operand} {y i:bB} (hx:opd X=some y) (hi:opd I=some i) {ok:Bool} (ho:o.op=.lookup T X I ok) {t n:Nat} (hy:y.get s=.mp t n) {L:List (List AV)} (hL:(s.obj t n).bind JH=some L) (hk:aM ty L=true) (ou:GH ty (i.get s)=true) :
  pS P aa a w ι Θ o ⟨if ok then .tup [(MI L (i.get s)).getD zero,.bool (MI L (i.get s)).isSome] else (MI L (i.get s)).getD zero,.no⟩:=by
 have hX:=(R.opd hx).1;have hI:=(R.opd hi).1;rw [hy] at hX;obtain ⟨b,H,M,hv,hb,ub,hH,rfl,hf,jd,_⟩:=P6 R K hX hL hk;obtain ⟨k,hkx⟩:=K.of _ ou;rw [hkx] at hI ⊢;have hkf:(kx k).flat=true:=K.flat k;have hIv:a.eval I=ke k:=(CS hkf hI).trans (K.val k);obtain ⟨zv,hzr,hzc⟩:=zero_run hz w;have hzv:=avC_flat hzc hzf;rw [P2 K];have wi:(GJ (M.map fun p=>(p.1,p.2.flatV)) k).getD zv=((GJ M k).getD zero).flatV:=by
  rw [dY,hzv];cases GJ M k <;> rfl
 have ll:((GJ M k).getD zero).flat=true:=by
  cases hg:GJ M k with
  | none=>exact hzf
  | some x=>exact Q2 hf hg
 cases ok with
 | false =>
  have na:=jd.lookup KL hT hzr k;rw [wi] at na;refine ⟨((GJ M k).getD zero).flatV,by simp only [execOp,ho,hv,hIv,Sem.run_bind,na,Result.andThen_ok,Sem.run_pure],?_,trivial⟩;exact flat_S ll
 | true =>
  have na:=jd.lookup_ok KL hT hzr k;rw [wi] at na;have po:(GJ (M.map fun p=>(p.1,p.2.flatV)) k).isSome=(GJ M k).isSome:=by rw [dY]; cases GJ M k <;> rfl
  rw [po] at na;refine ⟨.tuple #[((GJ M k).getD zero).flatV,.bool (GJ M k).isSome],by simp only [execOp,ho,hv,hIv,Sem.run_bind,na,Result.andThen_ok,Sem.run_pure],?_,trivial⟩;refine ⟨_,rfl,_,_,rfl,?_,_,_,rfl,rfl,rfl⟩;exact fG (HM ll)
theorem CN.updateS {κ:Type} [DecidableEq κ] {P:Program} {T kT eT:TypeId} {ke:κ->Value} {w:World} {m:Nat} {L:List (κ × Value)} (h:CN ke w m L) (K:MO P kT ke) (hT:P.underlying T=some (.map kT eT)) {es0:Array MapEntry} {cl0:Nat} (h0:w.heap[m]?=some (.map es0 cl0)) (ac:K3 es0 cl0) (k:κ) (v:Value) :
  ∃ es clock,(Instr.mapUpdate T (.map (some m)) (ke k) v).run P w=.ok () { w with heap:=w.heap.setIfInBounds m (.map es clock) }/\es.toList.map (fun e=>(e.key,e.val))=(U1 L k v).map (fun p=>(ke p.1,p.2))/\K3 es clock:=by
 obtain ⟨es,clock,h1,h2⟩:=h;rw [h1] at h0;injection h0 with h0;injection h0 with e1 e2;subst e1;subst e2;obtain ⟨s1,s2⟩:=ac;have hg:(getObj m).run P w=.ok (.map es clock) w:=by simp [getObj,Sem.run,h1]
 have hf:=K.find k es.toList L w h2;have hi:=idx_set L k v;have hl:es.toList.length=L.length:=by simpa using congrArg List.length h2
 cases hq:(L.map (·.1)).idxOf? k with
 | none =>
  rw [hq] at hf hi;refine ⟨es.push { key:=ke k,val:=v,born:=clock },clock + 1,?_,by rw [hi]; simp [h2],by simp [s1],fun i h=>?_⟩
  case refine_2 =>
   simp only [Array.size_push] at h;simp only [Array.getElem_push];split
   ·exact s2 _ _
   ·show clock=i;omega
  case refine_1 =>
   simp only [Instr.mapUpdate,Sem.run_bind,run_underlying hT,Result.andThen_ok,hg,K.check,hf,Option.bind_none];simp [setObj,Sem.run,h1]
 | some i =>
  rw [hq] at hf hi;have aj:i<L.length:=by have:=List.idxOf?_eq_some_iff.1 hq; simpa using this.1
  have hk:(L[i]).1=k:=by have:=List.idxOf?_eq_some_iff.1 hq; simpa using this.2.1
  have hie:i<es.size:=by
   have:es.size=L.length:=by simpa using hl
   omega
  have ou:(es[i]).key=ke k:=by
   have:=congrArg (fun l=>(l[i]?).map (·.1)) h2;simp only [yc,Array.getElem?_toList,Y06 hie,yt,yg aj,hk,Option.some.injEq] at this;exact this
  refine ⟨es.modify i fun e=>{ e with key:=ke k,val:=v },clock,?_,?_,by simp [s1],fun j h=>?_⟩
  case refine_3 =>
   simp only [Array.getElem_modify];split <;> exact s2 _ _
  case refine_1 =>
   have hL:L[i]?=some L[i]:=yg aj;have he:es[i]?=some es[i]:=Y06 hie;simp only [Instr.mapUpdate,Sem.run_bind,run_underlying hT,Result.andThen_ok,hg,K.check,hf,J,hL,yt,he,Option.getD_some,ou];simp [Instr.keyThatStays,K.same,setObj,Sem.run,h1]
  case refine_2 =>
   rw [hi];apply List.ext_getElem?;intro j;have hj:=congrArg (fun l=>l[j]?) h2;simp only [yc,Array.getElem?_toList] at hj;simp only [yc,Array.getElem?_toList,Array.getElem?_modify,List.getElem?_set];by_cases hij:i=j
   ·subst hij;simp [Y06 hie,aj]
   ·simp only [if_neg hij];exact hj
theorem XM {κ:Type} [DecidableEq κ] {ke:κ->Value} {kx:κ->AV} {ty:KTy} (R:DB P O nt B F0 aa w0 D s a w ι Θ) (K:KQ ty κ ke kx) {T kT eT:TypeId} (KL:MO P kT ke) (hT:P.underlying T=some (.map kT eT))
  {X I Y:Operand} {x i y:bB} (hx:opd X=some x) (hi:opd I=some i) (hyo:opd Y=some y) (ho:o.op=.mapUpdate T X I Y\/o.op=.insert T X I Y) (hd:∀ d,o.dst=some d->d<nt) {t n:Nat} (md:x.get s=.mp t n) {L:List (List AV)} (hL:(s.obj t n).bind JH=some L) (hk:aM ty L=true) (ou:GH ty (i.get s)=true) (hvf:(y.get s).flat=true) :
  ∃ w',(execOp a.eval o).run P w=.ok .skip w'/\WD P O nt B F0 aa w0 D ((s.setObj t n (QG (IH L (i.get s) (y.get s)))).put o.dst ⟨.undef,.no⟩) (a.put o.dst undef) w':=by
 have hX:=(R.opd hx).1;have hI:=(R.opd hi).1;have hY:=CS hvf (R.opd hyo).1;rw [md] at hX;obtain ⟨b,H,M,hv,hb,ub,hH,rfl,hf,jd,es0,cl0,hes0,hst0⟩:=P6 R K hX hL hk;obtain ⟨k,hkx⟩:=K.of _ ou;rw [hkx] at hI ⊢;have hkf:(kx k).flat=true:=K.flat k;have hIv:a.eval I=ke k:=(CS hkf hI).trans (K.val k);have ba:=jd.lt;obtain ⟨es,clock,na,mh,ac⟩:=jd.updateS KL hT hes0 hst0 k (y.get s).flatV;rw [d7] at mh;have wk:O.at_ (QG (IH (M.map fun p=>[kx p.1,p.2]) (kx k) (y.get s))) H b { w with heap:=w.heap.setIfInBounds b (.map es clock) }:=by
  refine (O.maps _ _ _ _).2 ⟨hH,es,clock,by simp [ba],?_,ac⟩;rw [D2 K,O2 K];exact mh
 have nf:ZA H w { w with heap:=w.heap.setIfInBounds b (.map es clock) }:=⟨rfl,rfl,rfl,by simp,fun j _ hn=>by
  have:j≠b:=fun e=>hn ((hH j).2 e)
  simp only [Array.getElem?_setIfInBounds];rw [if_neg fun e:b=j=>this e.symm]⟩
 obtain ⟨ι',R2,_⟩:=R.turnObj hb ub wk (W5.no rfl) (fun x hx=>.inl hx) nf;refine ⟨_,by rcases ho with ho | ho <;> simp only [execOp,ho,hv,hIv,hY,Sem.run_bind,na,Result.andThen_ok,Sem.run_pure],ι',Θ,R2.putN (x:=⟨.undef,.no⟩) hd trivial trivial⟩
section
variable (R:DB P O nt B F0 aa w0 D s a w ι Θ)
include R
theorem op_mkm {T:TypeId} (ho:o.op=.makeMap T none) {d:Nat} (ka:o.dst=some d) (hd:d<nt) (hD:¬ D d) :
  ∃ v w',(execOp a.eval o).run P w=.ok (.value v) w'/\WD P O nt B F0 aa w0 (fun t=>D t\/t=d) ((s.setObj d s.next (QG [])).put (some d) ⟨.mp d s.next,.no⟩) (a.put o.dst v) w':=by
 have na:(execOp a.eval o).run P w=.ok (.value (.map (some w.heap.size))) (w.alloc (.map #[] 0)):=by
  simp [execOp,ho,Instr.makeMap]
 have hb:Below w.heap.size w (w.alloc (.map #[] 0)):=Below.alloc (Below.refl _ _) (yf _) _;obtain ⟨ι',R2,hι,_⟩:=R.newObj (d:=d) (p:=w.heap.size) (H:=fun b=>b=w.heap.size) (S:=QG []) hb hD ((O.maps _ _ _ _).2 ⟨fun b=>Iff.rfl,#[],0,OR rfl,rfl,rfl,fun i h=>absurd h (by simp)⟩) (W5.no rfl) (fun b h=>Nat.le_of_eq h.symm);rw [ka];exact ⟨_,_,na,ι',Θ,R2.put (x:=⟨.mp d s.next,.no⟩) hd ⟨_,hι,rfl⟩ trivial⟩
theorem op_rng {T kT eT:TypeId} (hT:P.underlying T=some (.map kT eT)) {X:Operand} {x:bB} (hx:opd X=some x) (ho:o.op=.range T X) {t n:Nat} (md:x.get s=.mp t n) {L:List (List AV)} (hL:(s.obj t n).bind JH=some L) {d:Nat} (ka:o.dst=some d) (hd:d<nt) (hD:¬ D d) :
  ∃ v w',(execOp a.eval o).run P w=.ok (.value v) w'/\WD P O nt B F0 aa w0 (fun t=>D t\/t=d) ((s.setObj d s.next (i4 t n L.length [])).put (some d) ⟨.ptr d s.next 0,.no⟩) (a.put o.dst v) w':=by
 have hX:=(R.opd hx).1;rw [md] at hX;obtain ⟨b,hb,hv⟩:=hX;obtain ⟨S,hS,hm⟩:=y9.1 hL;obtain ⟨p,H,hp,ub,jd,_⟩:=R.objs t n S hS;rw [hb] at hp;injection hp with hp;subst hp;have zw:S=QG L:=by
  unfold JH at hm;split at hm
  ·injection hm with hm; subst hm; rfl
  ·cases hm
 subst zw;obtain ⟨hH,es,clock,he,mh,hc,_⟩:=(O.maps L H b w).1 jd;have da:es.size=L.length:=by simpa using congrArg List.length mh
 have hg:(getObj b).run P w=.ok (.map es clock) w:=by simp [getObj,Sem.run,he]
 have na:(execOp a.eval o).run P w=.ok (.value (.pointer (some ⟨w.heap.size,0,none⟩))) (w.alloc (.mapIter (some b) clock #[] clock)):=by
  simp only [execOp,ho,hv,Instr.range,Sem.run_bind,run_underlying hT,Result.andThen_ok,hg,Sem.run_pure,run_newObj_alloc]
 have fk:Below w.heap.size w (w.alloc (.mapIter (some b) clock #[] clock)):=Below.alloc (Below.refl _ _) (yf _) _;obtain ⟨ι',R2,hι,_⟩:=R.newObj (d:=d) (p:=w.heap.size) (H:=fun b=>b=w.heap.size) (S:=i4 t n L.length []) fk hD ((O.iters _ _ _ _ (by rw [pX]; rfl)).2 ⟨fun b=>Iff.rfl,by simp⟩) (fun tm nm N seen e=>by
  rw [pX] at e;injection e with e;injection e with g1 e;injection e with g2 e;injection e with g3 g4;subst g1; subst g2; subst g3; subst g4;exact ⟨b,H,hb,ub,by rw [<- da,<- hc]; exact OR rfl⟩) (fun b h=>Nat.le_of_eq h.symm)
 rw [ka];exact ⟨_,_,na,ι',Θ,R2.put (x:=⟨.ptr d s.next 0,.no⟩) hd ⟨_,hι,rfl⟩ trivial⟩
theorem val_ent {X:Operand} {x:bB} (hx:opd X=some x) (ho:o.op=.entry X) {t n tm nm N:Nat} {seen:List Nat} (md:x.get s=.ptr t n 0) (hi:(s.obj t n).bind cY=some (tm,nm,N,seen)) {L:List (List AV)} (hL:(s.obj tm nm).bind JH=some L) {i:Nat} (hl:seen.getLast?=some i) (hN:L.length=N) {y v:AV} (ao:L[i]?=some [y,v]) (fi:(y.flat&&v.flat)=true) :
  pS P aa a w ι Θ o ⟨.tup [y,v],.no⟩:=by
 have hX:=(R.opd hx).1;rw [md] at hX;obtain ⟨q,hq,hv⟩:=hX;obtain ⟨S,hS,hit⟩:=y9.1 hi;obtain ⟨p,H,hp,ub,jd,xm⟩:=R.objs t n S hS;rw [hq] at hp;injection hp with hp;subst hp;obtain ⟨m,Hm,hm,hobm,ra⟩:=xm tm nm N seen hit;obtain ⟨S2,hS2,mr⟩:=y9.1 hL;obtain ⟨p2,H2,zn,dv,oz,_⟩:=R.objs tm nm S2 hS2;rw [hm] at zn;injection zn with zn;subst zn;have zw:S2=QG L:=by
  unfold JH at mr;split at mr
  ·injection mr with mr; subst mr; rfl
  ·cases mr
 subst zw;obtain ⟨hH2,es,clock,he,mh,hc,ac⟩:=(O.maps L H2 m w).1 oz;have hes:es.size=N:=by rw [<- hN]; simpa using congrArg List.length mh
 have hgq:(getObj q).run P w=.ok (.mapIter (some m) N seen.toArray N) w:=by simp [getObj,Sem.run,ra]
 have hgm:(getObj m).run P w=.ok (.map es clock) w:=by simp [getObj,Sem.run,he]
 have sx:i<es.size:=by
  have:=(yh.1 ao).1;omega
 have uq:seen.toArray.back?=some i:=by simpa using hl
 have hfind:es.find? (fun e=>e.born == i)=some es[i]:=by
  rw [Array.find?_eq_some_iff_getElem];refine ⟨by simp [ac i sx],i,sx,rfl,fun j hj=>?_⟩;simp only [ac j (by omega),Bool.not_eq_true'];simp;omega
 have hkv:es[i].key=y.flatV/\es[i].val=v.flatV:=by
  have:=congrArg (fun l=>l[i]?) mh;simp only [yc,ao,Array.getElem?_toList,Y06 sx,yt,Option.some.injEq,entV] at this;exact ⟨congrArg Prod.fst this,congrArg Prod.snd this⟩
 rw [ye] at fi;have re:(clock != N)=false:=by simp [hc,hes]
 refine ⟨.tuple #[y.flatV,v.flatV],?_,?_,trivial⟩
 ·simp only [execOp,ho,hv,Instr.entry,Sem.run_bind,hgq,hgm,uq,Result.andThen_ok,re,yI,if_false,hfind,hkv.1,hkv.2,Sem.run_pure]
 ·exact ⟨_,rfl,_,_,rfl,fG (HM fi.1),_,_,rfl,fG (HM fi.2),rfl⟩
end
theorem avOf_nilP {v:Value} (h:ZZ v=some .nilP):v=.pointer none:=by
 unfold ZZ at h;split at h <;> first | rfl | (injection h with h; cases h; done) | (cases h; done)
theorem avOf_nil {v:Value} (h:ZZ v=some (.sl true [])):v=.slice none 0 0:=by
 unfold ZZ at h;split at h <;> first | rfl | (injection h with h; cases h; done) | (cases h; done)
theorem isBld_eq {l:List AV} (h:isBld l=true):l=[.nilP,.sl true []]:=by
 unfold isBld at h;split at h
 ·rfl
 ·cases h
theorem avAll_bld {vs:List Value} (h:bJ vs=some [.nilP,.sl true []]):vs=[.pointer none,.slice none 0 0]:=by
 cases vs with
 | nil=>cases h
 | cons v r =>
  simp only [bJ] at h;split at h
  ·rename_i x l hx hl;injection h with h;injection h with h1 h2;subst h1;subst h2;cases r with
   | nil=>cases hl
   | cons v' r' =>
    simp only [bJ] at hl;split at hl
    ·rename_i x' l' gn pu;injection hl with hl;injection hl with h1 h2;subst h1;subst h2;cases r' with
     | nil=>rw [avOf_nilP hx,avOf_nil gn]
     | cons v'' r'' =>
      simp only [bJ] at pu;split at pu <;> cases pu
    ·cases hl
  ·cases h
section
variable (R:DB P O nt B F0 aa w0 D s a w ι Θ)
include R
theorem op_mkb {T e:TypeId} (gb:bldEl P T=some e) (ho:o.op=.alloc T) {d:Nat} (ka:o.dst=some d) (hd:d<nt) (hD:¬ D d) :
  ∃ v w',(execOp a.eval o).run P w=.ok (.value v) w'/\WD P O nt B F0 aa w0 (fun t=>D t\/t=d) ((s.setObj d s.next (bldAV T e ⟨#[]⟩)).put (some d) ⟨.ptr d s.next 0,.no⟩) (a.put o.dst v) w':=by
 obtain ⟨l,hl,hb⟩:∃ l,cI P T=some l/\isBld l=true:=by
  unfold bldEl at gb;split at gb
  ·rename_i h; exact yl.1 h
  ·cases gb
 obtain ⟨z,i,hi,bq,hrz,hzl⟩:=BF hl w;rw [isBld_eq hb] at hzl;have hzc:z.cells=#[.pointer none,.slice none 0 0]:=by
  apply Array.ext';exact avAll_bld hzl
 have na:(execOp a.eval o).run P w=.ok (.value (.pointer (some ⟨w.heap.size,0,none⟩))) (w.alloc (.cells #[.pointer none,.slice none 0 0] T)):=by
  simp [execOp,ho,Instr.alloc,newVar,newRow,hrz,hzc]
 have hb:Below w.heap.size w (w.alloc (.cells #[.pointer none,.slice none 0 0] T)):=Below.alloc (Below.refl _ _) (yf _) _;obtain ⟨ι',R2,hι,_⟩:=R.newObj (d:=d) (p:=w.heap.size) (H:=fun b=>b=w.heap.size) (S:=bldAV T e ⟨#[]⟩) hb hD ((O.blds _ _ _ _ _ _).2 ⟨.slice none 0 0,.pointer none,OR rfl,.inl rfl,World.ownsRowF_nil _ _ _ _,by simp [Value.ownBlock],fun b=>by simp [Value.ownBlock]⟩) (W5.no rfl) (fun b h=>Nat.le_of_eq h.symm);rw [ka];exact ⟨_,_,na,ι',Θ,R2.put (x:=⟨.ptr d s.next 0,.no⟩) hd ⟨_,hι,rfl⟩ trivial⟩
theorem op_mlen {T:TypeId} {kT eT:TypeId} (hT:P.underlying T=some (.map kT eT)) {X:Operand} {x:bB} (hx:opd X=some x) (ho:o.op=.call { callee:=.builtin .len,args:=#[X],argTypes:=#[T] }) {t n:Nat} (md:x.get s=.mp t n) {L:List (List AV)} (hL:(s.obj t n).bind JH=some L) :
  pS P aa a w ι Θ o ⟨.int .i64 L.length,.no⟩:=by
 have hX:=(R.opd hx).1;rw [md] at hX;obtain ⟨b,hb,hv⟩:=hX;obtain ⟨S,hS,hm⟩:=y9.1 hL;obtain ⟨p,H,hp,ub,jd,_⟩:=R.objs t n S hS;rw [hb] at hp;injection hp with hp;subst hp;have zw:S=QG L:=by
  unfold JH at hm;split at hm
  ·injection hm with hm; subst hm; rfl
  ·cases hm
 subst zw;obtain ⟨hH,es,clock,he,mh,_⟩:=(O.maps L H b w).1 jd;have da:es.size=L.length:=by simpa using congrArg List.length mh
 have hg:(getObj b).run P w=.ok (.map es clock) w:=by simp [getObj,Sem.run,he]
 refine ⟨.int .i64 L.length,?_,by rw [JA],trivial⟩;simp [execOp,ho,resolve,invoke,builtin,Builtin.len_,run_underlying hT,hv,hg,goInt,da]
theorem DB.turnNew {t n p:Nat} {H H':Nat->Prop} {S':AV} (hp:ι t n=some p) (ub:ι.ob t n=some H) (jd:O.at_ S' H' p w') (xm:W5 ι S' p w') (hH:∀ b,H' b->H b\/w.heap.size<=b) (hk:ZA H w w')
  {d g:Nat} (hD:¬ D d) (hg:w.heap.size<=g) (hgH:¬ H' g) {cur:Array Value} {ty:TypeId} (hgw:w'.heap[g]?=some (.cells cur ty (0,0))) {l:List AV} (hl:l.all AV.scal=true) (fg:∀ (j:Nat) (x:AV),l[j]?=some x->cur[j]?=some x.scalV) (al:l.length<=cur.size) :
  ∃ ι':Ix,DB P O nt B F0 aa w0 (fun j=>D j\/j=d) ((s.setObj t n S').setRow d s.next (l.map (⟨·,.no⟩))) a w' ι' Θ/\ι' d s.next=some g/\ι'.z g=cur.size:=by
 obtain ⟨jq,dv⟩:=R.obs t n H ub;have uz:=cA hgw;have le:ι d s.next=none:=by
  cases h:ι d s.next with
  | none=>rfl
  | some b =>
   rcases (R.mine _ _ _ h).2.2 with h1 | h1
   ·omega
   ·exact absurd h1.2 hD
 have fe:ι.ob d s.next=none:=by
  cases h:ι.ob d s.next with
  | none=>rfl
  | some b =>
   rcases (R.obs _ _ _ h).2 with h1 | h1
   ·omega
   ·exact absurd h1.2 hD
 have wd:¬ (t=d/\n=s.next):=fun e=>by rw [e.1,e.2,le] at hp; cases hp
 obtain ⟨ι',hι'⟩:∃ ι':Ix,ι'=⟨fun t' n'=>if t'=d/\n'=s.next then some g else ι t' n',fun t' n'=>if t'=t/\n'=n then some H' else ι.ob t' n',fun b=>if b=g then cur.size else ι.z b⟩:=⟨_,rfl⟩;have hf:∀ t' n' b,ι' t' n'=some b->(t'=d/\n'=s.next/\b=g)\/(¬ (t'=d/\n'=s.next)/\ι t' n'=some b):=fun t' n' b h=>by
  subst hι';have h':(if t'=d/\n'=s.next then some g else ι t' n')=some b:=h;split at h'
  ·rename_i e; injection h' with h'; exact .inl ⟨e.1,e.2,h'.symm⟩
  ·rename_i e; exact .inr ⟨e,h'⟩
 have tj:∀ t' n' H1,ι'.ob t' n'=some H1->(t'=t/\n'=n/\H1=H')\/(¬ (t'=t/\n'=n)/\ι.ob t' n'=some H1):=fun t' n' H1 h=>by
  subst hι';simp only at h;split at h
  ·rename_i e; injection h with h; exact .inl ⟨e.1,e.2,h.symm⟩
  ·rename_i e; exact .inr ⟨e,h⟩
 have wc:∀ t n b,ι t n=some b->ι' t n=some b:=fun t n b h=>by
  subst hι';show (if t=d/\n=s.next then some g else ι t n)=some b;split
  ·rename_i e; rw [e.1,e.2,le] at h; cases h
  ·exact h
 have uc:ι' d s.next=some g:=by subst hι'; show (if d=d/\s.next=s.next then some g else ι d s.next)=_; rw [if_pos ⟨rfl,rfl⟩]
 have iy:ι'.ob t n=some H':=by subst hι'; simp
 have bv:∀ t' n',¬ (t'=t/\n'=n)->ι'.ob t' n'=ι.ob t' n':=fun t' n' e=>by subst hι'; simp only [if_neg e]
 have hzg:ι'.z g=cur.size:=by subst hι'; simp
 have ri:∀ t1 n1 b1 H1,ι t1 n1=some b1->ι.ob t1 n1=some H1->ι' t1 n1=some b1/\∃ H2,ι'.ob t1 n1=some H2:=fun t1 n1 b1 H1 g1 g2=>⟨wc _ _ _ g1,by
  by_cases e:t1=t/\n1=n
  ·exact ⟨H',by rw [e.1,e.2]; exact iy⟩
  ·exact ⟨H1,by rw [bv _ _ e]; exact g2⟩⟩
 have sb:Ix.Le ι ι':=⟨wc,fun t n b h=>by
  have:=(R.mine t n b h).2.1;subst hι';show (if b=g then cur.size else ι.z b)=ι.z b;rw [if_neg (by omega)]⟩
 clear hι';have oc:=hk.size;have ir:=R.lowB;have ij:∀ b o,b<w.heap.size->eC ι' Θ b o->eC ι Θ b o:=fun b o hb h=>h.imp (fun h=>h.imp (fun ⟨t',n',h⟩=>by
  rcases hf _ _ _ h with ⟨_,_,e⟩ | ⟨_,h⟩
  ·omega
  ·exact ⟨t',n',h⟩) fun ⟨t',n',H1,h1,h2⟩=>by
  rcases tj _ _ _ h1 with ⟨e1,e2,e3⟩ | ⟨_,h1⟩
  ·subst e3;rcases hH b h2 with h3 | h3
   ·exact ⟨t,n,H,ub,h3⟩
   ·omega
  ·exact ⟨t',n',H1,h1,h2⟩) id
 have gc:∀ b o u,w.cell? ⟨b,o,none⟩=some u->¬ H b->w'.cell? ⟨b,o,none⟩=some u:=fun b o u hc hn=>(World.cell?_of_block (w:=w) (a:=⟨b,o,none⟩) (hk.block b (EE hc) hn)).trans hc
 have hB:FA (eC ι Θ) (eC ι' Θ) w w':=⟨fun b o u hc hn=>⟨gc b o u hc fun h=>hn (.inl (.inr ⟨t,n,H,ub,h⟩)),fun h=>hn (ij b o (EE hc) h)⟩⟩;have hA:FA (BB aa ι Θ) (BB aa ι' Θ) w w':=⟨fun b o u hc hn=>⟨gc b o u hc fun h=>hn (.inr (.inl (.inr ⟨t,n,H,ub,h⟩))),fun h=>hn (h.imp id (ij b o (EE hc)))⟩⟩;refine ⟨ι',⟨R.defers,R.size,fun j=>GA.held sb hA hB _ _ (R.env j),R.ann,fun t' n' r hr=>?_,fun t' n' b h=>?_,fun t1 n1 t2 n2 b h h'=>?_,fun k o h=>?_,R.tinj,fun k o t' n' h h'=>?_,R.out,fun p' h=>⟨wc _ _ _ (R.pin p' h).1,?_⟩,?_,R.base,fun t' n' S1 h=>?_,fun t' n' H1 h=>?_,fun j=>GA.held sb hA hB _ _ (R.gen j),R.gann⟩,uc,hzg⟩
 ·simp only [pA.setRow] at hr;split at hr
  ·rename_i e;injection hr with hr;subst hr;have hoo:ι'.ob t' n'=none:=by
    rw [bv t' n' (fun e'=>wd ⟨e'.1.symm.trans e.1,e'.2.symm.trans e.2⟩),e.1,e.2];exact fe
   refine ⟨hoo,g,cur,ty,by rw [e.1,e.2]; exact uc,hgw,⟨by simpa using al,fun j x hx=>?_⟩,by omega,hzg.symm⟩;rw [yc] at hx;cases hj:l[j]? with
   | none=>rw [hj] at hx; cases hx
   | some y =>
    rw [hj] at hx;injection hx with hx;subst hx;have hy:=y8.1 hl y (yD hj);have hr:=iN (av:=BB aa ι' Θ) (w:=w') hy;exact ⟨_,fg j y hj,hr.2,xJ hr.1,trivial⟩
  ·have hr':s.mem t' n'=some r:=hr;obtain ⟨h0,b,ua,uh,h1,h2,h3,h8,h9⟩:=R.rows t' n' r hr';have za:¬ (t'=t/\n'=n):=fun e=>by rw [e.1,e.2,ub] at h0; cases h0
   have hbn:¬ H b:=fun hb=>za ((jq b hb).2.2.1 t' n' h1)
   exact ⟨by rw [bv _ _ za]; exact h0,b,ua,uh,wc _ _ _ h1,(hk.block b (cA h2) hbn).trans h2,h3.held sb hA (fun _ _ h=>h),h8,h9.trans (sb.z _ _ _ h1).symm⟩
 ·rcases hf _ _ _ h with ⟨e1,e2,e3⟩ | ⟨_,h⟩
  ·subst e3;exact ⟨.inl (by omega),uz,.inr ⟨e2,.inr e1⟩⟩
  ·obtain ⟨h1,h2,h3⟩:=R.mine t' n' b h;exact ⟨h1,by omega,h3.imp id fun ⟨e,d⟩=>⟨e,.inl d⟩⟩
 ·rcases hf _ _ _ h with ⟨e1,e2,e3⟩ | ⟨_,h⟩ <;> rcases hf _ _ _ h' with ⟨f1,f2,f3⟩ | ⟨_,h'⟩
  ·exact ⟨e1.trans f1.symm,e2.trans f2.symm⟩
  ·have:=(R.mine _ _ _ h').2.1; omega
  ·have:=(R.mine _ _ _ h).2.1; omega
  ·exact R.inj _ _ _ _ _ h h'
 ·obtain ⟨h1,h2,h3,h4,ua,h5,h6⟩:=R.tok k o h;exact ⟨h1,h2,h3,h4,ua,(hk.block _ (cA h5) (R.apob h ub)).trans h5,h6⟩
 ·obtain ⟨_,_,_,_,ua,h5,_⟩:=R.tok k o h;have ba:=cA h5;rcases hf _ _ _ h' with ⟨_,_,e⟩ | ⟨_,h'⟩
  ·omega
  ·exact R.apart k o t' n' h h'
 ·rcases (R.pin p' h).2 with iv | ⟨H1,h1⟩
  ·exact .inl ⟨iv.1,(sb.z _ _ _ (R.pin p' h).1).trans iv.2⟩
  refine .inr ?_;by_cases e:0=t/\0=n
  ·exact ⟨H',by rw [<- e.1,<- e.2] at iy; exact iy⟩
  ·exact ⟨H1,by rw [bv _ _ e]; exact h1⟩
 ·refine R.kept.trans hk fun i hi h=>?_
  have:=R.base;rcases (jq i h).1 with h1 | h1
  ·omega
  ·exact h1
 ·simp only [pA.setRow,pA.setObj] at h;split at h
  ·rename_i e;injection h with h;subst h;exact ⟨p,H',by rw [e.1,e.2]; exact wc _ _ _ hp,by rw [e.1,e.2]; exact iy,jd,xm.keep ri fun x hx=>hx⟩
  ·rename_i e;obtain ⟨p1,H1,h1,h2,h3,h4⟩:=R.objs t' n' S1 h;have ep:∀ b,H1 b->¬ H b:=fun b hb jb=>e ((jq b jb).2.2.2.2 t' n' H1 h2 hb)
   exact ⟨p1,H1,wc _ _ _ h1,by rw [bv _ _ e]; exact h2,O.keep h3 (fun b hb=>hk.block b (O.lt h3 hb) (ep b hb)) oc,h4.keep ri fun x hx=>(hk.block _ (cA hx) (ep _ (O.main h3))).trans hx⟩
 ·rcases tj _ _ _ h with ⟨e1,e2,e3⟩ | ⟨e,h⟩
  ·subst e1; subst e2; subst e3;refine ⟨fun b hb=>?_,dv.imp id fun ⟨e,d⟩=>⟨e,.inl d⟩⟩;have hbg:b≠g:=fun e=>hgH (e ▸ hb)
   rcases hH b hb with h1 | h1
   ·obtain ⟨g1,g2,g3,g4,g5⟩:=jq b h1;refine ⟨g1,by omega,fun t1 n1 h2=>?_,g4,fun t1 n1 H2 h2 h3=>?_⟩
    ·rcases hf _ _ _ h2 with ⟨_,_,e⟩ | ⟨_,h2⟩
     ·exact absurd e hbg
     ·exact g3 t1 n1 h2
    ·rcases tj _ _ _ h2 with ⟨e1,e2,_⟩ | ⟨_,h2⟩
     ·exact ⟨e1,e2⟩
     ·exact g5 t1 n1 H2 h2 h3
   ·refine ⟨.inl (by omega),O.lt jd hb,fun t1 n1 h2=>?_,fun k o h2 e=>?_,fun t1 n1 H2 h2 h3=>?_⟩
    ·rcases hf _ _ _ h2 with ⟨_,_,e⟩ | ⟨_,h2⟩
     ·exact absurd e hbg
     ·have:=(R.mine _ _ _ h2).2.1; omega
    ·obtain ⟨_,_,_,_,ua,h5,_⟩:=R.tok k o h2; have:=cA h5; omega
    ·rcases tj _ _ _ h2 with ⟨e1,e2,_⟩ | ⟨_,h2⟩
     ·exact ⟨e1,e2⟩
     ·have:=((R.obs _ _ _ h2).1 b h3).2.1; omega
  ·obtain ⟨h1,h2⟩:=R.obs t' n' H1 h;refine ⟨fun b hb=>?_,h2.imp id fun ⟨e,d⟩=>⟨e,.inl d⟩⟩;obtain ⟨g1,g2,g3,g4,g5⟩:=h1 b hb;refine ⟨g1,by omega,fun t1 n1 h2=>?_,g4,fun t1 n1 H2 h2 h3=>?_⟩
   ·rcases hf _ _ _ h2 with ⟨_,_,e'⟩ | ⟨_,h2⟩
    ·omega
    ·exact g3 t1 n1 h2
   ·rcases tj _ _ _ h2 with ⟨e1,e2,e3⟩ | ⟨_,h2⟩
    ·subst e3;rcases hH b h3 with h4 | h4
     ·have:=g5 t n H ub h4;exact absurd ⟨this.1.symm,this.2.symm⟩ e
     ·omega
    ·exact g5 t1 n1 H2 h2 h3
theorem op_callf {call:uB} (ib:∀ f args S r,call f args S=some r->LA P O f args S r) {f:FuncId} {Xs:Array Operand} {ts:Array TypeId} {xs:List bB} (hx:kF Xs.toList=some xs) (ho:o.op=.call { callee:=.value (.func f),args:=Xs,argTypes:=ts }) (hd:∀ d,o.dst=some d->d<nt) (hD:∀ d,o.dst=some d->¬ D d) {cl:Cl} {sz:Nat} (oc:0<sz) {xe:rA × SC} (hr:(K.callf cl f sz xs).run call s=some xe) {g} {s':pA} (he:WA.eff ⟨o.dst,.callf cl f sz xs,g⟩ s xe=some s')
  {Kn:Act->World->Prop} {Q:Exit->Act->World->Prop} (hK:∀ a' w',WD P O nt B F0 aa w0 (fun t=>D t\/o.dst=some t) s' a' w'->Kn a' w'):o.wp P a w Kn Q:=by
 simp only [K.run] at hr;obtain ⟨vs,hl,hr⟩:=y9.1 hr;have gp:(Xs.toList.map a.eval).toArray=Xs.map a.eval:=by rw [<- Array.toList_map,yX]
 have oj:∀ b o,BB aa ι Θ b o->b<w.heap.size:=fun b o h=>R.low h
 split at hr
 ·rename_i t n ii;obtain ⟨r,hc,hr⟩:=y9.1 hr;split at hr
  ·rename_i l S';split at hr
   ·rename_i ia;obtain ⟨po,xb,hscal,hni⟩:=ia;obtain ⟨S,hS⟩:=Option.isSome_iff_exists.1 po;rw [hS] at hc;have sa:SG P O f vs (some S) (.sl false l,some S'):=LA.own (ZM hl) (ib f (.undef :: vs) (some S) _ hc);obtain ⟨p,H,hp,ub,jd,_⟩:=R.objs t n S hS;have eb:=mG (ι':=Ix.one p) (avl:=fun b _=>H b) R (fun b _ h=>⟨t,n,H,ub,h⟩) hx hl fun x hx t' n' h=>by
     have:(t',n')∈NF s xs:=List.mem_filterMap.2 ⟨x,hx,by rw [h]⟩;rw [ii] at this;have:=Y03.1 this;injection this with e1 e2;rw [e1,e2,hp];rfl
    have na:(execOp a.eval o).run P w=.ok (.enter f (Xs.map a.eval)) w:=by
     simp only [execOp,ho,resolve,Act.eval,Deferred.ofValue,Sem.run_bind,Sem.run_pure,Result.andThen_ok,invoke];have:=sa.1 (#[]++Xs.map a.eval++#[]) w;simp only [Array.empty_append,Array.append_empty] at this ⊢;exact this
    unfold Oper.wp;rw [na,Oper.upon_enter];have hC:=sa.2 (BB aa ι Θ) w _ p H oj (fun b o h=>.inr (.inl (.inr ⟨t,n,H,ub,h⟩))) jd eb;rw [gp] at hC;refine hC.mono ?_;rintro e w' ⟨v,H',rfl,hv,wk,hH,hk⟩;split at hr
    ·rename_i lm;injection hr with hr;subst hr;simp only [WA.eff] at he;injection he with he;subst he;have gg:l=[]:=by simpa using lm
     subst gg;obtain ⟨ι',R',pd⟩:=R.turnObj hp ub wk (W5.no hni) hH hk;have hv':∃ A c,v=.slice A 0 c/\(A=none->c=0):=by
      rcases hv with ⟨_,A,c,h1,h2⟩ | ⟨g,c,cur,ty,h1,_⟩
      ·exact ⟨A,c,h1,h2⟩
      ·exact ⟨_,c,h1,fun h=>by cases h⟩
     obtain ⟨A,c,rfl,hA⟩:=hv';refine hK _ _ ⟨ι',Θ,(R'.putN (x:=⟨.sl false [],.no⟩) hd ?_ trivial).more fun _ h=>.inl h⟩;rw [WC];simp only [ID,List.length_nil];exact ⟨A,c,rfl,Nat.zero_le _,(fun x hx=>by cases hx),(fun h=>by cases h),fun _=>⟨hA,fun h=>absurd h (Nat.lt_irrefl 0)⟩⟩
    ·rename_i lm;injection hr with hr;subst hr;cases ka:o.dst with
     | none=>simp [WA.eff,ka] at he
     | some d =>
      simp only [WA.eff,ka] at he;injection he with he;subst he;have za:l≠[]:=fun h=>lm (by simp [h])
      have pb:0<l.length:=List.length_pos_iff.2 za;rcases hv with ⟨h0,_⟩ | ⟨g,c,cur,ty,rfl,h2,h3,h4,h5,h6,h7⟩
      ·exact absurd h0 za
      ·have xk:=h6 sz xb pb;have fi:l.flatten.length=l.length * sz:=by
        have hind:∀ q:List (List AV),AA sz q=true->q.flatten.length=q.length * sz:=fun q=>by
         induction q with
         | nil=>simp
         | cons c r ih =>
          intro h;rw [cB] at h;simp only [ye,decide_eq_true_eq] at h;rw [yv,yb,ih h.2,h.1,yA,yM];omega
        exact hind l xb
       have hsc:l.flatten.all AV.scal=true:=by
        rw [List.all_flatten];exact hscal
       obtain ⟨ι',R',hι,hz⟩:=R.turnNew (d:=d) (g:=g) hp ub wk (W5.no hni) hH hk (hD d ka) h2 h3 h4 hsc h7 (by rw [fi]; exact yB (Y02 _ h5) xk);refine hK _ _ ⟨ι',Θ,?_⟩;rw [ka];exact (R'.put (x:=⟨.ref d s.next sz 0 l.length l.length,.no⟩) (hd d ka) ⟨g,hι,yf _,c,h5,by rw [hz,yr]; exact xk,rfl⟩ trivial).more fun t h=>h.imp id fun e=>by rw [e]
   ·cases hr
  ·cases hr
 ·cases hr
end
end
end
section
open Go Go.RowKit
section
variable {P:Program} {O:XE} {nt B:Nat} {F0:BN} {aa:Av} {w0:World} {D:Nat->Prop} {s:pA} {a:Act} {w w':World} {ι:Ix} {Θ:aJ} {o:Oper}
def P9 (s:pA) (av:Av) (ι:Ix):Av:=fun b o=>av b o/\¬ ∃ t n r,s.mem t n=some r/\ι t n=some b
theorem HA.frz1 {D:Nat->Prop} {ι:Ix} {Θ:aJ} (R:DB P O nt B F0 aa w0 D s a w ι Θ) {x:AV} {u:Value} (h:HA ι (BB aa ι Θ) w x u):HA ι (P9 s (BB aa ι Θ) ι) w (x.frz1 s) u:=by
 have less:FA (BB aa ι Θ) (P9 s (BB aa ι Θ) ι) w w:=FA.less fun b o h=>h.1
 have same:=HA.held (Ix.Le.refl ι) less x u h;cases x with
 | ref t n sz off len c =>
  simp only [AV.frz1];split
  ·rename_i l hl;obtain ⟨r,hm,hl⟩:=y9.1 hl;obtain ⟨b,hb,sb,cc,ah,hz,hv⟩:=h;obtain ⟨zc,b',cur,ty,jb,ra,ja,_⟩:=R.rows t n r hm;rw [hb] at jb;injection jb with jb;subst jb;obtain ⟨h1,h2,us,hL,de⟩:=IG ja ra hl;subst h1;show ID _ w (.sl false l) u;simp only [ID];refine ⟨_,cc,hv,yB sb ah,fun x hx y hy=>(h2 x hx).trans (h2 y hy).symm,(fun h=>by cases h),fun _=>⟨fun h=>(by cases h),fun _=>⟨b,off,rfl,?_⟩⟩⟩;rw [XD];exact zJ (rB.held less _ _ hL) fun j u hj=>⟨de j u hj,fun h=>h.2 ⟨t,n,r,hm,hb⟩⟩
  ·exact same
 | _=>exact same
theorem SA.frz1 {D:Nat->Prop} {ι:Ix} {Θ:aJ} (R:DB P O nt B F0 aa w0 D s a w ι Θ):∀ {xs:List AV} {us:List Value},SA ι (BB aa ι Θ) w xs us->SA ι (P9 s (BB aa ι Θ) ι) w (xs.map (AV.frz1 s)) us
 | [],_,h=>h
 | x :: r,_,h=>by
  simp only [SA] at h;obtain ⟨u,db,rfl,h0,h1,h⟩:=h;exact ⟨u,db,rfl,h0.frz1 R,h1,h.frz1 R⟩
theorem HA.frz {D:Nat->Prop} {ι:Ix} {Θ:aJ} (R:DB P O nt B F0 aa w0 D s a w ι Θ) {x:AV} {u:Value} (h:HA ι (BB aa ι Θ) w x u):HA ι (P9 s (BB aa ι Θ) ι) w (x.frz0 s) u:=by
 have less:FA (BB aa ι Θ) (P9 s (BB aa ι Θ) ι) w w:=FA.less fun b o h=>h.1
 have same:=HA.held (Ix.Le.refl ι) less x u h;cases x with
 | ref t n sz off len c =>
  simp only [AV.frz0];split
  ·rename_i l hl;obtain ⟨r,hm,hl⟩:=y9.1 hl;obtain ⟨b,hb,sb,cc,ah,hz,hv⟩:=h;obtain ⟨zc,b',cur,ty,jb,ra,ja,_⟩:=R.rows t n r hm;rw [hb] at jb;injection jb with jb;subst jb;obtain ⟨h1,h2,us,hL,de⟩:=IG ja ra hl;subst h1;show ID _ w (.sl false l) u;simp only [ID];refine ⟨_,cc,hv,yB sb ah,fun x hx y hy=>(h2 x hx).trans (h2 y hy).symm,(fun h=>by cases h),fun _=>⟨fun h=>(by cases h),fun _=>⟨b,off,rfl,?_⟩⟩⟩;rw [XD];exact zJ (rB.held less _ _ hL) fun j u hj=>⟨de j u hj,fun h=>h.2 ⟨t,n,r,hm,hb⟩⟩
  ·split
   ·rename_i l hl;obtain ⟨r,hm,hl⟩:=y9.1 hl;obtain ⟨l0,gg,hl⟩:=y9.1 hl;split at hl
    ·rename_i df;injection hl with hl;subst hl;obtain ⟨b,hb,sb,cc,ah,hz,hv⟩:=h;obtain ⟨zc,b',cur,ty,jb,ra,ja,_⟩:=R.rows t n r hm;rw [hb] at jb;injection jb with jb;subst jb;obtain ⟨h1,h2,us,hL,de⟩:=LP ja ra gg;subst h1;have tq:=SA.frz1 R hL;rw [List.map_flatten] at tq;have jz:=FG tq fun x hx=>y8.1 df x hx
     show ID _ w (.sl false _) u;simp only [ID];refine ⟨_,cc,by rw [y7]; exact hv,by rw [y7]; exact yB sb ah,fun x hx y hy=>?_,(fun h=>by cases h),fun _=>⟨fun h=>(by cases h),fun _=>⟨b,off,rfl,?_⟩⟩⟩
     ·obtain ⟨x',gn,rfl⟩:=yQ.1 hx;obtain ⟨y',ar,rfl⟩:=yQ.1 hy;rw [y7,y7,h2 x' gn,h2 y' ar]
     ·rw [XD];exact zJ jz fun j u hj=>⟨de j u hj,fun h=>h.2 ⟨t,n,r,hm,hb⟩⟩
    ·cases hl
   ·exact same
 | _=>exact same
theorem SA.frz {D:Nat->Prop} {ι:Ix} {Θ:aJ} (R:DB P O nt B F0 aa w0 D s a w ι Θ):∀ {xs:List AV} {us:List Value},SA ι (BB aa ι Θ) w xs us->SA ι (P9 s (BB aa ι Θ) ι) w (xs.map (AV.frz0 s)) us
 | [],_,h=>h
 | x :: r,_,h=>by
  simp only [SA] at h;obtain ⟨u,db,rfl,h0,h1,h⟩:=h;exact ⟨u,db,rfl,h0.frz R,h1,h.frz R⟩
theorem GA.frz {D:Nat->Prop} {ι:Ix} {Θ:aJ} (R:DB P O nt B F0 aa w0 D s a w ι Θ) {x:AV} {u:Value} (h:GA ι (BB aa ι Θ) (eC ι Θ) w x u):GA ι (P9 s (BB aa ι Θ) ι) (eC ι Θ) w (x.frz s) u:=by
 have less:FA (BB aa ι Θ) (P9 s (BB aa ι Θ) ι) w w:=FA.less fun b o h=>h.1
 have same:=GA.held (Ix.Le.refl ι) less (FA.refl _ _) x u h;cases x with
 | agg cs=>obtain ⟨us,hv,hc⟩:=h; exact ⟨us,hv,hc.frz R⟩
 | ref t n sz off len c =>
  have:=HA.frz R (x:=.ref t n sz off len c) h;show GA _ _ _ w (AV.frz0 s (.ref t n sz off len c)) u;generalize hy:AV.frz0 s (.ref t n sz off len c)=y at this ⊢;simp only [AV.frz0] at hy;split at hy
  ·subst hy; exact this
  ·split at hy <;> (subst hy; exact this)
 | _=>exact same
def AV.killO (q:Option (Nat × Nat)) (x:AV):AV:=match q with
 | none=>x
 | some p=>x.kill p.1 p.2
def Ix.delO (ι:Ix):Option (Nat × Nat)->Ix
 | .none=>ι
 | .some p=>ι.del p.1 p.2
theorem aD.killW {t n:Nat} {ι':Ix} {av rb:Av} {r:List rA} {cur:Array Value} (h:aD ι Θ av w r cur) (hι:Ix.Lk t n ι ι') (hh:FA av rb w w'):aD ι' Θ rb w' (r.map (rA.kill t n)) cur:=by
 refine ⟨by simpa using h.1,fun j x hx=>?_⟩;rw [yc] at hx;cases hj:r[j]? with
 | none=>rw [hj] at hx; cases hx
 | some y =>
  rw [hj] at hx;injection hx with hx;subst hx;obtain ⟨u,hu,h1,hr,ha⟩:=h.2 j y hj;refine ⟨u,hu,h1,?_,ha⟩;have hk:=HA.kill hι hh y.v u hr;show HA ι' rb w' (y.v.kill t n) u;cases hy:y.v with
  | agg cs=>rw [hy] at hr; obtain ⟨us,rfl,_⟩:=hr; simp [Value.oneCell'] at h1
  | tup cs=>rw [hy] at hr; obtain ⟨us,rfl,_⟩:=hr; simp [Value.oneCell'] at h1
  | _=>rw [hy] at hk; exact hk
theorem DB.swap (R:DB P O nt B F0 aa w0 D s a w ι Θ) {q:Option (Nat × Nat)} {g0:Nat->Prop}
  (hq:match q with
   | none=>∀ b,¬ g0 b
   | some p=>p.1≠0/\∃ r b,s.mem p.1 p.2=some r/\ι p.1 p.2=some b/\∀ b',g0 b' ↔ b'=b)
  (hk:ZA g0 w w') {d:Nat} (hd:d<nt) (hD:¬ D d) {l:List AV} {g:Nat} {cur:Array Value} {ty:TypeId}
  (hg:w.heap.size<=g\/g0 g/\∃ cur0 lw,w.heap[g]?=some (.cells cur0 lw (0,0))/\cur.size=cur0.size) (ra:w'.heap[g]?=some (.cells cur ty (0,0)))
  (ic:rB (fun b o=>BB aa ι Θ b o\/b=g) w' l (cur.toList.take l.length)) {x:AV} {v:Value}
  (hx:∀ ι':Ix,ι' d s.next=some g->ι'.z g=cur.size->GA ι' (BB aa ι' Θ) (eC ι' Θ) w' x v) :
  ∃ ι',DB P O nt B F0 aa w0 (fun j=>D j\/j=d) (((s.killO q).setRow d s.next (l.map (⟨·,.no⟩))).put (some d) ⟨x,.no⟩) (a.put (some d) v) w' ι' Θ:=by
 have le:ι d s.next=none:=by
  cases h:ι d s.next with
  | none=>rfl
  | some b =>
   rcases (R.mine _ _ _ h).2.2 with h1 | h1
   ·omega
   ·exact absurd h1.2 hD
 have fe:ι.ob d s.next=none:=by
  cases h:ι.ob d s.next with
  | none=>rfl
  | some b =>
   rcases (R.obs _ _ _ h).2 with h1 | h1
   ·omega
   ·exact absurd h1.2 hD
 -- the given block's name
 have gi:∀ b,g0 b->∃ p,q=some p/\ι p.1 p.2=some b/\ι.ob p.1 p.2=none/\(B<=b\/F0.r b)/\p.1≠0:=fun b hb=>by
  cases q with
  | none=>exact absurd hb (hq b)
  | some p =>
   obtain ⟨h0,r,b',h1,h2,h3⟩:=hq;have e:=(h3 b).1 hb;subst e;obtain ⟨g1,b2,_,_,g2,_,_,g3,_⟩:=R.rows _ _ _ h1;rw [h2] at g2;injection g2 with g2;subst g2;exact ⟨p,rfl,h2,g1,g3,h0⟩
 have oc:=hk.size;have ir:=R.lowB;have uz:g<w'.heap.size:=cA ra
 -- blocks that are known stay
 have del:∀ t n b,(ι.delO q) t n=some b->ι t n=some b/\¬ g0 b/\b≠g:=fun t n b h=>by
  have h1:ι t n=some b/\¬ g0 b:=by
   cases q with
   | none=>exact ⟨h,hq b⟩
   | some p =>
    obtain ⟨h1,h2⟩:=Ix.del_some h;exact ⟨h1,fun hb=>by
     obtain ⟨p',e,h3,_⟩:=gi b hb;injection e with e;subst e;have:=R.inj _ _ _ _ _ h1 h3;exact h2 ⟨this.1,this.2⟩⟩
  refine ⟨h1.1,h1.2,fun e=>?_⟩;rcases hg with hg | hg
  ·have:=(R.mine _ _ _ h1.1).2.1; omega
  ·exact h1.2 (e ▸ hg.1)
 obtain ⟨ι',hι'⟩:∃ ι':Ix,ι'=⟨fun t n=>if t=d/\n=s.next then some g else (ι.delO q) t n,ι.ob,fun b=>if b=g then cur.size else ι.z b⟩:=⟨_,rfl⟩;have uc:ι' d s.next=some g:=by subst hι'; show (if d=d/\s.next=s.next then some g else _)=_; rw [if_pos ⟨rfl,rfl⟩]
 have rd:∀ t n b,ι' t n=some b->(t=d/\n=s.next/\b=g)\/((ι.delO q) t n=some b/\¬ (t=d/\n=s.next)):=fun t n b h=>by
  subst hι';have h':(if t=d/\n=s.next then some g else (ι.delO q) t n)=some b:=h;split at h'
  ·rename_i e; injection h' with h'; exact .inl ⟨e.1,e.2,h'.symm⟩
  ·rename_i e; exact .inr ⟨h',e⟩
 have nf:∀ t n b,(ι.delO q) t n=some b->ι' t n=some b:=fun t n b h=>by
  subst hι';show (if t=d/\n=s.next then some g else (ι.delO q) t n)=some b;rw [if_neg (fun e=>by have:=(del _ _ _ h).1; rw [e.1,e.2,le] at this; cases this)];exact h
 have ub:ι'.ob=ι.ob:=by subst hι'; rfl
 have hzg:ι'.z g=cur.size:=by subst hι'; exact if_pos rfl
 have hzo:∀ b,b≠g->ι'.z b=ι.z b:=fun b h=>by subst hι'; exact if_neg h
 have en:∀ t n b,ι t n=some b->ι'.z b=ι.z b:=fun t n b h=>by
  by_cases e:b=g
  ·subst e;rcases hg with hg | ⟨hg,cur0,lw,h1,h2⟩
   ·have:=(R.mine _ _ _ h).2.1; omega
   ·obtain ⟨p,e,h3,h4,_⟩:=gi b hg;cases q with
    | none=>cases e
    | some p' =>
     injection e with e;subst e;obtain ⟨_,r,b',g1,g2,_⟩:=hq;obtain ⟨_,b2,cur2,ty2,g3,g4,_,_,g5⟩:=R.rows _ _ _ g1;rw [h3] at g3;injection g3 with g3;subst g3;rw [h1] at g4;injection g4 with g4;injection g4 with g4;subst g4;rw [hzg,h2,g5]
  ·exact hzo b e
 clear hι';have blk:∀ b,b<w.heap.size->¬ g0 b->w'.heap[b]?=w.heap[b]?:=fun b h1 h2=>hk.block b h1 h2
 have ij:∀ b o,b<w.heap.size->b≠g->eC ι' Θ b o->eC ι Θ b o:=fun b o _ za h=>h.imp (fun h=>h.imp (fun ⟨t,n,h⟩=>by
  rcases rd _ _ _ h with ⟨_,_,e⟩ | ⟨h,_⟩
  ·exact absurd e za
  ·exact ⟨t,n,(del _ _ _ h).1⟩) (fun ⟨t,n,H,h,hb⟩=>⟨t,n,H,ub ▸ h,hb⟩)) id
 have away:∀ b o,¬ eC ι Θ b o->¬ g0 b:=fun b o h hb=>by
  obtain ⟨p,_,h1,_⟩:=gi b hb;exact h (.inl (.inl ⟨p.1,p.2,h1⟩))
 have ng:∀ b o,b<w.heap.size->¬ eC ι Θ b o->b≠g:=fun b o h1 h2 e=>by
  rcases hg with hg | hg
  ·omega
  ·exact away b o h2 (e ▸ hg.1)
 have hB:FA (eC ι Θ) (eC ι' Θ) w w':=⟨fun b o u hc hn=>⟨(World.cell?_of_block (w:=w) (a:=⟨b,o,none⟩) (blk b (EE hc) (away b o hn))).trans hc,fun h=>hn (ij b o (EE hc) (ng b o (EE hc) hn) h)⟩⟩;have hA:FA (BB aa ι Θ) (BB aa ι' Θ) w w':=⟨fun b o u hc hn=>by
  have wn:¬ eC ι Θ b o:=fun h=>hn (.inr h)
  exact ⟨(World.cell?_of_block (w:=w) (a:=⟨b,o,none⟩) (blk b (EE hc) (away b o wn))).trans hc,fun h=>hn (h.imp id (ij b o (EE hc) (ng b o (EE hc) wn)))⟩⟩
 have sb:q=none->Ix.Le ι ι':=fun e=>⟨fun t n b h=>nf t n b (by rw [e]; exact h),en⟩
 have ec:∀ p,q=some p->Ix.Lk p.1 p.2 ι ι':=fun p e=>⟨fun t n b hn h=>nf t n b (by rw [e]; exact (Ix.del_lk ι p.1 p.2).f _ _ _ hn h),en⟩
 have hS:∀ X V,GA ι (BB aa ι Θ) (eC ι Θ) w X V->GA ι' (BB aa ι' Θ) (eC ι' Θ) w' (X.killO q) V:=fun X V h=>by
  cases ul:q with
  | none=>exact GA.held (sb ul) hA hB _ _ h
  | some p=>exact GA.kill (ec p ul) hA hB _ _ h
 have ox:∀ j,(s.killO q).env j=⟨(s.env j).v.killO q,(s.env j).a⟩:=fun j=>by cases q <;> rfl
 have hgh:∀ j,(s.killO q).gh j=⟨(s.gh j).v.killO q,(s.gh j).a⟩:=fun j=>by cases q <;> rfl
 have ay:(s.killO q).next=s.next:=by cases q <;> rfl
 have hobj:(s.killO q).obj=s.obj:=by cases q <;> rfl
 have hRe:rB (BB aa ι' Θ) w' l (cur.toList.take l.length):=rB.held (FA.less fun b o h=>by
  by_cases e:b=g
  ·exact .inr e
  ·refine .inl (h.imp id fun h=>h.imp (fun h=>h.imp (fun ⟨t,n,h⟩=>?_) (fun ⟨t,n,H,h,hb⟩=>⟨t,n,H,ub ▸ h,hb⟩)) id);rcases rd _ _ _ h with ⟨_,_,e'⟩ | ⟨h,_⟩
   ·exact absurd e' e
   ·exact ⟨t,n,(del _ _ _ h).1⟩) _ _ ic
 refine ⟨ι',DB.put (s:=(s.killO q).setRow d s.next (l.map (⟨·,.no⟩))) ⟨R.defers,R.size,fun j=>?_,fun j=>?_,fun t' n' r' hr=>?_,fun t' n' b h=>?_,fun t1 n1 t2 n2 b h h'=>?_,fun k o h=>?_,R.tinj,fun k o t' n' h h'=>?_,R.out,fun p h=>?_,?_,R.base,fun t' n' S h=>?_,fun t' n' H h=>?_,fun j=>?_,fun j=>?_⟩ hd (hx _ uc hzg) trivial⟩
 ·show GA ι' _ _ w' ((s.killO q).env j).v _;rw [ox];exact hS _ _ (R.env j)
 ·show kJ Θ ((s.killO q).env j).a _;rw [ox];exact R.ann j
 ·simp only [pA.setRow] at hr;split at hr
  ·rename_i e;injection hr with hr;subst hr;refine ⟨by rw [ub,e.1,e.2]; exact fe,g,cur,ty,by rw [e.1,e.2]; exact uc,ra,row_of hRe (fun j u hj=>?_),?_,hzg.symm⟩
   ·rw [yy] at hj;split at hj
    ·simpa using hj
    ·cases hj
   ·rcases hg with hg | hg
    ·exact .inl (by omega)
    ·obtain ⟨p,_,_,_,h4,_⟩:=gi g hg.1;exact h4
  ·have key:∃ r0,s.mem t' n'=some r0/\(ι.delO q) t' n'=ι t' n'/\r'=r0.map (fun x=>⟨x.v.killO q,x.a⟩):=by
    cases q with
    | none=>exact ⟨r',hr,rfl,by simp [AV.killO]⟩
    | some p =>
     simp only [pA.killO,pA.kill] at hr;split at hr
     ·cases hr
     ·rename_i hn;cases ae:s.mem t' n' with
      | none=>rw [ae] at hr; cases hr
      | some r0 =>
       rw [ae] at hr;injection hr with hr;exact ⟨r0,rfl,if_neg hn,hr.symm⟩
   obtain ⟨r0,ae,zp,rfl⟩:=key;obtain ⟨h0,b,ua,uh,h1,h2,h3,h4,h5⟩:=R.rows t' n' r0 ae;have pg:(ι.delO q) t' n'=some b:=zp.trans h1;obtain ⟨_,hng,_⟩:=del _ _ _ pg;refine ⟨ub ▸ h0,b,ua,uh,nf _ _ _ pg,(blk b (cA h2) hng).trans h2,?_,h4,h5.trans (en _ _ _ h1).symm⟩;cases ul:q with
   | none =>
    have:r0.map (fun x:rA=>(⟨x.v.killO none,x.a⟩:rA))=r0:=by simp [AV.killO]
    rw [this];exact h3.held (sb ul) hA (fun _ _ h=>h)
   | some p=>exact h3.killW (ec p ul) hA
 ·rcases rd _ _ _ h with ⟨e1,e2,e3⟩ | ⟨h,_⟩
  ·subst e3;refine ⟨?_,uz,.inr ⟨by rw [e2]; exact ay.symm,.inr e1⟩⟩;rcases hg with hg | hg
   ·exact .inl (by omega)
   ·obtain ⟨p,_,h3,_⟩:=gi b hg.1;exact (R.mine _ _ _ h3).1
  ·obtain ⟨h1,h2,h3⟩:=R.mine t' n' b (del _ _ _ h).1;refine ⟨h1,by omega,?_⟩;show n'<(s.killO q).next\/n'=(s.killO q).next/\_;rw [ay];exact h3.imp id fun ⟨e,d⟩=>⟨e,.inl d⟩
 ·rcases rd _ _ _ h with ⟨e1,e2,e3⟩ | ⟨h,hn⟩ <;> rcases rd _ _ _ h' with ⟨f1,f2,f3⟩ | ⟨h',wn⟩
  ·exact ⟨e1.trans f1.symm,e2.trans f2.symm⟩
  ·exact absurd e3 (del _ _ _ h').2.2
  ·exact absurd f3 (del _ _ _ h).2.2
  ·exact R.inj _ _ _ _ _ (del _ _ _ h).1 (del _ _ _ h').1
 ·obtain ⟨h1,h2,h3,h4,ua,h5,h6⟩:=R.tok k o h;exact ⟨h1,h2,h3,h4,ua,(blk _ (cA h5) fun hb=>by
   obtain ⟨p,_,h7,_⟩:=gi _ hb;exact R.apart k o _ _ h h7).trans h5,h6⟩
 ·rcases rd _ _ _ h' with ⟨e1,e2,e3⟩ | ⟨h',_⟩
  ·obtain ⟨_,_,_,_,ua,h5,_⟩:=R.tok k o h;rcases hg with hg | hg
   ·have:=cA h5; omega
   ·obtain ⟨p,_,h7,_⟩:=gi _ hg.1;exact R.apart k o _ _ h (e3 ▸ h7)
  ·exact R.apart k o t' n' h (del _ _ _ h').1
 ·obtain ⟨h1,h2⟩:=R.pin p h;have pg:(ι.delO q) 0 0=some p:=by
   cases ul:q with
   | none=>exact h1
   | some p' =>
    subst ul;exact (Ix.del_lk ι p'.1 p'.2).f _ _ _ (fun e=>hq.1 e.1.symm) h1
  exact ⟨nf _ _ _ pg,h2.imp (fun g=>⟨g.1,(en _ _ _ h1).trans g.2⟩) fun g=>ub ▸ g⟩
 ·exact R.kept.trans hk fun i hi hb=>by
   obtain ⟨p,_,h3,_⟩:=gi i hb;rcases (R.mine _ _ _ h3).1 with h | h
   ·have:=R.base; omega
   ·exact h
 ·have h:s.obj t' n'=some S:=by
   have:((s.killO q).setRow d s.next (l.map (⟨·,.no⟩))).obj=s.obj:=hobj;rw [this] at h;exact h
  obtain ⟨p,H,h1,h2,h3,h4⟩:=R.objs t' n' S h;have af:∀ t1 n1 b1 H1,ι t1 n1=some b1->ι.ob t1 n1=some H1->ι' t1 n1=some b1:=fun t1 n1 b1 H1 g1 g2=>by
   refine nf _ _ _ ?_;cases ul:q with
   | none=>exact g1
   | some p' =>
    refine (Ix.del_lk ι p'.1 p'.2).f _ _ _ (fun e=>?_) g1;subst ul;obtain ⟨_,r,b,m1,m2,m3⟩:=hq;have:=(R.rows _ _ _ m1).1;rw [e.1,e.2,this] at g2;cases g2
  have hHb:∀ b,H b->¬ g0 b:=fun b hb h=>by
   obtain ⟨p',e,h5,h6,_⟩:=gi b h;have e2:=((R.obs _ _ _ h2).1 b hb).2.2.1 _ _ h5;rw [e2.1,e2.2,h2] at h6;cases h6
  exact ⟨p,H,af _ _ _ _ h1 h2,ub ▸ h2,O.keep h3 (fun b hb=>blk b (O.lt h3 hb) (hHb b hb)) oc,h4.keep (fun t1 n1 b1 H1 g1 g2=>⟨af _ _ _ _ g1 g2,H1,ub ▸ g2⟩) fun x hx=>(blk _ (cA hx) (hHb _ (O.main h3))).trans hx⟩
 ·rw [ub] at h;obtain ⟨h1,h2⟩:=R.obs t' n' H h;refine ⟨fun b hb=>?_,?_⟩
  ·obtain ⟨g1,g2,g3,g4,g5⟩:=h1 b hb;refine ⟨g1,by omega,fun t2 n2 h'=>?_,g4,ub ▸ g5⟩;rcases rd _ _ _ h' with ⟨e1,e2,e3⟩ | ⟨h',_⟩
   ·exfalso;rcases hg with hg | hg
    ·omega
    ·obtain ⟨p',e,h5,h6,_⟩:=gi g hg.1;have e4:=g3 _ _ (e3 ▸ h5);rw [e4.1,e4.2,h] at h6;cases h6
   ·exact g3 t2 n2 (del _ _ _ h').1
  ·show n'<(s.killO q).next\/n'=(s.killO q).next/\_;rw [ay];exact h2.imp id fun ⟨e,d⟩=>⟨e,.inl d⟩
 ·show GA ι' _ _ w' ((s.killO q).gh j).v _;rw [hgh];exact hS _ _ (R.gen j)
 ·show kJ Θ ((s.killO q).gh j).a _;rw [hgh];exact R.gann j
theorem compN_H {cl:Cl} {hs:Nat->Bool} {L:List Nat} {op:Go.Op} {k:K} (h:NV P cl hs L op=some k):isH k=false:=by
 unfold NV at h;split at h
 ·split at h
  ·obtain ⟨_,_,rfl⟩:=yl.1 h; rfl
  ·split at h
   ·split at h
    ·split at h
     ·split at h
      ·split at h
       ·split at h
        ·split at h
         ·injection h with h; subst h; rfl
         ·split at h
          ·injection h with h; subst h; rfl
          ·cases h
        ·cases h
       ·cases h
      ·cases h
     ·cases h
    ·cases h
   ·cases h
 ·cases h
theorem take_of {av:Av} {cs:List AV} {us:List Value} (h:rB av w cs us) {cur:Array Value} (hc:∀ (j:Nat) (u:Value),us[j]?=some u->cur[j]?=some u):us=cur.toList.take cs.length:=by
 have hl:=mC (cD (ι:=Ix.none) h);refine List.ext_getElem? fun j=>?_
 rw [yy];split
 ·rename_i hj;have hu:us[j]?=some us[j]:=yg (by omega);rw [hu,Array.getElem?_toList,hc j _ hu]
 ·exact Y07 (by omega)
theorem op_own (R:DB P O nt B F0 aa w0 D s a w ι Θ) {call:uB} (ib:∀ f args S r,call f args S=some r->LA P O f args S r) {cl:Cl} {hs:Nat->Bool} {L:List Nat} {k:K} (hk:NV P cl hs L o.op=some k) (hd:∀ d,o.dst=some d->d<nt) (hD:∀ d,o.dst=some d->(A7 k||CT k)=true->¬ D d)
  {xe:rA × SC} (hr:k.run call s=some xe) {g} {s':pA} (he:WA.eff ⟨o.dst,k,g⟩ s xe=some s')
  {Kn:Act->World->Prop} {Q:Exit->Act->World->Prop} (hK:∀ a' w',WD P O nt B F0 aa w0 (fun t=>D t\/o.dst=some t) s' a' w'->Kn a' w'):o.wp P a w Kn Q:=by
 unfold NV at hk;split at hk
 case h_2=>cases hk
 rename_i f Xs ts ho;have gp:(Xs.toList.map a.eval).toArray=Xs.map a.eval:=by rw [<- Array.toList_map,yX]
 have run:(∀ xs w,(callFunc f xs).run P w=.ok (.enter f xs) w)->(execOp a.eval o).run P w=.ok (.enter f (Xs.map a.eval)) w:=fun h=>by
  simp only [execOp,ho,resolve,Act.eval,Deferred.ofValue,Sem.run_bind,Sem.run_pure,Result.andThen_ok,invoke];have:=h (#[]++Xs.map a.eval++#[]) w;simp_all
 have oj:∀ b o,BB aa ι Θ b o->b<w.heap.size:=fun b o h=>R.low h
 obtain ⟨x,e⟩:=xe;split at hk
 ·-- numbers and letters,by what the memory of the arguments cv
  obtain ⟨xs,lc,rfl⟩:=yl.1 hk;simp only [K.run] at hr;split at hr
  case isFalse=>cases hr
  rename_i ia;obtain ⟨r,hc,hr⟩:=y9.1 hr;split at hr
  case h_2=>cases hr
  rename_i v;split at hr
  case isFalse=>cases hr
  rename_i ik;injection hr with hr;injection hr with h1 h2;subst h1; subst h2;have hm:OF (xs.map fun x=>(x.get s).frz s)=false:=by
   cases hv:xs.map fun x=>(x.get s).frz s with
   | nil=>rfl
   | cons y ys =>
    have:=y8.1 ia.2 y (by rw [hv]; exact yp);cases y <;> first | rfl | (simp [AV.free,AV.free0] at this; done)
  have sa:=(LA.of hm).1 (ib f _ none _ hc);have eb:∀ {Xs:List Operand} {xs:List bB},kF Xs=some xs->(xs.map fun x=>(x.get s).frz s).all AV.free=true->sG Ix.none (P9 s (BB aa ι Θ) ι) (fun _ _=>False) w (xs.map fun x=>(x.get s).frz s) (Xs.map a.eval):=by
   intro Xs
   induction Xs with
   | nil=>intro xs h _; injection h with h; subst h; rfl
   | cons X Xr ih =>
    intro xs h hf;unfold kF at h;split at h
    ·rename_i y ys hy hys;injection h with h;subst h;simp only [yk,List.all_cons,ye] at hf ⊢;exact ⟨_,_,rfl,pY ((R.opd hy).1.frz R) hf.1,ih hys hf.2⟩
    ·cases h
  simp only [WA.eff] at he;injection he with he;subst he;have hC:=sa.2 (P9 s (BB aa ι Θ) ι) w _ (fun b o h=>oj b o h.1) (eb lc ia.2);rw [gp] at hC;unfold Oper.wp;rw [run sa.1,Oper.upon_enter];refine hC.mono ?_;rintro e w' ⟨u,rfl,hv,hb⟩;have R':DB P O nt B F0 aa w0 D s a w' ι Θ:=R.grow (fun b jb=>hb.block b jb) hb.size (R.kept.trans_below hb);refine hK _ _ ⟨ι,Θ,(R'.putN (x:=⟨v,.no⟩) hd ?_ trivial).more fun _ h=>.inl h⟩;refine cJ ?_;cases v with
  | tup vs =>
   obtain ⟨us,hu,ht⟩:=hv;refine ⟨us,hu,?_⟩;have key:∀ {vs:List AV} {us:List Value},vs.all AV.scal=true->mL (P9 s (BB aa ι Θ) ι) w' vs us->mL (BB aa ι Θ) w' vs us:=by
    intro vs
    induction vs with
    | nil=>intro us _ h; exact h
    | cons y r ih =>
     intro us hs h;simp only [List.all_cons,ye] at hs;simp only [mL] at h ⊢;obtain ⟨u,db,rfl,h0,h⟩:=h;refine ⟨u,db,rfl,?_,ih hs.2 h⟩;cases y <;> first | exact h0 | (simp [AV.scal] at hs; done)
   exact key ik ht
  | _=>first | exact hv | (simp [AV.plain,AV.scal] at ik; done)
 ·split at hk
  case isFalse=>cases hk
  split at hk
  case h_2=>cases hk
  split at hk
  case h_2=>cases hk
  split at hk
  case h_2=>cases hk
  split at hk
  case h_2=>cases hk
  rename_i z ys hz lc;split at hk
  case isFalse=>cases hk
  split at hk
  ·-- a new slice
   injection hk with hk;subst hk;simp only [K.run] at hr;split at hr
   case h_2=>cases hr
   rename_i vs hl sh;obtain ⟨r,hc,hr⟩:=y9.1 hr;split at hr
   case h_2=>cases hr
   rename_i b l;split at hr
   case isFalse=>cases hr
   rename_i ia;have sa:SG P O f vs none (.sl b l,none):=LA.own (ZM hl) (ib f (.undef :: vs) none _ hc);have nob:∀ x∈ys,∀ t n,x.get s=.ptr t n 0->False:=fun x hx t n h=>by
    have:(t,n)∈NF s ys:=List.mem_filterMap.2 ⟨x,hx,by rw [h]⟩;rw [sh] at this;cases this
   have eb:=mG (ι':=Ix.none) (avl:=fun _ _=>False) R (fun _ _ h=>h.elim) lc hl fun x hx t n h=>(nob x hx t n h).elim
   have hC:=sa.2 (BB aa ι Θ) w _ oj eb;rw [gp] at hC;unfold Oper.wp;rw [run sa.1,Oper.upon_enter];refine hC.mono ?_;rintro e' w' ⟨u,rfl,hv,hb⟩;split at hr
   ·rename_i lm;have gg:l=[]:=by simpa using lm
    subst gg;injection hr with hr;injection hr with h1 h2;subst h1; subst h2;simp only [WA.eff] at he;injection he with he;subst he;rw [if_pos rfl] at hv;have R':DB P O nt B F0 aa w0 D s a w' ι Θ:=R.grow (fun b jb=>hb.block b jb) hb.size (R.kept.trans_below hb);exact hK _ _ ⟨ι,Θ,(R'.putN (x:=⟨.sl b [],.ex⟩) hd (cJ hv.1) (hv.2.imp fun A h=>⟨0,h⟩)).more fun _ h=>.inl h⟩
   ·rename_i lm;have za:l≠[]:=fun h=>lm (by simp [h])
    split at hr
    case isTrue=>cases hr
    injection hr with hr;injection hr with h1 h2;subst h1; subst h2;cases ka:o.dst with
    | none=>simp [WA.eff,ka] at he
    | some d =>
     simp only [WA.eff,ka] at he;injection he with he;subst he;rw [if_neg za] at hv;obtain ⟨g',c,cur,ty,rfl,hg,ra,sb,xk,ic⟩:=hv z ia.1;obtain ⟨ι',R'⟩:=R.swap (q:=none) (g0:=fun _=>False) (fun _ h=>h) (ZA.of_below hb _) (hd d ka) (hD d ka rfl) (l:=l.flatten) (hg.imp id fun h=>h.1.elim) ra ic (x:=.ref d s.next z 0 l.length l.length) (v:=.slice (some ⟨g',0,none⟩) l.length c) fun ι' h1 h2=>⟨g',h1,yf _,c,sb,by rw [h2,yr]; exact xk,rfl⟩
     refine hK _ _ ⟨ι',Θ,?_⟩;rw [ka];exact R'.more fun t h=>h.imp id fun e=>by rw [e]
  ·split at hk
   case h_2=>cases hk
   rename_i y rest;injection hk with hk;subst hk
   -- the first argument is the row
   cases dw:Xs.toList with
   | nil=>rw [dw] at lc; cases lc
   | cons X Xr =>
    rw [dw] at lc gp;unfold kF at lc;split at lc
    case h_2=>cases lc
    rename_i y' rest' hy hrest;injection lc with lc;injection lc with e1 e2;subst e1; subst e2;simp only [K.run] at hr;split at hr
    case h_2=>cases hr
    rename_i vs hl sh;split at hr
    case isFalse=>cases hr
    have nob:∀ x∈rest',∀ t n,x.get s=.ptr t n 0->False:=fun x hx t n h=>by
     have:(t,n)∈NF s rest':=List.mem_filterMap.2 ⟨x,hx,by rw [h]⟩;rw [sh] at this;cases this
    have eb:=mG (ι':=Ix.none) (avl:=fun _ _=>False) R (fun _ _ h=>h.elim) hrest hl fun x hx t n h=>(nob x hx t n h).elim
    have hY:=(R.opd hy).1;have mI:∀ {q:Option (Nat × Nat)} {g0:Nat->Prop} {l':List (List AV)} {nl:Bool} {l0:List (List AV)},(match q with
      | none=>∀ b,¬ g0 b
      | some p=>p.1≠0/\∃ r b,s.mem p.1 p.2=some r/\ι p.1 p.2=some b/\∀ b',g0 b' ↔ b'=b)->SG P O f (.sl nl l0 :: vs) (some (.int .i64 z)) (.sl false l',none)->G3 z (BB aa ι Θ) w nl l0 (a.eval X) g0 →
      (∀ d,o.dst=some d->s'=(((s.killO q).setRow d s.next (xA l')).put (some d) ⟨.ref d s.next z 0 l'.length l'.length,.no⟩))->(o.dst=none->False)->o.wp P a w Kn Q:=fun {q g0 l' nl l0} hq sa hgi ky zc=>by
     have hC:=sa.2 (BB aa ι Θ) w (a.eval X) _ g0 oj eb (by simpa using hgi);have he1:(a.eval X :: Xr.map a.eval).toArray=Xs.map a.eval:=by rw [<- gp]; rfl
     rw [he1] at hC;unfold Oper.wp;rw [run sa.1,Oper.upon_enter];refine hC.mono ?_;rintro e' w' ⟨u,rfl,⟨g',c,cur,ty,rfl,hg,ra,sb,xk,ic⟩,nj⟩;cases ka:o.dst with
     | none=>exact (zc ka).elim
     | some d =>
      obtain ⟨ι',R'⟩:=R.swap (q:=q) hq nj (hd d ka) (hD d ka rfl) (l:=l'.flatten) hg ra ic (x:=.ref d s.next z 0 l'.length l'.length) (v:=.slice (some ⟨g',0,none⟩) l'.length c) fun ι' h1 h2=>⟨g',h1,yf _,c,sb,by rw [h2,yr]; simpa using xk,rfl⟩
      refine hK _ _ ⟨ι',Θ,?_⟩;rw [ky d ka,ka];exact R'.more fun t h=>h.imp id fun e=>by rw [e]
    split at hr
    ·rename_i t n z' off ln cap ao;split at hr
     case h_2=>cases hr
     rename_i l0 gb;split at hr
     case isFalse=>cases hr
     rename_i ia;obtain ⟨rfl,rfl,ht0,hLt⟩:=ia;obtain ⟨r,hc,hr⟩:=y9.1 hr;split at hr
     case h_2=>cases hr
     rename_i l';split at hr
     case isFalse=>cases hr
     injection hr with hr;injection hr with h1 h2;subst h1; subst h2;have sa:SG P O f (.sl false l0 :: vs) (some (.int .i64 z')) (.sl false l',none):=LA.own rfl (ib f (.undef :: .sl false l0 :: vs) _ _ hc);rw [ao] at hY;obtain ⟨b,hb,sb,cc,ah,en,hv⟩:=hY;simp only [AV.elems] at gb;split at gb
     case isFalse=>cases gb
     obtain ⟨row,hm,gb⟩:=y9.1 gb;obtain ⟨zc,b',cur,ty,jb,ra,ja,_,xk⟩:=R.rows t n row hm;rw [hb] at jb;injection jb with jb;subst jb;obtain ⟨q1,q2,us,q3,q4⟩:=IG ja ra gb;have de:us=cur.toList.take l0.flatten.length:=take_of q3 fun j u hj=>by
      have:=q4 j u hj;simpa [World.cell?,ra] using this
     rw [de] at q3;subst q1;refine mI (q:=some (t,n)) (g0:=fun x=>x=b) ⟨ht0,row,b,hm,hb,fun _=>Iff.rfl⟩ sa (.inr ⟨rfl,b,cc,cur,ty,hv,fun _=>Iff.rfl,ra,yB sb ah,by rw [xk]; simpa using en,fun o=>.inr (.inl (.inl ⟨t,n,hb⟩)),q3⟩) (fun d ka=>?_) fun ka=>by simp [WA.eff,ka] at he
     simp only [WA.eff,ka] at he;injection he with he;exact he.symm
    ·rename_i b ao;split at hr
     case isFalse=>cases hr
     rename_i kj;obtain ⟨r,hc,hr⟩:=y9.1 hr;split at hr
     case h_2=>cases hr
     rename_i l';split at hr
     case isFalse=>cases hr
     injection hr with hr;injection hr with h1 h2;subst h1; subst h2;have sa:SG P O f (.sl b [] :: vs) (some (.int .i64 z)) (.sl false l',none):=LA.own rfl (ib f (.undef :: .sl b [] :: vs) _ _ hc);have hYa:=(R.opd hy).2;rw [ao] at hY;obtain ⟨A,c,hv,_,_,h3,_⟩:=hY;obtain ⟨wq,hnil⟩:c=0/\(b=true->A=none):=by
      cases b with
      | true =>
       obtain ⟨rfl,_,rfl⟩:=h3 rfl;exact ⟨rfl,fun _=>rfl⟩
      | false =>
       refine ⟨?_,fun h=>by cases h⟩;unfold uX iB at kj;cases ha:y'.an s with
       | ex =>
        rw [ha,hv] at hYa;obtain ⟨A',n',h⟩:=hYa;injection h with _ h1 h2;rw [h2,<- h1]; rfl
       | no=>rw [ha] at kj; cases kj
       | own k e=>rw [ha] at kj; cases kj
     refine mI (q:=none) (g0:=fun _=>False) (fun _ h=>h) sa (.inl ⟨rfl,⟨A,by rw [hv,wq]; rfl⟩,fun h=>by rw [hv,wq,hnil h]; rfl,fun _ h=>h⟩) (fun d ka=>?_) fun ka=>by simp [WA.eff,ka] at he
     simp only [WA.eff,ka] at he;injection he with he;exact he.symm
    ·cases hr
end
end
section
open Go Go.RowKit
section
variable {P:Program} {O:XE} {nt B:Nat} {F0:BN} {aa:Av} {w0:World} {D:Nat->Prop} {s:pA} {a:Act} {w w':World} {ι:Ix} {Θ:aJ} {o:Oper}
theorem XB (R:DB P O nt B F0 aa w0 D s a w ι Θ) {x:rA} {e:SC} (hv:e=.none/\pS P aa a w ι Θ o x) (hd:∀ d,o.dst=some d->d<nt) {k:K} {g} {s':pA} (he:WA.eff ⟨o.dst,k,g⟩ s (x,e)=some s')
  {Kn:Act->World->Prop} {Q:Exit->Act->World->Prop} (hK:∀ a' w',WD P O nt B F0 aa w0 D s' a' w'->Kn a' w'):o.wp P a w Kn Q:=by
 obtain ⟨rfl,v,na,hS,hA⟩:=hv;simp only [WA.eff] at he;cases he;unfold Oper.wp;rw [na,Oper.upon_value];exact hK _ _ ⟨ι,Θ,R.putN hd hS hA⟩
theorem K8 {s':pA} (h:∃ v w',(execOp a.eval o).run P w=.ok (.value v) w'/\WD P O nt B F0 aa w0 D s' (a.put o.dst v) w')
  {Kn:Act->World->Prop} {Q:Exit->Act->World->Prop} (hK:∀ a' w',WD P O nt B F0 aa w0 D s' a' w'->Kn a' w'):o.wp P a w Kn Q:=by
 obtain ⟨v,w',na,hR⟩:=h;unfold Oper.wp;rw [na,Oper.upon_value];simp_all
theorem HC {α β:Type} {x:Option α} {f:α->β} {z:β} (h:x.map f=some z):∃ a,x=some a/\f a=z:=by
 simp_all
theorem opd_one {xs:Array Operand} {x':bB} (hx:kF xs.toList=some [x']):∃ X,xs=#[X]/\opd X=some x':=by
 obtain ⟨l⟩:=xs
 match l,hx with
 | [X],hx =>
  unfold kF at hx
  grind
 | [],hx=>simp [kF] at hx
 | X :: Y :: r,hx =>
  unfold kF at hx;split at hx
  ·rename_i y l hy hl;injection hx with hx;injection hx with h1 h2;subst h2;unfold kF at hl
   grind
  ·cases hx
theorem op_sound (R:DB P O nt B F0 aa w0 D s a w ι Θ) {call:uB} (ib:∀ f args S r,call f args S=some r->LA P O f args S r) {cl:Cl} {mu:Option Bool} {nest:Bool} {k:K} (hk:B7 P cl mu o.op nest=some k) (jn:mu≠none->o.dst≠none) (hd:∀ d,o.dst=some d->d<nt) (hD:∀ d,o.dst=some d->(A7 k||CT k)=true->¬ D d)
  {xe:rA × SC} (hr:k.run call s=some xe) {g} {s':pA} (he:WA.eff ⟨o.dst,k,g⟩ s xe=some s')
  {Kn:Act->World->Prop} {Q:Exit->Act->World->Prop} (hK:∀ a' w',WD P O nt B F0 aa w0 (fun t=>D t\/o.dst=some t) s' a' w'->Kn a' w'):o.wp P a w Kn Q:=by
 have od:∀ a' w',WD P O nt B F0 aa w0 D s' a' w'->Kn a' w':=fun a' w' ⟨ι',Θ',h⟩=>hK a' w' ⟨ι',Θ',h.more fun _ h=>.inl h⟩
 have uc:∀ d,o.dst=some d->(∃ v w',(execOp a.eval o).run P w=.ok (.value v) w'/\WD P O nt B F0 aa w0 (fun t=>D t\/t=d) s' (a.put o.dst v) w')->o.wp P a w Kn Q:=fun d ka h =>
  K8 h fun a' w' ⟨ι',Θ',h⟩=>hK a' w' ⟨ι',Θ',h.more fun t h=>h.imp id fun e=>by rw [ka,e]⟩
 obtain ⟨x,e⟩:=xe;cases tb:o.op <;> rw [tb] at hk <;> simp only [B7] at hk
 case move X=>obtain ⟨y,hy,rfl⟩:=HC hk; simp only [K.run] at hr; injection hr with hr; injection hr with h1 h2; subst h1; subst h2; exact XB R ⟨rfl,val_mv R hy (.inl tb)⟩ hd he od
 case assign X=>obtain ⟨y,hy,rfl⟩:=HC hk; simp only [K.run] at hr; injection hr with hr; injection hr with h1 h2; subst h1; subst h2; exact XB R ⟨rfl,val_mv R hy (.inr tb)⟩ hd he od
 case pick C X Y =>
  split at hk
  ·rename_i c x' y' hc hx hy;cases hk;simp only [K.run] at hr;split at hr
   ·rename_i t ht;injection hr with hr; injection hr with h1 h2; subst h1; subst h2;exact XB R ⟨rfl,val_pick R hc hx hy tb ht⟩ hd he od
   ·cases hr
  ·cases hk
 case alloc t =>
  split at hk
  case h_2 =>
   obtain ⟨el,gb,rfl⟩:=HC hk;simp only [K.run] at hr;injection hr with hr; injection hr with h1 h2; subst h1; subst h2;cases ka:o.dst with
   | none=>simp [WA.eff,ka] at he
   | some d =>
    simp only [WA.eff,ka] at he;cases he;exact uc d ka (op_mkb R gb tb ka (hd d ka) (hD d ka rfl))
  obtain ⟨z,hz,rfl⟩:=HC hk;cases ka:o.dst with
  | none=>simp [K.run] at hr; obtain ⟨rfl,rfl⟩:=hr; simp [WA.eff,ka] at he
  | some d=>exact uc d ka (op_alloc R hz tb ka (hd d ka) (hD d ka rfl) hr he)
 case box t X =>
  split at hk
  ·rename_i z x' hz hx;cases hk;cases ka:o.dst with
   | none =>
    simp only [K.run] at hr;split at hr
    ·split at hr
     ·injection hr with hr; injection hr with h1 h2; subst h1; subst h2; simp [WA.eff,ka] at he
     ·cases hr
    ·split at hr
     ·injection hr with hr; injection hr with h1 h2; subst h1; subst h2; simp [WA.eff,ka] at he
     ·cases hr
   | some d=>exact uc d ka (op_boxE R hx tb ka (hd d ka) (hD d ka rfl) hr he)
  ·cases hk
 case build t ps =>
  split at hk
  ·rename_i fs z ys ht hz hy;split at hk
   ·rename_i pl ik;obtain ⟨zs,ti,rfl⟩:=HC hk;obtain ⟨zv,i,hi,bq,_,hl⟩:=BF hz w;refine XB R (I3 R hl (pl:=(pl.toArray[·]?)) ?_ hy ti tb hr) hd he od;simp [Program.built,hi,ht,bq,ik]
   ·cases hk
  ·rename_i n el z ys ht hz hy;split at hk
   ·rename_i ie hie;obtain ⟨zs,ti,rfl⟩:=HC hk;obtain ⟨zv,i,hi,bq,_,hl⟩:=BF hz w;refine XB R (I3 R hl (pl:=fun i=>some (i * ie.size,ie.size)) ?_ hy ti tb hr) hd he od;simp [Program.built,hi,ht,bq,hie]
   ·cases hk
  ·cases hk
 case buildSlice t n ps =>
  split at hk
  ·rename_i el ys ht hy;split at hk
   ·rename_i z kk hz hs;split at hk
    ·rename_i hc;cases mu with
     | none =>
      simp only at hk;cases hk;obtain ⟨rfl,v,w',na,R',hS,hA⟩:=op_bsl R ht hz hs hc.1 hc.2.1 hc.2.2 hy tb hr;simp only [WA.eff] at he;cases he;unfold Oper.wp;rw [na,Oper.upon_value];exact od _ _ ⟨ι,Θ,R'.putN hd hS hA⟩
     | some m =>
      simp only at hk;cases hk;cases ka:o.dst with
      | none=>exact absurd ka (jn (by simp))
      | some d=>exact uc d ka (op_bslr R ht hz hs hc.1 hc.2.1 hc.2.2 hy tb ka (hd d ka) (hD d ka rfl) hr he)
    ·cases hk
   ·cases hk
  ·cases hk
 case load t X =>
  split at hk
  ·rename_i ag z y hA hz hx;cases hk;exact XB R (val_load R hA hz hx tb hr) hd he od
  ·cases hk
 case store t X Y =>
  split at hk
  ·rename_i ag z x' y' hA hz hx hy;split at hk
   ·rename_i hag;cases hk;obtain ⟨w',na,hR⟩:=op_store R hz (by simpa using hag) hx hy tb hd hr he;unfold Oper.wp;rw [na,Oper.upon_skip];simp_all
   ·cases hk
  ·cases hk
 case nilCheck X=>obtain ⟨y,hy,rfl⟩:=HC hk; exact XB R (g9 R hy tb hr) hd he od
 case binOp op t X Y t' =>
  split at hk
  ·rename_i x' y' hx hy;split at hk
   ·cases hk;simp only [K.run] at hr;obtain ⟨v,hv,hr⟩:=HC hr;injection hr with h1 h2; subst h1; subst h2
    refine XB R ⟨rfl,val_bin R (fun hb=>?_) hx hy tb hv⟩ hd he od
    grind
   ·split at hk
    ·split at hk
     ·rename_i el ht; injection hk with hk; subst hk; exact XB R (zX R (neg:=false) (ptr:=false) ⟨el,ht⟩ hx hy tb hr) hd he od
     ·rename_i el ht; injection hk with hk; subst hk; exact XB R (zX R (neg:=false) (ptr:=true) ⟨el,ht⟩ hx hy tb hr) hd he od
     ·obtain ⟨ks,ht,rfl⟩:=HC hk; exact XB R (val_eqa R (neg:=false) ht hx hy tb hr) hd he od
    ·split at hk
     ·rename_i el ht; injection hk with hk; subst hk; exact XB R (zX R (neg:=true) (ptr:=false) ⟨el,ht⟩ hx hy tb hr) hd he od
     ·rename_i el ht; injection hk with hk; subst hk; exact XB R (zX R (neg:=true) (ptr:=true) ⟨el,ht⟩ hx hy tb hr) hd he od
     ·obtain ⟨ks,ht,rfl⟩:=HC hk; exact XB R (val_eqa R (neg:=true) ht hx hy tb hr) hd he od
    ·cases hk
  ·cases hk
 case unOp op t X =>
  split at hk
  ·obtain ⟨y,hy,rfl⟩:=HC hk; exact XB R (val_un R hy tb hr) hd he od
  ·cases hk
 case convert t t' X =>
  split at hk
  ·rename_i j kk x' h1 h2 hx; injection hk with hk; subst hk; exact XB R (U7 R (k:=some kk) ⟨⟨j,h1⟩,h2⟩ hx tb hr) hd he od
  ·rename_i x' h1 h2 hx; injection hk with hk; subst hk; exact XB R (U7 R (k:=none) ⟨h1,h2⟩ hx tb hr) hd he od
  ·rename_i j x' h1 h2 hx; injection hk with hk; subst hk; exact XB R (val_rstr R h1 h2 hx tb hr) hd he od
  ·rename_i el x' h1 h2 hx;split at hk
   ·rename_i h3;split at hk
    ·injection hk with hk; subst hk; exact XB R (val_bstr R h1 h3 h2 hx tb hr) hd he od
    ·cases hk
   ·cases hk
  ·cases hk
 case makeSlice t L C =>
  split at hk
  ·rename_i el l c ht hl hc;split at hk
   ·rename_i z i hz hi;split at hk
    ·rename_i ia;cases hk;cases ka:o.dst with
     | none =>
      simp only [K.run] at hr;split at hr
      ·split at hr
       ·injection hr with hr; injection hr with h1 h2; subst h1; subst h2; simp [WA.eff,ka] at he
       ·cases hr
      ·cases hr
     | some d=>exact uc d ka (op_mks R ht hi hz ia.1 hl hc tb ka (hd d ka) (hD d ka rfl) hr he)
    ·cases hk
   ·cases hk
  ·cases hk
 case slice t X L H M =>
  split at hk
  ·rename_i x' l h m hx hl hh hm;split at hk
   ·rename_i ht;cases hk;cases M with
    | none=>injection hm with hm; subst hm; exact XB R (val_slc R (str:=true) ht hx hl hh tb hr) hd he od
    | some M=>simp only [rX] at hm; obtain ⟨m',_,rfl⟩:=HC hm; simp [K.run] at hr
   ·rename_i el ht;split at hk
    ·rename_i en;obtain ⟨z,hz,rfl⟩:=HC hk;rw [ye] at en;exact XB R (val_slz R ht hz en.1 en.2 hx tb hr) hd he od
    ·obtain ⟨z,hz,rfl⟩:=HC hk;cases M with
     | none=>injection hm with hm; subst hm; exact XB R (val_slc R (str:=false) ⟨el,ht,hz⟩ hx hl hh tb hr) hd he od
     | some M=>simp only [rX] at hm; obtain ⟨m',_,rfl⟩:=HC hm; simp [K.run] at hr
   ·rename_i n' el ht;cases M with
    | none =>
     injection hm with hm; subst hm;obtain ⟨z,hz,rfl⟩:=HC hk;exact XB R (val_aslc R ht hz hx hl hh tb hr) hd he od
    | some M=>simp only [rX] at hm; obtain ⟨m',_,rfl⟩:=HC hm; cases hk
   ·cases hk
  ·cases hk
 case fieldAddr t X i =>
  split at hk
  ·rename_i fs x' ht hx;split at hk
   ·rename_i f hf;split at hk
    ·rename_i n hn; injection hk with hk; subst hk; exact XB R (val_faddr R ht hf hn hx tb hr) hd he od
    ·cases hk
   ·cases hk
  ·cases hk
 case field t X i =>
  split at hk
  ·rename_i fs x' ht hx;split at hk
   ·rename_i f hf;split at hk
    ·rename_i ag z hA hz; injection hk with hk; subst hk; exact XB R (val_field R ht hf hA hz hx tb hr) hd he od
    ·cases hk
   ·cases hk
  ·cases hk
 case indexAddr t X I =>
  split at hk
  ·rename_i el x' i' ht hx hi;obtain ⟨z,hz,rfl⟩:=HC hk;exact XB R (val_iaddr R ht hz hx hi tb hr) hd he od
  ·rename_i n' e x' i' ht hx hi;obtain ⟨z,hz,rfl⟩:=HC hk;exact XB R (val_aaddr R ht hz hx hi tb hr) hd he od
  ·cases hk
 case index t X I =>
  split at hk
  ·rename_i x' i' ht hx hi;cases hk;exact XB R (val_index R ht hx hi tb hr) hd he od
  ·cases hk
 case makeMap t r =>
  split at hk
  ·rename_i kT eT ht;obtain ⟨ty,lf,rfl⟩:=HC hk;simp only [K.run] at hr;injection hr with hr; injection hr with h1 h2; subst h1; subst h2;cases ka:o.dst with
   | none=>simp [WA.eff,ka] at he
   | some d =>
    simp only [WA.eff,ka] at he;cases he;have h:=op_mkm R tb ka (hd d ka) (hD d ka rfl);exact uc d ka h
  ·cases hk
 case entry X =>
  obtain ⟨x',hx,rfl⟩:=HC hk;simp only [K.run] at hr;split at hr
  ·rename_i t' n md;split at hr
   ·rename_i tm nm N seen hi;split at hr
    ·rename_i L i hL hl;split at hr
     ·rename_i hN;split at hr
      ·rename_i y v ao;split at hr
       ·rename_i fi;injection hr with hr; injection hr with h1 h2; subst h1; subst h2;exact XB R ⟨rfl,val_ent R hx tb md hi hL hl hN ao fi⟩ hd he od
       ·cases hr
      ·cases hr
     ·cases hr
    ·cases hr
   ·cases hr
  ·cases hr
 case range t X =>
  split at hk
  ·rename_i kT eT ht;obtain ⟨x',hx,rfl⟩:=HC hk;simp only [K.run] at hr;split at hr
   ·rename_i t' n md;split at hr
    ·rename_i L hL;injection hr with hr; injection hr with h1 h2; subst h1; subst h2;cases ka:o.dst with
     | none=>simp [WA.eff,ka] at he
     | some d =>
      simp only [WA.eff,ka] at he;cases he;have h:=op_rng R ht hx tb md hL ka (hd d ka) (hD d ka rfl);exact uc d ka h
    ·cases hr
   ·cases hr
  ·cases hk
 case lookup t X I ok =>
  split at hk
  ·rename_i kT eT x' i' ht hx hi;split at hk
   ·rename_i ty z lf hz;cases hk;simp only [K.run] at hr;split at hr
    ·rename_i t' n md;split at hr
     ·rename_i L hL;split at hr
      ·rename_i ia;injection hr with hr; injection hr with h1 h2; subst h1; subst h2;unfold QY at lf;split at lf
       ·rename_i kk zk;cases lf;exact XB R ⟨rfl,OY R (cU kk) (Q4 zk) ht hz ia.2.2 hx hi tb md hL ia.1 ia.2.1⟩ hd he od
       ·rename_i zk;cases lf;exact XB R ⟨rfl,OY R bU (W4 zk) ht hz ia.2.2 hx hi tb md hL ia.1 ia.2.1⟩ hd he od
       ·obtain ⟨l,_,lf⟩:=y9.1 lf;split at lf
        ·rename_i fi;cases lf;exact XB R ⟨rfl,OY R (xU l) (j4 fi.1) ht hz ia.2.2 hx hi tb md hL ia.1 ia.2.1⟩ hd he od
        ·cases lf
      ·cases hr
     ·cases hr
    ·cases hr
   ·cases hk
  ·cases hk
 case mapUpdate t X I Y =>
  split at hk
  ·rename_i kT eT x' i' y' ht hx hi hy;obtain ⟨ty,lf,rfl⟩:=HC hk;simp only [K.run] at hr;split at hr
   ·rename_i t' n md;split at hr
    ·rename_i L hL;split at hr
     ·rename_i ia;injection hr with hr; injection hr with h1 h2; subst h1; subst h2;simp only [WA.eff] at he;cases he;have key:∃ w',(execOp a.eval o).run P w=.ok .skip w'/\WD P O nt B F0 aa w0 D ((s.setObj t' n (QG (IH L (i'.get s) (y'.get s)))).put o.dst ⟨.undef,.no⟩) (a.put o.dst undef) w':=by
       unfold QY at lf;split at lf
       ·rename_i kk zk;cases lf;exact XM R (cU kk) (Q4 zk) ht hx hi hy (.inl tb) hd md hL ia.1 ia.2.1 ia.2.2
       ·rename_i zk;cases lf;exact XM R bU (W4 zk) ht hx hi hy (.inl tb) hd md hL ia.1 ia.2.1 ia.2.2
       ·obtain ⟨l,_,lf⟩:=y9.1 lf;split at lf
        ·rename_i fi;cases lf;exact XM R (xU l) (j4 fi.1) ht hx hi hy (.inl tb) hd md hL ia.1 ia.2.1 ia.2.2
        ·cases lf
      obtain ⟨w',na,hR⟩:=key;unfold Oper.wp;rw [na,Oper.upon_skip];simp_all
     ·cases hr
    ·cases hr
   ·cases hr
  ·cases hk
 case insert t X I Y =>
  split at hk
  ·rename_i kT eT x' i' y' ht hx hi hy;obtain ⟨ty,lf,rfl⟩:=HC hk;simp only [K.run] at hr;split at hr
   ·rename_i t' n md;split at hr
    ·rename_i L hL;split at hr
     ·rename_i ia;injection hr with hr; injection hr with h1 h2; subst h1; subst h2;simp only [WA.eff] at he;cases he;have key:∃ w',(execOp a.eval o).run P w=.ok .skip w'/\WD P O nt B F0 aa w0 D ((s.setObj t' n (QG (IH L (i'.get s) (y'.get s)))).put o.dst ⟨.undef,.no⟩) (a.put o.dst undef) w':=by
       unfold QY at lf;split at lf
       ·rename_i kk zk;cases lf;exact XM R (cU kk) (Q4 zk) ht hx hi hy (.inr tb) hd md hL ia.1 ia.2.1 ia.2.2
       ·rename_i zk;cases lf;exact XM R bU (W4 zk) ht hx hi hy (.inr tb) hd md hL ia.1 ia.2.1 ia.2.2
       ·obtain ⟨l,_,lf⟩:=y9.1 lf;split at lf
        ·rename_i fi;cases lf;exact XM R (xU l) (j4 fi.1) ht hx hi hy (.inr tb) hd md hL ia.1 ia.2.1 ia.2.2
        ·cases lf
      obtain ⟨w',na,hR⟩:=key;unfold Oper.wp;rw [na,Oper.upon_skip];simp_all
     ·cases hr
    ·cases hr
   ·cases hr
  ·cases hk
 case extract X i=>obtain ⟨y,hy,rfl⟩:=HC hk; exact XB R (val_ext R hy tb hr) hd he od
 case call c =>
  obtain ⟨callee,xs,ts⟩:=c;cases callee with
  | invoke r m=>cases hk
  | value f =>
   cases f with
   | func f =>
    have plain:(kF xs.toList).map (.call cl f)=some k->o.wp P a w Kn Q:=fun hk=>by
     obtain ⟨ys,hy,rfl⟩:=HC hk;exact op_call R ib hy tb hd (fun d h=>hD d h rfl) hr he hK
    cases mu with
    | none=>exact plain hk
    | some b =>
     cases b with
     | true =>
      obtain ⟨ys,hy,rfl⟩:=HC (show (kF xs.toList).map (.callr cl f)=some k from hk);exact op_callr R ib hy tb hd hr he hK
     | false =>
      have rg:(match P.funcs[f]? with
       | some fn=>(match fn.resultTypes.toList with
        | [t]=>(match P.underlying t with
         | some (.slice e)=>(match CB P e,kF xs.toList with
          | some z,some xs=>if 0<z then some (K.callf cl f z xs) else none
          | _,_=>none)
         | _=>none)
        | _=>none)
       | none=>none)=some k:=hk
      clear hk;split at rg
      ·split at rg
       ·split at rg
        ·split at rg
         ·rename_i z ys hz hy;split at rg
          ·rename_i pb;injection rg with rg;subst rg;exact op_callf R ib hy tb hd (fun d h=>hD d h rfl) pb hr he hK
          ·cases rg
         ·cases rg
        ·cases rg
       ·cases rg
      ·cases rg
   | tmp tf =>
    obtain ⟨ys,hy,rfl⟩:=HC hk;exact op_callv R ib hy tb hd hr he hK
   | _=>cases hk
  | builtin b =>
  cases b
  case len =>
   simp only at hk;split at hk
   ·rename_i x' t hx ur;have hts:ts=#[t]:=by have h0:=congrArg List.toArray ur; rwa [yX] at h0
    subst hts;obtain ⟨X,hX,gn⟩:=opd_one hx;subst hX;split at hk
    ·rename_i ht; injection hk with hk; subst hk; exact XB R (val_len R (str:=true) ht gn tb hr) hd he od
    ·rename_i el ht; injection hk with hk; subst hk; exact XB R (val_len R (str:=false) ⟨el,ht⟩ gn tb hr) hd he od
    ·rename_i kT eT ht;cases hk;simp only [K.run] at hr;split at hr
     ·rename_i t n md;split at hr
      ·rename_i L hL;injection hr with hr; injection hr with h1 h2; subst h1; subst h2;exact XB R ⟨rfl,op_mlen R ht gn tb md hL⟩ hd he od
      ·cases hr
     ·cases hr
    ·cases hk
   ·cases hk
  case clear =>
   simp only at hk;split at hk
   ·rename_i x' t hx ur;have hts:ts=#[t]:=by have h0:=congrArg List.toArray ur; rwa [yX] at h0
    subst hts;obtain ⟨X,hX,gn⟩:=opd_one hx;subst hX;split at hk
    ·rename_i el ht;obtain ⟨z,hz,rfl⟩:=HC hk;exact K8 (op_clr R ht hz gn tb hd hr he) od
    ·cases hk
   ·cases hk
  case max =>
   simp only at hk;split at hk
   ·rename_i X Y lc;have hX:xs=#[X,Y]:=by rw [<- yX (xs:=xs),lc]
    subst hX;split at hk
    ·rename_i x' y' hx hy;injection hk with hk; subst hk;simp only [K.run] at hr;obtain ⟨v,hv,hr⟩:=HC hr;injection hr with h1 h2; subst h1; subst h2;exact XB R ⟨rfl,val_mm R (mx:=true) hx hy tb hv⟩ hd he od
    ·cases hk
   ·cases hk
  case min =>
   simp only at hk;split at hk
   ·rename_i X Y lc;have hX:xs=#[X,Y]:=by rw [<- yX (xs:=xs),lc]
    subst hX;split at hk
    ·rename_i x' y' hx hy;injection hk with hk; subst hk;simp only [K.run] at hr;obtain ⟨v,hv,hr⟩:=HC hr;injection hr with h1 h2; subst h1; subst h2;exact XB R ⟨rfl,val_mm R (mx:=false) hx hy tb hv⟩ hd he od
    ·cases hk
   ·cases hk
  case append =>
   simp only at hk;split at hk
   ·rename_i x' y' t t' hx ur;split at hk
    ·rename_i htt';subst htt';have hts:ts=#[t,t]:=by have h0:=congrArg List.toArray ur; rwa [yX] at h0
     subst hts;obtain ⟨X,Y,hX,gn,ar⟩:∃ X Y,xs=#[X,Y]/\opd X=some x'/\opd Y=some y':=by
      obtain ⟨l⟩:=xs;have key:∀ {r:List Operand} {ys:List bB},kF r=some ys->r.length=ys.length/\∀ j (h:j<r.length),opd r[j]=ys[j]?:=by
       intro r
       induction r with
       | nil=>intro ys h; injection h with h; subst h; exact ⟨rfl,fun j h=>by simp at h⟩
       | cons X r ih =>
        intro ys h;unfold kF at h
        grind
      obtain ⟨h1,h2⟩:=key hx
      match l,h1,h2 with
      | [X,Y],_,h2=>exact ⟨X,Y,rfl,h2 0 (by simp),h2 1 (by simp)⟩
     subst hX;split at hk
     ·rename_i el ht;split at hk
      ·rename_i i z hi hz;split at hk
       ·rename_i ia;injection hk with hk;cases mu with
        | some m =>
         cases ka:o.dst with
         | none=>exact absurd ka (jn (by simp))
         | some d =>
          cases m with
          | true =>
           cases nest with
           | true=>simp only [if_true] at hk; subst hk; exact uc d ka (C4 R ht hi hz ia.1 ia.2 gn ar tb ka (hd d ka) (hD d ka rfl) hr he)
           | false=>simp only [yI,if_false] at hk; subst hk; exact uc d ka (op_appm R ht hi hz ia.1 ia.2 gn ar tb ka (hd d ka) (hD d ka rfl) hr he)
          | false=>simp only at hk; subst hk; exact uc d ka (op_appf R ht hi hz ia.1 ia.2 gn ar tb ka (hd d ka) (hD d ka rfl) hr he)
        | none =>
        simp only at hk;subst hk;cases ka:o.dst with
        | none =>
         have:∃ A,e=.app A 0:=by
          simp only [K.run] at hr
          grind
         obtain ⟨A,rfl⟩:=this;simp [WA.eff,ka] at he
        | some d=>exact K8 (op_app R ht hi hz ia.1 ia.2 gn ar tb ka (hd d ka) hr he) od
       ·cases hk
      ·cases hk
     ·cases hk
    ·cases hk
   ·cases hk
  all_goals cases hk
 case makeFunc fn fs Xs =>
  cases fn with
  | func f =>
   simp only at hk;split at hk
   ·rename_i h0;obtain ⟨ys,hy,rfl⟩:=HC hk;exact XB R (val_mkf R h0 hy tb hr) hd he od
   ·cases hk
  | _=>cases hk
 all_goals cases hk
end
end
section
section
variable {call:uB} {s s' s1 s2:pA}
inductive Tr where
 | id
 | row (t n:Nat) (r:List rA)
 | an (A:An) (d:Nat)
 | obj (t n:Nat) (S:AV)
 | rn (k:Option (Nat × Nat)) (t n:Nat) (r:List rA)
 | ob2 (t n:Nat) (S:AV) (d m:Nat) (r:List rA)
def Tr.ap:Tr->pA->pA
 | .id,s=>s
 | .row t n r,s=>s.setRow t n r
 | .an A d,s=>(s.stripA A).strip d
 | .obj t n S,s=>s.setObj t n S
 | .rn k t n r,s=>(s.killO k).setRow t n r
 | .ob2 t n S d m r,s=>(s.setObj t n S).setRow d m r
def Tr.f:Tr->An->An
 | .an A d,x=>match A with
  | .own k _=>(x.strip k).strip d
  | _=>x.strip d
 | _,x=>x
theorem Tr.ends (T:Tr):D3 T.f:=by
 cases T with
 | an A d =>
  have h:∀ k j e,(An.own j e).strip k≠.ex:=fun k j e=>by simp only [An.strip]; split <;> simp
  have h':∀ k k' j e,((An.own j e).strip k).strip k'≠.ex:=fun k k' j e=>by
   by_cases hj:j=k
   ·simp [An.strip,hj]
   ·rw [show (An.own j e).strip k=An.own j e from if_neg hj];exact h k' j e
  cases A with
  | own k e=>exact ⟨rfl,rfl,fun j e=>h' k d j e⟩
  | no=>exact ⟨rfl,rfl,fun j e=>h d j e⟩
  | ex=>exact ⟨rfl,rfl,fun j e=>h d j e⟩
 | _=>exact ⟨rfl,rfl,fun _ _ h=>by cases h⟩
theorem Tr.ap_an (A:An) (d:Nat) (s:pA):(Tr.an A d).ap s=s.mapAn (Tr.an A d).f:=by
 cases A with
 | own k e=>simp [Tr.ap,pA.stripA,pA.strip,pA.mapAn,rA.strip,Tr.f,Function.comp_def]
 | no=>rfl
 | ex=>rfl
def WA.runG (call:uB) (o:WA) (s:pA):Option (rA × SC) :=
 match o.guard with
 | none=>o.op.run call s
 | some (t,want)=>match (s.env t).v with
  | .bool b=>if b=want then o.op.run call s else some (⟨.tup [],.no⟩,.none)
  | .tup []=>some (⟨.tup [],.no⟩,.none)
  | _=>none
def WA.effT (o:WA) (next:Nat):rA × SC->Option (Tr × rA)
 | (x,.none)=>some (.id,x)
 | (x,.new r)=>match o.dst with
  | none=>none
  | some d=>some (.row d next r,⟨match x.v with | .ref _ _ sz off l c=>.ref d next sz off l c | _=>.ptr d next 0,.no⟩)
 | (x,.set t n r)=>some (.row t n r,x)
 | (x,.app a _)=>match o.dst with
  | none=>none
  | some d=>some (.an a d,⟨x.v,match x.a with | .own _ e=>.own d e | a=>a⟩)
 | (x,.obj t n S)=>some (.obj t n S,x)
 | (x,.mk S)=>match o.dst with
  | none=>none
  | some d=>some (.obj d next S,⟨x.v.named d next,.no⟩)
 | (x,.ob2 t n S r)=>match o.dst with
  | none=>none
  | some d=>some (.ob2 t n S d next r,⟨match x.v with | .ref _ _ sz off l c=>.ref d next sz off l c | _=>.ptr d next 0,.no⟩)
 | (x,.rn k r)=>match o.dst with
  | none=>none
  | some d=>some (.rn k d next r,⟨match x.v with | .ref _ _ sz off l c=>.ref d next sz off l c | _=>.ptr d next 0,.no⟩)
theorem lI (o:WA) (s:pA):o.step call s=(o.runG call s).bind fun p=>(o.effT s.next p).map fun q=>(q.1.ap s).put o.dst q.2:=by
 have h:∀ p,o.eff s p=(o.effT s.next p).map fun q=>(q.1.ap s).put o.dst q.2:=by
  rintro ⟨x,e⟩;cases e with
  | none=>rfl
  | new r=>simp only [WA.eff,WA.effT]; cases o.dst <;> rfl
  | set t n r=>rfl
  | app a k=>simp only [WA.eff,WA.effT]; cases o.dst <;> rfl
  | obj t n S=>rfl
  | mk S=>simp only [WA.eff,WA.effT]; cases o.dst <;> rfl
  | rn k r=>simp only [WA.eff,WA.effT]; cases o.dst <;> rfl
  | ob2 t n S r=>simp only [WA.eff,WA.effT]; cases o.dst <;> rfl
 have hf:o.eff s=fun p=>(o.effT s.next p).map fun q=>(q.1.ap s).put o.dst q.2:=funext h
 unfold WA.step WA.runG;rw [<- hf];cases o.guard with
 | none=>rfl
 | some p =>
  obtain ⟨t,want⟩:=p;simp only;generalize (s.env t).v=y;cases y with
  | bool b=>simp only; split <;> rfl
  | tup l=>cases l <;> rfl
  | _=>rfl
theorem LN (k:K) {x:rA} {e:SC} (h:k.run call s=some (x,e)):match e with
    | .none=>True
    | .new _=>A7 k=true
    | .set t _ _=>isS k=true/\∃ c,k.cl=some c/\c.okPtr t=true
    | .app _ _=>isT k=true
    | .obj _ _ _=>CT k=true/\isR k=false
    | .mk _=>CT k=true/\isR k=false
    | .rn _ _=>isM k=true
    | .ob2 _ _ _ _=>CT k=true/\isR k=false/\A7 k=true:=by
  have hn:e=.none->(match e with
    | .none=>True
    | .new _=>A7 k=true
    | .set t _ _=>isS k=true/\∃ c,k.cl=some c/\c.okPtr t=true
    | .app _ _=>isT k=true
    | .obj _ _ _=>CT k=true/\isR k=false
    | .mk _=>CT k=true/\isR k=false
    | .rn _ _=>isM k=true
    | .ob2 _ _ _ _=>CT k=true/\isR k=false/\A7 k=true):=fun h=>by subst h; trivial
  cases k with
  | callh nt x xs=>cases h
  | nxt x=>cases h
  | ent x =>
    simp only [K.run] at h;split at h
    · split at h
      · split at h
        · split at h
          · split at h
            · split at h
              · injection h with h; injection h with _ h; exact hn h.symm
              · cases h
            · cases h
          · cases h
        · cases h
      · cases h
    · cases h
  | slz x =>
    simp only [K.run] at h;split at h <;> first | (cases h; done) | (injection h with h; injection h with _ h; exact hn h.symm)
  | rng x =>
    simp only [K.run] at h;split at h
    · split at h
      · injection h with h; injection h with _ h; subst h; exact ⟨rfl,rfl⟩
      · cases h
    · cases h
  | alloc z=>simp only [K.run] at h; injection h with h; injection h with _ h; subst h; rfl
  | box z x =>
    simp only [K.run] at h;split at h <;> split at h <;> first | (cases h; done) | (injection h with h; injection h with _ h; subst h; rfl)
  | mks z b zs l c =>
    simp only [K.run] at h;split at h
    · split at h
      · injection h with h; injection h with _ h; subst h; rfl
      · cases h
    · cases h
  | clr cl z x =>
    simp only [K.run] at h;split at h
    · injection h with h; injection h with _ h; subst h; trivial
    · rename_i t n sz off ln _ _
      split at h
      · rename_i sa
        obtain ⟨r,_,h⟩:=yl.1 h;injection h with _ h;subst h;exact ⟨rfl,cl,rfl,sa.1⟩
      · cases h
    · cases h
  | store cl g z x y =>
    simp only [K.run] at h;split at h
    · split at h
      · rename_i t n off _ sa
        obtain ⟨r,_,h⟩:=yl.1 h;injection h with _ h;subst h;exact ⟨rfl,cl,rfl,sa⟩
      · cases h
    · cases h
  | app cl e z b x y =>
    simp only [K.run] at h;split at h
    · split at h
      · split at h
        · cases h
        · split at h
          · injection h with h; injection h with _ h; subst h; rfl
          · cases h
        · injection h with h; injection h with _ h; subst h; rfl
      · cases h
    · cases h
  | appf cl e z b x y =>
    simp only [K.run] at h;split at h
    · split at h
      · split at h
        · split at h
          · injection h with h; injection h with _ h; exact hn h.symm
          · injection h with h; injection h with _ h; subst h; rfl
        · cases h
      · cases h
    · cases h
  | appm cl e z b x y =>
    simp only [K.run] at h;split at h
    · split at h
      · split at h
        · split at h
          · injection h with h; injection h with _ h; exact hn h.symm
          · injection h with h; injection h with _ h; subst h; rfl
        · cases h
      · cases h
    · split at h
      · split at h
        · injection h with h; injection h with _ h; subst h; rfl
        · cases h
      · cases h
    · cases h
  | appn cl e z b x y =>
    simp only [K.run] at h;split at h
    · split at h
      · split at h
        · injection h with h; injection h with _ h; subst h; rfl
        · cases h
      · cases h
    · split at h
      · split at h
        · injection h with h; injection h with _ h; subst h; rfl
        · cases h
      · cases h
    · cases h
  | bslr sz z n ps =>
    simp only [K.run] at h;split at h
    · injection h with h; injection h with _ h; subst h; rfl
    · cases h
  | bad=>simp only [K.run] at h; cases h
  | mkm=>simp only [K.run] at h; injection h with h; injection h with _ h; subst h; exact ⟨rfl,rfl⟩
  | mkb T e=>simp only [K.run] at h; injection h with h; injection h with _ h; subst h; exact ⟨rfl,rfl⟩
  | mget ok ty z x k =>
    simp only [K.run] at h;split at h
    · split at h
      · split at h
        · injection h with h; injection h with _ h; exact hn h.symm
        · cases h
      · cases h
    · cases h
  | mset ty x k v =>
    simp only [K.run] at h;split at h
    · split at h
      · split at h
        · injection h with h; injection h with _ h; subst h; exact ⟨rfl,rfl⟩
        · cases h
      · cases h
    · cases h
  | mlen x =>
    simp only [K.run] at h;split at h
    · split at h
      · injection h with h; injection h with _ h; exact hn h.symm
      · cases h
    · cases h
  | mv x=>simp only [K.run] at h; injection h with h; injection h with _ h; exact hn h.symm
  | pick c a b =>
    simp only [K.run] at h;split at h
    · injection h with h; injection h with _ h; exact hn h.symm
    · cases h
  | build z ps =>
    simp only [K.run] at h;split at h
    · obtain ⟨r,_,h⟩:=yl.1 h; injection h with _ h; exact hn h.symm
    · cases h
  | bsl z n ps =>
    simp only [K.run] at h;split at h
    · injection h with h; injection h with _ h; exact hn h.symm
    · cases h
  | load cl g z x =>
    simp only [K.run] at h;split at h
    · split at h
      · obtain ⟨r,_,h⟩:=yl.1 h; injection h with _ h; exact hn h.symm
      · cases h
    · split at h
      · cases h
      · obtain ⟨r,_,h⟩:=yl.1 h; injection h with _ h; exact hn h.symm
    · split at h
      · cases h
      · obtain ⟨r,_,h⟩:=yl.1 h; injection h with _ h; exact hn h.symm
    · cases h
  | mm b x y=>simp only [K.run] at h; obtain ⟨r,_,h⟩:=yl.1 h; injection h with _ h; exact hn h.symm
  | bin op b x y=>simp only [K.run] at h; obtain ⟨r,_,h⟩:=yl.1 h; injection h with _ h; exact hn h.symm
  | eqa n ks x y =>
    simp only [K.run] at h;split at h
    · obtain ⟨r,_,h⟩:=yl.1 h; injection h with _ h; exact hn h.symm
    · cases h
  | eqn n p x y =>
    simp only [K.run] at h;split at h <;> first | (cases h; done) | (obtain ⟨r,_,h⟩:=yl.1 h; injection h with _ h; exact hn h.symm)
  | un op x =>
    simp only [K.run] at h;split at h <;> first | (cases h; done) | (injection h with h; injection h with _ h; exact hn h.symm)
  | conv o x =>
    simp only [K.run] at h;split at h <;> first | (cases h; done) | (injection h with h; injection h with _ h; exact hn h.symm)
  | slc st z x lo hi mx =>
    cases mx with
    | some m=>simp [K.run] at h
    | none =>
      simp only [K.run] at h;split at h
      · cases h
      · split at h <;> first
          | (cases h; done)
          | (split at h
             · split at h
               · (try split at h) <;> (injection h with h; injection h with _ h; exact hn h.symm)
               · cases h
             · cases h)
  | faddr o x =>
    simp only [K.run] at h;split at h <;> first | (cases h; done) | (injection h with h; injection h with _ h; exact hn h.symm)
  | field g o z x =>
    simp only [K.run] at h;split at h
    · obtain ⟨r,_,h⟩:=yl.1 h; injection h with _ h; exact hn h.symm
    · cases h
  | aaddr l z x i =>
    simp only [K.run] at h;split at h
    · split at h
      · split at h <;> first | (cases h; done) | (injection h with h; injection h with _ h; exact hn h.symm)
      · cases h
    · cases h
  | iaddr z x i =>
    simp only [K.run] at h;split at h
    · split at h
      · obtain ⟨r,_,h⟩:=y9.1 h; split at h <;> first | (cases h; done) | (injection h with h; injection h with _ h; exact hn h.symm)
      · obtain ⟨r,_,h⟩:=y9.1 h; split at h <;> first | (cases h; done) | (injection h with h; injection h with _ h; exact hn h.symm)
      · split at h <;> first | (cases h; done) | (injection h with h; injection h with _ h; exact hn h.symm)
      · cases h
    · cases h
  | index x i =>
    simp only [K.run] at h;split at h
    · obtain ⟨r,_,h⟩:=yl.1 h; injection h with _ h; exact hn h.symm
    · cases h
  | ext x i =>
    simp only [K.run] at h;split at h
    · obtain ⟨r,_,h⟩:=yl.1 h; injection h with _ h; exact hn h.symm
    · cases h
  | call cl f xs =>
    simp only [K.run] at h;obtain ⟨vs,_,h⟩:=y9.1 h;split at h
    · obtain ⟨r,_,h⟩:=y9.1 h
      split at h
      · split at h <;> first | (cases h; done) | (injection h with h; injection h with _ h; exact hn h.symm)
      · split at h <;> first | (cases h; done) | (injection h with h; injection h with _ h; subst h; exact ⟨rfl,rfl⟩)
    · obtain ⟨r,_,h⟩:=y9.1 h
      split at h
      · cases h
      · split at h <;> first | (cases h; done) | (injection h with h; injection h with _ h; subst h; exact ⟨rfl,rfl⟩)
    · cases h
  | callf cl f z xs =>
    simp only [K.run] at h;obtain ⟨vs,_,h⟩:=y9.1 h;split at h
    · obtain ⟨r,_,h⟩:=y9.1 h
      split at h
      · split at h
        · split at h
          · injection h with h; injection h with _ h; subst h; exact ⟨rfl,rfl⟩
          · injection h with h; injection h with _ h; subst h; exact ⟨rfl,rfl,rfl⟩
        · cases h
      · cases h
    · cases h
  | callo cl f z xs =>
    simp only [K.run] at h;split at h
    · obtain ⟨r,_,h⟩:=y9.1 h
      split at h
      · split at h
        · split at h
          · injection h with h; injection h with _ h; exact hn h.symm
          · split at h
            · cases h
            · injection h with h; injection h with _ h; subst h; rfl
        · cases h
      · cases h
    · cases h
  | calln cl f z L x xs =>
    simp only [K.run] at h;split at h
    · split at h
      · split at h
        · split at h
          · split at h
            · obtain ⟨r,_,h⟩:=y9.1 h
              split at h
              · split at h
                · injection h with h; injection h with _ h; subst h; rfl
                · cases h
              · cases h
            · cases h
          · cases h
        · split at h
          · obtain ⟨r,_,h⟩:=y9.1 h
            split at h
            · split at h
              · injection h with h; injection h with _ h; subst h; rfl
              · cases h
            · cases h
          · cases h
        · cases h
      · cases h
    · cases h
  | callq cl f xs =>
    simp only [K.run] at h;split at h
    · obtain ⟨r,_,h⟩:=y9.1 h
      split at h
      · split at h
        · injection h with h; injection h with _ h; exact hn h.symm
        · cases h
      · cases h
    · cases h
  | callr cl f xs =>
    simp only [K.run] at h;split at h
    · split at h
      · rename_i sa
        split at h
        · split at h
          · obtain ⟨q,_,h⟩:=y9.1 h
            split at h
            · split at h
              · injection h with h; injection h with _ h; subst h
                exact ⟨rfl,cl,rfl,sa⟩
              · cases h
            · cases h
          · cases h
        · cases h
      · cases h
    · cases h
  | rstr x =>
    simp only [K.run] at h;split at h <;> first | (cases h; done) | (injection h with h; injection h with _ h; exact hn h.symm)
  | bstr cl x =>
    simp only [K.run] at h;split at h
    · obtain ⟨r,_,h⟩:=yl.1 h; injection h with _ h; exact hn h.symm
    · cases h
  | aslc cl l z x lo hi =>
    simp only [K.run] at h;split at h
    · split at h
      · split at h
        · split at h <;> (injection h with h; injection h with _ h; exact hn h.symm)
        · cases h
      · cases h
    · cases h
  | mkf f xs =>
    simp only [K.run] at h;split at h
    · injection h with h; injection h with _ h; exact hn h.symm
    · cases h
  | callv cl x xs =>
    simp only [K.run] at h;split at h
    · split at h
      · obtain ⟨r,_,h⟩:=y9.1 h
        split at h
        · split at h <;> first | (cases h; done) | (injection h with h; injection h with _ h; exact hn h.symm)
        · cases h
      · cases h
    · cases h
  | len st x =>
    simp only [K.run] at h;split at h <;> first
      | (cases h; done)
      | (split at h <;> first | (cases h; done) | (injection h with h; injection h with _ h; exact hn h.symm))
  | nilchk x =>
    simp only [K.run] at h;split at h <;> first | (cases h; done) | (injection h with h; injection h with _ h; exact hn h.symm)
def Tr.of (T:Tr) (o:WA):Prop:=match T with
 | .id=>True
 | .row t _ _=>(A7 o.op=true/\o.dst=some t)\/(isS o.op=true/\∃ c,o.op.cl=some c/\c.okPtr t=true)
 | .an _ d=>isT o.op=true/\o.dst=some d
 | .obj _ _ _=>CT o.op=true/\isR o.op=false
 | .rn ..=>isM o.op=true
 | .ob2 _ _ _ d _ _=>(CT o.op=true/\isR o.op=false/\A7 o.op=true)/\o.dst=some d
theorem p7 (o:WA) {x:rA} {e:SC} (h:o.runG call s=some (x,e)) {n:Nat} {T:Tr} {v:rA} (ht:o.effT n (x,e)=some (T,v)):T.of o:=by
 have key:o.op.run call s=some (x,e)\/e=.none:=by
  unfold WA.runG at h;split at h
  ·exact .inl h
  ·split at h
   ·split at h
    ·exact .inl h
    ·injection h with h; injection h with _ h; exact .inr h.symm
   ·injection h with h; injection h with _ h; exact .inr h.symm
   ·cases h
 cases e with
 | none=>simp only [WA.effT] at ht; injection ht with ht; injection ht with h1 _; subst h1; trivial
 | new r =>
  have:=LN o.op (key.resolve_right (by simp));simp only [WA.effT] at ht;split at ht
  ·cases ht
  ·rename_i d hd; injection ht with ht; injection ht with h1 _; subst h1; exact .inl ⟨this,hd⟩
 | set t n r =>
  have:=LN o.op (key.resolve_right (by simp));simp only [WA.effT] at ht;injection ht with ht; injection ht with h1 _; subst h1;exact .inr this
 | app a k =>
  have:=LN o.op (key.resolve_right (by simp));simp only [WA.effT] at ht;split at ht
  ·cases ht
  ·rename_i d hd; injection ht with ht; injection ht with h1 _; subst h1; exact ⟨this,hd⟩
 | obj t n S =>
  have:=LN o.op (key.resolve_right (by simp));simp only [WA.effT] at ht;injection ht with ht; injection ht with h1 _; subst h1;exact this
 | mk S =>
  have:=LN o.op (key.resolve_right (by simp));simp only [WA.effT] at ht;split at ht
  ·cases ht
  ·injection ht with ht; injection ht with h1 _; subst h1; exact this
 | rn k r =>
  have:=LN o.op (key.resolve_right (by simp));simp only [WA.effT] at ht;split at ht
  ·cases ht
  ·injection ht with ht; injection ht with h1 _; subst h1; exact this
 | ob2 t n S r =>
  have:=LN o.op (key.resolve_right (by simp));simp only [WA.effT] at ht;split at ht
  ·cases ht
  ·rename_i d hd; injection ht with ht; injection ht with h1 _; subst h1; exact ⟨this,hd⟩
theorem get_put {o:bB} {d:Option Nat} {x:rA} (h:∀ n,o=.t n->d≠some n):o.get (s.put d x)=o.get s/\o.an (s.put d x)=o.an s:=by
 cases d with
 | none=>exact ⟨rfl,rfl⟩
 | some d =>
  cases o with
  | c v=>exact ⟨rfl,by cases v <;> first | rfl | (rename_i b l; cases b <;> rfl)⟩
  | t n =>
   have:n≠d:=fun e=>h n rfl (by rw [e])
   simp [bB.get,bB.an,pA.put,this]
theorem Q8 {o:WA} {n:Nat} {x:bB} (h:x∈o.op.opds) (hx:x=.t n):n∈o.looks:=by
 unfold WA.looks;refine List.mem_append_left _ (List.mem_filterMap.2 ⟨x,h,?_⟩);rw [hx]
theorem xG {x y:WA} (h:x.clear y=true):(∀ n,x.dst=some n->n ∉ y.looks)/\(∀ n,x.dst=some n->y.dst≠some n):=by
 unfold WA.clear at h;constructor
 ·intro n hn;rw [hn] at h;simp at h;exact h.1
 ·intro n hn;rw [hn] at h;simp at h;exact h.2
theorem uN {y:WA} {d:Option Nat} {v:rA} (h:∀ n,d=some n->n ∉ y.looks):y.runG call (s.put d v)=y.runG call s:=by
 have h1:y.op.run call (s.put d v)=y.op.run call s:=zQ _ (fun o ho=>get_put fun n hn hd=>h n hd (Q8 ho hn)) (fun t n _=>by cases d <;> rfl) (fun _=>by cases d <;> rfl);unfold WA.runG;rw [h1];cases hg:y.guard with
 | none=>rfl
 | some p =>
  obtain ⟨t,want⟩:=p;have:t∈y.looks:=by unfold WA.looks; rw [hg]; simp
  have he:((s.put d v).env t)=s.env t:=by
   cases d with
   | none=>rfl
   | some d =>
    have:t≠d:=fun e=>h d rfl (e ▸ this)
    simp [pA.put,this]
  simp only [he]
def Tr.off (T:Tr) (o:WA):Prop:=match T with
 | .id=>True
 | .row t _ _=>¬ o.op.reads t
 | .an _ _=>isT o.op=false
 | .obj _ _ _=>CT o.op=false
 | .rn ..=>False
 | .ob2 _ _ _ d _ _=>CT o.op=false/\¬ o.op.reads d
def Tr.act (T:Tr) (p:rA × SC):rA × SC:=match T with
 | .an _ _=>(p.1.mapAn T.f,p.2.mapAn T.f)
 | _=>p
theorem runG_tr {y:WA} {T:Tr} (h:T.off y):y.runG call (T.ap s)=(y.runG call s).map T.act:=by
 cases T with
 | rn=>exact absurd h id
 | ob2 t n S d m r =>
  have h1:y.op.run call ((s.setObj t n S).setRow d m r)=y.op.run call s:=zQ _ (fun o ho=>by
   cases o with
   | t n=>exact ⟨rfl,rfl⟩
   | c v=>exact ⟨rfl,by cases v <;> first | rfl | (rename_i b l; cases b <;> rfl)⟩) (fun t' n' hr=>by
   simp only [pA.setRow,pA.setObj];rw [if_neg];rintro ⟨e,_⟩;exact h.2 (e ▸ hr)) (fun ho=>by
    have h':CT y.op=false:=h.1;rw [h'] at ho; cases ho)
  have:y.runG call ((Tr.ob2 t n S d m r).ap s)=y.runG call s:=by
   unfold WA.runG Tr.ap;rw [h1];rfl
  have h2:(Tr.act (.ob2 t n S d m r):rA × SC->rA × SC)=id:=rfl;rw [this,h2,Option.map_id];rfl
 | id =>
  have:(Tr.act .id:rA × SC->rA × SC)=id:=rfl;rw [this,Option.map_id];rfl
 | row t n r =>
  have h1:y.op.run call (s.setRow t n r)=y.op.run call s:=zQ _ (fun o ho=>by
   cases o with
   | t n=>exact ⟨rfl,rfl⟩
   | c v=>exact ⟨rfl,by cases v <;> first | rfl | (rename_i b l; cases b <;> rfl)⟩) (fun t' n' hr=>by
   simp only [pA.setRow];rw [if_neg];rintro ⟨e,_⟩;exact h (e ▸ hr)) (fun _=>rfl)
  have:y.runG call ((Tr.row t n r).ap s)=y.runG call s:=by
   unfold WA.runG Tr.ap;rw [h1];rfl
  have h2:(Tr.act (.row t n r):rA × SC->rA × SC)=id:=rfl;rw [this,h2,Option.map_id];rfl
 | obj t n S =>
  have h1:y.op.run call (s.setObj t n S)=y.op.run call s:=zQ _ (fun o ho=>by
   cases o with
   | t n=>exact ⟨rfl,rfl⟩
   | c v=>exact ⟨rfl,by cases v <;> first | rfl | (rename_i b l; cases b <;> rfl)⟩) (fun t' n' hr=>rfl) (fun ho=>by
    have h':CT y.op=false:=h;rw [h'] at ho; cases ho)
  have:y.runG call ((Tr.obj t n S).ap s)=y.runG call s:=by
   unfold WA.runG Tr.ap;rw [h1];rfl
  have h2:(Tr.act (.obj t n S):rA × SC->rA × SC)=id:=rfl;rw [this,h2,Option.map_id];rfl
 | an A d =>
  rw [Tr.ap_an];have h1:=run_mapAn (call:=call) (s:=s) (Tr.ends (.an A d)) y.op h;unfold WA.runG;rw [h1];cases y.guard with
  | none=>rfl
  | some p =>
   obtain ⟨t,want⟩:=p;simp only [pA.mapAn];generalize (s.env t).v=y;cases y with
   | bool b =>
    simp only;split
    ·rfl
    ·simp [Tr.act,rA.mapAn,SC.mapAn,(Tr.ends (.an A d)).no]
   | tup l=>cases l <;> simp [Tr.act,rA.mapAn,SC.mapAn,(Tr.ends (.an A d)).no]
   | _=>rfl
theorem G6 {x y:WA} (h:WH x y=true):WH y x=true:=by
 unfold WH at h ⊢;simp only [ye] at h ⊢;obtain ⟨⟨⟨⟨⟨⟨⟨m1,m2⟩,h1⟩,h0⟩,h2⟩,h3⟩,h4⟩,h5⟩:=h;refine ⟨⟨⟨⟨⟨⟨⟨m2,m1⟩,by rw [Bool.or_comm]; exact h1⟩,by rw [Bool.or_comm (!CT y.op),Bool.and_comm]; exact h0⟩,?_⟩,h4⟩,h3⟩,?_⟩
 ·cases hc:x.op.cl with
  | none=>cases y.op.cl <;> rfl
  | some c =>
   cases hd:y.op.cl with
   | none=>rfl
   | some d =>
    rw [hc,hd] at h2;simp only [Bool.or_eq_true] at h2 ⊢;refine h2.imp (fun h=>by rw [Bool.or_comm]; exact h) fun h=>?_
    cases c <;> cases d <;> first | rfl | exact h | (simp at h ⊢; exact fun e=>h e.symm) | (simp at h)
 ·simp only [Bool.or_eq_true] at h5 ⊢;rcases h5 with (h | h) | h
  ·exact .inl (.inr h)
  ·exact .inl (.inl h)
  ·exact .inr (by simp at h ⊢; exact fun e=>h e.symm)
theorem off_of {T:Tr} {x y:WA} (h:T.of x) (sa:WH x y=true):T.off y:=by
 unfold WH at sa;simp only [ye] at sa;obtain ⟨⟨⟨⟨⟨⟨⟨m1,m2⟩,h1⟩,h0⟩,h2⟩,h3⟩,h4⟩,h5⟩:=sa;cases T with
 | id=>trivial
 | rn k t n r =>
  have h':isM x.op=true:=h;rw [h'] at m1;cases m1
 | ob2 t n S d m r =>
  obtain ⟨⟨g1,g2,ha⟩,hd⟩:=h;rw [g1,g2] at h0;refine ⟨by simpa using h0,fun hr=>?_⟩;unfold K.reads at hr;rw [ha,hd] at h3;cases re:y.op.cl with
  | none=>rw [re] at hr; exact hr
  | some c =>
   rw [re] at hr h3;cases c with
   | any=>simp at h3
   | imm=>exact hr
   | root r=>simp at h3; exact h3 hr
   | out L=>simp only [Bool.not_true,Bool.false_or] at h3 hr; rw [h3] at hr; cases hr
 | an A d =>
  have:=h.1;rw [this] at h1;show isT y.op=false;simpa using h1
 | obj t n S =>
  obtain ⟨g1,g2⟩:CT x.op=true/\isR x.op=false:=h;rw [g1,g2] at h0;show CT y.op=false;simpa using h0
 | row t n r =>
  intro hr;unfold K.reads at hr;rcases h with ⟨ha,hd⟩ | ⟨hs,hc⟩
  ·rw [ha,hd] at h3;cases re:y.op.cl with
   | none=>rw [re] at hr; exact hr
   | some c =>
    rw [re] at hr h3;cases c with
    | any=>simp at h3
    | imm=>exact hr
    | root r=>simp at h3; exact h3 hr
    | out L=>simp only [Bool.not_true,Bool.false_or] at h3 hr; rw [h3] at hr; cases hr
  ·cases re:y.op.cl with
   | none=>rw [re] at hr; exact hr
   | some c =>
    rw [re] at hr;obtain ⟨c0,hc,hp⟩:=hc;rw [hc,re,hs] at h2;cases c0 with
    | imm=>simp [Cl.okPtr] at hp
    | any=>cases c <;> first | exact hr | (simp at h2)
    | root r0 =>
     simp [Cl.okPtr] at hp;subst hp;cases c with
     | imm=>exact hr
     | any=>simp at h2
     | root r=>simp at h2; exact h2 hr
     | out L=>simp at h2 hr; exact hr h2
    | out L0 =>
     simp [Cl.okPtr] at hp;cases c with
     | imm=>exact hr
     | any=>simp at h2
     | root r=>simp at h2 hr; subst hr; exact hp h2
     | out L=>simp at h2
theorem J8 {t n t' n':Nat} {r r':List rA} {x y:WA} (h:(Tr.row t n r).of x) (h':(Tr.row t' n' r').of y) (sa:WH x y=true):t≠t':=by
 unfold WH at sa;simp only [ye] at sa;obtain ⟨⟨⟨⟨⟨⟨⟨m1,m2⟩,h1⟩,h0⟩,h2⟩,h3⟩,h4⟩,h5⟩:=sa;rintro rfl;rcases h with ⟨ha,hd⟩ | ⟨hs,hc⟩ <;> rcases h' with ⟨ha',zp⟩ | ⟨ky,jc⟩
 ·rw [ha,ha',hd,zp] at h5; simp at h5
 ·rw [ha,hd] at h3;obtain ⟨c,jc,hp⟩:=jc;rw [jc] at h3;cases c <;> simp [Cl.okPtr] at h3 hp <;> first | exact h3 hp.symm | exact hp h3
 ·rw [ha',zp] at h4;obtain ⟨c,hc,hp⟩:=hc;rw [hc] at h4;cases c <;> simp [Cl.okPtr] at h4 hp <;> first | exact h4 hp.symm | exact hp h4
 ·obtain ⟨c,hc,hp⟩:=hc;obtain ⟨c',jc,hp'⟩:=jc;rw [hc,jc,hs] at h2;cases c <;> cases c' <;> simp [Cl.okPtr] at h2 hp hp'
  ·subst hp; subst hp'; exact h2 rfl
  ·subst hp; exact hp' h2
  ·subst hp'; exact hp h2
def Tr.conj (T:Tr):Tr->Tr
 | .row t n r=>match T with
  | .an A d=>.row t n (r.map (rA.mapAn (Tr.an A d).f))
  | _=>.row t n r
 | .ob2 t n S d m r=>match T with
  | .an A d'=>.ob2 t n S d m (r.map (rA.mapAn (Tr.an A d').f))
  | _=>.ob2 t n S d m r
 | T'=>T'
def Tr.actS (T:Tr) (v:rA):rA:=match T with
 | .an A d=>v.mapAn (Tr.an A d).f
 | _=>v
theorem N5 {T:Tr} {o:WA} {n:Nat} {p:rA × SC} {T':Tr} {v:rA} (h:o.effT n p=some (T',v)) (hT:(∃ A d,T=.an A d)->∀ A d,T'≠.an A d) (hR:∀ k t m r,T'≠.rn k t m r):o.effT n (T.act p)=some (T.conj T',T.actS v):=by
 obtain ⟨x,e⟩:=p;cases T with
 | id=>rw [show Tr.id.act (x,e)=(x,e) from rfl,h]; cases T' <;> rfl
 | row t m r=>rw [show (Tr.row t m r).act (x,e)=(x,e) from rfl,h]; cases T' <;> rfl
 | obj t m S=>rw [show (Tr.obj t m S).act (x,e)=(x,e) from rfl,h]; cases T' <;> rfl
 | rn k t m r=>rw [show (Tr.rn k t m r).act (x,e)=(x,e) from rfl,h]; cases T' <;> rfl
 | ob2 t n S d m r=>rw [show (Tr.ob2 t n S d m r).act (x,e)=(x,e) from rfl,h]; cases T' <;> rfl
 | an A d =>
  cases e with
  | none=>simp only [WA.effT] at h; injection h with h; injection h with h1 h2; subst h1; subst h2; rfl
  | new r =>
   simp only [WA.effT] at h;split at h
   ·cases h
   ·rename_i d' hd;injection h with h; injection h with h1 h2; subst h1; subst h2;simp only [Tr.act,WA.effT,SC.mapAn,hd,Tr.conj,Tr.actS,rA.mapAn,(Tr.ends (.an A d)).no]
  | set t m r =>
   simp only [WA.effT] at h;injection h with h; injection h with h1 h2; subst h1; subst h2;simp only [Tr.act,WA.effT,SC.mapAn,Tr.conj,Tr.actS,rA.mapAn,(Tr.ends (.an A d)).no]
  | app a k =>
   simp only [WA.effT] at h;split at h
   ·cases h
   ·injection h with h; injection h with h1 h2; subst h1; exact absurd rfl (hT ⟨A,d,rfl⟩ _ _)
  | obj t m S =>
   simp only [WA.effT] at h;injection h with h; injection h with h1 h2; subst h1; subst h2;rfl
  | mk S =>
   simp only [WA.effT] at h;split at h
   ·cases h
   ·rename_i d' hd;injection h with h; injection h with h1 h2; subst h1; subst h2;simp only [Tr.act,WA.effT,SC.mapAn,hd,Tr.conj,Tr.actS,rA.mapAn,(Tr.ends (.an A d)).no]
  | rn k r =>
   simp only [WA.effT] at h;split at h
   ·cases h
   ·injection h with h; injection h with h1 h2; exact absurd h1.symm (hR _ _ _ _)
  | ob2 t n S r =>
   simp only [WA.effT] at h;split at h
   ·cases h
   ·rename_i d' hd;injection h with h; injection h with h1 h2; subst h1; subst h2;simp only [Tr.act,WA.effT,SC.mapAn,hd,Tr.conj,Tr.actS,rA.mapAn,(Tr.ends (.an A d)).no]
theorem TC {d d':Option Nat} (h:∀ n,d=some n->d'≠some n) (v v':rA):(s.put d v).put d' v'=(s.put d' v').put d v:=by
 cases d with
 | none=>rfl
 | some d =>
  cases d' with
  | none=>rfl
  | some d' =>
   have:d≠d':=fun e=>h d rfl (by rw [e])
   simp only [pA.put];congr 1;funext t;by_cases h1:t=d'
   ·by_cases h2:t=d
    ·exact absurd (h2.symm.trans h1) this
    ·rw [h1]; simp only [if_true]; rw [if_neg (fun e=>this e.symm)]
   ·simp [h1]
theorem HH (f:An->An) (d:Option Nat) (v:rA):(s.put d v).mapAn f=(s.mapAn f).put d (v.mapAn f):=by
 cases d with
 | none=>rfl
 | some d =>
  simp only [pA.put,pA.mapAn];congr 1;funext t;by_cases h:t=d <;> simp [h,rA.mapAn]
theorem lK (f:An->An) (t n:Nat) (r:List rA):(s.setRow t n r).mapAn f=(s.mapAn f).setRow t n (r.map (rA.mapAn f)):=by
 simp only [pA.setRow,pA.mapAn];congr 1;funext t' n';by_cases h:t'=t/\n'=n
 ·simp only [h,and_self,if_true,yt]; rfl
 ·simp [h]
theorem IC (d:Option Nat) (v:rA) (t n:Nat) (r:List rA):(s.put d v).setRow t n r=(s.setRow t n r).put d v:=by cases d <;> rfl
theorem ZP {t n t' n':Nat} (h:t≠t') (r r':List rA):(s.setRow t n r).setRow t' n' r'=(s.setRow t' n' r').setRow t n r:=by
 simp only [pA.setRow];congr 1;funext a b;by_cases h1:a=t'
 ·have:¬ (a=t/\b=n):=fun e=>h (e.1.symm.trans h1)
  simp [this]
 ·have:¬ (a=t'/\b=n'):=fun e=>h1 e.1
  simp [this]
theorem qE (d:Option Nat) (v:rA) (t n:Nat) (S:AV):(s.put d v).setObj t n S=(s.setObj t n S).put d v:=by cases d <;> rfl
theorem kK (f:An->An) (t n:Nat) (S:AV):(s.setObj t n S).mapAn f=(s.mapAn f).setObj t n S:=rfl
theorem cR (t n:Nat) (r:List rA) (t' n':Nat) (S:AV):(s.setRow t n r).setObj t' n' S=(s.setObj t' n' S).setRow t n r:=rfl
theorem P5 {t n:Nat} {S:AV} {d m:Nat} {r:List rA} {o:WA} (h:(Tr.ob2 t n S d m r).of o):(Tr.row d m r).of o:=.inl ⟨h.1.2.2,h.2⟩
theorem next_tr (T:Tr) (s:pA) (d:Option Nat) (v:rA):((T.ap s).put d v).next=s.next:=by
 have:(T.ap s).next=s.next:=by
  cases T with
  | an A d=>rw [Tr.ap_an]; rfl
  | rn k t n r=>cases k <;> rfl
  | _=>rfl
 cases d <;> exact this
theorem commute0 {x y:WA} (nc:wF x y=true) (sa:WH x y=true) (h1:x.step call s=some s1) (h2:y.step call s1=some s2):∃ ej,y.step call s=some ej/\x.step call ej=some s2:=by
 unfold wF at nc;simp only [ye] at nc;obtain ⟨a1,a2⟩:=xG nc.1;obtain ⟨a3,a4⟩:=xG nc.2;rw [lI] at h1 h2;obtain ⟨p,hp,h1⟩:=y9.1 h1;obtain ⟨⟨Tx,vx⟩,hx,h1⟩:=yl.1 h1;obtain ⟨q,hq,h2⟩:=y9.1 h2;obtain ⟨⟨Ty,vy⟩,hy,h2⟩:=yl.1 h2;simp only at h1 h2;subst h1;have ofx:Tx.of x:=p7 x (x:=p.1) (e:=p.2) hp hx;have offy:=off_of ofx sa;rw [uN a1,runG_tr offy] at hq;obtain ⟨q0,hq0,rfl⟩:=yl.1 hq;rw [next_tr] at hy
 -- y in the first state
 have br:∃ Ty0 vy0,y.effT s.next q0=some (Ty0,vy0):=by
  obtain ⟨u,e⟩:=q0;cases e with
  | none=>exact ⟨_,_,rfl⟩
  | new r =>
   cases hd:y.dst with
   | none =>
    exfalso;cases Tx <;> simp [Tr.act,WA.effT,SC.mapAn,hd] at hy
   | some d=>exact ⟨.row d s.next r,_,by simp only [WA.effT,hd]; rfl⟩
  | set t n r=>exact ⟨_,_,rfl⟩
  | obj t n S=>exact ⟨_,_,rfl⟩
  | mk S =>
   cases hd:y.dst with
   | none =>
    exfalso;cases Tx <;> simp [Tr.act,WA.effT,SC.mapAn,hd] at hy
   | some d=>exact ⟨.obj d s.next S,_,by simp only [WA.effT,hd]; rfl⟩
  | app a k =>
   cases hd:y.dst with
   | none =>
    exfalso;cases Tx <;> simp [Tr.act,WA.effT,SC.mapAn,hd] at hy
   | some d=>exact ⟨.an a d,_,by simp only [WA.effT,hd]; rfl⟩
  | rn k r =>
   cases hd:y.dst with
   | none =>
    exfalso;cases Tx <;> simp [Tr.act,WA.effT,SC.mapAn,hd] at hy
   | some d=>exact ⟨.rn k d s.next r,_,by simp only [WA.effT,hd]; rfl⟩
  | ob2 t n S r =>
   cases hd:y.dst with
   | none =>
    exfalso;cases Tx <;> simp [Tr.act,WA.effT,SC.mapAn,hd] at hy
   | some d=>exact ⟨.ob2 t n S d s.next r,_,by simp only [WA.effT,hd]; rfl⟩
 obtain ⟨Ty0,vy0,br⟩:=br;have ofy:Ty0.of y:=p7 y (x:=q0.1) (e:=q0.2) hq0 br;have offx:=off_of ofy (G6 sa);have notT:∀ A d A' d',Tx=.an A d->Ty0=.an A' d'->False:=fun A d A' d' e e'=>by
  subst e; subst e';have:=ofy.1;rw [show isT y.op=false from offy] at this;cases this
 have noM:∀ {T:Tr} {o:WA},T.of o->isM o.op=false->∀ k t m r,T≠.rn k t m r:=fun h hm k t m r e=>by
  subst e;have h':isM _=true:=h;rw [hm] at h';cases h'
 have hMx:isM x.op=false:=by unfold WH at sa; simp only [ye] at sa; simpa using sa.1.1.1.1.1.1.1
 have hMy:isM y.op=false:=by unfold WH at sa; simp only [ye] at sa; simpa using sa.1.1.1.1.1.1.2
 have nx:=noM ofx hMx;have ny:=noM ofy hMy;have hyc:=N5 (T:=Tx) br (hR:=ny) (fun ⟨A,d,e⟩ A' d' e'=>notT A d A' d' e e');rw [hyc] at hy;injection hy with hy;injection hy with e1 e2;subst e1; subst e2;have uo:=N5 (T:=Ty0) hx (hR:=nx) (fun ⟨A,d,e⟩ A' d' e'=>notT A' d' A d e' e);refine ⟨(Ty0.ap s).put y.dst vy0,by rw [lI,hq0,J,br]; rfl,?_⟩;rw [lI,uN a3,runG_tr offx,hp];simp only [yt,J,next_tr,uo];rw [<- h2];congr 1;have notO:∀ t n S t' n' S',Tx=.obj t n S->Ty0=.obj t' n' S'->False:=fun t n S t' n' S' e e'=>by
  subst e; subst e';have h1:CT y.op=true:=ofy.1;rw [show CT y.op=false from offy] at h1;cases h1
 cases Tx with
 | rn=>exact absurd rfl (nx _ _ _ _)
 | id =>
  cases Ty0 with
  | rn=>exact absurd rfl (ny _ _ _ _)
  | ob2 t n S d m r=>simp only [Tr.ap,Tr.conj,Tr.actS]; rw [qE,IC]; exact (TC a2 _ _).symm
  | id=>exact (TC a2 _ _).symm
  | row t n r=>simp only [Tr.ap,Tr.conj,Tr.actS]; rw [IC]; exact (TC a2 _ _).symm
  | an A d =>
   simp only [Tr.conj,Tr.actS,Tr.ap_an,HH];exact (TC a2 _ _).symm
  | obj t n S=>simp only [Tr.ap,Tr.conj,Tr.actS]; rw [qE]; exact (TC a2 _ _).symm
 | row t n r =>
  cases Ty0 with
  | rn=>exact absurd rfl (ny _ _ _ _)
  | ob2 t' n' S d m r' =>
   have za:=J8 (x:=x) (y:=y) ofx (P5 ofy) sa;simp only [Tr.ap,Tr.conj,Tr.actS];rw [IC,qE,IC,cR,ZP za];exact (TC a2 _ _).symm
  | id=>simp only [Tr.ap,Tr.conj,Tr.actS]; rw [IC]; exact (TC a2 _ _).symm
  | row t' n' r' =>
   simp only [Tr.ap,Tr.conj,Tr.actS];rw [IC,IC,ZP (J8 ofx ofy sa)];exact (TC a2 _ _).symm
  | an A d =>
   simp only [Tr.conj,Tr.actS,Tr.ap_an,HH];simp only [Tr.ap,lK,IC];exact (TC a2 _ _).symm
  | obj t' n' S =>
   simp only [Tr.ap,Tr.conj,Tr.actS];rw [qE,IC];exact (TC a2 _ _).symm
 | an A d =>
  cases Ty0 with
  | rn=>exact absurd rfl (ny _ _ _ _)
  | ob2 t' n' S d' m r' =>
   simp only [Tr.conj,Tr.actS,Tr.ap_an,HH];simp only [Tr.ap,lK,kK,qE,IC];exact (TC a2 _ _).symm
  | id =>
   simp only [Tr.conj,Tr.actS,Tr.ap_an,HH];exact (TC a2 _ _).symm
  | row t' n' r' =>
   simp only [Tr.conj,Tr.actS,Tr.ap_an,HH];simp only [Tr.ap,lK,IC];exact (TC a2 _ _).symm
  | an A' d'=>exact (notT A d A' d' rfl rfl).elim
  | obj t' n' S =>
   simp only [Tr.conj,Tr.actS,Tr.ap_an,HH];simp only [Tr.ap,kK,qE];exact (TC a2 _ _).symm
 | obj t n S =>
  cases Ty0 with
  | rn=>exact absurd rfl (ny _ _ _ _)
  | ob2 t' n' S' d m r'=>exact absurd ofy.1.1 (by rw [show CT y.op=false from offy]; decide)
  | id=>simp only [Tr.ap,Tr.conj,Tr.actS]; rw [qE]; exact (TC a2 _ _).symm
  | row t' n' r' =>
   simp only [Tr.ap,Tr.conj,Tr.actS];rw [IC,qE];exact (TC a2 _ _).symm
  | an A d =>
   simp only [Tr.conj,Tr.actS,Tr.ap_an,HH];simp only [Tr.ap,kK,qE];exact (TC a2 _ _).symm
  | obj t' n' S'=>exact (notO t n S t' n' S' rfl rfl).elim
 | ob2 t n S d m r =>
  have hyO:CT y.op=false:=offy.1;cases Ty0 with
  | rn=>exact absurd rfl (ny _ _ _ _)
  | id=>simp only [Tr.ap,Tr.conj,Tr.actS]; rw [qE,IC]; exact (TC a2 _ _).symm
  | row t' n' r' =>
   have za:=J8 (x:=x) (y:=y) (P5 ofx) ofy sa;simp only [Tr.ap,Tr.conj,Tr.actS];rw [IC,qE,IC,<- cR,ZP za];exact (TC a2 _ _).symm
  | an A d' =>
   simp only [Tr.conj,Tr.actS,Tr.ap_an,HH];simp only [Tr.ap,lK,kK,qE,IC];exact (TC a2 _ _).symm
  | obj t' n' S'=>exact absurd ofy.1 (by rw [hyO]; decide)
  | ob2 t' n' S' d' m' r'=>exact absurd ofy.1.1 (by rw [hyO]; decide)
def Tr.kl (T:Tr) (w:rA):rA:=match T with
 | .rn (some p) _ _ _=>w.kill p.1 p.2
 | _=>w
theorem isN_eff {k:K} (hk:isN k=true) {v:rA} {e:SC} (h:k.run call s=some (v,e)):e=.none\/(∃ r,e=.new r)\/∃ q r,e=.rn q r:=by
 cases k with
 | appm cl e' z b x y =>
  simp only [K.run] at h;split at h
  ·split at h
   ·split at h
    ·split at h
     ·injection h with h; injection h with _ h; exact .inl h.symm
     ·injection h with h; injection h with _ h; exact .inr (.inl ⟨_,h.symm⟩)
    ·cases h
   ·cases h
  ·split at h
   ·split at h
    ·injection h with h; injection h with _ h; exact .inr (.inr ⟨_,_,h.symm⟩)
    ·cases h
   ·cases h
  ·cases h
 | appn cl e' z b x y =>
  simp only [K.run] at h;split at h
  ·split at h
   ·split at h
    ·injection h with h; injection h with _ h; exact .inr (.inl ⟨_,h.symm⟩)
    ·cases h
   ·cases h
  ·split at h
   ·split at h
    ·injection h with h; injection h with _ h; exact .inr (.inr ⟨_,_,h.symm⟩)
    ·cases h
   ·cases h
  ·cases h
 | calln cl f z L x xs =>
  simp only [K.run] at h;split at h
  ·split at h
   ·split at h
    ·split at h
     ·split at h
      ·obtain ⟨r,_,h⟩:=y9.1 h;split at h
       ·split at h
        ·injection h with h; injection h with _ h; exact .inr (.inr ⟨_,_,h.symm⟩)
        ·cases h
       ·cases h
      ·cases h
     ·cases h
    ·split at h
     ·obtain ⟨r,_,h⟩:=y9.1 h;split at h
      ·split at h
       ·injection h with h; injection h with _ h; exact .inr (.inl ⟨_,h.symm⟩)
       ·cases h
      ·cases h
     ·cases h
    ·cases h
   ·cases h
  ·cases h
 | _=>cases hk
theorem w4 {x:WA} (hk:isN x.op=true) {p:rA × SC} (hp:x.runG call s=some p) {n:Nat} {T:Tr} {v:rA} (ht:x.effT n p=some (T,v)):T=.id\/(∃ t m r,T=.row t m r)\/∃ q t m r,T=.rn q t m r:=by
 have he:p.2=.none\/(∃ r,p.2=.new r)\/∃ q r,p.2=.rn q r:=by
  unfold WA.runG at hp;split at hp
  ·exact isN_eff hk (v:=p.1) (e:=p.2) hp
  ·split at hp
   ·split at hp
    ·exact isN_eff hk (v:=p.1) (e:=p.2) hp
    ·injection hp with hp; subst hp; exact .inl rfl
   ·injection hp with hp; subst hp; exact .inl rfl
   ·cases hp
 obtain ⟨v0,e⟩:=p;rcases he with he | ⟨r,he⟩ | ⟨q,r,he⟩
 ·simp only at he; subst he; injection ht with ht; injection ht with h1 _; exact .inl h1.symm
 ·simp only at he;subst he;simp only [WA.effT] at ht;split at ht
  ·cases ht
  ·injection ht with ht; injection ht with h1 _; exact .inr (.inl ⟨_,_,_,h1.symm⟩)
 ·simp only at he;subst he;simp only [WA.effT] at ht;split at ht
  ·cases ht
  ·injection ht with ht; injection ht with h1 _; exact .inr (.inr ⟨_,_,_,_,h1.symm⟩)
theorem BL {T:Tr} (h:T=.id\/(∃ t m r,T=.row t m r)\/∃ q t m r,T=.rn q t m r) (s:pA) (d:Nat) (w:rA):T.ap (s.put (some d) w)=(T.ap s).put (some d) (T.kl w)/\∀ z,(T.ap s).env z=T.kl (s.env z):=by
 rcases h with rfl | ⟨t,m,r,rfl⟩ | ⟨q,t,m,r,rfl⟩
 ·exact ⟨rfl,fun _=>rfl⟩
 ·exact ⟨rfl,fun _=>rfl⟩
 ·cases q with
  | none=>exact ⟨rfl,fun _=>rfl⟩
  | some p =>
   refine ⟨?_,fun _=>rfl⟩;simp only [Tr.ap,pA.killO,pA.kill,pA.put,pA.setRow,Tr.kl];congr 1;funext j;by_cases hj:j=d <;> simp [hj]
theorem isMv_eq {y:WA} (h:isMv y=true):∃ d z,y=⟨d,.mv (.t z),none⟩:=by
 obtain ⟨d,k,g⟩:=y;unfold isMv at h;simp only at h;split at h
 ·exact ⟨_,_,rfl⟩
 ·cases h
theorem J5 {x y:WA} (nc:wF x y=true) (hx:isN x.op=true) (hy:isMv y=true):(∀ s s1 s2,x.step call s=some s1->y.step call s1=some s2->∃ ej,y.step call s=some ej/\x.step call ej=some s2)/\∀ s s1 s2,y.step call s=some s1->x.step call s1=some s2->∃ ej,x.step call s=some ej/\y.step call ej=some s2:=by
 obtain ⟨d,z,rfl⟩:=isMv_eq hy;unfold wF at nc;simp only [ye] at nc;obtain ⟨a1,a2⟩:=xG nc.1;obtain ⟨a3,a4⟩:=xG nc.2;have hz:∀ n,x.dst=some n->n≠z:=fun n hn e=>a1 n hn (by subst e; simp [WA.looks,K.opds])
 have hyr:∀ s:pA,(⟨d,.mv (.t z),none⟩:WA).step call s=some (s.put d ⟨(s.env z).v,(s.env z).a⟩):=fun _=>rfl
 have key:∀ (s:pA) (p:rA × SC) (T:Tr) (v:rA),x.runG call s=some p->x.effT s.next p=some (T,v)->(T.ap (s.put d (s.env z))).put x.dst v=((T.ap s).put x.dst v).put d ((((T.ap s).put x.dst v).env z))/\x.step call (s.put d (s.env z))=some ((T.ap (s.put d (s.env z))).put x.dst v):=fun s p T v hp hT=>by
  have hk:=w4 hx hp hT;constructor
  ·have he:((T.ap s).put x.dst v).env z=T.kl (s.env z):=by
    cases hd:x.dst with
    | none=>exact (BL hk s 0 v).2 z
    | some n =>
     simp only [pA.put];rw [if_neg (fun e=>hz n hd e.symm)];exact (BL hk s 0 v).2 z
   rw [he];cases d with
   | none=>rfl
   | some d =>
    rw [(BL hk s d _).1];exact (TC (fun n hn e=>a4 n hn e) _ _)
  ·rw [lI,uN (fun n hn=>a3 n hn),hp];have hn:(s.put d (s.env z)).next=s.next:=by cases d <;> rfl
   simp only [J,hn,hT,yt]
 refine ⟨fun s s1 s2 h1 h2=>?_,fun s s1 s2 h1 h2=>?_⟩
 ·rw [lI] at h1;obtain ⟨p,hp,h1⟩:=y9.1 h1;obtain ⟨⟨T,v⟩,hT,h1⟩:=yl.1 h1;simp only at h1;rw [hyr] at h2;injection h2 with h2;refine ⟨_,hyr s,?_⟩;obtain ⟨k1,k2⟩:=key s p T v hp hT;have k2':x.step call (s.put d ⟨(s.env z).v,(s.env z).a⟩)=some ((T.ap (s.put d (s.env z))).put x.dst v):=k2;rw [k2',k1,<- h2,<- h1]
 ·rw [hyr] at h1;injection h1 with h1;subst h1;have pf:x.step call (s.put d (s.env z))=some s2:=h2;rw [lI,uN (fun n hn=>a3 n hn)] at pf;obtain ⟨p,hp,pf⟩:=y9.1 pf;obtain ⟨⟨T,v⟩,hT,pf⟩:=yl.1 pf;have hn:(s.put d (s.env z)).next=s.next:=by cases d <;> rfl
  rw [hn] at hT;obtain ⟨k1,_⟩:=key s p T v hp hT;refine ⟨(T.ap s).put x.dst v,by rw [lI,hp]; simp only [J,hT,yt],?_⟩;rw [hyr,<- pf];simp only;rw [k1]
theorem H5 {x y:WA} (nc:wF x y=true) (hx:isN x.op=true) (fy:pA->Option rA) (hy:∀ s,y.step call s=(fy s).map fun w=>s.put y.dst w) :
  ((∀ s p T v,x.runG call s=some p->x.effT s.next p=some (T,v)->∀ w',fy ((T.ap s).put x.dst v)=some w'->∃ w,fy s=some w/\T.kl w=w')->∀ s s1 s2,x.step call s=some s1->y.step call s1=some s2->∃ ej,y.step call s=some ej/\x.step call ej=some s2) ∧
  ((∀ s p T v,x.runG call s=some p->x.effT s.next p=some (T,v)->∀ w,fy s=some w->fy ((T.ap s).put x.dst v)=some (T.kl w))->∀ s s1 s2,y.step call s=some s1->x.step call s1=some s2->∃ ej,x.step call s=some ej/\y.step call ej=some s2):=by
 unfold wF at nc;simp only [ye] at nc;obtain ⟨a1,a2⟩:=xG nc.1;obtain ⟨a3,a4⟩:=xG nc.2;have key:∀ (s:pA) (p:rA × SC) (T:Tr) (v w:rA),x.runG call s=some p->x.effT s.next p=some (T,v)->x.step call (s.put y.dst w)=some (((T.ap s).put x.dst v).put y.dst (T.kl w)):=fun s p T v w hp hT=>by
  have hk:=w4 hx hp hT;have hn:(s.put y.dst w).next=s.next:=by cases y.dst <;> rfl
  rw [lI,uN (fun n hn=>a3 n hn),hp];simp only [J,hn,hT,yt];congr 1;cases hd:y.dst with
  | none=>rfl
  | some d =>
   rw [(BL hk s d w).1];exact TC (fun n hn e=>by
    injection hn with hn;exact a4 n (by rw [hd,hn]) e) _ _
 refine ⟨fun H s s1 s2 h1 h2=>?_,fun H s s1 s2 h1 h2=>?_⟩
 ·rw [lI] at h1;obtain ⟨p,hp,h1⟩:=y9.1 h1;obtain ⟨⟨T,v⟩,hT,h1⟩:=yl.1 h1;simp only at h1;subst h1;rw [hy] at h2;obtain ⟨w',rk,h2⟩:=yl.1 h2;obtain ⟨w,hw,e⟩:=H s p T v hp hT w' rk;refine ⟨s.put y.dst w,by rw [hy,hw]; rfl,?_⟩;rw [key s p T v w hp hT,e,<- h2]
 ·rw [hy] at h1;obtain ⟨w,hw,h1⟩:=yl.1 h1;subst h1;have ug:=h2;rw [lI,uN (fun n hn=>a3 n hn)] at ug;obtain ⟨p,hp,ug⟩:=y9.1 ug;obtain ⟨⟨T,v⟩,hT,_⟩:=yl.1 ug;have hn:(s.put y.dst w).next=s.next:=by cases y.dst <;> rfl
  rw [hn] at hT;have h3:=key s p T v w hp hT;rw [h2] at h3;injection h3 with h3;refine ⟨(T.ap s).put x.dst v,by rw [lI,hp]; simp only [J,hT,yt],?_⟩;rw [hy,H s p T v hp hT w hw,h3];rfl
def ptF (off:Option Nat) (v:AV):Option rA:=match off,v with
 | none,.ptr t n o=>some ⟨.ptr t n o,.no⟩
 | none,.ip cs=>some ⟨.ip cs,.no⟩
 | none,.bp cs=>some ⟨.bp cs,.no⟩
 | some k,.ptr t n o=>some ⟨.ptr t n (o + k),.no⟩
 | some k,.ip cs=>some ⟨.ip (cs.drop k),.no⟩
 | some k,.bp cs=>some ⟨.bp (cs.drop k),.no⟩
 | _,_=>none
theorem isPt_eq {y:WA} (h:isPt y=true):∃ off z,(∀ s,y.step call s=(ptF off (s.env z).v).map fun w=>s.put y.dst w)/\z∈y.looks:=by
 obtain ⟨d,k,g⟩:=y;unfold isPt at h;simp only at h;split at h
 ·rename_i z;refine ⟨none,z,fun s=>?_,by simp [WA.looks,K.opds]⟩;simp only [WA.step,K.run,bB.get,ptF];cases (s.env z).v <;> rfl
 ·rename_i k z;refine ⟨some k,z,fun s=>?_,by simp [WA.looks,K.opds]⟩;simp only [WA.step,K.run,bB.get,ptF];cases (s.env z).v <;> rfl
 ·cases h
theorem ptF_kill {off:Option Nat} {v:AV} {t n:Nat} {w':rA} (h:ptF off (v.kill t n)=some w'):∃ w,ptF off v=some w/\w.kill t n=w':=by
 cases v with
 | ptr t' n' o =>
  simp only [AV.kill,AV.kill0] at h;by_cases hn:t'=t/\n'=n
  ·rw [if_pos hn] at h; cases off <;> cases h
  ·rw [if_neg hn] at h;cases off <;> (simp only [ptF] at h; injection h with h; subst h; exact ⟨_,rfl,by simp only [rA.kill,AV.kill,AV.kill0,if_neg hn]⟩)
 | ip cs=>cases off <;> (simp only [AV.kill,AV.kill0,ptF] at h; injection h with h; subst h; exact ⟨_,rfl,rfl⟩)
 | bp cs=>cases off <;> (simp only [AV.kill,AV.kill0,ptF] at h; injection h with h; subst h; exact ⟨_,rfl,rfl⟩)
 | ref t' n' sz o l c =>
  simp only [AV.kill,AV.kill0] at h;split at h <;> cases off <;> cases h
 | mp t' n' =>
  simp only [AV.kill,AV.kill0] at h;split at h <;> cases off <;> cases h
 | _=>cases off <;> cases h
theorem commuteP {x y:WA} (nc:wF x y=true) (hx:isN x.op=true) (hy:isPt y=true) {s1 s2:pA} (h1:x.step call s=some s1) (h2:y.step call s1=some s2):∃ ej,y.step call s=some ej/\x.step call ej=some s2:=by
 obtain ⟨off,z,hyr,hz⟩:=isPt_eq (call:=call) hy;refine (H5 nc hx (fun s=>ptF off (s.env z).v) hyr).1 (fun s p T v hp hT w' rk=>?_) s s1 s2 h1 h2;have nz:=nc;unfold wF at nz;simp only [ye] at nz;obtain ⟨a1,a2⟩:=xG nz.1;have hk:=w4 hx hp hT;have he:(((T.ap s).put x.dst v).env z)=T.kl (s.env z):=by
  cases hd:x.dst with
  | none=>exact (BL hk s 0 v).2 z
  | some n =>
   simp only [pA.put];rw [if_neg (show ¬ z=n from fun e=>a1 n hd (e ▸ hz))];exact (BL hk s 0 v).2 z
 rw [he] at rk;rcases hk with rfl | ⟨t,m,r,rfl⟩ | ⟨q,t,m,r,rfl⟩
 ·exact ⟨w',rk,rfl⟩
 ·exact ⟨w',rk,rfl⟩
 ·cases q with
  | none=>exact ⟨w',rk,rfl⟩
  | some p=>exact ptF_kill rk
def ldF (r size:Nat) (s:pA) (v:AV):Option rA:=match v with
 | .ptr t n o=>if r == t then (s.mem t n).bind (aA false size o) else none
 | _=>none
theorem isLd_eq {y x:WA} (h:isLd y x=true):∃ r size z,(∀ s,y.step call s=(ldF r size s (s.env z).v).map fun w=>s.put y.dst w)/\z∈y.looks/\x.dst≠some r/\∃ cl f sz L a ws,x.op=.calln cl f sz L a ws/\L.contains r=true:=by
 obtain ⟨d,k,g⟩:=y;unfold isLd at h;simp only at h;split at h
 ·rename_i r size z cl f sz L a ws hxo;simp only [ye,bne_iff_ne,ne_eq] at h;refine ⟨r,size,z,fun s=>?_,by simp [WA.looks,K.opds],h.2,cl,f,sz,L,a,ws,hxo,h.1⟩;simp only [WA.step,K.run,bB.get,ldF,Cl.okPtr];cases (s.env z).v <;> try rfl
  rename_i t n o;simp only;by_cases hrt:(r == t)=true
  ·simp only [hrt,if_true];cases (s.mem t n).bind (aA false size o) <;> rfl
  ·simp [hrt]
 ·cases h
theorem X1 {cl:Cl} {f sz:Nat} {L:List Nat} {a:bB} {ws:List bB} {v:rA} {e:SC} (h:(K.calln cl f sz L a ws).run call s=some (v,e)):(∃ r,e=.new r)\/∃ t n r,e=.rn (some (t,n)) r/\L.contains t=false:=by
 simp only [K.run] at h;split at h
 ·split at h
  ·split at h
   ·split at h
    ·split at h
     ·rename_i hc;obtain ⟨r,_,h⟩:=y9.1 h;split at h
      ·split at h
       ·injection h with h; injection h with _ h; exact .inr ⟨_,_,_,h.symm,hc.2.2.2⟩
       ·cases h
      ·cases h
     ·cases h
    ·cases h
   ·split at h
    ·obtain ⟨r,_,h⟩:=y9.1 h;split at h
     ·split at h
      ·injection h with h; injection h with _ h; exact .inl ⟨_,h.symm⟩
      ·cases h
     ·cases h
    ·cases h
   ·cases h
  ·cases h
 ·cases h
theorem commuteL {x y:WA} (nc:wF x y=true) (hx:isLd x y=true) (hy:isN y.op=true) {s1 s2:pA} (h1:x.step call s=some s1) (h2:y.step call s1=some s2):∃ ej,y.step call s=some ej/\x.step call ej=some s2:=by
 obtain ⟨r,size,z,hxr,hz,ak,cl,f,sz,L,a,ws,tb,hL⟩:=isLd_eq (call:=call) hx;have hap0:=nc;unfold wF at nc;simp only [ye] at nc;obtain ⟨a3,a4⟩:=xG nc.2;refine (H5 (x:=y) (y:=x) (by unfold wF; rw [Bool.and_comm]; exact hap0) hy (fun s=>ldF r size s (s.env z).v) hxr).2 (fun s p T v hp hT w hw=>?_) s s1 s2 h1 h2;have hk:=w4 hy hp hT;have he:(((T.ap s).put y.dst v).env z)=T.kl (s.env z):=by
  cases hd:y.dst with
  | none=>exact (BL hk s 0 v).2 z
  | some n =>
   simp only [pA.put];rw [if_neg (show ¬ z=n from fun e=>a3 n hd (e ▸ hz))];exact (BL hk s 0 v).2 z
 have hm:∀ t n,((T.ap s).put y.dst v).mem t n=(T.ap s).mem t n:=fun t n=>by cases y.dst <;> rfl
 rw [he]
 -- what the call does to memory
 have tp:T=.id\/(∃ d m row,T=.row d m row/\y.dst=some d)\/∃ t n d m row,T=.rn (some (t,n)) d m row/\y.dst=some d/\L.contains t=false:=by
  obtain ⟨v0,e⟩:=p;have hpe:(e=.none)\/(∃ row,e=.new row)\/∃ t n row,e=.rn (some (t,n)) row/\L.contains t=false:=by
   unfold WA.runG at hp;rw [tb] at hp;split at hp
   ·exact .inr (X1 hp)
   ·split at hp
    ·split at hp
     ·exact .inr (X1 hp)
     ·injection hp with hp; injection hp with _ hp; exact .inl hp.symm
    ·injection hp with hp; injection hp with _ hp; exact .inl hp.symm
    ·cases hp
  rcases hpe with rfl | ⟨row,rfl⟩ | ⟨t,n,row,rfl,ht⟩
  ·injection hT with hT; injection hT with h1 _; exact .inl h1.symm
  ·simp only [WA.effT] at hT;split at hT
   ·cases hT
   ·rename_i d hd;injection hT with hT; injection hT with h1 _; exact .inr (.inl ⟨_,_,_,h1.symm,hd⟩)
  ·simp only [WA.effT] at hT;split at hT
   ·cases hT
   ·rename_i d hd;injection hT with hT; injection hT with h1 _; exact .inr (.inr ⟨_,_,_,_,_,h1.symm,hd,ht⟩)
 have rk:=hw;simp only [ldF] at rk ⊢;cases hv:(s.env z).v with
 | ptr t n o =>
  rw [hv] at rk;simp only at rk;split at rk
  case isFalse=>cases rk
  rename_i hrt;have hrt':r=t:=by simpa using hrt
  subst hrt';obtain ⟨row,ja,hl⟩:=y9.1 rk;simp only [aA,yI,if_false] at hl;rcases tp with rfl | ⟨d,m,gw,rfl,hd⟩ | ⟨t',n',d,m,gw,rfl,hd,ht⟩
  ·simp only [Tr.kl,hv,hrt,if_true,hm];show ((Tr.id.ap s).mem r n).bind _=_;rw [show (Tr.id.ap s).mem r n=some row from ja];simp [aA,hl]
  ·simp only [Tr.kl,hv,hrt,if_true,hm];have:((Tr.row d m gw).ap s).mem r n=some row:=by
    show (if r=d/\n=m then some gw else s.mem r n)=some row;rw [if_neg (fun e=>ak (by rw [hd,e.1]))];exact ja
   rw [this];simp [aA,hl]
  ·have za:¬ (r=t'/\n=n'):=fun e=>by rw [<- e.1] at ht; rw [hL] at ht; cases ht
   have hvk:(rA.kill t' n' (s.env z)).v=.ptr r n o:=by
    show (s.env z).v.kill t' n'=_;rw [hv];simp only [AV.kill,AV.kill0,if_neg za]
   simp only [Tr.kl,hvk,hrt,if_true,hm];have:((Tr.rn (some (t',n')) d m gw).ap s).mem r n=some (row.map (rA.kill t' n')):=by
    show (if r=d/\n=m then some gw else (s.kill t' n').mem r n)=_;rw [if_neg (fun e=>ak (by rw [hd,e.1]))];show (if r=t'/\n=n' then none else (s.mem r n).map (·.map (rA.kill t' n')))=_;rw [if_neg za,ja];rfl
   rw [this];simp [aA,hl]
 | _=>rw [hv] at rk; cases rk
theorem S5 {x y:WA} (h:wF x y=true):wF y x=true:=by
 unfold wF at h ⊢;rw [Bool.and_comm];exact h
theorem commute {x y:WA} (nc:wF x y=true) (sa:UN x y=true) (h1:x.step call s=some s1) (h2:y.step call s1=some s2):∃ ej,y.step call s=some ej/\x.step call ej=some s2:=by
 unfold UN at sa;simp only [Bool.or_eq_true,ye] at sa;rcases sa with h | ((⟨h,h'⟩ | ⟨h,h'⟩) | ⟨h,h'⟩) | ⟨h,h'⟩
 ·exact commute0 nc h h1 h2
 ·exact (J5 (S5 nc) h' h).2 s s1 s2 h1 h2
 ·exact (J5 nc h' h).1 s s1 s2 h1 h2
 ·exact commuteL nc h h' h1 h2
 ·exact commuteP nc h h' h1 h2
end
end
section
open Go Go.RowKit
section
variable {P:Program} {O:XE} {nt B:Nat} {F0:BN} {aa:Av} {w0:World} {s s':pA} {a:Act} {w w':World} {ι:Ix} {Θ:aJ} {call:uB} {lh:LH} {Q:Exit->Act->World->Prop}
def gsh (nt:Nat) (a:Act) (g:Nat->Value):Nat->Value:=fun t=>if t<nt then a.tmps.getD t undef else g (t - nt)
def BN.wait (F0:BN) (nt:Nat) (a:Act):BN:=⟨F0.b,F0.p,F0.r,F0.z,gsh nt a F0.g⟩
def pA.bare (s:pA):pA:={ s with env:=fun _=>⟨.undef,.no⟩ }
def I5 (P:Program) (O:XE) (B:Nat) (F0:BN) (aa:Av) (w0:World) (s:pA) (w:World) (ι:Ix) (Θ:aJ):Prop:=DB P O 0 B F0 aa w0 (fun _=>False) s.bare ⟨#[],[]⟩ w ι Θ
def PF (ι:Ix) (Θ:aJ) (av avb:Av) (w:World):List rA->List Value->Prop
 | [],us=>us=[]
 | x :: r,us=>∃ u db,us=u :: db/\GA ι av avb w x.v u/\kJ Θ x.a u/\PF ι Θ av avb w r db
theorem iS {av avb:Av}:∀ {xs ys:List rA} {us vs:List Value},PF ι Θ av avb w xs us->PF ι Θ av avb w ys vs->PF ι Θ av avb w (xs++ys) (us++vs)
 | [],_,_,_,h,h'=>by simp only [PF] at h; subst h; exact h'
 | x :: r,_,_,_,h,h'=>by
  simp only [PF] at h;obtain ⟨u,db,rfl,h0,h1,h⟩:=h;exact ⟨u,db++_,rfl,h0,h1,iS h h'⟩
def HZ (P:Program) (O:XE) (hp:HpT):Prop:=∀ f xs s k r,hp f xs s k=some r->(∀ vs w,(callFunc f vs).run P w=.ok (.enter f vs) w) ∧
 ∀ (B:Nat) (F0:BN) (aa:Av) (w0 w:World) (ι:Ix) (Θ:aJ) (us:List Value) (E:Ending->World->Prop),I5 P O B F0 aa w0 s w ι Θ->PF ι Θ (BB aa ι Θ) (eC ι Θ) w xs us →
  (∀ y s' w' ι' Θ' v,I5 P O B F0 aa w0 s' w' ι' Θ'->GA ι' (BB aa ι' Θ') (eC ι' Θ') w' y.v v->kJ Θ' y.a v->k y s'=some r->E (.returned v) w')->Calls P f us.toArray w E
theorem DB.wait {D:Nat->Prop} (R:DB P O nt B F0 aa w0 D s a w ι Θ):I5 P O B (F0.wait nt a) aa w0 (s.enter nt) w ι Θ :=
 ⟨rfl,rfl,fun _=>trivial,fun _=>trivial,R.rows,fun t n b h=>let ⟨h1,h2,h3⟩:=R.mine t n b h; ⟨h1,h2,.inl (by simp only [pA.bare,pA.enter]; rcases h3 with h | h <;> omega)⟩,R.inj,R.tok,R.tinj,R.apart,R.out,R.pin,R.kept,R.base,R.objs,fun t n H h=>let ⟨h1,h2⟩:=R.obs t n H h; ⟨h1,.inl (by simp only [pA.bare,pA.enter]; rcases h2 with h | h <;> omega)⟩,fun t=>by
  simp only [pA.bare,pA.enter,BN.wait,gsh];split
  ·exact R.env t
  ·exact R.gen _,fun t=>by
  simp only [pA.bare,pA.enter,BN.wait,gsh];split
  ·exact R.ann t
  ·exact R.gann _⟩
theorem DB.resume {D D':Nat->Prop} {s':pA} {ι':Ix} {Θ':aJ} (R:DB P O nt B F0 aa w0 D s a w ι Θ) (R':I5 P O B (F0.wait nt a) aa w0 s' w' ι' Θ'):DB P O nt B F0 aa w0 D' (s'.leave nt) a w' ι' Θ' :=
 ⟨R.defers,R.size,fun t=>by
  have:=R'.gen t;simp only [pA.bare,BN.wait,gsh] at this;simp only [pA.leave];split
  ·rename_i h; rw [if_pos h] at this; exact this
  ·trivial,fun t=>by
  have:=R'.gann t;simp only [pA.bare,BN.wait,gsh] at this;simp only [pA.leave];split
  ·rename_i h; rw [if_pos h] at this; exact this
  ·trivial,R'.rows,fun t n b h=>let ⟨h1,h2,h3⟩:=R'.mine t n b h; ⟨h1,h2,h3.imp id fun h=>h.2.elim⟩,R'.inj,R'.tok,R'.tinj,R'.apart,R'.out,R'.pin,R'.kept,R'.base,R'.objs,fun t n H h=>let ⟨h1,h2⟩:=R'.obs t n H h; ⟨h1,h2.imp id fun h=>h.2.elim⟩,fun t=>by
  have:=R'.gen (t + nt);simp only [pA.bare,BN.wait,gsh] at this;rw [if_neg (by omega),Nat.add_sub_cancel] at this;exact this,fun t=>by
  have:=R'.gann (t + nt);simp only [pA.bare,BN.wait,gsh] at this;rw [if_neg (by omega),Nat.add_sub_cancel] at this;exact this⟩
theorem aS {D:Nat->Prop} (R:DB P O nt B F0 aa w0 D s a w ι Θ):∀ {Xs:List Operand} {xs:List bB},kF Xs=some xs->PF ι Θ (BB aa ι Θ) (eC ι Θ) w (TK s xs) (Xs.map a.eval)
 | [],xs,h=>by injection h with h; subst h; rfl
 | X :: Xs,xs,h=>by
  unfold kF at h;split at h
  ·rename_i x l hx hl;injection h with h;subst h;exact ⟨_,_,rfl,(R.opd hx).1,(R.opd hx).2,aS R hl⟩
  ·cases h
theorem F5 {av avb:Av}:∀ {cs:List AV} {us:List Value},dG ι av avb w cs us->PF ι Θ av avb w (cs.map (⟨·,.no⟩)) us
 | [],_,h=>h
 | x :: r,_,h=>by
  simp only [dG] at h;obtain ⟨u,db,rfl,h0,h⟩:=h;refine ⟨u,db,rfl,?_,trivial,F5 h⟩;cases x with
  | bp cs=>exact h0
  | int k n=>exact OD (x:=.int k n) h0
  | bool b=>exact OD (x:=.bool b) h0
  | str b=>exact OD (x:=.str b) h0
  | nilP=>exact OD (x:=.nilP) h0
  | ptr t n o=>exact OD (x:=.ptr t n o) h0
  | ip cs=>exact OD (x:=.ip cs) h0
  | sl n l=>exact OD (x:=.sl n l) h0
  | bl l=>exact OD (x:=.bl l) h0
  | ref a b c d e f=>exact OD (x:=.ref a b c d e f) h0
  | mp t n=>exact OD (x:=.mp t n) h0
  | fn f cs=>exact OD (x:=.fn f cs) h0
  | agg cs=>exact OD (x:=.agg cs) h0
  | tup cs=>exact OD (x:=.tup cs) h0
  | undef=>trivial
theorem C6 {D:Nat->Prop} (R:DB P O nt B F0 aa w0 D s a w ι Θ) {lh:LH} (di:HZ P O lh.h) {o:Oper} {hs:Nat->Bool} {nt':Nat} {x:bB} {xs:List bB} (hk:B1 nt hs o.op=some (.callh nt' x xs)) (hd:∀ d,o.dst=some d->d<nt) {k:pA->Option RV} {r:RV} (hr:FD lh o.dst nt' x xs s k=some r)
  {Kn:Act->World->Prop} {Q:Exit->Act->World->Prop} (hK:∀ s' a' w',WD P O nt B F0 aa w0 (fun t=>D t\/o.dst=some t) s' a' w'->k s'=some r->Kn a' w'):o.wp P a w Kn Q:=by
 have go:∀ {f:FuncId} {Xs:Array Operand} {cs:List AV} {us:List Value},nt'=nt->kF Xs.toList=some xs->dG ι (BB aa ι Θ) (eC ι Θ) w cs us->lh.h f (TK s xs++cs.map (⟨·,.no⟩)) (s.enter nt) (fun y s'=>k ((s'.leave nt).put o.dst y))=some r->((∀ vs w,(callFunc f vs).run P w=.ok (.enter f vs) w)->(execOp a.eval o).run P w=.ok (.enter f (Xs.map a.eval++us.toArray)) w)->o.wp P a w Kn Q:=fun {f Xs cs us} hn hx al hh run=>by
  obtain ⟨h1,h2⟩:=di _ _ _ _ _ hh;unfold Oper.wp;rw [run h1,Oper.upon_enter];have gp:(Xs.toList.map a.eval++us).toArray=Xs.map a.eval++us.toArray:=by
   apply Array.ext';simp
  rw [<- gp];refine h2 B (F0.wait nt a) aa w0 w ι Θ _ _ R.wait (iS (aS R hx) (F5 al)) fun y s' w' ι' Θ' v R' hv ha ue=>?_
  exact hK _ _ _ ⟨ι',Θ',((R.resume (D':=D) R').putN hd hv ha).more fun _ h=>.inl h⟩ ue
 unfold B1 at hk;split at hk
 ·rename_i f Xs ts ho;split at hk
  ·obtain ⟨l,hl,hk⟩:=yl.1 hk;injection hk with hn hx lc;subst hx;subst lc;simp only [FD,bB.get] at hr;refine go (cs:=[]) (us:=[]) hn.symm hl rfl (by rw [hn]; exact hr) fun ad=>?_
   simp only [execOp,ho,resolve,Act.eval,Deferred.ofValue,Sem.run_bind,Sem.run_pure,Result.andThen_ok,invoke];have:=ad (#[]++Xs.map a.eval++#[]) w;simp only [Array.empty_append,Array.append_empty] at this ⊢;exact this
  ·cases hk
 ·rename_i tf Xs ts ho;split at hk
  ·obtain ⟨l,hl,hk⟩:=yl.1 hk;injection hk with hn hx lc;subst hx;subst lc;simp only [FD,bB.get] at hr;split at hr
   ·rename_i f cs om;have hF:=R.env tf;rw [om] at hF;obtain ⟨us,ee,al⟩:=hF;refine go (cs:=cs) (us:=us.toList) hn.symm hl al (by rw [hn]; exact hr) fun ad=>?_
    have ls:a.eval (.tmp tf)=.func (.func f) #[] us:=ee;simp only [execOp,ho,resolve,ls,Deferred.ofValue,Sem.run_bind,Sem.run_pure,Result.andThen_ok,invoke];have:=ad (#[]++Xs.map a.eval++us) w;simp only [Array.empty_append] at this ⊢;exact this
   ·cases hr
  ·cases hk
 ·obtain ⟨_,_,h⟩:=yl.1 hk; cases h
 ·cases hk
theorem DT {f:Nat->Option RV} {z:Option RV} {r:RV} (l:List Nat) (h:B4 f z l=some r):(l=[]->z=some r)/\∀ i∈l,f i=some r:=by
 match l,h with
 | [],h=>exact ⟨fun _=>h,fun i hi=>absurd hi (by simp)⟩
 | [a],h=>exact ⟨fun e=>(by cases e),fun i hi=>(by rw [Y03.1 hi]; exact h)⟩
 | a :: b :: l,h =>
  have h':(open Classical in if ∀ x∈b :: l,f x=f a then f a else none)=some r:=h;split at h'
  ·rename_i hc;refine ⟨fun e=>(by cases e),fun i hi=>?_⟩;rcases yw.1 hi with hi | hi
   ·rw [hi]; exact h'
   ·exact (hc i hi).trans h'
  ·cases h'
theorem zZ {f:Nat->Option RV} {z:Option RV} {r:RV} (l:List Nat) (h0:l=[]->z=some r) (h:∀ i∈l,f i=some r):B4 f z l=some r:=by
 match l,h0,h with
 | [],h0,_=>exact h0 rfl
 | [a],_,h=>exact h a yp
 | a :: b :: l,_,h =>
  show (open Classical in if ∀ x∈b :: l,f x=f a then f a else none)=some r;rw [if_pos fun x hx=>(h x (yG _ hx)).trans (h a yp).symm];exact h a yp
theorem op_nxt {D:Nat->Prop} (R:DB P O nt B F0 aa w0 D s a w ι Θ) {o:Oper} {X:Operand} {x:bB} (hx:opd X=some x) (ho:o.op=.next X false) (hd:∀ d,o.dst=some d->d<nt) {k:pA->Option RV} {r:RV} (hr:AY o.dst x s k=some r)
  {Kn:Act->World->Prop} {Q:Exit->Act->World->Prop} (hK:∀ s' a' w',WD P O nt B F0 aa w0 (fun t=>D t\/o.dst=some t) s' a' w'->k s'=some r->Kn a' w'):o.wp P a w Kn Q:=by
 unfold AY at hr;split at hr
 case h_2=>cases hr
 rename_i t n md;split at hr
 case h_2=>cases hr
 rename_i tm nm N seen hi;split at hr
 case h_2=>cases hr
 rename_i L hL;split at hr
 case isFalse=>cases hr
 rename_i hN;have hX:=(R.opd hx).1;rw [md] at hX;obtain ⟨q,hq,hv⟩:=hX;obtain ⟨S,hS,hit⟩:=y9.1 hi;obtain ⟨p,H,hp,ub,jd,xm⟩:=R.objs t n S hS;rw [hq] at hp;injection hp with hp;subst hp;obtain ⟨m,Hm,hm,hobm,ra⟩:=xm tm nm N seen hit;obtain ⟨hH,ba⟩:=(O.iters S H q w (by rw [hit]; rfl)).1 jd;obtain ⟨S2,hS2,mr⟩:=y9.1 hL;obtain ⟨p2,H2,zn,dv,oz,_⟩:=R.objs tm nm S2 hS2;rw [hm] at zn;injection zn with zn;subst zn;have zw:S2=QG L:=by
  unfold JH at mr;split at mr
  ·injection mr with mr; subst mr; rfl
  ·cases mr
 subst zw;obtain ⟨hH2,es,clock,he,mh,hc,ac⟩:=(O.maps L H2 m w).1 oz;have hes:es.size=N:=by rw [<- hN]; simpa using congrArg List.length mh
 obtain ⟨h1,h2⟩:=DT _ hr;have hgq:(getObj q).run P w=.ok (.mapIter (some m) N seen.toArray N) w:=by simp [getObj,Sem.run,ra]
 have hgm:(getObj m).run P w=.ok (.map es clock) w:=by simp [getObj,Sem.run,he]
 have su:∀ i (hi:i<es.size),(es[i]∈es.filter (fun e=>!seen.toArray.contains e.born) ↔ (!seen.contains i)=true):=fun i hi=>by
  rw [Array.mem_filter,ac i hi];simp
 have zy:(!seen.toArray.isEmpty&&!es.isEmpty&&es.all (fun x=>decide (x.born>=N)))=false:=by
  cases lm:es.isEmpty with
  | true=>simp
  | false =>
   have h0:0<es.size:=by
    rcases yT es.size with h0 | h0
    ·simp [Array.isEmpty,h0] at lm
    ·exact h0
   have:es.all (fun x=>decide (x.born>=N))=false:=by
    rw [Bool.eq_false_iff];intro bc;rw [Array.all_eq_true] at bc;have:=bc 0 h0;rw [ac 0 h0] at this;simp at this;omega
   simp [this]
 have we:∀ x∈es.filter (fun e=>!seen.toArray.contains e.born),x.born<N:=fun x hx=>by
  have gn:x∈es:=(Array.mem_filter.1 hx).1;obtain ⟨i,bd,rfl⟩:=Array.mem_iff_getElem.1 gn;rw [ac i bd];omega
 generalize hLf:es.filter (fun e=>!seen.toArray.contains e.born)=Lf at we su;have e1:Lf.filter (fun x=>decide (x.born<N))=Lf:=Array.filter_eq_self.2 fun x hx=>by simpa using we x hx
 have e2:Lf.filter (fun x=>decide (x.born>=N))=#[]:=by
  rw [Array.filter_eq_empty_iff];intro x hx;have:=we x hx;simp;omega
 unfold Oper.wp;by_cases h0:Lf.size=0
 ·have hz:Lf=#[]:=Array.eq_empty_of_size_eq_zero h0;have fv:(List.range N).filter (fun i=>!seen.contains i)=[]:=by
   refine List.eq_nil_iff_forall_not_mem.2 fun i bd=>?_
   have ea:i<es.size:=by have:=(List.mem_filter.1 bd).1; rw [hes]; exact List.mem_range.1 this
   have:=(su i ea).2 (List.mem_filter.1 bd).2;rw [hz] at this;simp at this
  have na:(execOp a.eval o).run P w=.ok (.value (.tuple #[.bool false])) w:=by
   simp only [execOp,ho,hv,Instr.next,Sem.run_bind,hgq,hgm,Result.andThen_ok,zy,yI,if_false,hLf,e1,e2,hz,Array.append_empty];simp [choose,Sem.run,Question.forced]
  rw [na,Oper.upon_value];exact hK _ _ _ ⟨ι,Θ,(R.putN hd (x:=⟨.tup [.bool false],.no⟩) ⟨_,rfl,_,_,rfl,rfl,rfl⟩ trivial).more fun _ h=>.inl h⟩ (h1 fv)
 ·have za:Lf.isEmpty=false:=by simp [Array.isEmpty,h0]
  obtain ⟨j,w1,hj,wl,hch⟩:∃ (j:Nat) (w1:World),j<Lf.size/\(w1=w\/w1=w.drew)/\(choose (Question.mapNext Lf.size)).run P w=.ok j w1:=by
   by_cases hf:Lf.size<=1
   ·exact ⟨0,w,by omega,.inl rfl,by simp [choose,Sem.run,Question.forced,hf]⟩
   ·exact ⟨_,w.drew,Nat.mod_lt _ (by omega),.inr rfl,by
     simp only [choose,Sem.run,Question.forced,decide_eq_true_eq,hf,if_false,Question.cut];rfl⟩
  have hjm:Lf[j]∈Lf:=by simp
  have hje:Lf[j]∈es:=by
   have:∀ x,x∈Lf->x∈es:=fun x hx=>by rw [<- hLf] at hx; exact (Array.mem_filter.1 hx).1
   exact this _ hjm
  obtain ⟨i,sx,xz⟩:=Array.mem_iff_getElem.1 hje;have bd:i∈(List.range N).filter fun i=>!seen.contains i:=List.mem_filter.2 ⟨List.mem_range.2 (by rw [<- hes]; exact sx),(su i sx).1 (by rw [xz]; exact hjm)⟩
  have hborn:Lf[j].born=i:=by rw [<- xz]; exact ac i sx
  have hk:=h2 i bd;split at hk
  case h_2=>cases hk
  rename_i y v ao;split at hk
  case isFalse=>cases hk
  rename_i fi;rw [ye] at fi;have hkv:Lf[j].key=y.flatV/\Lf[j].val=v.flatV:=by
   have:=congrArg (fun l=>l[i]?) mh;simp only [yc,ao,Array.getElem?_toList,Y06 sx,yt,Option.some.injEq,entV] at this;rw [<- xz];exact ⟨congrArg Prod.fst this,congrArg Prod.snd this⟩
  have sv:w1.heap=w.heap:=by rcases wl with rfl | rfl <;> rfl
  have hq1:w1.heap[q]?=some (.mapIter (some m) N seen.toArray N):=by rw [sv]; exact ra
  have tr:(setObj q (.mapIter (some m) N (seen.toArray.push i) clock)).run P w1=.ok () { w1 with heap:=w1.heap.setIfInBounds q (.mapIter (some m) N (seen.toArray.push i) clock) }:=by
   simp [setObj,Sem.run,hq1]
  have na:(execOp a.eval o).run P w=.ok (.value (.tuple #[.bool true,y.flatV,v.flatV])) { w1 with heap:=w1.heap.setIfInBounds q (.mapIter (some m) N (seen.toArray.push i) clock) }:=by
   simp only [execOp,ho,hv,Instr.next,Sem.run_bind,hgq,hgm,Result.andThen_ok,zy,yI,if_false,hLf,e1,e2,za,Array.append_empty,Array.empty_append,Array.size_map,hch,Array.getElem?_map,Y06 hj,yt,hborn,tr,Sem.run_pure,hkv.1,hkv.2]
  rw [na,Oper.upon_value];have R1:DB P O nt B F0 aa w0 D s a w1 ι Θ:=R.grow (fun b _=>by rw [sv]) (by rw [sv]; exact yf _) (by rcases wl with rfl | rfl; exact R.kept; exact R.kept.drew);have wk:O.at_ (i4 tm nm N (seen++[i])) H q { w1 with heap:=w1.heap.setIfInBounds q (.mapIter (some m) N (seen.toArray.push i) clock) }:=(O.iters _ _ _ _ (by rw [pX]; rfl)).2 ⟨hH,by simp; rw [sv]; exact ba⟩;have nf:ZA H w1 { w1 with heap:=w1.heap.setIfInBounds q (.mapIter (some m) N (seen.toArray.push i) clock) }:=⟨rfl,rfl,rfl,by simp,fun j' _ hn=>by
   have:j'≠q:=fun e=>hn ((hH j').2 e)
   simp only [Array.getElem?_setIfInBounds];rw [if_neg fun e:q=j'=>this e.symm]⟩
  have htie':W5 ι (i4 tm nm N (seen++[i])) q { w1 with heap:=w1.heap.setIfInBounds q (.mapIter (some m) N (seen.toArray.push i) clock) }:=fun tm' nm' N' seen' e=>by
   rw [pX] at e;injection e with e;injection e with g1 e;injection e with g2 e;injection e with g3 g4;subst g1; subst g2; subst g3; subst g4;refine ⟨m,Hm,hm,hobm,?_⟩;have iq:q<w1.heap.size:=by rw [sv]; exact ba
   simp [iq,hc,hes]
  obtain ⟨ι',R2,_⟩:=R1.turnObj hq ub wk htie' (fun b hb=>.inl hb) nf;refine hK _ _ _ ⟨ι',Θ,(R2.putN hd (x:=⟨.tup [.bool true,y,v],.no⟩) ?_ trivial).more fun _ h=>.inl h⟩ hk;exact ⟨_,rfl,_,_,rfl,rfl,_,_,rfl,fG (HM fi.1),_,_,rfl,fG (HM fi.2),rfl⟩
structure U5 (P:Program) (nt:Nat) (ops:Array Oper) (o:Oper) (c:WA):Prop where
 dst:c.dst=o.dst
 op:(isH c.op=false/\((∃ cl mu b q,K5 P cl mu b q o.op=some c.op/\(mu≠none->o.dst≠none))\/∃ cl hs L,NV P cl hs L o.op=some c.op))\/∃ hs,B1 nt hs o.op=some c.op
 lt:∀ d,o.dst=some d->d<nt
 guard:match o.guard with
  | none=>c.guard=none
  | some (g,want)=>∃ t,(ops[g]?).bind (·.dst)=some t/\c.guard=some (t,want)
theorem MV {boxes:List Nat} {all:List Oper} {draw:Bool}:∀ {ops:List Oper} {cs:List WA},PS P boxes nt all draw ops=some cs->cs.length=ops.length/\∀ (i:Nat) (o:Oper),ops[i]?=some o->∃ c,cs[i]?=some c/\U5 P nt all.toArray o c
 | [],cs,h=>by injection h with h; subst h; exact ⟨rfl,fun i o ho=>by simp at ho⟩
 | o :: r,cs,h=>by
  unfold PS at h;split at h
  ·rename_i k l hk hl;split at h
   ·rename_i ba;have ea:∀ d,o.dst=some d->d<nt:=fun d hd=>by rw [hd] at ba; simpa [dstOk] using ba
    obtain ⟨h1,h2⟩:=MV hl;have mI:∀ c,cs=c :: l->U5 P nt all.toArray o c->cs.length=(o :: r).length/\∀ (i:Nat) (o':Oper),(o :: r)[i]?=some o'->∃ c,cs[i]?=some c/\U5 P nt all.toArray o' c:=fun c e hc=>by
     subst e;refine ⟨by simp [h1],fun i o' ho=>?_⟩;cases i with
     | zero=>simp at ho; subst ho; exact ⟨c,rfl,hc⟩
     | succ i=>simpa using h2 i o' (by simpa using ho)
    have jn:(match o.dst with | some d=>if boxes.contains (nt + 1 + (2 * d + 1)) then some true else if boxes.contains (nt + 1 + 2 * d) then some false else none | none=>none)≠none->o.dst≠none:=fun h e=>by rw [e] at h; exact h rfl
    have tb:(isH k=false/\((∃ cl mu b q,K5 P cl mu b q o.op=some k/\(mu≠none->o.dst≠none))\/∃ cl hs L,NV P cl hs L o.op=some k))\/∃ hs,B1 nt hs o.op=some k:=by
     split at hk
     ·rename_i k' rg;injection hk with hk;exact .inr ⟨_,hk ▸ rg⟩
     ·split at hk
      ·rename_i k' rg;injection hk with hk;subst hk;exact .inl ⟨compN_H rg,.inr ⟨_,_,_,rg⟩⟩
      ·obtain ⟨h1,h2⟩:=Option.filter_eq_some_iff.1 hk;exact .inl ⟨by simpa using h2,.inl ⟨_,_,_,_,h1,jn⟩⟩
    cases hg:o.guard with
    | none =>
     simp only [hg] at h;injection h with h;exact mI _ h.symm ⟨rfl,tb,ea,by rw [hg]⟩
    | some p =>
     obtain ⟨g,want⟩:=p;simp only [hg] at h;split at h
     ·rename_i t ht;injection h with h;exact mI _ h.symm ⟨rfl,tb,ea,by rw [hg]; exact ⟨t,by simpa using ht,rfl⟩⟩
     ·cases h
   ·cases h
  ·cases h
section
variable {D:Nat->Prop} (R:WD P O nt B F0 aa w0 D s a w) (ib:∀ f args S r,call f args S=some r->LA P O f args S r)
include D R ib
theorem N8 {ops:Array Oper} {i:Nat} {o:Oper} {c:WA} (ho:ops[i]?=some o) (ok:U5 P nt ops o c) (hD:∀ d,o.dst=some d->(A7 c.op||CT c.op)=true->¬ D d) (tb:(∃ cl mu b q,K5 P cl mu b q o.op=some c.op/\(mu≠none->o.dst≠none))\/∃ cl hs L,NV P cl hs L o.op=some c.op) (hs:c.step call s=some s')
  {Kn:Act->World->Prop} (hK:∀ a' w',WD P O nt B F0 aa w0 (fun t=>D t\/o.dst=some t) s' a' w'->Kn a' w'):wpOp P ops Q i Kn a w:=by
 obtain ⟨ι,Θ,R⟩:=R;obtain ⟨cd,cop,cg⟩:=c;have ka:cd=o.dst:=ok.dst;subst ka;have main:cop.run call s≠none->(cop.run call s).bind (WA.eff ⟨o.dst,cop,cg⟩ s)=some s'->o.wp P a w Kn Q:=fun _ h=>by
  obtain ⟨xe,hx,he⟩:=y9.1 h;rcases tb with ⟨cl,mu,b,q,tb,jn⟩ | ⟨cl,mo,L,tb⟩
  case inr=>exact op_own R ib tb ok.lt hD hx he hK
  unfold K5 at tb;split at tb
  ·rename_i k hk;injection tb with tb;subst tb;exact op_sound R ib hk jn ok.lt hD hx he hK
  ·split at tb
   ·injection tb with tb;subst tb;cases hx
   ·cases tb
 have main':(cop.run call s).bind (WA.eff ⟨o.dst,cop,cg⟩ s)=some s'->o.wp P a w Kn Q:=fun h=>main (fun e=>by rw [e] at h; cases h) h
 unfold wpOp;simp only [ho];have ly:GA ι (BB aa ι Θ) (eC ι Θ) w (.tup []) undef:=⟨#[],rfl,rfl⟩;have hg:=ok.guard;cases iu:o.guard with
 | none =>
  rw [iu] at hg;simp only at hg;subst hg;have:Region.wanted o (yielded ops a.tmps)=true:=by simp [Region.wanted,iu]
  rw [if_pos this];exact .inl (main' hs)
 | some p =>
  obtain ⟨g,want⟩:=p;rw [iu] at hg;obtain ⟨t,ht,hg⟩:=hg;simp only at hg;subst hg;unfold WA.step at hs;simp only at hs;split at hs
  ·rename_i b hb;have hr:=R.env t;rw [hb,nB] at hr;have hy:yielded ops a.tmps g=some b:=by
    unfold yielded;rw [ht];simp only [J];rw [Y04] at hr;cases hh:a.tmps[t]? with
    | none=>rw [hh] at hr; simp [undef] at hr
    | some v=>rw [hh] at hr; simp only [Option.getD_some] at hr; subst hr; rfl
   have hw:Region.wanted o (yielded ops a.tmps)=(b == want):=by
    simp only [Region.wanted,iu,hy];cases b <;> cases want <;> rfl
   rw [hw];split at hs
   ·rename_i e;subst e;rw [if_pos (by simp)];exact .inl (main' hs)
   ·rename_i e;injection hs with hs;subst hs;rw [if_neg (by simpa using e)];exact hK _ _ ⟨ι,Θ,(R.putN ok.lt (x:=⟨.tup [],.no⟩) ly trivial).more fun _ h=>.inl h⟩
  ·rename_i hb;have hr:=R.env t;rw [hb] at hr;obtain ⟨us,hv,de⟩:=hr;have hy:yielded ops a.tmps g=none:=by
    unfold yielded;rw [ht];simp only [J];rw [Y04] at hv;cases hh:a.tmps[t]? with
    | none=>rfl
    | some v=>rw [hh] at hv; simp only [Option.getD_some] at hv; subst hv; rfl
   have hw:Region.wanted o (yielded ops a.tmps)=false:=by
    simp only [Region.wanted,iu,hy];cases want <;> rfl
   rw [hw];injection hs with hs;subst hs;rw [if_neg (by decide)];exact hK _ _ ⟨ι,Θ,(R.putN ok.lt (x:=⟨.tup [],.no⟩) ly trivial).more fun _ h=>.inl h⟩
  ·cases hs
theorem jW (di:HZ P O lh.h) {ops:Array Oper} {i:Nat} {o:Oper} {c:WA} (ho:ops[i]?=some o) (ok:U5 P nt ops o c) (hD:∀ d,o.dst=some d->(A7 c.op||CT c.op)=true->¬ D d) {k:pA->Option RV} {r:RV} (hs:c.stepK call lh s k=some r)
  {Kn:Act->World->Prop} (hK:∀ s' a' w',WD P O nt B F0 aa w0 (fun t=>D t\/o.dst=some t) s' a' w'->k s'=some r->Kn a' w'):wpOp P ops Q i Kn a w:=by
 rcases ok.op with ⟨hH,tb⟩ | ⟨ky,tb⟩
 ·have hb:(c.step call s).bind k=some r:=by
   unfold WA.stepK at hs;split at hs
   ·rename_i h; rw [h] at hH; cases hH
   ·rename_i h; rw [h] at hH; cases hH
   ·exact hs
  obtain ⟨s1,h1,h2⟩:=y9.1 hb;exact N8 R ib ho ok hD tb h1 fun a' w' R'=>hK s1 a' w' R' h2
 ·obtain ⟨cd,cop,cg⟩:=c;have ka:cd=o.dst:=ok.dst;subst ka;simp only at tb;obtain ⟨ι,Θ,R⟩:=R;obtain ⟨st,ac,main'⟩:∃ st,WA.stepK call lh ⟨o.dst,cop,cg⟩ s k=CI s o.dst cg st k/\(st=some r->o.wp P a w Kn Q):=by
   have dl:=tb;unfold B1 at dl;split at dl
   ·split at dl
    ·obtain ⟨_,_,h⟩:=yl.1 dl; subst h; exact ⟨_,rfl,fun h=>C6 R di tb ok.lt h hK⟩
    ·cases dl
   ·split at dl
    ·obtain ⟨_,_,h⟩:=yl.1 dl; subst h; exact ⟨_,rfl,fun h=>C6 R di tb ok.lt h hK⟩
    ·cases dl
   ·rename_i X hox;obtain ⟨x,hx,h⟩:=yl.1 dl;subst h;exact ⟨_,rfl,fun h=>op_nxt R hx hox ok.lt h hK⟩
   ·cases dl
  rw [ac] at hs;unfold wpOp;simp only [ho];have ly:GA ι (BB aa ι Θ) (eC ι Θ) w (.tup []) undef:=⟨#[],rfl,rfl⟩;have hg:=ok.guard;cases iu:o.guard with
  | none =>
   rw [iu] at hg;simp only at hg;subst hg;have:Region.wanted o (yielded ops a.tmps)=true:=by simp [Region.wanted,iu]
   rw [if_pos this];exact .inl (main' hs)
  | some p =>
   obtain ⟨g,want⟩:=p;rw [iu] at hg;obtain ⟨t,ht,hg⟩:=hg;simp only at hg;subst hg;unfold CI at hs;simp only at hs;split at hs
   ·rename_i b hb;have hr:=R.env t;rw [hb,nB] at hr;have hy:yielded ops a.tmps g=some b:=by
     unfold yielded;rw [ht];simp only [J];rw [Y04] at hr;cases hh:a.tmps[t]? with
     | none=>rw [hh] at hr; simp [undef] at hr
     | some v=>rw [hh] at hr; simp only [Option.getD_some] at hr; subst hr; rfl
    have hw:Region.wanted o (yielded ops a.tmps)=(b == want):=by
     simp only [Region.wanted,iu,hy];cases b <;> cases want <;> rfl
    rw [hw];split at hs
    ·rename_i e;subst e;rw [if_pos (by simp)];exact .inl (main' hs)
    ·rename_i e;rw [if_neg (by simpa using e)];exact hK _ _ _ ⟨ι,Θ,(R.putN ok.lt (x:=⟨.tup [],.no⟩) ly trivial).more fun _ h=>.inl h⟩ hs
   ·rename_i hb;have hr:=R.env t;rw [hb] at hr;obtain ⟨us,hv,de⟩:=hr;have hy:yielded ops a.tmps g=none:=by
     unfold yielded;rw [ht];simp only [J];rw [Y04] at hv;cases hh:a.tmps[t]? with
     | none=>rfl
     | some v=>rw [hh] at hv; simp only [Option.getD_some] at hv; subst hv; rfl
    have hw:Region.wanted o (yielded ops a.tmps)=false:=by
     simp only [Region.wanted,iu,hy];cases want <;> rfl
    rw [hw];rw [if_neg (by decide)];exact hK _ _ _ ⟨ι,Θ,(R.putN ok.lt (x:=⟨.tup [],.no⟩) ly trivial).more fun _ h=>.inl h⟩ hs
   ·cases hs
end
theorem WD.next {D:Nat->Prop} (R:WD P O nt B F0 aa w0 D s a w):WD P O nt B F0 aa w0 (fun _=>False) { s with next:=s.next + 1 } a w:=by
 obtain ⟨ι,Θ,R⟩:=R;exact ⟨ι,Θ,R.defers,R.size,R.env,R.ann,R.rows,fun t n b h=>let ⟨h1,h2,h3⟩:=R.mine t n b h; ⟨h1,h2,.inl (by rcases h3 with h | h <;> simp only <;> omega)⟩,R.inj,R.tok,R.tinj,R.apart,R.out,R.pin,R.kept,R.base,R.objs,fun t n H h=>let ⟨h1,h2⟩:=R.obs t n H h; ⟨h1,.inl (by rcases h2 with h | h <;> simp only <;> omega)⟩,R.gen,R.gann⟩
theorem sY {cs:List WA} (h:BS cs=true) {i j:Nat} {x y:WA} (hx:cs[i]?=some x) (hy:cs[j]?=some y) (za:i≠j) (hA:(A7 y.op||CT y.op)=true) (po:y.dst.isSome=true):x.dst≠y.dst:=by
 have hj:=(yh.1 hy).1;have hi:=(yh.1 hx).1;have h1:=y8.1 h j (List.mem_range.2 hj);rw [hy] at h1;simp only [hA,po,Bool.true_and,Bool.not_true,Bool.false_or] at h1;have h2:=y8.1 h1 i (List.mem_range.2 hi);rw [hx] at h2;simp only [Bool.or_eq_true] at h2;rcases h2 with h2 | h2
 ·exact absurd (by simpa using h2) za
 ·simpa using h2
theorem X2 {ops:Array Oper} {cs:List WA} (ib:∀ f args S r,call f args S=some r->LA P O f args S r) (di:HZ P O lh.h) (sa:∀ (i:Nat) (o:Oper),ops[i]?=some o->∃ c,cs[i]?=some c/\U5 P nt ops o c) (da:cs.length=ops.size) (hf:BS cs=true) {k:pA->Option RV} {r:RV} :
  ∀ (n i:Nat) (s:pA) (a:Act) (w:World),i + n=ops.size->WD P O nt B F0 aa w0 (fun t=>∃ j c,j<i/\cs[j]?=some c/\c.dst=some t) s a w->qG call lh (cs.drop i) s k=some r →
   (∀ s' a' w',WD P O nt B F0 aa w0 (fun _=>True) s' a' w'->k s'=some r->Q .normal a' w')->wpOps P ops Q (List.range' i n) a w
 | 0,i,s,a,w,hi,R,hr,hQ=>by
  have:cs.drop i=[]:=yn (by omega);rw [this] at hr;obtain ⟨ι,Θ,R⟩:=R;exact hQ s a w ⟨ι,Θ,R.more fun _ _=>trivial⟩ hr
 | n + 1,i,s,a,w,hi,R,hr,hQ=>by
  have ba:i<ops.size:=by omega
  obtain ⟨c,hc,ok⟩:=sa i ops[i] (Y06 ba);have re:i<cs.length:=by omega
  have hci:cs[i]=c:=(yh.1 hc).2;rw [yj re,hci] at hr;unfold qG at hr;rw [List.range'_succ,wpOps_cons];refine jW R ib di (Y06 ba) ok (fun d hd hA ⟨j,c',hj,jc,zp⟩=>?_) hr fun s' a' w' R' hk=>?_
  ·exact sY hf jc hc (by omega) hA (by rw [ok.dst,hd]; rfl) (by rw [zp,ok.dst,hd])
  ·refine X2 ib di sa da hf n (i + 1) s' a' w' (by omega) ?_ hk hQ;obtain ⟨ι,Θ,R'⟩:=R';refine ⟨ι,Θ,R'.more fun t ht=>?_⟩;rcases ht with ⟨j,c',hj,jc,zp⟩ | ht
   ·exact ⟨j,c',by omega,jc,zp⟩
   ·exact ⟨i,c,by omega,hc,by rw [ok.dst,ht]⟩
end
end
section
open Go Go.RowKit
section
variable {P:Program} {O:XE} {nt B:Nat} {F0:BN} {aa:Av} {w0:World} {s s':pA} {a:Act} {w w':World} {call:uB} {lh:LH} {Q:Exit->Act->World->Prop}
noncomputable def iJ (call:uB) (lh:LH) (cs:List WA):List Nat->pA->(pA->Option RV)->Option RV
 | [],s,k=>k s
 | i :: r,s,k=>match cs[i]? with
  | some c=>c.stepK call lh s fun s=>iJ call lh cs r s k
  | none=>none
theorem QZ (cs:List WA) (k:pA->Option RV):∀ (n i:Nat) (s:pA),i + n=cs.length->qG call lh (cs.drop i) s k=iJ call lh cs (List.range' i n) s k
 | 0,i,s,h=>by rw [yn (by omega)]; rfl
 | n + 1,i,s,h=>by
  have ba:i<cs.length:=by omega
  rw [yj ba,List.range'_succ];unfold qG iJ;rw [yg ba];simp only;congr 1;funext s1;exact QZ cs k n (i + 1) s1 (by omega)
theorem XH {c:WA} (h:isH c.op=false) (s:pA) (k:pA->Option RV):c.stepK call lh s k=(c.step call s).bind k:=by
 unfold WA.stepK;split
 ·rename_i e; rw [e] at h; cases h
 ·rename_i e; rw [e] at h; cases h
 ·rfl
theorem isM_H {k:K} (h:isM k=false):isH k=false:=by
 cases k <;> first | rfl | cases h
theorem S8 {x y:WA} (h:UN x y=true):isH x.op=false/\isH y.op=false:=by
 have hN:∀ {k:K},isN k=true->isH k=false:=fun {k} h=>by cases k <;> first | rfl | cases h
 have hV:∀ {o:WA},isMv o=true->isH o.op=false:=fun h=>by obtain ⟨d,z,rfl⟩:=isMv_eq h; rfl
 unfold UN at h;simp only [Bool.or_eq_true,ye] at h;rcases h with h | ((⟨h,h'⟩ | ⟨h,h'⟩) | ⟨h,h'⟩) | ⟨h,h'⟩
 ·unfold WH at h;simp only [ye] at h;exact ⟨isM_H (by simpa using h.1.1.1.1.1.1.1),isM_H (by simpa using h.1.1.1.1.1.1.2)⟩
 ·exact ⟨hV h,hN h'⟩
 ·exact ⟨hN h',hV h⟩
 ·refine ⟨?_,hN h'⟩;unfold isLd at h;split at h
  ·rename_i e _ _; rw [e]; rfl
  ·cases h
 ·refine ⟨hN h,?_⟩;unfold isPt at h';split at h'
  ·rename_i e _; rw [e]; rfl
  ·rename_i e _; rw [e]; rfl
  ·cases h'
theorem bubble0 {cs:List WA} {i:Nat} {c:WA} (hc:cs[i]?=some c) (hH:isH c.op=false) {L2:List Nat} {k:pA->Option RV} {r:RV}:∀ {L1:List Nat} {s:pA},(∀ r∈L1,∃ cr,cs[r]?=some cr/\wF cr c=true/\UN cr c=true)->iJ call lh cs (L1++i :: L2) s k=some r →
  ∃ s1,c.step call s=some s1/\iJ call lh cs (L1++L2) s1 k=some r
 | [],s,_,h=>by
  simp only [yW,iJ,hc,XH hH] at h;obtain ⟨s1,h1,h2⟩:=y9.1 h;exact ⟨s1,h1,h2⟩
 | q :: L1,s,hL,h=>by
  obtain ⟨cr,hr,ha,ho⟩:=hL q (yp);simp only [List.cons_append,iJ,hr,XH (S8 ho).1] at h;obtain ⟨s1,h1,h2⟩:=y9.1 h;obtain ⟨s2,h3,h4⟩:=bubble0 hc hH (fun q hq=>hL q (yG _ hq)) h2;obtain ⟨ej,h5,h6⟩:=commute ha ho h1 h3;refine ⟨ej,h5,?_⟩;simp only [List.cons_append,iJ,hr,XH (S8 ho).1,h6,J];exact h4
theorem bubble {cs:List WA} {i:Nat} {c:WA} (hc:cs[i]?=some c) {L2:List Nat} {k:pA->Option RV} {r:RV} {L1:List Nat} {s:pA} (hL:∀ r∈L1,∃ cr,cs[r]?=some cr/\wF cr c=true/\UN cr c=true) (h:iJ call lh cs (L1++i :: L2) s k=some r) :
  c.stepK call lh s (fun s1=>iJ call lh cs (L1++L2) s1 k)=some r:=by
 cases L1 with
 | nil=>simpa only [yW,iJ,hc] using h
 | cons q L1 =>
  obtain ⟨cr,hr,ha,ho⟩:=hL q (yp);have hH:=(S8 ho).2;obtain ⟨s1,h1,h2⟩:=bubble0 hc hH hL h;rw [XH hH,h1,J];exact h2
theorem Z2 {o:Oper} {e:Nat}:e∈gJ o ↔ ∃ d∈o.after,Region.binds .any d=true/\d.on=e:=by
 unfold gJ;rw [List.mem_filterMap];constructor
 ·rintro ⟨d,hd,h⟩;split at h
  ·rename_i hb; injection h with h; exact ⟨d,by simpa using hd,hb,h⟩
  ·cases h
 ·rintro ⟨d,hd,hb,rfl⟩;exact ⟨d,by simpa using hd,by rw [if_pos hb]⟩
theorem bf_spec {ops:List Oper} {bf:List Nat} (h:bfOk ops bf=true) {i:Nat} {o:Oper} (ho:ops[i]?=some o):(∀ e∈gJ o,e<i)/\∀ r,r<i->(bf.getD i 0).testBit r=true->∃ e∈gJ o,e=r\/(r<e/\(bf.getD e 0).testBit r=true):=by
 have hi:=(yh.1 ho).1;have h1:=y8.1 h i (List.mem_range.2 hi);rw [ho] at h1;simp only [ye] at h1;refine ⟨fun e he=>by simpa using y8.1 h1.1 e he,fun r hr hb=>?_⟩;have h2:=y8.1 h1.2 r (List.mem_range.2 hr);simp only [hb,Bool.not_true,Bool.false_or,List.any_eq_true,Bool.or_eq_true,beq_iff_eq,ye,decide_eq_true_eq] at h2;exact h2
theorem Z1 {ops:List Oper} {bf:List Nat} (h:bfOk ops bf=true) {L:List Nat} (re:∀ (j:Nat) (o:Oper),ops[j]?=some o->j ∉ L->∀ e∈gJ o,e ∉ L):∀ (n i:Nat) (o:Oper),i<n->ops[i]?=some o->(∀ e∈gJ o,e ∉ L)->∀ r,r<i->(bf.getD i 0).testBit r=true->r ∉ L
 | 0,i,o,hn,_,_,_,_,_=>by omega
 | n + 1,i,o,hn,ho,tz,r,hr,hb=>by
  obtain ⟨h1,h2⟩:=bf_spec h ho;obtain ⟨e,he,hor⟩:=h2 r hr hb;rcases hor with rfl | ⟨xy,hbe⟩
  ·exact tz _ he
  ·have hei:=h1 e he;have ba:i<ops.length:=(yh.1 ho).1;have hoe:ops[e]?=some ops[e]:=yg (by omega);exact Z1 h re n e _ (by omega) hoe (re e _ hoe (tz e he)) r xy hbe
theorem draw_pair {ops:List Oper} {cs:List WA} (h:rU ops cs=true) {i j:Nat} (hj:j<ops.length) (hij:i<j) (hb:((eQ ops).getD j 0).testBit i=false):∃ x y,cs[i]?=some x/\cs[j]?=some y/\wF x y=true/\UN x y=true:=by
 unfold rU at h;simp only [ye] at h;have h1:=y8.1 h.2 j (List.mem_range.2 hj);have h2:=y8.1 h1 i (List.mem_range.2 hij);rw [hb,Bool.false_or] at h2;split at h2
 ·rename_i x y hx hy;simp only [ye] at h2;exact ⟨x,y,hx,hy,h2.1,h2.2⟩
 ·cases h2
theorem G1 {ops:Array Oper} {cs:List WA} (ib:∀ f args S r,call f args S=some r->LA P O f args S r) (di:HZ P O lh.h) (sa:∀ (i:Nat) (o:Oper),ops[i]?=some o->∃ c,cs[i]?=some c/\U5 P nt ops o c) (da:cs.length=ops.size) (hf:BS cs=true) (ak:rU ops.toList cs=true) {k:pA->Option RV} {r:RV}
  (hQ:∀ s' a' w',WD P O nt B F0 aa w0 (fun _=>True) s' a' w'->k s'=some r->Q .normal a' w') :
  ∀ (fuel:Nat) (L:List Nat) (listed:Array Bool) (s:pA) (a:Act) (w:World),L.length=fuel->(∀ i,i<ops.size->(listed.getD i true=false ↔ i∈L))->listed.size=ops.size->L.Pairwise (·<·)->(∀ i∈L,i<ops.size) →
   (∀ (j:Nat) (o:Oper),ops.toList[j]?=some o->j ∉ L->∀ e∈gJ o,e ∉ L)->WD P O nt B F0 aa w0 (fun t=>∃ j c,j ∉ L/\cs[j]?=some c/\c.dst=some t) s a w->iJ call lh cs L s k=some r->wpAny P .any ops Q fuel listed a w
 | 0,L,listed,s,a,w,hl,hlist,oc,_,_,_,R,hr=>by
  have:L=[]:=Y00 hl;subst this;refine ⟨?_,?_⟩
  ·refine List.eq_nil_iff_forall_not_mem.2 fun i hi=>?_
   obtain ⟨ly,o,ho,_⟩:=mem_ready.1 hi;have bd:=(Array.getElem?_eq_some_iff.1 ho).1;have:=(hlist i bd).1 ly;cases this
  ·obtain ⟨ι,Θ,R⟩:=R;exact hQ s a w ⟨ι,Θ,R.more fun _ _=>trivial⟩ hr
 | fuel + 1,L,listed,s,a,w,hl,hlist,oc,hsort,zf,re,R,hr=>by
  have hbf:bfOk ops.toList (eQ ops.toList)=true:=by
   unfold rU at ak;simp only [ye] at ak;exact ak.1
  refine ⟨fun fv=>?_,fun i hi=>?_⟩
  ·exfalso;cases L with
   | nil=>simp at hl
   | cons i0 L0 =>
    have ui:=zf i0 (yp);have ho:ops.toList[i0]?=some ops[i0]:=by simp [ui]
    have we:i0∈Region.ready .any ops listed:=by
     refine mem_ready.2 ⟨(hlist i0 ui).2 (yp),ops[i0],Y06 ui,fun e he hb=>?_⟩;have ba:=(bf_spec hbf ho).1 e.on (Z2.2 ⟨e,he,hb,rfl⟩);have hnot:e.on ∉ i0 :: L0:=fun hm=>by
      rcases yw.1 hm with h | h
      ·omega
      ·have:=(List.pairwise_cons.1 hsort).1 _ h; omega
     have h1:listed.getD e.on true≠false:=fun h=>hnot ((hlist e.on (by omega)).1 h)
     have hs:e.on<listed.size:=by omega
     simp only [Y04,Y06 hs,Option.getD_some] at h1 ⊢;simpa using h1
    rw [fv] at we;cases we
  ·obtain ⟨ly,o,ho,tz⟩:=mem_ready.1 hi;have bd:=(Array.getElem?_eq_some_iff.1 ho).1;have hiL:=(hlist i bd).1 ly;have hol:ops.toList[i]?=some o:=by simpa using ho
   have hedL:∀ e∈gJ o,e ∉ L:=fun e he=>by
    obtain ⟨d,hd,hb,rfl⟩:=Z2.1 he;have h1:=tz d hd hb;intro hm;have ba:=zf _ hm;have h2:=(hlist _ ba).2 hm;have hs:d.on<listed.size:=by omega
    simp only [Y04,Y06 hs,Option.getD_some] at h1 h2;rw [h1] at h2;cases h2
   obtain ⟨L1,L2,rfl⟩:=List.append_of_mem hiL;obtain ⟨c,hc,ok⟩:=sa i o ho;have mi:=List.pairwise_append.1 hsort;have tq:∀ r∈L1,∃ cr,cs[r]?=some cr/\wF cr c=true/\UN cr c=true:=fun r hr=>by
    have hri:r<i:=mi.2.2 r hr i (yp);have hbit:((eQ ops.toList).getD i 0).testBit r=false:=by
     cases hb:((eQ ops.toList).getD i 0).testBit r with
     | false=>rfl
     | true=>exact absurd (List.mem_append_left _ hr) (Z1 hbf re (i + 1) i o (by omega) hol hedL r hri hb)
    obtain ⟨x,y,hx,hy,h1,h2⟩:=draw_pair ak (by simpa using bd) hri hbit;rw [hc] at hy;injection hy with hy;subst hy;exact ⟨x,hx,h1,h2⟩
   have h1:=bubble hc tq hr;have wd:i ∉ L1++L2:=fun hm=>by
    rcases yq.1 hm with h | h
    ·have:=mi.2.2 i h i (yp); omega
    ·have:=(List.pairwise_cons.1 mi.2.1).1 i h; omega
   have wc:∀ j,j ∉ L1++i :: L2 ↔ (j ∉ L1++L2/\j≠i):=fun j=>by
    simp only [yq,yw,not_or];exact ⟨fun ⟨h1,h2,h3⟩=>⟨⟨h1,h3⟩,h2⟩,fun ⟨⟨h1,h3⟩,h2⟩=>⟨h1,h2,h3⟩⟩
   refine jW R ib di ho ok (fun d hd hA ⟨j,c',hj,jc,zp⟩=>?_) h1 fun s1 a' w' R' h2=>?_
   ·have:j≠i:=((wc j).1 hj).2;exact sY hf jc hc this hA (by rw [ok.dst,hd]; rfl) (by rw [zp,ok.dst,hd])
   ·refine G1 ib di sa da hf ak hQ fuel (L1++L2) (listed.setIfInBounds i true) s1 a' w' (by simp at hl ⊢; omega) (fun j hj=>?_) (by simpa using oc) ?_ (fun j hj=>zf j ?_) (fun j o' ho' hj e he hm=>?_) ?_ h2
    ·have hjs:j<listed.size:=by omega
     by_cases e:i=j
     ·subst e;simp only [Y04,Array.getElem?_setIfInBounds,if_true,hjs,Option.getD_some];exact ⟨fun h=>by simp at h,fun h=>absurd h wd⟩
     ·simp only [Y04,Array.getElem?_setIfInBounds,if_neg e];have:=hlist j hj;simp only [Y04] at this;rw [this];simp only [yq,yw];exact ⟨fun h=>by rcases h with h | h | h; exact .inl h; exact absurd h.symm e; exact .inr h,fun h=>by rcases h with h | h; exact .inl h; exact .inr (.inr h)⟩
    ·exact List.pairwise_append.2 ⟨mi.1,(List.pairwise_cons.1 mi.2.1).2,fun x hx y hy=>mi.2.2 x hx y (yG _ hy)⟩
    ·rcases yq.1 hj with h | h
     ·exact List.mem_append_left _ h
     ·exact List.mem_append_right _ (yG _ h)
    ·have ae:e∈L1++i :: L2:=by
      rcases yq.1 hm with h | h
      ·exact List.mem_append_left _ h
      ·exact List.mem_append_right _ (yG _ h)
     by_cases e':j=i
     ·subst e';rw [hol] at ho';injection ho' with ho';subst ho';exact hedL e he ae
     ·exact re j o' ho' ((wc j).2 ⟨hj,e'⟩) e he ae
    ·obtain ⟨ι,Θ,R'⟩:=R';refine ⟨ι,Θ,R'.more fun t ht=>?_⟩;rcases ht with ⟨j,c',hj,jc,zp⟩ | ht
     ·exact ⟨j,c',((wc j).1 hj).1,jc,zp⟩
     ·exact ⟨i,c,wd,hc,by rw [ok.dst,ht]⟩
theorem w5 (hm:P.follows .mixedOrders=true) (ib:∀ f args S r,call f args S=some r->LA P O f args S r) (di:HZ P O lh.h) {boxes:List Nat} {id:Nat} {ops:Array Oper} {draw:Bool} {cs:List WA} (hc:PS P boxes nt ops.toList draw ops.toList=some cs) (hf:BS cs=true) (hd:draw=true->rU ops.toList cs=true)
  (R:WD P O nt B F0 aa w0 (fun _=>False) s a w) {k:pA->Option RV} {r:RV} (hr:qG call lh cs s k=some r) (hQ:∀ s' a' w',WD P O nt B F0 aa w0 (fun _=>False) { s' with next:=s'.next + 1 } a' w'->k s'=some r->Q .normal a' w'):(Code.region id ops draw).wp P Q a w:=by
 obtain ⟨da,px⟩:=MV hc;have co:cs.length=ops.size:=by simpa using da
 have sa:∀ (i:Nat) (o:Oper),ops[i]?=some o->∃ c,cs[i]?=some c/\U5 P nt ops o c:=fun i o ho=>by
  have:=px i o (by simpa using ho);rw [yX] at this;exact this
 have hQ':∀ s' a' w',WD P O nt B F0 aa w0 (fun _=>True) s' a' w'->k s'=some r->Q .normal a' w':=fun s' a' w' h hk=>hQ s' a' w' h.next hk
 cases draw with
 | false =>
  refine wp_region ?_;rw [List.range_eq_range'];refine X2 ib di sa co hf ops.size 0 s a w (by omega) ?_ (by simpa using hr) hQ';obtain ⟨ι,Θ,R⟩:=R;exact ⟨ι,Θ,R.more fun _ h=>h.elim⟩
 | true =>
  refine wp_region_any hm ?_;have na:iJ call lh cs (List.range' 0 ops.size) s k=some r:=by
   rw [<- co,<- QZ cs k cs.length 0 s (by omega)];simpa using hr
  refine G1 ib di sa co hf (hd rfl) hQ' ops.size (List.range' 0 ops.size) _ s a _ (by simp) (fun i hi=>?_) (by simp) List.pairwise_lt_range' (fun i hi=>?_) (fun j o ho hj=>?_) ?_ na
  ·simp [hi]
  ·simpa using hi
  ·have:=(yh.1 ho).1;exact absurd (by simpa using this) (by simpa using hj)
  ·obtain ⟨ι,Θ,R⟩:=R;exact ⟨ι,Θ,(R.grow (w':=w.drew) (fun _ _=>rfl) (yf _) R.kept.drew).more fun _ h=>h.elim⟩
end
end
end Go.Proofs.YtbhbeakhognieaaGreatDoor
