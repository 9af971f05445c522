/- A part of the proof. -/
import Derived.Test.YtjoaiabjebpbjaaGreatSa
import Derived.Laws.BytesString
import Derived.OrdersHeld
import Derived.LoopN
set_option linter.all false
set_option maxRecDepth 100000
set_option maxHeartbeats 8000000
open Option renaming bind_some → V, bind_eq_some_iff → yb, map_eq_some_iff → yg, map_some → yq
open List renaming map_map → y0, getElem?_eq_getElem → y4, all_eq_true → y6, getElem?_map → y8, drop_eq_getElem_cons → y9, mem_cons → yc, drop_eq_nil_of_le → ye, mem_cons_of_mem → yh, replicate → yj, mem_cons_self → yk, map_cons → yl, getElem?_eq_some_iff → ym, length_map → yn, map_nil → yo, take_of_length_le → yv, cons_append → yx, map_congr_left → yz, length_append → yA, mem_map → yB, flatten_cons → yC, mem_append → yE, eq_nil_of_length_eq_zero → yF, length_cons → yI, nil_append → yK, mem_singleton → yL, length_take → yN, getElem?_append_right → yP, mem_of_getElem? → yQ, take_append_drop → yR, getElem?_drop → yT, getElem?_take → yU, getElem?_append_left → yV, getElem?_eq_none → yZ
open Bool renaming and_eq_true → y7, false_eq_true → yp
open Nat renaming le_refl → yf, succ_mul → yt, le_trans → yw, zero_add → yD, eq_zero_or_pos → yG, mul_le_mul_right → yX
open Array renaming length_toList → yO, toArray_toList → yS, getD_eq_getD_getElem? → yY, getElem?_eq_getElem → Y00
namespace Go.Proofs.YtjoaiabjebpbjaaGreat
open Go
section
open Go Go.RowKit
section
variable {P:Program} {O:GI} {nt B:Nat} {F0:cP} {da:Av} {w0:World} {D:Nat->Prop} {s:aA} {a:Act} {w w':World} {ι:Ix} {Θ:IL} {o:Oper}
def An.twice (A:An) (d:Nat) (x:An):An:=match A with
 | .own k _=>(x.strip k).strip d
 | _=>x.strip d
theorem twice_eq (A:An) (d:Nat):(s.stripA A).strip d=s.mapAn (A.twice d):=by
 cases A with
 | own k e=>simp [aA.stripA,aA.strip,aA.mapAn,rA.strip,An.twice,Function.comp_def]
 | no=>rfl
 | ex=>rfl
def IL.less (Θ:IL) (A:An) (d:Nat):IL:=fun j=>match A with
 | .own k _=>if j=d\/j=k then none else Θ j
 | _=>if j=d then none else Θ j
theorem IC {A:An} {d j:Nat} {o:Ow} (h:Θ.less A d j=some o):Θ j=some o/\j≠d/\∀ k e,A=.own k e->j≠k:=by
 unfold IL.less at h;cases A with
 | own k e =>
  simp only at h;split at h
  ·cases h
  ·rename_i hn; exact ⟨h,fun e=>hn (.inl e),fun k' e' he=>by injection he with h1; subst h1; exact fun e=>hn (.inr e)⟩
 | no =>
  simp only at h;split at h
  ·cases h
  ·rename_i hn; exact ⟨h,hn,fun k' e' he=>by cases he⟩
 | ex =>
  simp only at h;split at h
  ·cases h
  ·rename_i hn; exact ⟨h,hn,fun k' e' he=>by cases he⟩
theorem less_d {A:An} {d:Nat}:Θ.less A d d=none:=by
 unfold IL.less;cases A <;> simp
theorem less_an {A:An} {d:Nat} {Θ':IL} (hΘ:∀ j o,Θ.less A d j=some o->Θ' j=some o) (x:An) (v:Value) (h:RM Θ x v):RM Θ' (A.twice d x) v:=by
 have h1:∀ k,x.strip k=.no\/(x.strip k=x/\∀ j e,x=.own j e->j≠k):=fun k=>by
  cases x with
  | no=>exact .inl rfl
  | ex=>exact .inr ⟨rfl,fun _ _ h=>by cases h⟩
  | own j e =>
   simp only [An.strip];split
   ·exact .inl rfl
   ·rename_i hn; exact .inr ⟨rfl,fun j' e' h=>by injection h with h; subst h; exact hn⟩
 have key:A.twice d x=.no\/(A.twice d x=x/\(∀ j e,x=.own j e->j≠d)/\∀ k e',A=.own k e'->∀ j e,x=.own j e->j≠k):=by
  cases A with
  | own k e' =>
   simp only [An.twice];rcases h1 k with h2 | ⟨h2,h3⟩
   ·rw [h2]; exact .inl rfl
   ·rw [h2];rcases h1 d with h4 | ⟨h4,h5⟩
    ·exact .inl h4
    ·exact .inr ⟨h4,h5,fun k' e'' he=>by injection he with he; subst he; exact h3⟩
  | no=>rcases h1 d with h4 | ⟨h4,h5⟩; exact .inl h4; exact .inr ⟨h4,h5,fun _ _ he=>by cases he⟩
  | ex=>rcases h1 d with h4 | ⟨h4,h5⟩; exact .inl h4; exact .inr ⟨h4,h5,fun _ _ he=>by cases he⟩
 rcases key with h2 | ⟨h2,h3,h4⟩
 ·rw [h2]; trivial
 ·rw [h2];cases x with
  | no=>trivial
  | ex=>exact h
  | own j e =>
   refine h.imp id fun ⟨ow,h5,h6⟩=>⟨ow,hΘ _ _ ?_,h6⟩
   unfold IL.less;cases A with
   | own k e'=>simp only; rw [if_neg]; exact h5; rintro (e1 | e1); exact h3 _ _ rfl e1; exact h4 _ _ rfl _ _ rfl e1
   | no=>simp only; rw [if_neg (h3 _ _ rfl)]; exact h5
   | ex=>simp only; rw [if_neg (h3 _ _ rfl)]; exact h5
theorem dC.apob (R:dC P O nt B F0 da w0 D s a w ι Θ) {k:Nat} {o:Ow} {t n:Nat} {H:Nat->Prop} (h:Θ k=some o) (hH:ι.ob t n=some H):¬ H o.g:=fun hb=>((R.obs t n H hH).1 _ hb).2.2.2.1 k o h rfl
theorem dC.less (R:dC P O nt B F0 da w0 D s a w ι Θ) (A:An) (d:Nat):dC P O nt B F0 da w0 D (s.mapAn (A.twice d)) a w ι (Θ.less A d) :=
 R.fam _ _ (fun _ _ h=>h.imp id fun ⟨k,ow,h1,h2⟩=>⟨k,ow,(IC h1).1,h2⟩) (less_an fun _ _ h=>h) (fun k o h=>R.tok k o (IC h).1) (fun k k' o o' h h'=>R.tinj k k' o o' (IC h).1 (IC h').1) (fun k o t n h=>R.apart k o t n (IC h).1) (fun _ _ _ _ _ h=>R.apob (IC h).1)
theorem qJ {av:Av}:∀ {xs ys:List AV} {us vs:List Value},DC av w xs us->DC av w ys vs->DC av w (xs++ys) (us++vs)
 | [],_,_,_,h,h'=>by simp only [DC] at h; subst h; exact h'
 | x :: r,_,_,_,h,h'=>by
  simp only [DC] at h;obtain ⟨u,oa,rfl,h0,h1,h⟩:=h;exact ⟨u,oa++_,rfl,h0,h1,qJ h h'⟩
theorem G6 {av:Av}:∀ {xs:List AV} {us:List Value},DC av w xs us->∀ u∈us,u.oneCell'=true
 | [],_,h,u,hu=>by simp only [DC] at h; subst h; cases hu
 | x :: r,_,h,u,hu=>by
  simp only [DC] at h;obtain ⟨v,oa,rfl,h0,h1,h⟩:=h;rcases yc.1 hu with rfl | hu
  ·exact h1
  ·exact G6 h u hu
theorem op_app (R:dC P O nt B F0 da w0 D s a w ι Θ) {t e:TypeId} {i:TypeInfo} {z:List AV} (ht:P.underlying t=some (.slice e)) (hi:P.info? e=some i) (hz:tK P e=some z) (ma:z.length=i.size) (ab:0<i.size) {X Y:Operand} {x y:CB} (hx:opd X=some x) (hy:opd Y=some y)
  (ho:o.op=.call { callee:=.builtin .append,args:=#[X,Y],argTypes:=#[t,t] }) {d:Nat} (ca:o.dst=some d) (hd:d<nt) {cl:Cl} {call} {xe:rA × nD} (hr:(K.app cl e i.size i.bytes x y).run call s=some xe) {g} {s':aA} (he:PA.eff ⟨o.dst,.app cl e i.size i.bytes x y,g⟩ s xe=some s') :
  ∃ v w',(execOp a.eval o).run P w=.ok (.value v) w'/\CD P O nt B F0 da w0 D s' (a.put o.dst v) w':=by
 obtain ⟨zv,i',jc,jp,oh,hl⟩:=LG hz w;rw [hi] at jc;injection jc with jc;subst jc;have tk:zv.cells.size=i.size:=by
  have:=kG hl;simp only [yO] at this;omega
 have hX:=R.opd hx;have hY:=(R.opd hy).1;have oj:∀ v w',(Builtin.append_ #[t,t] o.type #[a.eval X,a.eval Y]).run P w=.ok v w'->(execOp a.eval o).run P w=.ok (.value v) w':=fun v w' h=>by
  simp only [execOp,ho,resolve,invoke,builtin,Sem.run_bind,Sem.run_pure,Result.andThen_ok,List.map_toArray,yl,yo,h]
 simp only [K.run] at hr;split at hr
 ·rename_i b l m uc sc;split at hr
  ·rename_i aa;obtain ⟨ja,za⟩:=aa;obtain ⟨ge,wg⟩:=CA.1 ja;have mc:∀ c∈l++m,c.length=i.size:=fun c hc=>by simpa using y6.1 za c hc
   have tb:∀ c∈m,c.length=i.size:=fun c hc=>mc c (List.mem_append_right _ hc)
   have im:∀ c∈l,c.length=i.size:=fun c hc=>mc c (List.mem_append_left _ hc)
   obtain ⟨news,de,te⟩:=ZM R hY sc ab tb;rw [uc] at hX;have hXs:=hX.1;rw [XD] at hXs;obtain ⟨xs,ze,nw⟩:=ZM (cl:=cl) R hX.1 (m:=l) rfl ab im;simp only [bE] at hXs;obtain ⟨A,c,hv,zw,hu,hn,hs⟩:=hXs;have ue:xs.length=l.length * i.size:=nw.1;have kf:∀ a',A=some a'->∀ j u,xs[j]?=some u->w.cell? (a'.add j)=some u:=fun a' ha j u hj=>by
    obtain ⟨_,A2,c2,hv2,_,h2⟩:=nw;rw [hv] at hv2;injection hv2 with e1 e2 e3;subst e1;have hp:0<l.length:=by
     rcases yG l.length with h | h
     ·rw [h] at ue; have:=(ym.1 hj).1; omega
     ·exact h
    obtain ⟨b',off,hA,_,_,jd⟩:=h2 hp;rw [ha] at hA;injection hA with hA;subst hA;rw [Addr.add_lit];exact jd j u hj
   have oc:news.length=m.length * i.size:=te.1;have nk:∀ u∈news,u.oneCell'=true:=G6 de;have mz:∃ A0,GC b (x.an s)=A0/\(A0=.ex\/∃ k,A0=.own k e)/\xe=(⟨.sl (b&&m.isEmpty) (l++m),.own 0 e⟩,.app A0 0):=by
    cases wl:GC b (x.an s) with
    | no=>rw [wl] at hr; cases hr
    | ex=>rw [wl] at hr; injection hr with hr; exact ⟨_,rfl,.inl rfl,hr.symm⟩
    | own k e' =>
     rw [wl] at hr;simp only at hr;split at hr
     ·rename_i hee; subst hee; injection hr with hr; exact ⟨_,rfl,.inr ⟨k,rfl⟩,hr.symm⟩
     ·cases hr
   obtain ⟨A0,wl,hAk,rfl⟩:=mz;simp only [PA.eff,ca] at he;injection he with he;subst he;rw [twice_eq,ca];have tw:RM Θ A0 (a.eval X):=by
    rw [<- wl];cases b with
    | false=>exact hX.2
    | true =>
     obtain ⟨h1,h2,h3⟩:=hn rfl;exact ⟨none,0,by rw [hv,h1,h2,h3]⟩
   -- what is read of the old elements and the new ones behind
   have lc:DC (AC da ι Θ) w (l++m).flatten (xs++news):=by rw [List.flatten_append]; exact qJ ze de
   have huni:∀ c∈l++m,∀ c'∈l++m,c.length=c'.length:=fun c hc c' lf=>(mc c hc).trans (mc c' lf).symm
   -- a new block
   have grow:c<l.length + m.length->∃ v w',(execOp a.eval o).run P w=.ok (.value v) w'/\CD P O nt B F0 da w0 D ((s.mapAn (A0.twice d)).put (some d) ⟨.sl (b&&m.isEmpty) (l++m),.own d e⟩) (a.put (some d) v) w':=fun fa=>by
    have ia:=LV (P:=P) (w:=w) ht hi jp o.type ue (fun hA=>by
     cases b with
     | true=>have:=hn rfl; exact ⟨this.2.1,this.2.2⟩
     | false =>
      obtain ⟨h1,h2⟩:=hs rfl;refine ⟨?_,h1 hA⟩;rcases yG l.length with h0 | h0
      ·exact h0
      ·obtain ⟨_,_,ha,_⟩:=h2 h0; rw [hA] at ha; cases ha) kf te fa zw wg ge
    rw [<- hv] at ia;have dh:=grownCap_ge w (l.length + m.length) c e;have pr:grownCap w (l.length + m.length) c e<=maxLen:=grownCap_le_maxLen w (l.length + m.length) c e (by unfold maxLen; omega);have kh:(xs.toArray++news.toArray++Builtin.zeroCells zv.cells (grownCap w (l.length + m.length) c e - (l.length + m.length))).size=grownCap w (l.length + m.length) c e * i.size:=by
     simp only [Array.size_append,List.size_toArray,size_zeroCells,tk,ue,oc,<- Nat.add_mul];congr 1;omega
    have R1:=(R.less A0 d).fresh (d:=d) less_d kh ab dh pr (e:=e) (by simp [gC,hi]);refine ⟨_,_,oj _ _ ia,ι,_,R1.put hd ?_ (.inr ⟨_,if_pos rfl,rfl,rfl⟩)⟩;have hb:(b&&m.isEmpty)=false:=by
     cases b with
     | false=>rfl
     | true =>
      have:=(hn rfl);have:m≠[]:=fun h=>by subst h; simp at fa; omega
      simpa using this
    show NA _ _ _ _ (.sl (b&&m.isEmpty) (l++m)) _;rw [hb,XD];simp only [bE,yA];refine ⟨_,_,rfl,dh,huni,(fun h=>by cases h),fun _=>⟨fun h=>(by cases h),fun _=>⟨w.heap.size,0,rfl,?_⟩⟩⟩;rw [MF];have pu:XA (AC da ι Θ) (AC da ι (fun j=>if j=d then some ⟨w.heap.size,l.length + m.length,grownCap w (l.length + m.length) c e,i.size,e⟩ else Θ.less A0 d j)) w (grewW w xs news zv e (l.length + m.length) c):=XA.grown (fun b hb=>Below.heap_alloc w.drew _ b hb) fun b' o' sa h=>h.imp id fun h=>h.imp id fun ⟨k,ow,h1,h2,h3⟩=>by
     by_cases ek:k=d
     ·simp only [if_pos ek] at h1; injection h1 with h1; subst h1; simp only at h2; omega
     ·simp only [if_neg ek] at h1; exact ⟨k,ow,(IC h1).1,h2,h3⟩
    refine cJ (DC.held pu _ _ lc) fun j u hj=>⟨?_,fun h=>?_⟩
    ·rw [yD];rw [cell_of_row _ w.heap.size j _ e (0,0) (JR (w:=w.drew) rfl)];have bm:=(ym.1 hj).1;rw [Array.getElem?_append_left (by simp only [Array.size_append,List.size_toArray]; simpa using bm)];simpa using hj
    ·rw [yD] at h;have bm:=(ym.1 hj).1;rw [yA,ue,oc,<- Nat.add_mul] at bm;rcases h with h | (⟨t',n',h⟩ | ⟨t',n',H,h,sa⟩) | ⟨k,ow,h1,h2,h3⟩
     ·have:=R.out _ _ h; have:=R.lowB; omega
     ·have:=(R.mine _ _ _ h).2.1; omega
     ·have:=((R.obs _ _ _ h).1 _ sa).2.1; omega
     ·by_cases ek:k=d
      ·simp only [if_pos ek] at h1; injection h1 with h1; subst h1; simp only at h3; omega
      ·simp only [if_neg ek] at h1;obtain ⟨_,_,_,_,wb,h5,_⟩:=R.tok _ _ (IC h1).1;have:=TA h5;omega
   -- nothing new
   have same:m=[]->exV (a.eval X)->∃ v w',(execOp a.eval o).run P w=.ok (.value v) w'/\CD P O nt B F0 da w0 D ((s.mapAn (A0.twice d)).put (some d) ⟨.sl (b&&m.isEmpty) (l++m),.own d e⟩) (a.put (some d) v) w':=fun be wr=>by
    subst be;have ia:=ZV (P:=P) (w:=w) ht hi o.type (A:=A) zw te;rw [<- hv] at ia;have R1:=R.less A0 d;refine ⟨_,_,oj _ _ ia,ι,_,R1.put hd ?_ (.inl wr)⟩;have hb:(b&&List.isEmpty ([]:List (List AV)))=b:=by simp
    show NA _ _ _ _ (.sl (b&&List.isEmpty []) (l++[])) _;rw [hb,List.append_nil];have hless:XA (AC da ι Θ) (AC da ι (Θ.less A0 d)) w w:=XA.less fun b o h=>h.imp id fun h=>h.imp id fun ⟨k,ow,h1,h2⟩=>⟨k,ow,(IC h1).1,h2⟩
    have hlessB:XA (SC ι Θ) (SC ι (Θ.less A0 d)) w w:=XA.less fun b o h=>h.imp id fun ⟨k,ow,h1,h2⟩=>⟨k,ow,(IC h1).1,h2⟩
    exact NA.held (Ix.Le.refl _) hless hlessB _ _ hX.1
   have exact:exV (a.eval X)->∃ v w',(execOp a.eval o).run P w=.ok (.value v) w'/\CD P O nt B F0 da w0 D ((s.mapAn (A0.twice d)).put (some d) ⟨.sl (b&&m.isEmpty) (l++m),.own d e⟩) (a.put (some d) v) w':=fun wr=>by
    obtain ⟨A',n',hex'⟩:=wr;rw [hv] at hex';injection hex' with e1 e2 e3;rcases yG m.length with h0 | h0
    ·exact same (yF h0) ⟨A',n',by rw [hv,e1,e2,e3]⟩
    ·exact grow (by omega)
   rcases hAk with rfl | ⟨k,rfl⟩
   ·exact exact tw
   ·rcases tw with tw | ⟨ow,hk,hoe,tw⟩
    ·exact exact tw
    ·rw [hv] at tw;injection tw with e1 e2 e3;obtain ⟨hgB,hosz,honc,hocm,cur,mf,zx⟩:=R.tok k ow hk;rw [hoe] at mf;have tq:ow.sz=i.size:=by
      have:=zx.2;rw [hoe] at this;simp [gC,hi] at this;exact this.symm
     rcases Nat.lt_or_ge c (l.length + m.length) with fa | dh
     ·exact grow fa
     ·subst e1;have ia:=Z6 (P:=P) (w:=w) ht hi o.type mf (by rw [zx.1,tq]) jp te nk (n:=l.length) (m:=m.length) (c:=ow.c) (by omega);have eb:l.length * i.size + news.length<=cur.toList.length:=by
       have jd:cur.toList.length=ow.c * i.size:=by rw [yO,zx.1,tq]
       rw [oc,<- Nat.add_mul,jd];exact yX _ (by omega)
      obtain ⟨new,kc⟩:∃ new,new=(cur.toList.take (l.length * i.size)++news++cur.toList.drop (l.length * i.size + news.length)).toArray:=⟨_,rfl⟩;rw [<- kc] at ia;have hnl:new.size=cur.size:=by
       rw [kc];simp only [List.size_toArray,yA,yN,List.length_drop];simp only [yO] at eb ⊢;omega
      have ko:ow.n * ow.sz=l.length * i.size:=by rw [<- e2,tq]
      have zy:(cur.toList.take (l.length * i.size)).length=l.length * i.size:=by rw [yN]; omega
      have jv:∀ j,j<l.length * i.size->new[j]?=cur[j]?:=fun j hj=>by
       rw [kc,List.getElem?_toArray,List.append_assoc,yV (by omega),yU,if_pos hj];simp
      have hxs':∀ j u,(xs++news)[j]?=some u->new[j]?=some u:=fun j u hj=>by
       rcases Nat.lt_or_ge j (l.length * i.size) with bm | bm
       ·rw [jv j bm];rw [yV (by omega)] at hj;have:=kf _ rfl j u hj;rw [Addr.add_lit,yD,cell_of_row w ow.g j cur e (0,0) mf] at this;exact this
       ·rw [yP (by omega),ue] at hj;have hjn:=(ym.1 hj).1;rw [kc,List.getElem?_toArray,List.append_assoc,yP (by omega),zy,yV hjn];exact hj
      have R1:=R.spare (new:=new) hk (by rw [hoe]; exact mf) hnl (fun j hj=>jv j (by omega));have cu:(w.setRow ow.g new).heap[ow.g]?=some (.cells new e (0,0)):=setRow_heap w ow.g cur new e (0,0) mf;have zd:∀ b o,SC ι (fun j=>if j=d then some ⟨ow.g,l.length + m.length,ow.c,i.size,e⟩ else Θ.less (.own k e) d j) b o->SC ι Θ b o:=fun b o h=>h.imp id fun ⟨k',ow',h1,h2,h3⟩=>by
       by_cases ek:k'=d
       ·simp only [if_pos ek] at h1;injection h1 with h1;subst h1;refine ⟨k,ow,hk,h2,?_⟩;simp only [Nat.add_mul] at h3;omega
       ·simp only [if_neg ek] at h1; exact ⟨k',ow',(IC h1).1,h2,h3⟩
      have R2:=R1.fam (fun j=>if j=d then some ⟨ow.g,l.length + m.length,ow.c,i.size,e⟩ else Θ.less (.own k e) d j) ((An.own k e).twice d) zd
       (less_an fun j o' h=>by have:=(IC h).2.1; simp only [if_neg this]; exact h)
       (fun k' o' h=>by
        by_cases ek:k'=d
        ·simp only [if_pos ek] at h;injection h with h;subst h;exact ⟨hgB,ab,by simp only; omega,hocm,new,cu,by rw [hnl,zx.1,tq],by simp [gC,hi]⟩
        ·simp only [if_neg ek] at h;exact R1.tok k' o' (IC h).1)
       (fun k' k'' o' o'' h h' hg=>by
        by_cases e1:k'=d <;> by_cases e2:k''=d
        ·rw [e1,e2]
        ·simp only [if_pos e1] at h; simp only [if_neg e2] at h';injection h with h; subst h;exact absurd (R.tinj _ _ _ _ hk (IC h').1 hg).symm ((IC h').2.2 k e rfl)
        ·simp only [if_neg e1] at h; simp only [if_pos e2] at h';injection h' with h'; subst h';exact absurd (R.tinj _ _ _ _ (IC h).1 hk hg) ((IC h).2.2 k e rfl)
        ·simp only [if_neg e1] at h; simp only [if_neg e2] at h';exact R.tinj _ _ _ _ (IC h).1 (IC h').1 hg)
       (fun k' o' t' n' h=>by
        by_cases ek:k'=d
        ·simp only [if_pos ek] at h;injection h with h;subst h;exact R.apart k ow t' n' hk
        ·simp only [if_neg ek] at h;exact R.apart k' o' t' n' (IC h).1)
       (fun k' o' t' n' H h hH=>by
        by_cases ek:k'=d
        ·simp only [if_pos ek] at h;injection h with h;subst h;show ¬ H ow.g;exact R.apob hk hH
        ·simp only [if_neg ek] at h;exact R.apob (IC h).1 hH)
      have hv':a.eval X=.slice (some ⟨ow.g,0,none⟩) l.length ow.c:=by rw [hv,e3]
      rw [<- hv'] at ia;refine ⟨_,_,oj _ _ ia,ι,_,R2.put hd ?_ (.inr ⟨_,if_pos rfl,rfl,rfl⟩)⟩;show NA _ _ _ _ (.sl (b&&m.isEmpty) (l++m)) _;have hb:b=false:=by
       cases b with
       | false=>rfl
       | true=>have:=(hn rfl).1; cases this
      rw [hb,Bool.false_and,XD];simp only [bE,yA];refine ⟨_,_,rfl,by omega,huni,(fun h=>by cases h),fun _=>⟨fun h=>(by cases h),fun _=>⟨ow.g,0,rfl,?_⟩⟩⟩;rw [MF];have pu:XA (AC da ι Θ) (AC da ι (fun j=>if j=d then some ⟨ow.g,l.length + m.length,ow.c,i.size,e⟩ else Θ.less (.own k e) d j)) w (w.setRow ow.g new):=⟨fun b' o' u hc hna=>by
       refine ⟨?_,fun h=>hna (h.imp id (zd b' o'))⟩;by_cases sa:b'=ow.g
       ·subst sa;rw [cell_of_row _ ow.g o' new e (0,0) cu];have:o'<l.length * i.size:=by
         rcases Nat.lt_or_ge o' (l.length * i.size) with h | h
         ·exact h
         ·exact absurd (.inr (.inr ⟨k,ow,hk,rfl,by omega⟩)) hna
        rw [jv o' this,<- cell_of_row w ow.g o' cur e (0,0) mf];exact hc
       ·exact (World.cell?_of_block (w:=w) (a:=⟨b',o',none⟩) (setRow_other w ow.g b' new sa)).trans hc⟩
      refine cJ (DC.held pu _ _ lc) fun j u hj=>⟨?_,fun h=>?_⟩
      ·rw [yD,cell_of_row _ ow.g j new e (0,0) cu];exact hxs' j u hj
      ·rw [yD] at h;have bm:=(ym.1 hj).1;rw [yA,ue,oc,<- Nat.add_mul] at bm;rcases h with h | (⟨t',n',h⟩ | ⟨t',n',H,h,sa⟩) | ⟨k',ow',h1,h2,h3⟩
       ·have:=R.out _ _ h; omega
       ·exact R.apart k ow t' n' hk h
       ·exact R.apob hk h sa
       ·by_cases ek:k'=d
        ·simp only [if_pos ek] at h1; injection h1 with h1; subst h1; simp only at h3; omega
        ·simp only [if_neg ek] at h1;exact absurd (R.tinj _ _ _ _ (IC h1).1 hk h2) ((IC h1).2.2 k e rfl)
  ·cases hr
 ·cases hr
def Ix.del (ι:Ix) (t n:Nat):Ix:=⟨fun t' n'=>if t'=t/\n'=n then .none else ι t' n',ι.ob,ι.z⟩
theorem Ix.del_some {ι:Ix} {t n t' n' b:Nat} (h:(ι.del t n) t' n'=some b):ι t' n'=some b/\¬ (t'=t/\n'=n):=by
 have h':(if t'=t/\n'=n then Option.none else ι t' n')=Option.some b:=h;split at h'
 ·cases h'
 ·rename_i hn; exact ⟨h',hn⟩
theorem Ix.del_lk (ι:Ix) (t n:Nat):Ix.Lk t n ι (ι.del t n):=⟨fun t' n' b hn h=>by
 show (if t'=t/\n'=n then Option.none else ι t' n')=Option.some b;rw [if_neg hn]; exact h,fun _ _ _ _=>rfl⟩
theorem BD.kill {t n:Nat} {ι':Ix} {av lb:Av} {r:List rA} {cur:Array Value} (h:BD ι Θ av w r cur) (hι:Ix.Lk t n ι ι') (hh:XA av lb w w):BD ι' Θ lb w (r.map (rA.kill t n)) cur:=by
 refine ⟨by simpa using h.1,fun j x hx=>?_⟩;rw [y8] at hx;cases hj:r[j]? with
 | none=>rw [hj] at hx; cases hx
 | some y =>
  rw [hj] at hx;injection hx with hx;subst hx;obtain ⟨u,hu,h1,hr,ha⟩:=h.2 j y hj;refine ⟨u,hu,h1,?_,ha⟩;have hk:=BA.kill hι hh y.v u hr;show BA ι' lb w (y.v.kill t n) u;cases hy:y.v with
  | agg cs=>rw [hy] at hr; obtain ⟨us,rfl,_⟩:=hr; simp [Value.oneCell'] at h1
  | tup cs=>rw [hy] at hr; obtain ⟨us,rfl,_⟩:=hr; simp [Value.oneCell'] at h1
  | _=>rw [hy] at hk; exact hk
theorem dC.kill (R:dC P O nt B F0 da w0 D s a w ι Θ) {t n:Nat} (ko:t≠0) {r:List rA} (hm:s.mem t n=some r):dC P O nt B F0 da w0 D (s.kill t n) a w (ι.del t n) Θ:=by
 have dd:=(R.rows t n r hm).1;have al:=Ix.del_lk ι t n;have lj:∀ b o,SC (ι.del t n) Θ b o->SC ι Θ b o:=fun b o h=>h.imp (fun h=>h.imp (fun ⟨t',n',h⟩=>⟨t',n',(Ix.del_some h).1⟩) id) id
 have hB:XA (SC ι Θ) (SC (ι.del t n) Θ) w w:=XA.less lj;have hA:XA (AC da ι Θ) (AC da (ι.del t n) Θ) w w:=XA.less fun b o h=>h.imp id (lj b o)
 refine ⟨R.defers,R.size,fun j=>NA.kill al hA hB _ _ (R.env j),R.ann,fun t' n' r' hr=>?_,fun t' n' b h=>R.mine t' n' b (Ix.del_some h).1,fun t1 n1 t2 n2 b h h'=>R.inj t1 n1 t2 n2 b (Ix.del_some h).1 (Ix.del_some h').1,R.tok,R.tinj,fun k o t' n' h h'=>R.apart k o t' n' h (Ix.del_some h').1,R.out,fun p h=>?_,R.kept,R.base,fun t' n' S h=>?_,fun t' n' H h=>?_,fun j=>NA.kill al hA hB _ _ (R.gen j),R.gann⟩
 ·simp only [aA.kill] at hr;split at hr
  ·cases hr
  ·rename_i hn;cases tb:s.mem t' n' with
   | none=>rw [tb] at hr; cases hr
   | some r0 =>
    rw [tb] at hr;injection hr with hr;subst hr;obtain ⟨h0,b,cur,ty,h1,h2,h3,h4⟩:=R.rows t' n' r0 tb;exact ⟨h0,b,cur,ty,al.f _ _ _ hn h1,h2,h3.kill al hA,h4⟩
 ·obtain ⟨h1,h2⟩:=R.pin p h;exact ⟨al.f _ _ _ (fun e=>ko e.1.symm) h1,h2.imp (fun g=>⟨g.1,(al.z _ _ _ h1).trans g.2⟩) id⟩
 ·obtain ⟨p,H,h1,h2,h3,h4⟩:=R.objs t' n' S h;have rd:∀ t1 n1 b1 H1,ι t1 n1=some b1->ι.ob t1 n1=some H1->(ι.del t n) t1 n1=some b1:=fun t1 n1 b1 H1 g1 g2=>al.f _ _ _ (fun e=>by rw [<- e.1,<- e.2,g2] at dd; cases dd) g1
  exact ⟨p,H,rd _ _ _ _ h1 h2,h2,h3,h4.keep (fun t1 n1 b1 H1 g1 g2=>⟨rd _ _ _ _ g1 g2,H1,g2⟩) fun x hx=>hx⟩
 ·obtain ⟨h1,h2⟩:=R.obs t' n' H h;refine ⟨fun b hb=>?_,h2⟩;obtain ⟨g1,g2,g3,g4,g5⟩:=h1 b hb;exact ⟨g1,g2,fun t2 n2 h=>g3 t2 n2 (Ix.del_some h).1,g4,g5⟩
theorem dC.ren (R:dC P O nt B F0 da w0 D s a w ι Θ) {t n:Nat} (ko:t≠0) {r:List rA} (hm:s.mem t n=some r) (af:r.map (rA.kill t n)=r) {d:Nat} (hd:d<nt) (hD:¬ D d) {x:AV} {v:Value}
  (hx:∀ ι':Ix,ι' d s.next=ι t n->(∀ b,ι'.z b=ι.z b)->NA ι' (AC da ι' Θ) (SC ι' Θ) w x v) :
  ∃ ι',dC P O nt B F0 da w0 (fun j=>D j\/j=d) (((s.kill t n).setRow d s.next r).put (some d) ⟨x,.no⟩) (a.put (some d) v) w ι' Θ:=by
 obtain ⟨dd,b0,cur0,ty0,xx,hheap0,xm,sw,bc⟩:=R.rows t n r hm;have ne:ι d s.next=none:=by
  cases h:ι d s.next with
  | none=>rfl
  | some b =>
   rcases (R.mine _ _ _ h).2.2 with h1 | h1
   ·omega
   ·exact absurd h1.2 hD
 have oe:ι.ob d s.next=none:=by
  cases h:ι.ob d s.next with
  | none=>rfl
  | some b =>
   rcases (R.obs _ _ _ h).2 with h1 | h1
   ·omega
   ·exact absurd h1.2 hD
 have ta:¬ (t=d/\n=s.next):=fun e=>by rw [e.1,e.2,ne] at xx; cases xx
 obtain ⟨ι',hι'⟩:∃ ι':Ix,ι'=⟨fun t' n'=>if t'=d/\n'=s.next then some b0 else (ι.del t n) t' n',ι.ob,ι.z⟩:=⟨_,rfl⟩;have kc:ι' d s.next=some b0:=by subst hι'; show (if d=d/\s.next=s.next then some b0 else _)=_; rw [if_pos ⟨rfl,rfl⟩]
 have mi:∀ t' n' b,ι' t' n'=some b->(t'=d/\n'=s.next/\b=b0)\/(ι t' n'=some b/\¬ (t'=t/\n'=n)/\¬ (t'=d/\n'=s.next)):=fun t' n' b h=>by
  subst hι';have h':(if t'=d/\n'=s.next then some b0 else (ι.del t n) t' n')=some b:=h;split at h'
  ·rename_i e; injection h' with h'; exact .inl ⟨e.1,e.2,h'.symm⟩
  ·rename_i e; exact .inr ⟨(Ix.del_some h').1,(Ix.del_some h').2,e⟩
 have zb:ι'.ob=ι.ob:=by subst hι'; rfl
 have al:Ix.Lk t n ι ι':=⟨fun t' n' b hn h=>by
  subst hι';show (if t'=d/\n'=s.next then some b0 else (ι.del t n) t' n')=some b;rw [if_neg (fun e=>by rw [e.1,e.2,ne] at h; cases h)];exact (Ix.del_lk ι t n).f _ _ _ hn h,fun _ _ _ _=>by subst hι'; rfl⟩
 have jx:∀ b,ι'.z b=ι.z b:=fun b=>by subst hι'; rfl
 clear hι';have lj:∀ b o,SC ι' Θ b o->SC ι Θ b o:=fun b o h=>h.imp (fun h=>h.imp (fun ⟨t',n',h⟩=>by
  rcases mi _ _ _ h with ⟨_,_,e⟩ | ⟨h,_⟩
  ·exact ⟨t,n,e ▸ xx⟩
  ·exact ⟨t',n',h⟩) (fun ⟨t',n',H,h,hb⟩=>⟨t',n',H,zb ▸ h,hb⟩)) id
 have hB:XA (SC ι Θ) (SC ι' Θ) w w:=XA.less lj;have hA:XA (AC da ι Θ) (AC da ι' Θ) w w:=XA.less fun b o h=>h.imp id (lj b o)
 refine ⟨ι',dC.put (s:=(s.kill t n).setRow d s.next r) ⟨R.defers,R.size,fun j=>NA.kill al hA hB _ _ (R.env j),R.ann,fun t' n' r' hr=>?_,fun t' n' b h=>?_,fun t1 n1 t2 n2 b h h'=>?_,R.tok,R.tinj,fun k o t' n' h h'=>?_,R.out,fun p h=>?_,R.kept,R.base,fun t' n' S h=>?_,fun t' n' H h=>?_,fun j=>NA.kill al hA hB _ _ (R.gen j),R.gann⟩ hd (hx _ (kc.trans xx.symm) jx) trivial⟩
 ·simp only [aA.setRow] at hr;split at hr
  ·rename_i e;injection hr with hr;subst hr;refine ⟨by rw [zb,e.1,e.2]; exact oe,b0,cur0,ty0,by rw [e.1,e.2]; exact kc,hheap0,?_,sw,bc.trans (jx _).symm⟩;have:=xm.kill al hA;rw [af] at this;exact this
  ·simp only [aA.kill] at hr;split at hr
   ·cases hr
   ·rename_i hn;cases tb:s.mem t' n' with
    | none=>rw [tb] at hr; cases hr
    | some r0 =>
     rw [tb] at hr;injection hr with hr;subst hr;obtain ⟨h0,b,cur,ty,h1,h2,h3,h4,h5⟩:=R.rows t' n' r0 tb;exact ⟨zb ▸ h0,b,cur,ty,al.f _ _ _ hn h1,h2,h3.kill al hA,h4,h5.trans (jx _).symm⟩
 ·rcases mi _ _ _ h with ⟨e1,e2,e3⟩ | ⟨h,_⟩
  ·subst e1; subst e3;obtain ⟨h1,h2,_⟩:=R.mine t n b xx;exact ⟨h1,h2,.inr ⟨e2,.inr rfl⟩⟩
  ·obtain ⟨h1,h2,h3⟩:=R.mine t' n' b h;exact ⟨h1,h2,h3.imp id fun ⟨e,d⟩=>⟨e,.inl d⟩⟩
 ·rcases mi _ _ _ h with ⟨e1,e2,e3⟩ | ⟨h,hn,_⟩ <;> rcases mi _ _ _ h' with ⟨f1,f2,f3⟩ | ⟨h',jl,_⟩
  ·exact ⟨e1.trans f1.symm,e2.trans f2.symm⟩
  ·subst e3; exact absurd (R.inj _ _ _ _ _ h' xx) jl
  ·subst f3; exact absurd (R.inj _ _ _ _ _ h xx) hn
  ·exact R.inj _ _ _ _ _ h h'
 ·rcases mi _ _ _ h' with ⟨e1,e2,e3⟩ | ⟨h',_⟩
  ·exact R.apart k o t n h (e3 ▸ xx)
  ·exact R.apart k o t' n' h h'
 ·obtain ⟨h1,h2⟩:=R.pin p h;exact ⟨al.f _ _ _ (fun e=>ko e.1.symm) h1,h2.imp (fun g=>⟨g.1,(al.z _ _ _ h1).trans g.2⟩) fun g=>zb ▸ g⟩
 ·obtain ⟨p,H,h1,h2,h3,h4⟩:=R.objs t' n' S h;have rd:∀ t1 n1 b1 H1,ι t1 n1=some b1->ι.ob t1 n1=some H1->ι' t1 n1=some b1:=fun t1 n1 b1 H1 g1 g2=>al.f _ _ _ (fun e=>by rw [<- e.1,<- e.2,g2] at dd; cases dd) g1
  exact ⟨p,H,rd _ _ _ _ h1 h2,zb ▸ h2,h3,h4.keep (fun t1 n1 b1 H1 g1 g2=>⟨rd _ _ _ _ g1 g2,H1,zb ▸ g2⟩) fun x hx=>hx⟩
 ·rw [zb] at h;obtain ⟨h1,h2⟩:=R.obs t' n' H h;refine ⟨fun b hb=>?_,h2.imp id fun ⟨e,d⟩=>⟨e,.inl d⟩⟩;obtain ⟨g1,g2,g3,g4,g5⟩:=h1 b hb;refine ⟨g1,g2,fun t2 n2 h'=>?_,g4,zb ▸ g5⟩;rcases mi _ _ _ h' with ⟨e1,e2,e3⟩ | ⟨h',_⟩
  ·exfalso;have e:=g3 t n (e3 ▸ xx);rw [<- e.1,<- e.2] at h;rw [dd] at h;cases h
  ·exact g3 t2 n2 h'
theorem row_of {av:Av} {cs:List AV} {us:List Value} (h:DC av w cs us) {cur:Array Value} (hc:∀ (j:Nat) (u:Value),us[j]?=some u->cur[j]?=some u):BD ι Θ av w (cs.map (⟨·,.no⟩)) cur:=by
 have ba:=gD (mD (ι:=ι) h);constructor
 ·rw [yn];rcases yG cs.length with h0 | h0
  ·omega
  ·have:=hc (cs.length - 1) us[cs.length - 1] (y4 (by omega));have:=(Array.getElem?_eq_some_iff.1 this).1;omega
 ·intro j x hx;rw [y8] at hx;cases hj:cs[j]? with
  | none=>rw [hj] at hx; cases hx
  | some y =>
   rw [hj] at hx;injection hx with hx;subst hx;obtain ⟨u,hu,h1,hr⟩:=jK (mD (ι:=ι) h) hj;exact ⟨u,hc j u hu,h1,hr,trivial⟩
theorem dC.drew (R:dC P O nt B F0 da w0 D s a w ι Θ):dC P O nt B F0 da w0 D s a w.drew ι Θ:=R.grow (w':=w.drew) (fun _ _=>rfl) (yf _) R.kept.drew
theorem c9 (s:aA) (t n:Nat) (r:List rA):(s.setRow t n r).kill t n=s.kill t n:=by
 simp only [aA.setRow,aA.kill];congr 1;funext t' n';by_cases h:t'=t/\n'=n <;> simp [h]
theorem Z5 {av:Av} {cs:List AV} {us:List Value} (h:KA ι av w cs us) {cur:Array Value} (hc:∀ (j:Nat) (u:Value),us[j]?=some u->cur[j]?=some u):BD ι Θ av w (cs.map (⟨·,.no⟩)) cur:=by
 have ba:=gD h;constructor
 ·rw [yn];rcases yG cs.length with h0 | h0
  ·omega
  ·have:=hc (cs.length - 1) us[cs.length - 1] (y4 (by omega));have:=(Array.getElem?_eq_some_iff.1 this).1;omega
 ·intro j x hx;rw [y8] at hx;cases hj:cs[j]? with
  | none=>rw [hj] at hx; cases hx
  | some y =>
   rw [hj] at hx;injection hx with hx;subst hx;obtain ⟨u,hu,h1,hr⟩:=jK h hj;exact ⟨u,hc j u hu,h1,hr,trivial⟩
theorem aT {t n:Nat} {v:AV} (h:v.noName t n=true):v.kill0 t n=v/\v.kill t n=v:=by
  cases v <;> first
    | exact ⟨rfl,rfl⟩
    | (simp only [AV.noName,Bool.not_eq_true',Bool.and_eq_false_imp,decide_eq_true_eq,decide_eq_false_iff_not] at h
       have h':¬ (_=t/\_=n):=fun e=>h e.1 e.2
       exact ⟨by simp only [AV.kill0,if_neg h'],by simp only [AV.kill,AV.kill0,if_neg h']⟩)
    | cases h
theorem R8 {t n:Nat} {l:List AV} (h:l.all (AV.noName t n)=true):l.map (AV.kill0 t n)=l:=by
 have:l.map (AV.kill0 t n)=l.map id:=yz fun x hx=>(aT (y6.1 h x hx)).1
 rwa [List.map_id] at this
theorem E8 {t n:Nat} {l:List AV} (h:l.all (AV.noName t n)=true):(l.map (⟨·,.no⟩)).map (rA.kill t n)=l.map (⟨·,.no⟩):=by
 rw [y0];apply yz;intro x hx;show (⟨x.kill t n,.no⟩:rA)=⟨x,.no⟩;rw [(aT (y6.1 h x hx)).2]
theorem D5 (R:dC P O nt B F0 da w0 D s a w ι Θ) {t e:TypeId} {i:TypeInfo} {z:List AV} (ht:P.underlying t=some (.slice e)) (hi:P.info? e=some i) (hz:tK P e=some z) (ma:z.length=i.size) (ab:0<i.size) {X Y:Operand} {x y:CB} (hx:opd X=some x) (hy:opd Y=some y)
  (ho:o.op=.call { callee:=.builtin .append,args:=#[X,Y],argTypes:=#[t,t] }) {d:Nat} (ca:o.dst=some d) (hd:d<nt) (hD:¬ D d) {cl:Cl} {call} {xe:rA × nD} (hr:(K.appn cl e i.size i.bytes x y).run call s=some xe) {g} {s':aA} (he:PA.eff ⟨o.dst,.appn cl e i.size i.bytes x y,g⟩ s xe=some s') :
  ∃ v w',(execOp a.eval o).run P w=.ok (.value v) w'/\CD P O nt B F0 da w0 (fun t=>D t\/t=d) s' (a.put o.dst v) w':=by
 obtain ⟨zv,i',jc,jp,oh,hl⟩:=LG hz w;rw [hi] at jc;injection jc with jc;subst jc;have tk:zv.cells.size=i.size:=by
  have:=kG hl;simp only [yO] at this;omega
 have hX:=R.opd hx;have hY:=(R.opd hy).1;have oj:∀ v w',(Builtin.append_ #[t,t] o.type #[a.eval X,a.eval Y]).run P w=.ok v w'->(execOp a.eval o).run P w=.ok (.value v) w':=fun v w' h=>by
  simp only [execOp,ho,resolve,invoke,builtin,Sem.run_bind,Sem.run_pure,Result.andThen_ok,List.map_toArray,yl,yo,h]
 -- a new block for l++m
 have grow:∀ {s1:aA} {ι1:Ix} {l m:List (List AV)} {xs news:List Value} {A:Option Addr} {ln c:Nat},dC P O nt B F0 da w0 D s1 a w.drew ι1 Θ->a.eval X=.slice A ln c->xs.length=ln * i.size->(A=none->ln=0/\c=0)->(∀ a',A=some a'->∀ j u,xs[j]?=some u->w.cell? (a'.add j)=some u) →
   l.length=ln->Sl (fun _=>False) w i.size (a.eval Y) m.length news->c<ln + m.length->ln<=c->KA ι1 (AC da ι1 Θ) w.drew (l++m).flatten (xs++news)->PB i.bytes (ln + m.length)=true →
   ∃ v w',(execOp a.eval o).run P w=.ok (.value v) w'/\CD P O nt B F0 da w0 (fun t=>D t\/t=d) ((s1.setRow d s1.next ((l++m).flatten.map (⟨·,.no⟩))).put (some d) ⟨.ref d s1.next i.size 0 (ln + m.length) (ln + m.length),.no⟩) (a.put (some d) v) w':=by
  intro s1 ι1 l m xs news A ln c R1 hv ze hA hxc om te fa zw lc ja;obtain ⟨ge,wg⟩:=CA.1 ja;have ia:=LV (P:=P) (w:=w) ht hi jp o.type ze hA hxc te fa zw wg ge;rw [<- hv] at ia;have dh:=grownCap_ge w (ln + m.length) c e;have hnl:news.length=m.length * i.size:=te.1;have ka:BD ι1 Θ (AC da ι1 Θ) w.drew ((l++m).flatten.map (⟨·,.no⟩)) (xs.toArray++news.toArray++Builtin.zeroCells zv.cells (grownCap w (ln + m.length) c e - (ln + m.length))):=Z5 lc fun j u hj=>by
   have bm:=(ym.1 hj).1;rw [Array.getElem?_append_left (by simp only [Array.size_append,List.size_toArray]; simpa using bm)];simpa using hj
  obtain ⟨ι',h⟩:=R1.new hd hD e ka (x:=.ref d s1.next i.size 0 (ln + m.length) (ln + m.length)) (v:=.slice (some ⟨w.heap.size,0,none⟩) (ln + m.length) (grownCap w (ln + m.length) c e)) (fun ι' h hz=>⟨_,h,yf _,_,dh,by
   rw [show ι'.z w.drew.heap.size=_ from hz,yD];simp only [Array.size_append,List.size_toArray,size_zeroCells,tk,ze,hnl,<- Nat.add_mul];exact yX _ (by omega),rfl⟩)
  exact ⟨_,_,oj _ _ ia,ι',Θ,h⟩
 have drewHeld:XA (AC da ι Θ) (AC da ι Θ) w w.drew:=XA.grown (fun _ _=>rfl) fun _ _ _ h=>h
 simp only [K.run] at hr;split at hr
 ·rename_i b l m uc sc;split at hr
  ·rename_i aa;obtain ⟨ja,za,be⟩:=aa;have mc:∀ c∈l++m,c.length=i.size:=fun c hc=>by simpa using y6.1 za c hc
   have tb:∀ c∈m,c.length=i.size:=fun c hc=>mc c (List.mem_append_right _ hc)
   have im:∀ c∈l,c.length=i.size:=fun c hc=>mc c (List.mem_append_left _ hc)
   obtain ⟨news,de,te⟩:=raws_sl R hY sc ab tb;rw [uc] at hX;have hXs:=hX.1;rw [XD] at hXs;obtain ⟨xs,ze,nw⟩:=ZM (cl:=cl) R hX.1 (m:=l) rfl ab im;simp only [bE] at hXs;obtain ⟨A,c,hv,zw,hu,hn,hs⟩:=hXs;have ue:xs.length=l.length * i.size:=nw.1;have kf:∀ a',A=some a'->∀ j u,xs[j]?=some u->w.cell? (a'.add j)=some u:=fun a' ha j u hj=>by
    obtain ⟨_,A2,c2,hv2,_,h2⟩:=nw;rw [hv] at hv2;injection hv2 with e1 e2 e3;subst e1;have hp:0<l.length:=by
     rcases yG l.length with h | h
     ·rw [h] at ue; have:=(ym.1 hj).1; omega
     ·exact h
    obtain ⟨b',off,hA,_,_,jd⟩:=h2 hp;rw [ha] at hA;injection hA with hA;subst hA;rw [Addr.add_lit];exact jd j u hj
   split at hr
   ·rename_i wl;have hXe:exV (a.eval X):=by
     cases b with
     | false=>have h2:=hX.2; rw [show x.an s=.ex from wl] at h2; exact h2
     | true =>
      obtain ⟨h1,h2,h3⟩:=hn rfl;exact ⟨none,0,by rw [hv,h1,h2,h3]⟩
    obtain ⟨A',n',wr⟩:=hXe;rw [hv] at wr;injection wr with e1 e2 e3;injection hr with hr;subst hr;simp only [PA.eff,ca] at he;injection he with he;subst he;rw [ca];exact grow R.drew hv ue (fun hA=>by
     cases b with
     | true=>have:=hn rfl; exact ⟨this.2.1,this.2.2⟩
     | false =>
      obtain ⟨h1,h2⟩:=hs rfl;refine ⟨?_,h1 hA⟩;rcases yG l.length with h0 | h0
      ·exact h0
      ·obtain ⟨_,_,ha,_⟩:=h2 h0; rw [hA] at ha; cases ha) kf rfl te (by omega) zw (by rw [List.flatten_append]; exact WH (mD (DC.held drewHeld _ _ ze)) (KA.held (Ix.Le.refl _) drewHeld _ _ de)) ja
   ·cases hr
  ·cases hr
 ·rename_i t' n sz off ln cp m uc sc;split at hr
  ·rename_i l om;split at hr
   ·rename_i aa;obtain ⟨rfl,rfl,ja,za,ko,rz⟩:=aa;injection hr with hr;subst hr;have tb:∀ c∈m,c.length=i.size:=fun c hc=>by simpa using y6.1 za c hc
    obtain ⟨news,de,te⟩:=raws_sl R hY sc ab tb;rw [uc] at hX;obtain ⟨b,hb,ub,cc,rh,hzb,hv⟩:=nH.1 hX.1;simp only [AV.raws] at om;split at om
    ·cases hm:s.mem t' n with
     | none=>rw [hm] at om; cases om
     | some r =>
      rw [hm,V] at om;obtain ⟨dd,b',cur,ty,sa,la,ka,fj,so⟩:=R.rows t' n r hm;rw [hb] at sa;injection sa with sa;subst sa;obtain ⟨hln,im,xs,ze,kf⟩:=xQ ka la om;simp only [yD] at kf hzb;have nu:∀ {q:List (List AV)},(∀ c∈q,c.length=i.size)->q.flatten.length=q.length * i.size:=fun {q} hq=>by
       induction q with
       | nil=>simp
       | cons c r ih=>rw [yC,yA,hq c (by simp),ih (fun c hc=>hq c (by simp [hc])),yI,yt]; omega
      have ue:xs.length=ln * i.size:=by
       have:=gD ze;rw [this,nu im,hln]
      have oc:news.length=m.length * i.size:=te.1;have lc:KA ι (AC da ι Θ) w (l++m).flatten (xs++news):=by rw [List.flatten_append]; exact WH ze de
      have hkill:(l++m).flatten.map (AV.kill0 t' n)=(l++m).flatten:=R8 rz;simp only [PA.eff,ca,aA.killO] at he;injection he with he;subst he;rw [ca];rcases Nat.lt_or_ge cc (ln + m.length) with fa | dh
      ·have al:XA (AC da ι Θ) (AC da (ι.del t' n) Θ) w w.drew:=XA.grown (fun _ _=>rfl) fun b o _ h=>h.imp id fun h=>h.imp (fun h=>h.imp (fun ⟨t',n',h⟩=>⟨t',n',(Ix.del_some h).1⟩) id) id
       exact grow (R.drew.kill ko hm) hv ue (fun h=>by cases h) (fun a' ha j u hj=>by
        injection ha with ha;subst ha;rw [Addr.add_lit,yD];exact kf j u hj) hln te fa (yw ub rh) (by have:=KA.kill (Ix.del_lk ι t' n) al _ _ lc; rwa [hkill] at this) ja
      ·obtain ⟨new,kc⟩:∃ new,new=(cur.toList.take (ln * i.size)++news++cur.toList.drop (ln * i.size + news.length)).toArray:=⟨_,rfl⟩;have eb:ln * i.size + news.length<=cur.size:=by
        rw [oc,<- Nat.add_mul,so];exact yw (yX _ dh) hzb
       have ia:(Builtin.append_ #[t,t] o.type #[a.eval X,a.eval Y]).run P w=.ok (.slice (some ⟨b,0,none⟩) (ln + m.length) cc) (w.setRow b new):=by
        rw [hv,kc];obtain ⟨xf,A,c',hsv,hc,gc⟩:=te;rw [hsv];cases A with
        | none =>
         have be:m.length=0:=by
          rcases yG m.length with h | h
          ·exact h
          ·obtain ⟨b,off,hA,_⟩:=gc h; cases hA
         have rz:news=[]:=yF (by rw [oc,be,Nat.zero_mul]);subst rz;rw [be] at dh ⊢;have dw:w.setRow b (cur.toList.take (ln * i.size)++[]++cur.toList.drop (ln * i.size + ([]:List Value).length)).toArray=w:=by
          simp only [List.append_nil,List.length_nil,Nat.add_zero,yR,yS];exact setRow_self w b cur ty (0,0) la
         rw [dw];simp only [Nat.add_zero] at dh;simp [Builtin.append_,run_underlying ht,sizeOf,typeInfo,hi,Builtin.lenOf,Builtin.firstCells,dh,storeCells]
        | some a' =>
         have hnews':∀ (j:Nat) (u:Value),news[j]?=some u->w.cell? (a'.add j)=some u:=fun j u hu=>by
          have be:0<m.length:=by
           rcases yG m.length with h | h
           ·rw [h] at oc; have:=(ym.1 hu).1; omega
           ·exact h
          obtain ⟨b,off,hA,_,_,jd⟩:=gc be;injection hA with hA;subst hA;rw [Addr.add_lit];exact jd j u hu
         have od:=run_loadCells_list (P:=P) w a' news hnews';rw [oc] at od;have mb:=run_storeCells_at P b (ln * i.size) ty news 0 cur w la (by simpa using eb) (iU de);simp only [Nat.add_zero] at mb;simp [Builtin.append_,run_underlying ht,sizeOf,typeInfo,hi,Builtin.lenOf,Builtin.firstCells,dh,od,Addr.add_lit,mb]
       have hns:new.size=cur.size:=by
        rw [kc];simp only [List.size_toArray,yA,yN,List.length_drop,yO];omega
       have ni:BD ι Θ (AC da ι Θ) w ((l++m).flatten.map (⟨·,.no⟩)) new:=Z5 lc fun j u hj=>by
        have zy:(cur.toList.take (ln * i.size)).length=ln * i.size:=by rw [yN,yO]; omega
        rw [kc,List.getElem?_toArray,List.append_assoc];rcases Nat.lt_or_ge j (ln * i.size) with h | h
        ·rw [yV (by omega)] at hj;have:=kf j u hj;rw [cell_of_row w b j cur ty (0,0) la] at this;rw [yV (by omega),yU,if_pos h];simpa using this
        ·rw [yP (by omega),ue] at hj;have hjn:=(ym.1 hj).1;rw [yP (by omega),zy,yV hjn];exact hj
       have R1:=R.set hb dd la ni fj (hns.trans so);have R2:=R1.ren (t:=t') (n:=n) ko (d:=d) (r:=(l++m).flatten.map (⟨·,.no⟩)) (by simp [aA.setRow]) (E8 rz) hd hD (x:=.ref d s.next i.size 0 (ln + m.length) (ln + m.length)) (v:=.slice (some ⟨b,0,none⟩) (ln + m.length) cc) (fun ι' h1 h2=>⟨b,h1.trans hb,yf _,cc,dh,by rw [h2,yD]; exact hzb,rfl⟩);rw [c9] at R2;obtain ⟨ι',R2⟩:=R2;exact ⟨_,_,oj _ _ ia,ι',Θ,R2⟩
    ·cases om
   ·cases hr
  ·cases hr
 ·cases hr
theorem H5 {v:AV} {cl:Cl} {l:List (List AV)} (h:v.elems s cl=some l):v.raws s cl=some l:=by
 cases v with
 | ref t n sz off len cap =>
  simp only [AV.elems,AV.raws] at h ⊢;split at h
  ·rename_i hc;rw [if_pos hc];cases hm:s.mem t n with
   | none=>rw [hm] at h; cases h
   | some r =>
    rw [hm,V,iF] at h;split at h
    ·rename_i hr;rw [V,GK,if_pos hr.1];exact h
    ·cases h
  ·cases h
 | _=>exact h
theorem A4 {av:Av} (t n:Nat):∀ {xs:List AV} {us:List Value},DC av w xs us->xs.all (AV.noName t n)=true
 | [],_,_=>rfl
 | x :: r,_,h=>by
  simp only [DC] at h;obtain ⟨u,oa,rfl,h0,h1,h⟩:=h;rw [List.all_cons,A4 t n h,Bool.and_true];cases x <;> first | rfl | (simp [bE] at h0; done) | (simp only [bE] at h0; obtain ⟨us,rfl,_⟩:=h0; simp [Value.oneCell'] at h1; done)
theorem op_appf (R:dC P O nt B F0 da w0 D s a w ι Θ) {t e:TypeId} {i:TypeInfo} {z:List AV} (ht:P.underlying t=some (.slice e)) (hi:P.info? e=some i) (hz:tK P e=some z) (ma:z.length=i.size) (ab:0<i.size) {X Y:Operand} {x y:CB} (hx:opd X=some x) (hy:opd Y=some y)
  (ho:o.op=.call { callee:=.builtin .append,args:=#[X,Y],argTypes:=#[t,t] }) {d:Nat} (ca:o.dst=some d) (hd:d<nt) (hD:¬ D d) {cl:Cl} {call} {xe:rA × nD} (hr:(K.appf cl e i.size i.bytes x y).run call s=some xe) {g} {s':aA} (he:PA.eff ⟨o.dst,.appf cl e i.size i.bytes x y,g⟩ s xe=some s') :
  ∃ v w',(execOp a.eval o).run P w=.ok (.value v) w'/\CD P O nt B F0 da w0 (fun t=>D t\/t=d) s' (a.put o.dst v) w':=by
 have hX:=R.opd hx;have hY:=(R.opd hy).1;simp only [K.run] at hr;split at hr
 ·rename_i b l m uc sc;split at hr
  ·rename_i aa;split at hr
   ·rename_i wl;split at hr
    ·rename_i xj;cases hr;have be:m=[]:=by simpa using xj
     subst be;have mc:∀ c∈l,c.length=i.size:=fun c hc=>by simpa using y6.1 aa.2 c (List.mem_append_left _ hc)
     obtain ⟨news,de,te⟩:=ZM R hY sc ab (fun _ h=>by cases h);rw [uc] at hX;obtain ⟨hX,tw⟩:=hX;obtain ⟨A,c,hv,zw,_,hn,_⟩:=XD.1 hX;cases he;have ia:=ZV (P:=P) (w:=w) ht hi o.type (A:=A) zw te;rw [<- hv] at ia;refine ⟨_,_,by simp only [execOp,ho,resolve,invoke,builtin,Sem.run_bind,Sem.run_pure,Result.andThen_ok,List.map_toArray,yl,yo,ia],ι,Θ,(R.putN (d:=o.dst) (x:=⟨.sl b l,.ex⟩) (fun t h=>by rw [ca] at h; cases h; exact hd) hX ?_).more fun _ h=>.inl h⟩;cases b with
     | false=>rw [show x.an s=.ex from wl] at tw; exact tw
     | true=>obtain ⟨h1,h2,h3⟩:=hn rfl; exact ⟨none,0,by rw [hv,h1,h2,h3]⟩
    ·rename_i xj;exact D5 R ht hi hz ma ab hx hy ho ca hd hD (cl:=cl) (call:=call) (xe:=xe) (by simp only [K.run,uc,H5 sc]; rw [if_pos ⟨aa.1,aa.2,by cases m <;> simp at xj ⊢⟩,wl]; exact hr) (g:=g) he
   ·cases hr
  ·cases hr
 ·cases hr
theorem op_appm (R:dC P O nt B F0 da w0 D s a w ι Θ) {t e:TypeId} {i:TypeInfo} {z:List AV} (ht:P.underlying t=some (.slice e)) (hi:P.info? e=some i) (hz:tK P e=some z) (ma:z.length=i.size) (ab:0<i.size) {X Y:Operand} {x y:CB} (hx:opd X=some x) (hy:opd Y=some y)
  (ho:o.op=.call { callee:=.builtin .append,args:=#[X,Y],argTypes:=#[t,t] }) {d:Nat} (ca:o.dst=some d) (hd:d<nt) (hD:¬ D d) {cl:Cl} {call} {xe:rA × nD} (hr:(K.appm cl e i.size i.bytes x y).run call s=some xe) {g} {s':aA} (he:PA.eff ⟨o.dst,.appm cl e i.size i.bytes x y,g⟩ s xe=some s') :
  ∃ v w',(execOp a.eval o).run P w=.ok (.value v) w'/\CD P O nt B F0 da w0 (fun t=>D t\/t=d) s' (a.put o.dst v) w':=by
 have hX:=R.opd hx;have hY:=(R.opd hy).1;simp only [K.run] at hr;split at hr
 ·rename_i b l m uc sc;exact op_appf R ht hi hz ma ab hx hy ho ca hd hD (cl:=cl) (call:=call) (xe:=xe) (by simp only [K.run,uc,sc]; exact hr) (g:=g) he
 ·rename_i t' n sz off ln cp m uc sc;split at hr
  ·rename_i l om;split at hr
   ·rename_i aa;obtain ⟨h1,h2,ja,za,ko⟩:=aa;obtain ⟨news,de,te⟩:=ZM R hY sc ab fun c hc=>by simpa using y6.1 za c hc
    rw [uc] at hX;have dd:(l++m).flatten.all (AV.noName t' n)=true:=by
     rw [List.flatten_append,List.all_append,A4 t' n de,Bool.and_true];simp only [AV.elems] at om;split at om
     ·cases hm:s.mem t' n with
      | none=>rw [hm] at om; cases om
      | some r =>
       rw [hm,V] at om;obtain ⟨_,b',cur,ty,_,la,ka,_⟩:=R.rows t' n r hm;obtain ⟨_,_,xs,ze,_⟩:=UL ka la om;exact A4 t' n ze
     ·cases om
    exact D5 R ht hi hz ma ab hx hy ho ca hd hD (cl:=cl) (call:=call) (xe:=xe) (by simp only [K.run,uc,H5 sc,H5 om]; rw [if_pos ⟨h1,h2,ja,za,ko,dd⟩]; exact hr) (g:=g) he
   ·cases hr
  ·cases hr
 ·cases hr
theorem op_bslr (R:dC P O nt B F0 da w0 D s a w ι Θ) {t e:TypeId} {n z:Nat} {zero:List AV} (ht:P.underlying t=some (.slice e)) (hz:tK P e=some zero) (hs:gC P e=some z) (ma:zero.length=z) (ab:0<z) (pe:n * z<=16777216) {ps:Array (Nat × Operand)} {ys:List (Nat × CB)} (hy:opds ps.toList=some ys) (ho:o.op=.buildSlice t n ps)
  {d:Nat} (ca:o.dst=some d) (hd:d<nt) (hD:¬ D d) {call} {xe:rA × nD} (hr:(K.bslr z zero n ys).run call s=some xe) {g} {s':aA} (he:PA.eff ⟨o.dst,.bslr z zero n ys,g⟩ s xe=some s') :
  ∃ v w',(execOp a.eval o).run P w=.ok (.value v) w'/\CD P O nt B F0 da w0 (fun t=>D t\/t=d) s' (a.put o.dst v) w':=by
 obtain ⟨zv,i',jc,jp,oh,hl⟩:=LG hz w;have hisz:i'.size=z:=by simp [gC,jc] at hs; exact hs
 have tk:zv.cells.size=z:=by
  have:=kG hl;simp only [yO] at this;omega
 simp only [K.run] at hr;split at hr
 ·rename_i aa;obtain ⟨zg,za,_,_⟩:=aa;injection hr with hr; subst hr;simp only [PA.eff,ca] at he;injection he with he;subst he;have mc:∀ p∈ys,(p.2.get s).whole=true/\(p.2.get s).cells.length=zero.length:=fun p hp=>by
   have:=y6.1 za p hp;simpa using this
  have hn:ys.length=n:=by
   have:=congrArg List.length zg;simpa using this
  have pj:=zU (s:=s) z ys 0 [] (yj n zero).flatten (by rw [zg,List.range_eq_range',hn]) (by simp) (by simp [hn,ma]) (fun p hp=>by rw [(mc p hp).2,ma]);rw [yK,yK] at pj;have hp:=uS z ys;have wj:((Array.range (n * z)).map (((if n * z=0 then (#[]:Array Value) else zv.cells)[· % (if n * z=0 then (#[]:Array Value) else zv.cells).size]!))).toList=(yj n zv.cells.toList).flatten:=by
   rcases yG n with h0 | h0
   ·subst h0; simp
   ·have:¬ n * z=0:=by have:=Nat.mul_pos h0 ab; omega
    simp only [if_neg this];rw [<- tk];exact GQ zv.cells n
  obtain ⟨oa,h1,h2⟩:=HS (pl:=fun i=>some (i * z,z)) (ι:=ι) (av:=AC da ι Θ) (avb:=SC ι Θ) (w:=w) (s:=s) (a:=a) rfl (fun X y h=>(R.opd h).1) hy hp (fun p hp=>by
   obtain ⟨q,hq,rfl⟩:=yB.1 hp;exact (mc q hq).1) (by rw [y0]; exact pj) (us:=(Array.range (n * z)).map (((if n * z=0 then (#[]:Array Value) else zv.cells)[· % (if n * z=0 then (#[]:Array Value) else zv.cells).size]!))) (by
    rw [wj];exact HQ _ _ (wJ hl _ _) n)
  have ia:(execOp a.eval o).run P w=.ok (.value (.slice (some ⟨w.heap.size,0,none⟩) n n)) (w.alloc (.cells oa e)):=by
   have h3:Instr.fill (fun i=>some (i * z,z)) ((Array.range (n * z)).map (((if n * z=0 then (#[]:Array Value) else zv.cells)[· % (if n * z=0 then (#[]:Array Value) else zv.cells).size]!))) (ps.map fun (i,x)=>(i,a.eval x)).toList=some oa:=by
    rw [Array.toList_map];exact h1
   have ub:¬ (n * z > 2 ^ 24):=by omega
   by_cases h0:n * z=0
   ·simp only [if_pos h0] at h3;simp only [execOp,ho,Instr.buildSlice,Sem.run_bind,run_underlying ht,Result.andThen_ok,nC hs,if_neg ub,if_pos h0,Sem.run_pure,h3,newRow,run_newObj_alloc]
   ·simp only [if_neg h0] at h3;simp only [execOp,ho,Instr.buildSlice,Sem.run_bind,run_underlying ht,Result.andThen_ok,nC hs,if_neg ub,if_neg h0,Sem.run_pure,oh,h3,newRow,run_newObj_alloc]
  refine ⟨_,_,ia,?_⟩;rw [ca];have ba:=gD h2;have bj:(ys.map fun p=>(p.2.get s).cells).flatten.length=n * z:=by
   rw [<- hn];clear pj h2 ba h1 zg za hp hy pe wj hn
   induction ys with
   | nil=>simp
   | cons p r ih=>rw [yl,yC,yA,(mc p (by simp)).2,ih (fun q hq=>mc q (by simp [hq])),ma,yI,yt]; omega
  have sd:oa.size=n * z:=by
   rw [bj,yO] at ba;exact ba
  have ka:BD ι Θ (AC da ι Θ) w (jA (ys.map fun p=>(p.2.get s).cells)) oa:=Z5 h2 fun j u hj=>by simpa using hj
  obtain ⟨ι',h⟩:=R.new hd hD e ka (x:=.ref d s.next z 0 n n) (v:=.slice (some ⟨w.heap.size,0,none⟩) n n) (fun ι' h hz=>⟨_,h,yf _,_,yf _,by
   rw [show ι'.z w.heap.size=_ from hz,yD,sd];exact yf _,rfl⟩)
  exact ⟨ι',Θ,h⟩
 ·cases hr
end
end
section
open Go Go.RowKit
section
variable {P:Program} {O:GI} {nt B:Nat} {F0:cP} {da:Av} {w0:World} {D:Nat->Prop} {s:aA} {a:Act} {w w':World} {ι:Ix} {Θ:IL} {o:Oper}
def gL (ι:Ix) (av avl:Av) (w:World):List AV->List Value->Prop
 | [],us=>us=[]
 | x :: r,us=>∃ u oa,us=u :: oa/\NA ι av avl w x u/\gL ι av avl w r oa
def Ix.one (p:Nat):Ix:=⟨fun t n=>if t=0/\n=0 then some p else .none,fun _ _=>.none,fun _=>0⟩
def pU (p:Nat) (av:Av) (w:World) (x:AV) (v:Value):Prop:=if x.isObj then v=.pointer (some ⟨p,0,none⟩) else bE av w x v
def IM (p:Nat) (av:Av) (w:World):List AV->List Value->Prop
 | [],us=>us=[]
 | x :: r,us=>∃ u oa,us=u :: oa/\pU p av w x u/\IM p av w r oa
def N9 (p:Nat) (av:Av) (w:World):AV->Value->Prop
 | .tup vs,v=>∃ us,v=.tuple us/\IM p av w vs us.toList
 | x,v=>pU p av w x v
def OwnV (base:Nat) (H:Nat->Prop) (w:World) (l:List (List AV)) (v:Value):Prop :=
 (l=[]/\∃ A c,v=.slice A 0 c/\(A=none->c=0))\/∃ g c cur ty,v=.slice (some ⟨g,0,none⟩) l.length c/\base<=g/\¬ H g/\w.heap[g]?=some (.cells cur ty (0,0))/\l.length<=c/\(∀ sz,kB sz l=true->0<l.length->c * sz<=cur.size)/\∀ (j:Nat) (x:AV),l.flatten[j]?=some x->cur[j]?=some x.scalV
def T4 (P:Program) (O:GI) (f:FuncId) (args:List AV) (S0:Option AV) (r:RV):Prop :=
 (∀ xs w,(callFunc f xs).run P w=.ok (.enter f xs) w) ∧
 match S0,r with
 | some S,(.sl false l,some S')=>∀ (av:Av) (w:World) (vs:List Value) (p:Nat) (H:Nat->Prop),(∀ b o,av b o->b<w.heap.size)->(∀ b o,H b->av b o)->O.at_ S H p w->gL (Ix.one p) av (fun b _=>H b) w args vs →
  Calls P f vs.toArray w fun e w'=>∃ v H',e=.returned v/\OwnV w.heap.size H' w' l v/\O.at_ S' H' p w'/\(∀ b,H' b->H b\/w.heap.size<=b)/\QC H w w'
 | _,_=>True
def R4 (P:Program) (O:GI) (f:FuncId) (args:List AV) (S0:Option AV) (r:RV):Prop :=
 (∀ xs w,(callFunc f xs).run P w=.ok (.enter f xs) w) ∧
 match S0,r.2 with
 | none,none=>∀ (av:Av) (w:World) (vs:List Value),(∀ b o,av b o->b<w.heap.size)->gL Ix.none av (fun _ _=>False) w args vs →
  Calls P f vs.toArray w fun e w'=>∃ v,e=.returned v/\bE av w' r.1 v/\Below w.heap.size w w'
 | some S,some S'=>∀ (av:Av) (w:World) (vs:List Value) (p:Nat) (H:Nat->Prop),(∀ b o,av b o->b<w.heap.size)->(∀ b o,H b->av b o)->O.at_ S H p w->gL (Ix.one p) av (fun b _=>H b) w args vs →
  Calls P f vs.toArray w fun e w'=>∃ v H',e=.returned v/\bE (fun b o=>av b o\/H' b) w' r.1 v/\O.at_ S' H' p w'/\(∀ b,H' b->H b\/w.heap.size<=b)/\QC H w w'
 | none,some S'=>∀ (av:Av) (w:World) (vs:List Value),(∀ b o,av b o->b<w.heap.size)->gL Ix.none av (fun _ _=>False) w args vs →
  Calls P f vs.toArray w fun e w'=>∃ v p H',e=.returned v/\N9 p (fun b o=>av b o\/H' b) w' r.1 v/\O.at_ S' H' p w'/\(∀ b,H' b->w.heap.size<=b)/\Below w.heap.size w w'
 | some _,none=>True
def Ix.row (p z:Nat):Ix:=⟨fun t n=>if t=0/\n=0 then some p else .none,fun _ _=>.none,fun _=>z⟩
def U4 (P:Program) (f:FuncId) (args:List AV) (S0:Option AV) (r:RV):Prop :=
 (∀ xs w,(callFunc f xs).run P w=.ok (.enter f xs) w) ∧
 match S0,r with
 | some (.agg cs),(r1,some (.agg px))=>∀ (av:Av) (w:World) (vs:List Value) (p:Nat) (cur:Array Value) (ty:TypeId),(∀ b o,av b o->b<w.heap.size)->(∀ o,av p o)->w.heap[p]?=some (.cells cur ty (0,0))->cs.length<=cur.size->DC av w cs (cur.toList.take cs.length)->gL (Ix.row p cur.size) av (fun b _=>b=p) w args vs →
  Calls P f vs.toArray w fun e w'=>∃ v wb dr,e=.returned v/\bE av w' r1 v/\w'.heap[p]?=some (.cells wb dr (0,0))/\wb.size=cur.size/\DC av w' px (wb.toList.take px.length)/\QC (fun b=>b=p) w w'
 | _,_=>True
def tD (P:Program) (O:GI) (f:FuncId) (args:List AV) (S0:Option AV) (r:RV):Prop:=match args with
 | .undef :: .undef :: rest=>U4 P f rest S0 r
 | .undef :: rest=>T4 P O f rest S0 r
 | _=>R4 P O f args S0 r
theorem tD.of {P:Program} {O:GI} {f:FuncId} {args:List AV} {S0:Option AV} {r:RV} (hm:IK args=false):tD P O f args S0 r ↔ R4 P O f args S0 r:=by
 unfold tD;split
 ·cases hm
 ·cases hm
 ·simp_all
theorem tD.own {P:Program} {O:GI} {f:FuncId} {args:List AV} {S0:Option AV} {r:RV} (hm:IK args=false) (h:tD P O f (.undef :: args) S0 r):T4 P O f args S0 r:=by
 cases args with
 | nil=>exact h
 | cons x r=>cases x <;> first | exact h | (simp [IK] at hm; done)
theorem U7 {ι':Ix} {av avb avl:Av} {x:AV} {v:Value} (h:NA ι av avb w x v) (hx:x.free=true):NA ι' av avl w x v:=by
  cases x <;> first
    | exact h
    | (simp [AV.free,AV.free0] at hx; done)
    | (obtain ⟨us,hv,hc⟩:=h
       exact ⟨us,hv,mD (EH hc fun y hy=>y6.1 hx y hy)⟩)
theorem uU {av avb:Av}:∀ {cs:List AV} {us:List Value} {b off:Nat},DC av w cs us->(∀ (j:Nat) (u:Value),us[j]?=some u->w.cell? ⟨b,off + j,none⟩=some u/\¬ avb b (off + j))->bC av avb w cs b off
 | [],_,_,_,_,_=>by simp [bC]
 | x :: r,_,b,off,h,hj=>by
  simp only [DC] at h;obtain ⟨u,oa,rfl,h0,h1,h⟩:=h;simp only [bC];have h2:=hj 0 u rfl;refine ⟨⟨u,h2.1,h0,h1⟩,h2.2,uU h fun j v hv=>?_⟩;have:=hj (j + 1) v (by simpa using hv);rw [show off + 1 + j=off + (j + 1) from by omega];exact this
section
variable (R:dC P O nt B F0 da w0 D s a w ι Θ) {avl:Av}
include R avl
theorem OU {cl:Cl} {y x:AV} (hB:∀ b o,avl b o->SC ι Θ b o) (hsep:∀ t n b o,ι t n=some b->ι.ob t n=none->(∃ sz off len cap,y=.ref t n sz off len cap)->¬ avl b o) {v:Value} {ι':Ix} (hY:NA ι (AC da ι Θ) (SC ι Θ) w y v) (h:qT s cl y=some x) (zb:∀ t n,y=.ptr t n 0->ι' 0 0=ι t n):NA ι' (AC da ι Θ) avl w x v:=by
 unfold qT at h;split at h
 ·rename_i t n sz off len cap;split at h
  ·cases hm:s.mem t n with
   | none=>rw [hm] at h; cases h
   | some r =>
    rw [hm,V] at h;cases hr:iF r sz off len with
    | none=>rw [hr] at h; cases h
    | some m =>
     rw [hr] at h;cases h;obtain ⟨b,hb,ub,cc,rh,_,hv⟩:=nH.1 hY;obtain ⟨dd,b',cur,ty,sa,la,ka,_⟩:=R.rows t n r hm;rw [hb] at sa;injection sa with sa
     subst sa;obtain ⟨h1,h2,us,hl,sd⟩:=UL ka la hr;subst h1;exact ⟨_,cc,hv,yw ub rh,fun c hc c' lf=>(h2 c hc).trans (h2 c' lf).symm,fun _=>⟨b,off,rfl,kK.2 (uU hl fun j u hj=>⟨sd j u hj,hsep t n b _ hb dd ⟨_,_,_,_,rfl⟩⟩)⟩⟩
  ·cases h
 ·cases h;obtain ⟨a',c,hv,hc,hu,hs⟩:=hY;refine ⟨a',c,hv,hc,hu,fun h0=>?_⟩;obtain ⟨b,off,ha,hr⟩:=hs h0;exact ⟨b,off,ha,OM.held (XA.refl _ _) (XA.less hB) _ _ _ hr⟩
 ·cases h;obtain ⟨b,off,hv,hc⟩:=hY;exact ⟨b,off,hv,bC.held (XA.refl _ _) (XA.less hB) _ _ _ hc⟩
 ·rename_i t n off;split at h
  ·rename_i hc;cases h;obtain ⟨h0,_,_⟩:=hc;subst h0;obtain ⟨b,hb,hv⟩:=AF.1 hY;exact ⟨b,(zb t n rfl).trans hb,hv⟩
  ·cases h
 ·split at h
  ·rename_i hf;cases h;exact U7 hY hf
  ·cases h
theorem lend_rep (ig:∀ b o,avl b o->∃ t n H,ι.ob t n=some H/\H b) {cl:Cl} {y x:AV} {v:Value} {ι':Ix} (hY:NA ι (AC da ι Θ) (SC ι Θ) w y v) (h:qT s cl y=some x) (zb:∀ t n,y=.ptr t n 0->ι' 0 0=ι t n):NA ι' (AC da ι Θ) avl w x v :=
 OU R (fun b o h=>.inl (.inr (ig b o h))) (fun t n b o hb dd _ h=>by
  obtain ⟨t',n',H,ho,hH⟩:=ig _ _ h;obtain ⟨e1,e2⟩:=((R.obs _ _ _ ho).1 _ hH).2.2.1 _ _ hb;rw [e1,e2,ho] at dd;cases dd) hY h zb
theorem lendP_rep (ig:∀ b o,avl b o->∃ t n H,ι.ob t n=some H/\H b) {cl:Cl} {y x:AV} {v:Value} {ι':Ix} (hY:kW ι (AC da ι Θ) (SC ι Θ) w y v) (h:wQ s cl y=some x):kW ι' (AC da ι Θ) avl w x v:=by
 have hB:∀ b o,avl b o->SC ι Θ b o:=fun b o h=>.inl (.inr (ig b o h))
 unfold wQ at h;split at h
 ·rename_i t n off;split at h
  ·split at h
   ·rename_i r hm;split at h
    ·rename_i za;cases h;obtain ⟨b,hb,hv⟩:=hY;obtain ⟨dd,b',cur,ty,sa,la,ka,_⟩:=R.rows t n r hm;rw [hb] at sa;injection sa with sa
     subst sa;have lc:=SF off ka.rep;rw [<- List.map_drop] at lc;have af:∀ x∈(r.drop off).map (·.v),x.free0=true:=fun x hx=>by
      grind
     refine ⟨b,off,hv,uU (EH lc af) fun j u hu=>⟨?_,fun h=>?_⟩⟩
     ·rw [yT] at hu;have hj:off + j<r.length:=by
       grind
      rw [List.getElem?_take_of_lt hj] at hu;simp only [World.cell?,la];simp_all
     ·obtain ⟨t',n',H,ho,hH⟩:=ig _ _ h;obtain ⟨e1,e2⟩:=((R.obs _ _ _ ho).1 _ hH).2.2.1 _ _ hb;simp_all
    ·cases h
   ·cases h
  ·cases h
 ·cases h;obtain ⟨b,off,hv,hc⟩:=hY;exact ⟨b,off,hv,bC.held (XA.refl _ _) (XA.less hB) _ _ _ hc⟩
 ·cases h;exact hY
 ·cases h
end
theorem DR (R:dC P O nt B F0 da w0 D s a w ι Θ) {avl:Av} (ig:∀ b o,avl b o->∃ t n H,ι.ob t n=some H/\H b) {cl:Cl} {ι':Ix}:∀ {ys xs:List AV} {us:List Value},tH ι (AC da ι Θ) (SC ι Θ) w ys us->JD s cl ys=some xs->tH ι' (AC da ι Θ) avl w xs us
 | [],xs,us,hY,h=>by
  injection h with h;subst h;exact hY
 | y :: r,xs,us,hY,h=>by
  obtain ⟨u,oa,rfl,h0,hY⟩:=hY;unfold JD at h;split at h
  ·rename_i v vs hv hr;injection h with h;subst h;exact ⟨u,oa,rfl,lendP_rep R ig h0 hv,DR R ig hY hr⟩
  ·cases h
theorem lendF_rep (R:dC P O nt B F0 da w0 D s a w ι Θ) {avl:Av} (ig:∀ b o,avl b o->∃ t n H,ι.ob t n=some H/\H b) {cl:Cl} {y x:AV} {v:Value} {ι':Ix} (hY:NA ι (AC da ι Θ) (SC ι Θ) w y v) (h:gG s cl y=some x) (zb:∀ t n,y=.ptr t n 0->ι' 0 0=ι t n):NA ι' (AC da ι Θ) avl w x v:=by
 unfold gG at h;split at h
 ·rename_i f cs;obtain ⟨ws,hw,h⟩:=yg.1 h;subst h;obtain ⟨us,hv,hc⟩:=hY;exact ⟨us,hv,DR R ig hc hw⟩
 ·exact lend_rep R ig hY h zb
theorem J1 {ι':Ix} {av avl:Av}:∀ {xs:List AV} {us:List Value},(∀ x∈xs,x.capOk=true)->tH ι' av avl w xs us->gL ι' av avl w xs us
 | [],_,_,h=>h
 | x :: r,_,hc,h=>by
  obtain ⟨u,oa,rfl,h0,h⟩:=h;refine ⟨u,oa,rfl,?_,J1 (fun y hy=>hc y (yh _ hy)) h⟩;have:=hc x (yk);cases x <;> first | (simp [AV.capOk] at this; done) | exact h0
theorem GV {ι':Ix} {av avl:Av}:∀ {xs ys:List AV} {us vs:List Value},gL ι' av avl w xs us->gL ι' av avl w ys vs->gL ι' av avl w (xs++ys) (us++vs)
 | [],_,_,_,h,h'=>by cases h; exact h'
 | x :: r,_,_,_,h,h'=>by
  obtain ⟨u,oa,rfl,h0,h⟩:=h;exact ⟨u,oa++_,rfl,h0,GV h h'⟩
theorem IU {cl:Cl}:∀ {ys xs:List AV},JD s cl ys=some xs->∀ x∈xs,x.capOk=true
 | [],xs,h=>by injection h with h; subst h; intro x hx; cases hx
 | y :: r,xs,h=>by
  unfold JD at h;split at h
  ·rename_i v vs hv hr;injection h with h;subst h;intro x hx;rcases yc.1 hx with rfl | hx
   ·unfold wQ at hv;split at hv
    ·split at hv
     ·split at hv
      ·split at hv
       ·injection hv with hv; subst hv; rfl
       ·cases hv
      ·cases hv
     ·cases hv
    ·injection hv with hv; subst hv; rfl
    ·injection hv with hv; subst hv; rfl
    ·cases hv
   ·exact IU hr x hx
  ·cases h
theorem WL (R:dC P O nt B F0 da w0 D s a w ι Θ) {avl:Av} (ig:∀ b o,avl b o->∃ t n H,ι.ob t n=some H/\H b) {cl:Cl} {ι':Ix}:∀ {Xs:List Operand} {xs:List CB} {vs:List AV},bH Xs=some xs->IE s cl xs=some vs->(∀ x∈xs,∀ t n,x.get s=.ptr t n 0->ι' 0 0=ι t n)->gL ι' (AC da ι Θ) avl w vs (Xs.map a.eval)
 | [],xs,vs,h,hl,_=>by
  injection h with h;subst h;injection hl with hl;subst hl;rfl
 | X :: Xs,xs,vs,h,hl,zb=>by
  unfold bH at h;split at h
  ·rename_i x l hx hr;injection h with h;subst h;unfold IE at hl;split at hl
   ·rename_i v xt hv gg;injection hl with hl;subst hl;exact ⟨_,_,rfl,lendF_rep R ig (R.opd hx).1 hv (zb x (yk)),WL R ig hr gg fun y hy=>zb y (yh _ hy)⟩
   ·cases hl
  ·cases h
theorem named_rep {p d n:Nat} {ι':Ix} {av avb:Av} {x:AV} {v:Value} (h:N9 p av w x v) (hp:ι' d n=some p) (hx:x.backN=true):NA ι' av avb w (x.named d n) v:=by
 have one:∀ {x:AV} {u:Value},pU p av w x u->BA ι' av w (if x.isObj then .ptr d n 0 else x) u:=fun {x u} h=>by
  unfold pU at h;split at h
  ·rename_i ho; rw [if_pos ho]; exact ⟨p,hp,h⟩
  ·rename_i ho; rw [if_neg ho]; exact jL h
 have oneU:∀ {x:AV} {u:Value},pU p av w x u->GP ι' av w (if x.isObj then .ptr d n 0 else x) u:=fun {x u} h=>by
  unfold pU at h;split at h
  ·rename_i ho; rw [if_pos ho]; exact ⟨p,hp,h⟩
  ·rename_i ho; rw [if_neg ho]; exact uH h
 have all:∀ {xs:List AV} {us:List Value},IM p av w xs us->CG ι' av w (xs.map fun v=>if v.isObj then .ptr d n 0 else v) us:=by
  intro xs
  induction xs with
  | nil=>intro us h; simpa [IM,CG] using h
  | cons x r ih =>
   intro us h;simp only [IM] at h;obtain ⟨u,oa,rfl,h0,h⟩:=h;exact ⟨u,oa,rfl,oneU h0,ih h⟩
 cases x with
 | tup vs =>
  obtain ⟨us,hv,hc⟩:=h;exact ⟨us,hv,all hc⟩
 | ptr t' n' off =>
  have h1:=one (x:=.ptr t' n' off) h;have h2:(AV.ptr t' n' off).isObj=true:=hx;simp only [h2,if_true] at h1;show NA ι' av avb w (if (AV.ptr t' n' off).isObj then .ptr d n 0 else .ptr t' n' off) v;rw [if_pos h2];exact h1
 | _=>simp [AV.backN,AV.isObj] at hx
theorem pU.held {p:Nat} {av lb:Av} {w w':World} (h:XA av lb w w') {x:AV} {v:Value} (hr:pU p av w x v):pU p lb w' x v:=by
 unfold pU at hr ⊢;split at hr
 ·rename_i ho; rw [if_pos ho]; exact hr
 ·rename_i ho; rw [if_neg ho]; exact bE.held h _ _ hr
theorem N9.held {p:Nat} {av lb:Av} {w w':World} (h:XA av lb w w') {x:AV} {v:Value} (hr:N9 p av w x v):N9 p lb w' x v:=by
 have all:∀ {xs:List AV} {us:List Value},IM p av w xs us->IM p lb w' xs us:=by
  intro xs
  induction xs with
  | nil=>intro us h; exact h
  | cons x r ih =>
   intro us h';simp only [IM] at h' ⊢;obtain ⟨u,oa,rfl,h0,h'⟩:=h';exact ⟨u,oa,rfl,pU.held h h0,ih h'⟩
 cases x <;> first | exact pU.held h hr | (obtain ⟨us,hv,hc⟩:=hr; exact ⟨us,hv,all hc⟩)
theorem dC.turnObj (R:dC P O nt B F0 da w0 D s a w ι Θ) {t n p:Nat} {H H':Nat->Prop} {S':AV} (hp:ι t n=some p) (zb:ι.ob t n=some H) (ic:O.at_ S' H' p w') (pk:Q6 ι S' p w') (hH:∀ b,H' b->H b\/w.heap.size<=b) (hk:QC H w w') :
  ∃ ι':Ix,dC P O nt B F0 da w0 D (s.setObj t n S') a w' ι' Θ/\XA (fun b o=>AC da ι Θ b o\/H' b) (AC da ι' Θ) w' w':=by
 obtain ⟨xp,tv⟩:=R.obs t n H zb;have li:∀ t' n' H1,(if t'=t/\n'=n then some H' else ι.ob t' n')=some H1->(t'=t/\n'=n/\H1=H')\/(¬ (t'=t/\n'=n)/\ι.ob t' n'=some H1):=fun t' n' H1 h=>by
  grind
 have lj:∀ b o,b<w.heap.size->SC ⟨ι.f,fun t' n'=>if t'=t/\n'=n then some H' else ι.ob t' n',ι.z⟩ Θ b o->SC ι Θ b o:=fun b o hb h=>h.imp (fun h=>h.imp id fun ⟨t',n',H1,h1,h2⟩=>by
  rcases li _ _ _ h1 with ⟨e1,e2,e3⟩ | ⟨_,h1⟩
  ·subst e3;rcases hH b h2 with h3 | h3
   ·exact ⟨t,n,H,zb,h3⟩
   ·omega
  ·exact ⟨t',n',H1,h1,h2⟩) id
 have mh:∀ t1 n1 b1 H1,ι t1 n1=some b1->ι.ob t1 n1=some H1->(⟨ι.f,fun t' n'=>if t'=t/\n'=n then some H' else ι.ob t' n',ι.z⟩:Ix) t1 n1=some b1/\∃ H2,(⟨ι.f,fun t' n'=>if t'=t/\n'=n then some H' else ι.ob t' n',ι.z⟩:Ix).ob t1 n1=some H2:=fun t1 n1 b1 H1 g1 g2=>⟨g1,by
  by_cases e:t1=t/\n1=n
  ·exact ⟨H',by simp only [if_pos e]⟩
  ·exact ⟨H1,by simp only [if_neg e]; exact g2⟩⟩
 have gc:∀ b o u,w.cell? ⟨b,o,none⟩=some u->¬ H b->w'.cell? ⟨b,o,none⟩=some u:=fun b o u hc hn=>(World.cell?_of_block (w:=w) (a:=⟨b,o,none⟩) (hk.block b (SI hc) hn)).trans hc
 have hB:XA (SC ι Θ) (SC ⟨ι.f,fun t' n'=>if t'=t/\n'=n then some H' else ι.ob t' n',ι.z⟩ Θ) w w':=⟨fun b o u hc hn=>⟨gc b o u hc fun h=>hn (.inl (.inr ⟨t,n,H,zb,h⟩)),fun h=>hn (lj b o (SI hc) h)⟩⟩;have hA:XA (AC da ι Θ) (AC da ⟨ι.f,fun t' n'=>if t'=t/\n'=n then some H' else ι.ob t' n',ι.z⟩ Θ) w w':=⟨fun b o u hc hn=>⟨gc b o u hc fun h=>hn (.inr (.inl (.inr ⟨t,n,H,zb,h⟩))),fun h=>hn (h.imp id (lj b o (SI hc)))⟩⟩;have le:=R.lowB;have ma:=hk.size;have henv:∀ t1,NA ⟨ι.f,fun t' n'=>if t'=t/\n'=n then some H' else ι.ob t' n',ι.z⟩ (AC da ⟨ι.f,fun t' n'=>if t'=t/\n'=n then some H' else ι.ob t' n',ι.z⟩ Θ) (SC ⟨ι.f,fun t' n'=>if t'=t/\n'=n then some H' else ι.ob t' n',ι.z⟩ Θ) w' (s.env t1).v (a.tmps.getD t1 undef):=fun t1=>NA.held (ι:=ι) (ι':=⟨ι.f,fun t' n'=>if t'=t/\n'=n then some H' else ι.ob t' n',ι.z⟩) ⟨fun _ _ _ h=>h,fun _ _ _ _=>rfl⟩ hA hB _ _ (R.env t1)
 have hgen:∀ t1,NA ⟨ι.f,fun t' n'=>if t'=t/\n'=n then some H' else ι.ob t' n',ι.z⟩ (AC da ⟨ι.f,fun t' n'=>if t'=t/\n'=n then some H' else ι.ob t' n',ι.z⟩ Θ) (SC ⟨ι.f,fun t' n'=>if t'=t/\n'=n then some H' else ι.ob t' n',ι.z⟩ Θ) w' (s.gh t1).v (F0.g t1):=fun t1=>NA.held (ι:=ι) (ι':=⟨ι.f,fun t' n'=>if t'=t/\n'=n then some H' else ι.ob t' n',ι.z⟩) ⟨fun _ _ _ h=>h,fun _ _ _ _=>rfl⟩ hA hB _ _ (R.gen t1)
 refine ⟨⟨ι.f,fun t' n'=>if t'=t/\n'=n then some H' else ι.ob t' n',ι.z⟩,⟨R.defers,R.size,henv,R.ann,fun t' n' r hr=>?_,fun t' n' b h=>?_,R.inj,fun k o h=>?_,R.tinj,R.apart,R.out,(fun p' h=>⟨(R.pin p' h).1,by
  rcases (R.pin p' h).2 with dx | ⟨H1,h1⟩
  ·exact .inl dx
  refine .inr ?_;show ∃ H2,(if 0=t/\0=n then some H' else ι.ob 0 0)=some H2;split
  ·exact ⟨_,rfl⟩
  ·exact ⟨H1,h1⟩⟩),?_,R.base,fun t' n' S1 h=>?_,fun t' n' H1 h=>?_,hgen,R.gann⟩,?_⟩
 ·obtain ⟨h0,b,cur,ty,h1,h2,h3,h8⟩:=R.rows t' n' r hr;have ta:¬ (t'=t/\n'=n):=fun e=>by rw [e.1,e.2,zb] at h0; cases h0
  have hbn:¬ H b:=fun hb=>ta ((xp b hb).2.2.1 t' n' h1)
  exact ⟨by simp only [if_neg ta]; exact h0,b,cur,ty,h1,(hk.block b (TA h2) hbn).trans h2,h3.held ⟨fun _ _ _ h=>h,fun _ _ _ _=>rfl⟩ hA (fun _ _ h=>h),h8⟩
 ·obtain ⟨h1,h2,h3⟩:=R.mine t' n' b h;exact ⟨h1,by omega,h3⟩
 ·obtain ⟨h1,h2,h3,h4,wb,h5,h6⟩:=R.tok k o h;exact ⟨h1,h2,h3,h4,wb,(hk.block _ (TA h5) (R.apob h zb)).trans h5,h6⟩
 ·refine R.kept.trans hk fun i hi h=>?_
  have:=R.base
  grind
 ·simp only [aA.setObj] at h;split at h
  ·rename_i e;injection h with h;subst h;exact ⟨p,H',by rw [e.1,e.2]; exact hp,by simp only [if_pos e],ic,pk.keep mh fun x hx=>hx⟩
  ·rename_i e;obtain ⟨p1,H1,h1,h2,h3,h4⟩:=R.objs t' n' S1 h;have sq:∀ b,H1 b->¬ H b:=fun b hb sa=>e ((xp b sa).2.2.2.2 t' n' H1 h2 hb)
   exact ⟨p1,H1,h1,by simp only [if_neg e]; exact h2,O.keep h3 (fun b hb=>hk.block b (O.lt h3 hb) (sq b hb)) ma,h4.keep mh fun x hx=>(hk.block _ (TA hx) (sq _ (O.main h3))).trans hx⟩
 ·rcases li _ _ _ h with ⟨e1,e2,e3⟩ | ⟨e,h⟩
  ·subst e1; subst e2; subst e3;refine ⟨fun b hb=>?_,tv⟩;rcases hH b hb with h1 | h1
   ·grind
   ·refine ⟨.inl (by omega),O.lt ic hb,fun t1 n1 h2=>?_,fun k o h2 e=>?_,fun t1 n1 H2 h2 h3=>?_⟩
    ·have:=(R.mine _ _ _ h2).2.1; omega
    ·obtain ⟨_,_,_,_,wb,h5,_⟩:=R.tok k o h2; have:=TA h5; omega
    ·rcases li _ _ _ h2 with ⟨e1,e2,_⟩ | ⟨_,h2⟩
     ·omega
     ·have:=((R.obs _ _ _ h2).1 b h3).2.1; omega
  ·obtain ⟨h1,h2⟩:=R.obs t' n' H1 h;refine ⟨fun b hb=>?_,h2⟩;obtain ⟨g1,g2,g3,g4,g5⟩:=h1 b hb;refine ⟨g1,by omega,g3,g4,fun t1 n1 H2 h2 h3=>?_⟩;rcases li _ _ _ h2 with ⟨e1,e2,e3⟩ | ⟨_,h2⟩
   ·subst e3;rcases hH b h3 with h4 | h4
    ·have:=g5 t n H zb h4;omega
    ·omega
   ·exact g5 t1 n1 H2 h2 h3
 ·refine XA.less fun b o h=>?_
  rcases h with h | h | h
  ·exact .inl (.inl h)
  ·rcases h with h | ⟨t1,n1,H2,h2,h3⟩
   ·exact .inl (.inr (.inl (.inl h)))
   ·rcases li _ _ _ h2 with ⟨_,_,e3⟩ | ⟨_,h2⟩
    ·grind
    ·exact .inl (.inr (.inl (.inr ⟨t1,n1,H2,h2,h3⟩)))
  ·exact .inl (.inr (.inr h))
theorem dC.newObj (R:dC P O nt B F0 da w0 D s a w ι Θ) {d p:Nat} {H:Nat->Prop} {S:AV} (hb:Below w.heap.size w w') (hD:¬ D d) (ic:O.at_ S H p w') (pk:Q6 ι S p w') (hH:∀ b,H b->w.heap.size<=b) :
  ∃ ι':Ix,dC P O nt B F0 da w0 (fun t=>D t\/t=d) (s.setObj d s.next S) a w' ι' Θ/\ι' d s.next=some p/\XA (fun b o=>AC da ι Θ b o\/H b) (AC da ι' Θ) w' w':=by
 have le:=R.lowB;have ma:=hb.size;have hpH:=hH p (O.main ic);have ne:ι d s.next=none:=by
  cases h:ι d s.next with
  | none=>rfl
  | some b =>
   rcases (R.mine _ _ _ h).2.2 with h1 | h1
   ·omega
   ·simp_all
 have oe:ι.ob d s.next=none:=by
  cases h:ι.ob d s.next with
  | none=>rfl
  | some b =>
   rcases (R.obs _ _ _ h).2 with h1 | h1
   ·omega
   ·simp_all
 have hmemn:s.mem d s.next=none:=by
  cases h:s.mem d s.next with
  | none=>rfl
  | some r=>obtain ⟨_,b,cur,ty,h1,_⟩:=R.rows _ _ _ h; rw [ne] at h1; cases h1
 obtain ⟨ι',hι'⟩:∃ ι':Ix,ι'=⟨fun t' n'=>if t'=d/\n'=s.next then some p else ι t' n',fun t' n'=>if t'=d/\n'=s.next then some H else ι.ob t' n',ι.z⟩:=⟨_,rfl⟩;have hf:∀ t' n' b,ι' t' n'=some b->(t'=d/\n'=s.next/\b=p)\/(¬ (t'=d/\n'=s.next)/\ι t' n'=some b):=fun t' n' b h=>by
  subst hι'
  grind
 have ho:∀ t' n' H1,ι'.ob t' n'=some H1->(t'=d/\n'=s.next/\H1=H)\/(¬ (t'=d/\n'=s.next)/\ι.ob t' n'=some H1):=fun t' n' H1 h=>by
  subst hι'
  grind
 have ad:∀ t n b,ι t n=some b->ι' t n=some b:=fun t n b h=>by
  subst hι'
  grind
 have xq:∀ t n H1,¬ (t=d/\n=s.next)->ι.ob t n=H1->ι'.ob t n=H1:=fun t n H1 e h=>by
  simp_all
 have kc:ι' d s.next=some p:=by
  simp_all
 have kv:ι'.ob d s.next=some H:=by subst hι'; simp
 have mh:∀ t1 n1 b1 H1,ι t1 n1=some b1->ι.ob t1 n1=some H1->ι' t1 n1=some b1/\∃ H2,ι'.ob t1 n1=some H2:=fun t1 n1 b1 H1 g1 g2=>⟨ad _ _ _ g1,H1,xq _ _ _ (fun e=>by rw [e.1,e.2,oe] at g2; cases g2) g2⟩
 have jx:∀ b,ι'.z b=ι.z b:=fun b=>by subst hι'; rfl
 have ub:Ix.Le ι ι':=⟨ad,fun _ _ _ _=>jx _⟩;clear hι';have lj:∀ b o,b<w.heap.size->SC ι' Θ b o->SC ι Θ b o:=fun b o nj h=>h.imp (fun h=>by
  rcases h with ⟨t',n',h⟩ | ⟨t',n',H1,h,h2⟩
  ·rcases hf _ _ _ h with ⟨_,_,e⟩ | ⟨_,h⟩
   ·omega
   ·exact .inl ⟨t',n',h⟩
  ·rcases ho _ _ _ h with ⟨_,_,e⟩ | ⟨_,h⟩
   ·subst e; have:=hH b h2; omega
   ·exact .inr ⟨t',n',H1,h,h2⟩) id
 have hB:XA (SC ι Θ) (SC ι' Θ) w w':=XA.grown (fun b sa=>hb.block b sa) lj;have hA:XA (AC da ι Θ) (AC da ι' Θ) w w':=XA.grown (fun b sa=>hb.block b sa) fun b o nj h=>h.imp id (lj b o nj)
 refine ⟨ι',⟨R.defers,R.size,fun t=>NA.held ub hA hB _ _ (R.env t),R.ann,fun t' n' r hr=>?_,fun t' n' b h=>?_,fun t n t' n' b h h'=>?_,fun k o h=>?_,R.tinj,fun k o t n h h'=>?_,R.out,fun p h=>⟨ad _ _ _ (R.pin p h).1,by
  rcases (R.pin p h).2 with dx | ⟨H1,h1⟩
  ·exact .inl ⟨dx.1,(ub.z _ _ _ (R.pin p h).1).trans dx.2⟩
  refine .inr ?_;by_cases e:0=d/\0=s.next
  ·exact ⟨H,by rw [<- e.1,<- e.2] at kv; exact kv⟩
  ·exact ⟨H1,xq _ _ _ e h1⟩⟩,R.kept.trans_below hb,R.base,fun t' n' S1 h=>?_,fun t' n' H1 h=>?_,fun t=>NA.held ub hA hB _ _ (R.gen t),R.gann⟩,kc,?_⟩
 ·obtain ⟨h0,b,cur,ty,h1,h2,h3,h8,h9⟩:=R.rows t' n' r hr;have ta:¬ (t'=d/\n'=s.next):=fun e=>by
   simp_all
  exact ⟨xq _ _ _ ta h0,b,cur,ty,ad _ _ _ h1,(hb.block b (TA h2)).trans h2,h3.held ub hA (fun _ _ h=>h),h8,h9.trans (jx _).symm⟩
 ·rcases hf _ _ _ h with ⟨e1,e2,e⟩ | ⟨_,h⟩
  ·subst e;exact ⟨.inl (by omega),O.lt ic (O.main ic),.inr ⟨e2,.inr e1⟩⟩
  ·obtain ⟨h1,h2,h3⟩:=R.mine t' n' b h;exact ⟨h1,by omega,h3.imp id fun ⟨e,d⟩=>⟨e,.inl d⟩⟩
 ·rcases hf _ _ _ h with ⟨e1,e2,e⟩ | ⟨_,h⟩ <;> rcases hf _ _ _ h' with ⟨g1,g2,g⟩ | ⟨_,h'⟩
  ·omega
  ·have:=(R.mine _ _ _ h').2.1; omega
  ·have:=(R.mine _ _ _ h).2.1; omega
  ·exact R.inj t n t' n' b h h'
 ·obtain ⟨h1,h2,h3,h4,wb,h5,h6⟩:=R.tok k o h;exact ⟨h1,h2,h3,h4,wb,(hb.block _ (TA h5)).trans h5,h6⟩
 ·obtain ⟨_,_,_,_,wb,h5,_⟩:=R.tok k o h;have fa:=TA h5;rcases hf _ _ _ h' with ⟨_,_,e⟩ | ⟨_,h'⟩
  ·omega
  ·exact R.apart k o t n h h'
 ·simp only [aA.setObj] at h;split at h
  ·rename_i e;injection h with h;subst h;exact ⟨p,H,by rw [e.1,e.2]; exact kc,by rw [e.1,e.2]; exact kv,ic,pk.keep mh fun x hx=>hx⟩
  ·rename_i e;obtain ⟨p1,H1,h1,h2,h3,h4⟩:=R.objs t' n' S1 h;exact ⟨p1,H1,ad _ _ _ h1,xq _ _ _ e h2,O.keep h3 (fun b sa=>hb.block b (O.lt h3 sa)) ma,h4.keep mh fun x hx=>(hb.block _ (TA hx)).trans hx⟩
 ·rcases ho _ _ _ h with ⟨e1,e2,e⟩ | ⟨_,h⟩
  ·subst e;refine ⟨fun b sa=>⟨.inl (by have:=hH b sa; omega),O.lt ic sa,fun t1 n1 h2=>?_,fun k o h2 e=>?_,fun t1 n1 H2 h2 h3=>?_⟩,.inr ⟨e2,.inr e1⟩⟩
   ·have:=hH b sa;rcases hf _ _ _ h2 with ⟨g1,g2,_⟩ | ⟨_,h2⟩
    ·omega
    ·have:=(R.mine _ _ _ h2).2.1; omega
   ·have:=hH b sa;obtain ⟨_,_,_,_,wb,h5,_⟩:=R.tok k o h2; have:=TA h5; omega
   ·have:=hH b sa;rcases ho _ _ _ h2 with ⟨g1,g2,_⟩ | ⟨_,h2⟩
    ·omega
    ·have:=((R.obs _ _ _ h2).1 b h3).2.1; omega
  ·obtain ⟨h1,h2⟩:=R.obs t' n' H1 h;refine ⟨fun b sa=>?_,h2.imp id fun ⟨e,d⟩=>⟨e,.inl d⟩⟩;obtain ⟨g1,g2,g3,g4,g5⟩:=h1 b sa;refine ⟨g1,by omega,fun t1 n1 h2=>?_,g4,fun t1 n1 H2 h2 h3=>?_⟩
   ·grind
   ·grind
 ·refine XA.less fun b o h=>?_
  rcases h with h | h | h
  ·exact .inl (.inl h)
  ·rcases h with ⟨t',n',h⟩ | ⟨t',n',H1,h,h2⟩
   ·rcases hf _ _ _ h with ⟨_,_,e⟩ | ⟨_,h⟩
    ·subst e; exact .inr (O.main ic)
    ·exact .inl (.inr (.inl (.inl ⟨t',n',h⟩)))
   ·rcases ho _ _ _ h with ⟨_,_,e⟩ | ⟨_,h⟩
    ·simp_all
    ·exact .inl (.inr (.inl (.inr ⟨t',n',H1,h,h2⟩)))
  ·exact .inl (.inr (.inr h))
theorem SQ {s:aA} {cl:Cl}:∀ {xs:List CB} {vs:List AV},IE s cl xs=some vs->IK vs=false
 | [],vs,h=>by injection h with h; subst h; rfl
 | x :: r,vs,h=>by
  unfold IE at h;split at h
  ·rename_i v us hv hr;injection h with h;subst h;cases v with
   | undef =>
    exfalso;unfold gG at hv;split at hv
    ·obtain ⟨_,_,hv⟩:=yg.1 hv; cases hv
    unfold qT at hv;split at hv
    ·split at hv
     ·obtain ⟨_,_,hv⟩:=yg.1 hv; cases hv
     ·cases hv
    ·injection hv with hv; cases hv
    ·injection hv with hv; cases hv
    ·split at hv
     ·injection hv with hv; cases hv
     ·cases hv
    ·split at hv
     ·rename_i hf; injection hv with hv; rw [hv] at hf; cases hf
     ·cases hv
   | _=>rfl
  ·cases h
section
variable (R:dC P O nt B F0 da w0 D s a w ι Θ) {call:DB} (ua:∀ f args S r,call f args S=some r->tD P O f args S r)
include R call ua
theorem op_call {f:FuncId} {Xs:Array Operand} {ts:Array TypeId} {xs:List CB} (hx:bH Xs.toList=some xs) (ho:o.op=.call { callee:=.value (.func f),args:=Xs,argTypes:=ts }) (hd:∀ d,o.dst=some d->d<nt) (hD:∀ d,o.dst=some d->¬ D d) {cl:Cl} {xe:rA × nD} (hr:(K.call cl f xs).run call s=some xe) {g} {s':aA} (he:PA.eff ⟨o.dst,.call cl f xs,g⟩ s xe=some s')
  {Kn:Act->World->Prop} {Q:Exit->Act->World->Prop} (hK:∀ a' w',CD P O nt B F0 da w0 (fun t=>D t\/o.dst=some t) s' a' w'->Kn a' w'):o.wp P a w Kn Q:=by
 simp only [K.run] at hr;obtain ⟨vs,hl,hr⟩:=yb.1 hr;have sg:(Xs.toList.map a.eval).toArray=Xs.map a.eval:=by rw [<- Array.toList_map,yS]
 have run:∀ {S0:Option AV} {r:RV},R4 P O f vs S0 r->(execOp a.eval o).run P w=.ok (.enter f (Xs.map a.eval)) w:=fun h=>by
  simp only [execOp,ho,resolve,Act.eval,Deferred.ofValue,Sem.run_bind,Sem.run_pure,Result.andThen_ok,invoke];have:=h.1 (#[]++Xs.map a.eval++#[]) w;simp_all
 have xg:∀ b o,AC da ι Θ b o->b<w.heap.size:=fun b o h=>R.low h
 split at hr
 ·rename_i ij;have nob:∀ x∈xs,∀ t n,x.get s=.ptr t n 0->False:=fun x hx t n h=>by
   have:(t,n)∈NJ s xs:=List.mem_filterMap.2 ⟨x,hx,by rw [h]⟩;simp_all
  have fc:=WL (ι':=Ix.none) (avl:=fun _ _=>False) R (fun _ _ h=>h.elim) hx hl fun x hx t n h=>(nob x hx t n h).elim
  obtain ⟨r,hc,hr⟩:=yb.1 hr;have na:=(tD.of (SQ hl)).1 (ua f vs none r hc);obtain ⟨r1,r2⟩:=r;unfold Oper.wp;rw [run na,Oper.upon_enter];cases r2 with
  | none =>
   simp only at hr;split at hr
   ·cases hr;simp only [PA.eff] at he;cases he;have hC:=na.2 (AC da ι Θ) w _ xg fc;rw [sg] at hC;refine hC.mono ?_;rintro e w' ⟨v,rfl,hv,hb⟩;have R':dC P O nt B F0 da w0 D s a w' ι Θ:=R.grow (fun b sa=>hb.block b sa) hb.size (R.kept.trans_below hb);exact hK _ _ ⟨ι,Θ,(R'.putN (x:=⟨_,.no⟩) hd (BN hv) trivial).more fun _ h=>.inl h⟩
   ·cases hr
  | some S' =>
   simp only at hr;split at hr
   ·rename_i jq;cases hr;simp only [PA.eff] at he;split at he
    ·cases he
    ·rename_i d ca;cases he;have hC:=na.2 (AC da ι Θ) w _ xg fc;rw [sg] at hC;refine hC.mono ?_;rintro e w' ⟨v,p,H',rfl,hv,ic,hH,hb⟩;obtain ⟨ι',R2,hι,zd⟩:=R.newObj (d:=d) hb (hD d ca) ic (Q6.no jq.2.2) hH;rw [ca];refine hK _ _ ⟨ι',Θ,(R2.put (x:=⟨_,.no⟩) (hd d ca) (named_rep (N9.held zd hv) hι jq.1) trivial).more fun t h=>h.imp id fun e=>by rw [ca,e]⟩
   ·cases hr
 ·rename_i t n nk;obtain ⟨r,hc,hr⟩:=yb.1 hr;obtain ⟨r1,r2⟩:=r;cases r2 with
  | none=>cases hr
  | some S' =>
   simp only at hr;split at hr
   ·rename_i aa;cases hr;simp only [PA.eff] at he;cases he;obtain ⟨S,hS⟩:=Option.isSome_iff_exists.1 aa.2.1;rw [hS] at hc;have na:=(tD.of (SQ hl)).1 (ua f vs (some S) _ hc);obtain ⟨p,H,hp,zb,ic,_⟩:=R.objs t n S hS;have fc:=WL (ι':=Ix.one p) (avl:=fun b _=>H b) R (fun b _ h=>⟨t,n,H,zb,h⟩) hx hl fun x hx t' n' h=>by
     have:(t',n')∈NJ s xs:=List.mem_filterMap.2 ⟨x,hx,by rw [h]⟩;rw [nk] at this;have:=yL.1 this;injection this with e1 e2;rw [e1,e2,hp];rfl
    unfold Oper.wp;rw [run na,Oper.upon_enter];have hC:=na.2 (AC da ι Θ) w _ p H xg (fun b o h=>.inr (.inl (.inr ⟨t,n,H,zb,h⟩))) ic fc;rw [sg] at hC;refine hC.mono ?_;rintro e w' ⟨v,H',rfl,hv,dj,hH,hk⟩;obtain ⟨ι',R',zd⟩:=R.turnObj hp zb dj (Q6.no aa.2.2) hH hk;refine hK _ _ ⟨ι',Θ,(R'.putN (x:=⟨_,.no⟩) hd (BN (bE.held zd _ _ hv)) trivial).more fun _ h=>.inl h⟩
   ·cases hr
 ·cases hr
theorem op_callv {tf:Nat} {Xs:Array Operand} {ts:Array TypeId} {xs:List CB} (hx:bH Xs.toList=some xs) (ho:o.op=.call { callee:=.value (.tmp tf),args:=Xs,argTypes:=ts }) (hd:∀ d,o.dst=some d->d<nt) {cl:Cl} {xe:rA × nD} (hr:(K.callv cl (.t tf) xs).run call s=some xe) {g} {s':aA} (he:PA.eff ⟨o.dst,.callv cl (.t tf) xs,g⟩ s xe=some s')
  {Kn:Act->World->Prop} {Q:Exit->Act->World->Prop} (hK:∀ a' w',CD P O nt B F0 da w0 (fun t=>D t\/o.dst=some t) s' a' w'->Kn a' w'):o.wp P a w Kn Q:=by
 simp only [K.run,CB.get] at hr;have hF:=R.env tf;split at hr
 ·rename_i f cs kt;rw [kt] at hF;obtain ⟨us,pd,di⟩:=hF;split at hr
  ·rename_i vs ws hl hw ij;have xg:∀ b o,AC da ι Θ b o->b<w.heap.size:=fun b o h=>R.low h
   have nob:∀ x∈xs,∀ t n,x.get s=.ptr t n 0->False:=fun x hx t n h=>by
    have:(t,n)∈NJ s xs:=List.mem_filterMap.2 ⟨x,hx,by rw [h]⟩;simp_all
   have fc:=WL (ι':=Ix.none) (avl:=fun _ _=>False) R (fun _ _ h=>h.elim) hx hl fun x hx t n h=>(nob x hx t n h).elim
   have hcaps:=J1 (IU hw) (DR (ι':=Ix.none) (avl:=fun _ _=>False) R (fun _ _ h=>h.elim) di hw);have za:=GV fc hcaps;obtain ⟨r,hc,hr⟩:=yb.1 hr;have hm:IK (vs++ws)=false:=by
    cases vs with
    | cons v r=>have:=SQ hl; cases v <;> first | rfl | exact this
    | nil =>
     cases ws with
     | nil=>rfl
     | cons v r =>
      have:=IU hw v (yk);cases v <;> first | rfl | (simp [AV.capOk] at this; done)
   have na:=(tD.of hm).1 (ua f (vs++ws) none r hc);obtain ⟨r1,r2⟩:=r;cases r2 with
   | some S'=>cases hr
   | none =>
    simp only at hr;split at hr
    ·cases hr;simp only [PA.eff] at he;cases he;have sg:(Xs.toList.map a.eval++us.toList).toArray=Xs.map a.eval++us:=by
      simp_all
     have run:(execOp a.eval o).run P w=.ok (.enter f (Xs.map a.eval++us)) w:=by
      have hev:a.eval (.tmp tf)=.func (.func f) #[] us:=pd;simp only [execOp,ho,resolve,hev,Deferred.ofValue,Sem.run_bind,Sem.run_pure,Result.andThen_ok,invoke];have:=na.1 (#[]++Xs.map a.eval++us) w;simp_all
     unfold Oper.wp;rw [run,Oper.upon_enter];have hC:=na.2 (AC da ι Θ) w _ xg za;rw [sg] at hC;refine hC.mono ?_;rintro e w' ⟨v,rfl,hv,hb⟩;have R':dC P O nt B F0 da w0 D s a w' ι Θ:=R.grow (fun b sa=>hb.block b sa) hb.size (R.kept.trans_below hb);exact hK _ _ ⟨ι,Θ,(R'.putN (x:=⟨_,.no⟩) hd (BN hv) trivial).more fun _ h=>.inl h⟩
    ·cases hr
  ·cases hr
 ·cases hr
end
theorem val_rstr (R:dC P O nt B F0 da w0 D s a w ι Θ) {t t':TypeId} {k:IntKind} (ht:P.underlying t=some (.int k)) (ht':P.underlying t'=some .string) {X:Operand} {x:CB} (hx:opd X=some x) (ho:o.op=.convert t t' X)
  {call} {y:rA} {e:nD} (hr:(K.rstr x).run call s=some (y,e)):e=.none/\lS P da a w ι Θ o y:=by
 have hX:=(R.opd hx).1;simp only [K.run] at hr;split at hr
 ·rename_i k' n hy;injection hr with hr; injection hr with h1 h2; subst h1; subst h2;rw [hy,jB] at hX;exact ⟨rfl,.string (Utf8.encode n),by simp [execOp,ho,convert,run_underlying ht,run_underlying ht',hX,Conv.intToString],by rw [GG],trivial⟩
 ·cases hr
theorem cS {av:Av}:∀ {m:List (List AV)} {bs:List UInt8} {us:List Value},bytesOf m=some bs->DC av w m.flatten us->∃ ns:List Int,us=ns.map (Value.int .u8)/\bs=ns.map (fun n=>UInt8.ofNat n.toNat)/\∀ c∈m,c.length=1
 | [],bs,us,hb,h=>by
  injection hb with hb;subst hb;cases h;exact ⟨[],rfl,rfl,by simp⟩
 | c :: r,bs,us,hb,h=>by
  unfold bytesOf at hb;split at hb
  ·rename_i n l hr;injection hb with hb;subst hb;simp only [yC,yx,yK,DC] at h;obtain ⟨u,oa,rfl,h0,_,h⟩:=h;obtain ⟨ns,e1,e2,e3⟩:=cS hr h;refine ⟨n :: ns,?_,by rw [e2]; rfl,?_⟩
   ·simp only [bE] at h0;rw [h0,e1]; rfl
   ·intro c hc;rcases yc.1 hc with rfl | hc
    ·rfl
    ·exact e3 c hc
  ·cases hb
theorem F3:∀ (ns:List Int) (acc:ByteArray),ns.foldl (fun r n=>r.push (UInt8.ofNat n.toNat)) acc=⟨acc.data++(ns.map fun n=>UInt8.ofNat n.toNat).toArray⟩
 | [],acc=>by simp
 | n :: r,acc=>by
  rw [List.foldl_cons,F3 r];congr 1;apply Array.ext';simp [ByteArray.push]
theorem val_bstr (R:dC P O nt B F0 da w0 D s a w ι Θ) {t t' e':TypeId} (ht:P.underlying t=some (.slice e')) (th:P.underlying e'=some (.int .u8)) (ht':P.underlying t'=some .string) {X:Operand} {x:CB} (hx:opd X=some x) (ho:o.op=.convert t t' X)
  {call} {cl:Cl} {y:rA} {e:nD} (hr:(K.bstr cl x).run call s=some (y,e)):e=.none/\lS P da a w ι Θ o y:=by
 have hX:=(R.opd hx).1;simp only [K.run] at hr;split at hr
 ·rename_i m hm;obtain ⟨bs,ph,hr⟩:=yg.1 hr;injection hr with h1 h2; subst h1; subst h2;have hlen1:∀ c∈m,c.length=1:=by
   clear hX hm hr
   induction m generalizing bs with
   | nil=>simp
   | cons c r ih =>
    unfold bytesOf at ph
    grind
  obtain ⟨us,lc,hl,A,c,hv,hc,gc⟩:=ZM R hX hm (sz:=1) (by omega) hlen1;obtain ⟨ns,e1,e2,_⟩:=cS ph lc;refine ⟨rfl,.string ⟨bs.toArray⟩,?_,by rw [GG],trivial⟩;have hns:ns.length=m.length:=by rw [e1] at hl; simpa using hl
  simp only [execOp,ho,hv,Sem.run_bind];rw [run_convert_bytes_string w t t' e' A m.length c ht th ht'];cases A with
  | none =>
   rcases yG m.length with h0 | h0
   ·have:ns=[]:=yF (by omega);subst this;subst e2;simp [Conv.bytesToString];rfl
   ·simp_all
  | some a' =>
   have od:(loadCells a' m.length).run P w=.ok (ns.map (Value.int .u8)).toArray w:=by
    have:=run_loadCells_list (P:=P) w a' (ns.map (Value.int .u8)) (fun j v hj=>by
     have bm:j<m.length:=by
      grind
     obtain ⟨b,off,hA,_,_,jd⟩:=gc (by omega);cases hA;rw [Addr.add_lit];rw [<- e1] at hj;exact jd j v hj)
    simp_all
   rw [run_bytesToString w a' m.length c ns od,F3];simp_all
 ·cases hr
theorem O1 {t e:TypeId} {z n:Nat} (ht:P.underlying t=some (.array n e)) (hz:gC P e=some z) {b off:Nat} {L H:Option Operand} {l h:Nat} (hl:DX a 0 L (L.map a.eval,l)) (hh:DX a n H (H.map a.eval,h)) (h1:l<=h) (h2:h<=n) :
  (Instr.sliceAt t (.pointer (some ⟨b,off,none⟩)) (L.map a.eval) (H.map a.eval) none).run P w=.ok (.slice (some (if n=l then ⟨b,off,none⟩ else ⟨b,off + l * z,none⟩)) (h - l) (n - l)) w:=by
 cases L with
 | none =>
  obtain ⟨_,rfl⟩:=hl;cases H with
  | none =>
   obtain ⟨_,rfl⟩:=hh;simp [Instr.sliceAt,Instr.sureAddr,Instr.sliceBounds,run_underlying ht,nC hz,Addr.add_lit]
  | some x =>
   obtain ⟨_,k,i,hx,h0,rfl⟩:=hh;have:0<=i/\i<=(n:Int):=⟨h0,by omega⟩;simp [Instr.sliceAt,Instr.sureAddr,Instr.sliceBounds,Instr.sliceBound,run_underlying ht,nC hz,hx,asIntOf,this,Addr.add_lit]
 | some y =>
  obtain ⟨_,k',i',hy,sf,rfl⟩:=hl;cases H with
  | none =>
   obtain ⟨_,rfl⟩:=hh;have:0<=i'/\i'<=(h:Int):=⟨sf,by omega⟩;simp [Instr.sliceAt,Instr.sureAddr,Instr.sliceBounds,Instr.sliceBound,run_underlying ht,nC hz,hy,asIntOf,this,Addr.add_lit]
  | some x =>
   obtain ⟨_,k,i,hx,h0,rfl⟩:=hh;have h3:0<=i/\i<=(n:Int):=⟨h0,by omega⟩;have h4:0<=i'/\i'<=i:=⟨sf,by omega⟩;have h5:((i.toNat:Nat):Int)=i:=by omega
   simp [Instr.sliceAt,Instr.sureAddr,Instr.sliceBounds,Instr.sliceBound,run_underlying ht,nC hz,hy,hx,asIntOf,h3,h4,h5,Addr.add_lit]
section
variable (R:dC P O nt B F0 da w0 D s a w ι Θ)
include R
theorem val_aslc {t e':TypeId} {n z:Nat} (ht:P.underlying t=some (.array n e')) (hz:gC P e'=some z) {X:Operand} {L H:Option Operand} {x:CB} {l h:Option CB} (hx:opd X=some x) (hl:KW L=some l) (hh:KW H=some h)
  (ho:o.op=.slice t X L H none) {call} {cl:Cl} {y:rA} {e:nD} (hr:(K.aslc cl n z x l h).run call s=some (y,e)):e=.none/\lS P da a w ι Θ o y:=by
 have hX:=(R.opd hx).1;simp only [K.run] at hr;split at hr
 ·rename_i t' n' off hy;split at hr
  ·rename_i lo hi r jy gp hm;have hL:=FK R hl jy;have hH:=FK R hh gp;rw [hy,AF] at hX;obtain ⟨b,hb,hv⟩:=hX;obtain ⟨_,b',cur,ty,sa,la,ka,_,so⟩:=R.rows t' n' r hm;rw [hb] at sa;injection sa with sa;subst sa;split at hr
   ·rename_i aa;obtain ⟨h1,h2,bc,h3,_⟩:=aa;have ia:=O1 (w:=w) (b:=b) (off:=off) ht hz hL hH h1 h2;split at hr
    ·rename_i ur;injection hr with hr; injection hr with e1 e2; subst e1; subst e2;refine ⟨rfl,.slice (some (if n=lo then ⟨b,off,none⟩ else ⟨b,off + lo * z,none⟩)) (hi - lo) (n - lo),by simp only [execOp,ho,hv,Option.map_none,Sem.run_bind,ia,Result.andThen_ok,Sem.run_pure],?_,trivial⟩;simp only [XD,bE];refine ⟨some (if n=lo then ⟨b,off,none⟩ else ⟨b,off + lo * z,none⟩),n - lo,by rw [ur]; simp,by simp,by simp,by simp,fun _=>⟨by simp,by simp⟩⟩
    ·rename_i ta;injection hr with hr; injection hr with e1 e2; subst e1; subst e2;refine ⟨rfl,.slice (some (if n=lo then ⟨b,off,none⟩ else ⟨b,off + lo * z,none⟩)) (hi - lo) (n - lo),by simp only [execOp,ho,hv,Option.map_none,Sem.run_bind,ia,Result.andThen_ok,Sem.run_pure],?_,trivial⟩;rw [nH];refine ⟨b,hb,by omega,n - lo,yf _,?_,by rw [if_neg (by omega)]⟩;have:(n - lo) * z + lo * z=n * z:=by rw [<- Nat.add_mul]; congr 1; omega
     have:=ka.1;omega
   ·cases hr
  ·cases hr
 ·cases hr
theorem val_mkf {f:FuncId} {fs Xs:Array Operand} (hfs:fs.size=0) {xs:List CB} (hx:bH Xs.toList=some xs) (ho:o.op=.makeFunc (.func f) fs Xs)
  {call} {y:rA} {e:nD} (hr:(K.mkf f xs).run call s=some (y,e)):e=.none/\lS P da a w ι Θ o y:=by
 simp only [K.run] at hr;split at hr
 ·rename_i za;injection hr with hr; injection hr with e1 e2; subst e1; subst e2;have key:∀ {Xs:List Operand} {xs:List CB},bH Xs=some xs->xs.all (fun x=>(x.get s).capOk)=true->tH ι (AC da ι Θ) (SC ι Θ) w (xs.map (·.get s)) (Xs.map a.eval):=by
   intro Xs
   induction Xs with
   | nil=>intro xs h _; injection h with h; subst h; rfl
   | cons X r ih =>
    intro xs h hc;unfold bH at h;split at h
    ·rename_i x l h1 h2;cases h;simp only [List.all_cons,y7] at hc;refine ⟨_,_,rfl,?_,ih h2 hc.2⟩;have hX:=(R.opd h1).1;have hk:=hc.1;show kW ι (AC da ι Θ) (SC ι Θ) w (x.get s) (a.eval X);cases hg:x.get s <;> rw [hg] at hX hk <;> first | exact hX | (simp [AV.capOk] at hk; done)
    ·cases h
  have hfs0:fs=#[]:=Array.eq_empty_of_size_eq_zero hfs;refine ⟨rfl,.func (.func f) #[] (Xs.map a.eval),by simp [execOp,ho,Instr.makeFunc,hfs0],⟨Xs.map a.eval,rfl,?_⟩,trivial⟩;simp_all
 ·cases hr
theorem dC.turnRow {t n b:Nat} (hb:ι t n=some b) (dd:ι.ob t n=none) {r:List rA} {new:Array Value} {dr:TypeId} (ic:w'.heap[b]?=some (.cells new dr (0,0))) (hk:QC (fun k=>k=b) w w') (ka:BD ι Θ (AC da ι Θ) w' r new) (fj:B<=b\/F0.r b) (hnz:new.size=ι.z b) :
  dC P O nt B F0 da w0 D (s.setRow t n r) a w' ι Θ:=by
 have ta:∀ b',b'<w.heap.size->b'≠b->w'.heap[b']?=w.heap[b']?:=fun b' h1 h=>hk.block b' h1 h
 have hB:XA (SC ι Θ) (SC ι Θ) w w':=⟨fun b' o u hc hn=>by
  have:b'≠b:=fun e=>hn (.inl (.inl ⟨t,n,e ▸ hb⟩))
  exact ⟨(World.cell?_of_block (w:=w) (a:=⟨b',o,none⟩) (ta b' (SI hc) this)).trans hc,hn⟩⟩
 have hA:XA (AC da ι Θ) (AC da ι Θ) w w':=⟨fun b' o u hc hn=>by
  have:b'≠b:=fun e=>hn (.inr (.inl (.inl ⟨t,n,e ▸ hb⟩)))
  exact ⟨(World.cell?_of_block (w:=w) (a:=⟨b',o,none⟩) (ta b' (SI hc) this)).trans hc,hn⟩⟩
 have bv:=R.mine t n b hb;have ma:=hk.size;refine ⟨R.defers,R.size,fun t=>NA.held (Ix.Le.refl _) hA hB _ _ (R.env t),R.ann,fun t' n' r' hr=>?_,fun t n b h=>?_,R.inj,fun k o h=>?_,R.tinj,R.apart,R.out,R.pin,?_,R.base,fun t' n' S h=>?_,fun t n H h=>(R.obs t n H h).grow ma,fun t=>NA.held (Ix.Le.refl _) hA hB _ _ (R.gen t),R.gann⟩
 ·simp only [aA.setRow] at hr;split at hr
  ·rename_i e;simp_all
  ·rename_i e;obtain ⟨h0,b',wb,dr,h1,h2,h3,h4⟩:=R.rows t' n' r' hr;have:b'≠b:=fun e'=>e (R.inj _ _ _ _ _ (e' ▸ h1) hb)
   exact ⟨h0,b',wb,dr,h1,(ta b' (TA h2) this).trans h2,h3.held (Ix.Le.refl _) hA (fun _ _ h=>h),h4⟩
 ·obtain ⟨h1,h2,h3⟩:=R.mine t n b h;exact ⟨h1,by omega,h3⟩
 ·obtain ⟨h1,h2,h3,h4,wb,h5,h6⟩:=R.tok k o h;have:o.g≠b:=fun e=>R.apart k o t n h (e ▸ hb)
  grind
 ·refine R.kept.trans hk fun i hi h=>?_
  subst h;rcases bv.1 with h | h
  ·have:=R.base; omega
  ·exact h
 ·obtain ⟨p,H,h1,h2,h3,h4⟩:=R.objs t' n' S h;have sq:∀ b',H b'->b'≠b:=fun b' hH e=>by
   subst e;have:=((R.obs _ _ _ h2).1 _ hH).2.2.1 t n hb;simp_all
  exact ⟨p,H,h1,h2,O.keep h3 (fun b' hH=>ta b' (O.lt h3 hH) (sq b' hH)) ma,h4.keep (fun t n b H h g=>⟨h,H,g⟩) fun x hx=>(ta _ (TA hx) (sq _ (O.main h3))).trans hx⟩
end
theorem kY (R:dC P O nt B F0 da w0 D s a w ι Θ) {t n p z:Nat} (hp:ι t n=some p) (hz:ι.z p=z) {cl:Cl}:∀ {Xs:List Operand} {xs:List CB} {vs:List AV},bH Xs=some xs->pD s cl t n xs=some vs->gL (Ix.row p z) (AC da ι Θ) (fun b _=>b=p) w vs (Xs.map a.eval)
 | [],xs,vs,h,hl=>by
  injection h with h;subst h;injection hl with hl;subst hl;rfl
 | X :: Xs,xs,vs,h,hl=>by
  unfold bH at h;split at h
  ·rename_i x l hx hr;injection h with h;subst h;unfold pD at hl;split at hl
   ·rename_i v xt hv gg;injection hl with hl;subst hl;refine ⟨_,_,rfl,?_,kY R hp hz hr gg⟩;have hX:=(R.opd hx).1;have hB:∀ (b o:Nat),b=p->SC ι Θ b o:=fun b o h=>.inl (.inl ⟨t,n,h ▸ hp⟩)
    unfold pG at hv;split at hv
    ·rename_i t' n' off hg;split at hv
     ·rename_i e;injection hv with hv;subst hv;rw [hg,e.1,e.2] at hX;obtain ⟨b,hb,hv⟩:=AF.1 hX;rw [hp] at hb;injection hb with hb;subst hb;exact ⟨p,rfl,hv⟩
     ·cases hv
    ·rename_i t' n' sz off len cap hg;split at hv
     ·rename_i e;injection hv with hv;subst hv;rw [hg,e.1,e.2] at hX;obtain ⟨b,hb,h1,c,h2,h3,hv⟩:=nH.1 hX;rw [hp] at hb;injection hb with hb;subst hb;exact ⟨p,rfl,h1,c,h2,by rw [hz] at h3; exact h3,hv⟩
     ·rename_i e;rw [hg] at hX;refine OU R hB (fun t1 n1 b o du _ ⟨sz1,off1,len1,cap1,hy⟩ h=>e ?_) hX hv fun t n h=>by cases h
      injection hy with e1 e2;subst h;exact R.inj _ _ _ _ _ (by rw [e1,e2]; exact du) hp
    ·rename_i f cs hg;split at hv
     ·rename_i hc;injection hv with hv;subst hv;rw [hg,List.isEmpty_iff.1 hc] at hX;exact hX
     ·cases hv
    ·rename_i y h1 h2 h3;exact OU R hB (fun t1 n1 b o _ _ ⟨sz1,off1,len1,cap1,hy⟩=>absurd hy (h2 _ _ _ _ _ _)) hX hv fun t n h=>absurd h (h1 _ _ _)
   ·cases hl
  ·cases h
theorem row_ofz {av:Av} {cs:List AV} {us:List Value} (h:DC av w cs us) {cur:Array Value} (hc:∀ (j:Nat) (u:Value),us[j]?=some u->cur[j]?=some u):BD ι Θ av w (cs.map fun v=>⟨v,rB v⟩) cur:=by
 have h0:=row_of (ι:=ι) (Θ:=Θ) h hc;refine ⟨by simpa using h0.1,fun j x hx=>?_⟩;rw [y8] at hx;obtain ⟨v,hv,rfl⟩:=yg.1 hx;obtain ⟨u,h1,h2,h3,_⟩:=h0.2 j ⟨v,.no⟩ (by rw [y8,hv]; rfl);refine ⟨u,h1,h2,h3,?_⟩;unfold rB;split
 ·rename_i b l hh;simp only at h3;obtain ⟨A,c,hv,_,_,hn,_⟩:=(by simpa [BA,bE] using h3:bE av w (.sl true _) u);obtain ⟨rfl,e1,rfl⟩:=hn rfl;exact ⟨none,0,by rw [hv,e1]⟩
 ·trivial
theorem op_callr (R:dC P O nt B F0 da w0 D s a w ι Θ) {call:DB} (ua:∀ f args S r,call f args S=some r->tD P O f args S r) {f:FuncId} {Xs:Array Operand} {ts:Array TypeId} {xs:List CB} (hx:bH Xs.toList=some xs) (ho:o.op=.call { callee:=.value (.func f),args:=Xs,argTypes:=ts }) (hd:∀ d,o.dst=some d->d<nt) {cl:Cl} {xe:rA × nD} (hr:(K.callr cl f xs).run call s=some xe) {g} {s':aA} (he:PA.eff ⟨o.dst,.callr cl f xs,g⟩ s xe=some s')
  {Kn:Act->World->Prop} {Q:Exit->Act->World->Prop} (hK:∀ a' w',CD P O nt B F0 da w0 (fun t=>D t\/o.dst=some t) s' a' w'->Kn a' w'):o.wp P a w Kn Q:=by
 simp only [K.run] at hr;split at hr
 ·rename_i t n _;split at hr
  ·split at hr
   ·rename_i r vs hm hl;split at hr
    ·rename_i za;obtain ⟨q,hc,hr⟩:=yb.1 hr;split at hr
     ·rename_i cs hq;split at hr
      ·rename_i aa;cases hr;simp only [PA.eff] at he;cases he;obtain ⟨q1,q2⟩:=q;simp only at hq;subst hq;obtain ⟨dd,p,cur,ty,hp,la,ka,fj,so⟩:=R.rows t n r hm;have na:U4 P f vs (some (.agg (r.map (·.v)))) (q1,some (.agg cs)):=ua f (.undef :: .undef :: vs) _ _ hc;have af:∀ x∈r.map (·.v),x.free0=true:=fun x hx=>by
        grind
       have sg:(Xs.toList.map a.eval).toArray=Xs.map a.eval:=by rw [<- Array.toList_map,yS]
       have run:(execOp a.eval o).run P w=.ok (.enter f (Xs.map a.eval)) w:=by
        simp only [execOp,ho,resolve,Act.eval,Deferred.ofValue,Sem.run_bind,Sem.run_pure,Result.andThen_ok,invoke];have:=na.1 (#[]++Xs.map a.eval++#[]) w;simp_all
       unfold Oper.wp;rw [run,Oper.upon_enter];have hC:=na.2 (AC da ι Θ) w _ p cur ty (fun b o h=>R.low h) (fun o=>.inr (.inl (.inl ⟨t,n,hp⟩))) la (by simpa using ka.1) (by simpa using EH ka.rep af) (kY R hp so.symm hx hl);rw [sg] at hC;refine hC.mono ?_;rintro e w' ⟨v,wb,dr,rfl,hv,zo,ma,lc,hk⟩;have ni:BD ι Θ (AC da ι Θ) w' (cs.map fun v=>⟨v,rB v⟩) wb:=row_ofz lc fun j u hu=>by
        grind
       have R':=R.turnRow hp dd zo hk ni fj (ma.trans so);exact hK _ _ ⟨ι,Θ,(R'.putN (x:=⟨_,.no⟩) hd (BN hv) trivial).more fun _ h=>.inl h⟩
      ·cases hr
     ·cases hr
    ·cases hr
   ·cases hr
  ·cases hr
 ·cases hr
end
end
section
open Go Go.RowKit
section
variable {P:Program} {O:GI} {nt B:Nat} {F0:cP} {da:Av} {w0:World} {D:Nat->Prop} {s:aA} {a:Act} {w w':World} {ι:Ix} {Θ:IL} {o:Oper}
theorem lO {av:Av} {x:AV} (h:x.scal=true):bE av w x x.scalV/\x.scalV.oneCell'=true:=by
 cases x <;> first | (simp [AV.scal] at h; done) | exact ⟨rfl,rfl⟩
theorem UV {av:Av}:∀ {cs:List AV},cs.all AV.scal=true->DC av w cs (cs.map AV.scalV)
 | [],_=>rfl
 | x :: r,h=>by
  simp only [List.all_cons,y7] at h;exact ⟨_,_,rfl,(lO h.1).1,(lO (av:=av) (w:=w) h.1).2,UV h.2⟩
theorem uO {av:Av} {x:AV} (h:x.flat=true):bE av w x x.flatV:=by
 cases x with
 | agg cs=>exact ⟨_,rfl,by simpa using UV (av:=av) (w:=w) h⟩
 | int k n=>exact (lO (x:=.int k n) rfl).1
 | bool b=>exact (lO (x:=.bool b) rfl).1
 | str b=>exact (lO (x:=.str b) rfl).1
 | _=>simp [AV.flat,AV.scal] at h
theorem flat_S {av avb:Av} {x:AV} (h:x.flat=true):NA ι av avb w x x.flatV:=by
 have h1:=uO (av:=av) (w:=w) h;cases x with
 | agg cs=>obtain ⟨us,hv,hc⟩:=h1; exact ⟨us,hv,mD hc⟩
 | _=>first | exact h1 | (simp [AV.flat,AV.scal] at h; done)
theorem JS {av avb:Av} {x:AV} {v:Value} (hf:x.flat=true) (h:NA ι av avb w x v):v=x.flatV:=by
 cases x with
 | agg cs =>
  obtain ⟨us,hv,hc⟩:=h;subst hv;have key:∀ {cs:List AV} {us:List Value},cs.all AV.scal=true->KA ι av w cs us->us=cs.map AV.scalV:=by
   intro cs
   induction cs with
   | nil=>intro us _ h; simpa [KA] using h
   | cons x r ih =>
    intro us hf h;simp only [KA] at h;obtain ⟨u,oa,rfl,h0,_,h⟩:=h;simp only [List.all_cons,y7] at hf;rw [yl,ih hf.2 h];congr 1;cases x <;> first | exact h0 | (simp [AV.scal] at hf; done)
  have:=key hf hc;show Value.agg us=.agg (cs.map AV.scalV).toArray;rw [<- this,yS]
 | int k n=>exact h
 | bool b=>exact h
 | str b=>exact h
 | _=>simp [AV.flat,AV.scal] at hf
theorem avC_flat {v:Value} {x:AV} (h:avC v=some x) (hf:x.flat=true):v=x.flatV :=
 JS (ι:=Ix.none) (av:=fun _ _=>False) (avb:=fun _ _=>False) (w:=default) hf (avC_rep h _ _ _ _)
theorem ba_beq (a b:ByteArray):(a == b)=decide (a=b):=by
 obtain ⟨a⟩:=a;obtain ⟨b⟩:=b;rw [Bool.eq_iff_iff];simp only [decide_eq_true_eq,ByteArray.mk.injEq];exact beq_iff_eq (α:=Array UInt8)
def SG {κ:Type} [DecidableEq κ] (L:List (κ × Value)) (n:κ) (m:Nat):Option (Nat × Value):=((L.map (·.1)).idxOf? n).bind fun i=>(L[i]?).map fun p=>(m + i,p.2)
theorem FN {κ:Type} [DecidableEq κ] (p:κ × Value) (L:List (κ × Value)) (n:κ) (m:Nat):SG (p :: L) n m=if n=p.1 then some (m,p.2) else SG L n (m + 1):=by
 unfold SG;simp only [yl,List.idxOf?_cons];by_cases hk:n=p.1
 ·subst hk; simp
 ·have hb:(p.1 == n)=false:=by simpa using fun e:p.1=n=>hk e.symm
  simp only [hb,hk,if_false];cases hi:List.idxOf? n (List.map (fun x=>x.1) L) with
  | none=>simp
  | some i=>simp [Nat.add_assoc,Nat.add_comm 1 i]
theorem eW (k:IntKind) (n:Int):∀ (es:List MapEntry) (L:List (Int × Value)) (m:Nat),es.map (fun e=>(e.key,e.val))=L.map (fun p=>(Value.int k p.1,p.2)) →
   Instr.findNow (.int k) (.int k n) es m=some (SG L n m)
 | [],[],m,_=>by simp [Instr.findNow,SG]
 | [],_ :: _,_,h=>by simp at h
 | _ :: _,[],_,h=>by simp at h
 | e :: es,p :: L,m,h=>by
  simp only [yl,List.cons.injEq,Prod.mk.injEq] at h;obtain ⟨⟨h1,h2⟩,h3⟩:=h;have ih:=eW k n es L (m + 1) h3;have hs:Instr.sameNow (.int k) (.int k n) e.key=some (n == p.1):=by rw [h1]; simp [Instr.sameNow]
  simp only [Instr.findNow,hs,FN];by_cases hk:n=p.1
  ·subst hk; simp [h2]
  ·have sa:(n == p.1)=false:=by simpa using hk
   simp only [sa,ih,hk,if_false]
theorem rW (n:ByteArray):∀ (es:List MapEntry) (L:List (ByteArray × Value)) (m:Nat),es.map (fun e=>(e.key,e.val))=L.map (fun p=>(Value.string p.1,p.2)) →
   Instr.findNow .string (.string n) es m=some (SG L n m)
 | [],[],m,_=>by simp [Instr.findNow,SG]
 | [],_ :: _,_,h=>by simp at h
 | _ :: _,[],_,h=>by simp at h
 | e :: es,p :: L,m,h=>by
  simp only [yl,List.cons.injEq,Prod.mk.injEq] at h;obtain ⟨⟨h1,h2⟩,h3⟩:=h;have ih:=rW n es L (m + 1) h3;have hs:Instr.sameNow .string (.string n) e.key=some (decide (n=p.1)):=by
   rw [h1];simp only [Instr.sameNow,ba_beq]
  simp only [Instr.findNow,hs,FN];by_cases hk:n=p.1
  ·subst hk; simp [h2]
  ·simp only [hk,decide_false,ih,if_false]
theorem j5 {T:TypeId} {k:IntKind} (u:P.underlying T=some (.int k)):SP P T (fun n:Int=>Value.int k n) where
 check empty n w:=by
  have hq:∀ (d:Nat),(Instr.checkKey empty (d + 1) T (.int k n)).run P w=.ok () w:=fun d=>by simp [Instr.checkKey,run_underlying u]
  exact hq 9999
 find n es L w h:=by
  simp only [Instr.findKey,Sem.run_bind,run_underlying u,Result.andThen_ok,eW k n es L 0 h,SG,yD,Sem.run_pure]
 same n:=by
  have hq:∀ (d:Nat),Instr.sameBits (d + 1) (.int k n) (.int k n)=true:=fun d=>by simp [Instr.sameBits]
  exact hq 9999
theorem l5 {T:TypeId} (u:P.underlying T=some .string):SP P T Value.string where
 check empty n w:=by
  have hq:∀ (d:Nat),(Instr.checkKey empty (d + 1) T (.string n)).run P w=.ok () w:=fun d=>by simp [Instr.checkKey,run_underlying u]
  exact hq 9999
 find n es L w h:=by
  simp only [Instr.findKey,Sem.run_bind,run_underlying u,Result.andThen_ok,rW n es L 0 h,SG,yD,Sem.run_pure]
 same n:=by
  have hq:∀ (d:Nat),Instr.sameBits (d + 1) (.string n) (.string n)=true:=fun d=>by simp [Instr.sameBits,ba_beq]
  exact hq 9999
structure pR (ty:KTy) (κ:Type) [DecidableEq κ] (ke:κ->Value) (kx:κ->AV):Prop where
 val:∀ a,(kx a).flatV=ke a
 eq:∀ a b,xR (kx a) (kx b)=decide (a=b)
 of:∀ x,uJ ty x=true->∃ a,x=kx a
 flat:∀ a,(kx a).flat=true
section
variable {κ:Type} [DecidableEq κ] {ke:κ->Value} {kx:κ->AV} {ty:KTy}
theorem d3 (K:pR ty κ ke kx) (n:κ):∀ M:List (κ × AV),UK (M.map fun p=>[kx p.1,p.2]) (kx n)=HL M n
 | []=>rfl
 | p :: r=>by
  simp only [yl,UK,HL,K.eq,decide_eq_true_eq,d3 K n r];by_cases h:p.1=n
  ·rw [if_pos h,if_pos h.symm]
  ·rw [if_neg h,if_neg fun e=>h e.symm]
theorem b3 (K:pR ty κ ke kx) (n:κ) (v:AV):∀ M:List (κ × AV),NI (M.map fun p=>[kx p.1,p.2]) (kx n) v=(I1 M n v).map fun p=>[kx p.1,p.2]
 | []=>rfl
 | p :: r=>by
  simp only [yl,NI,I1,K.eq,decide_eq_true_eq,b3 K n v r];by_cases h:p.1=n
  ·rw [if_pos h,if_pos h.symm]; rfl
  ·rw [if_neg h,if_neg fun e=>h e.symm]; rfl
theorem CX (g:AV->Value) (n:κ):∀ M:List (κ × AV),HL (M.map fun p=>(p.1,g p.2)) n=(HL M n).map g
 | []=>rfl
 | p :: r=>by
  simp only [yl,HL,CX g n r];split <;> rfl
theorem l9 (g:AV->Value) (n:κ) (v:AV):∀ M:List (κ × AV),I1 (M.map fun p=>(p.1,g p.2)) n (g v)=(I1 M n v).map fun p=>(p.1,g p.2)
 | []=>rfl
 | p :: r=>by
  simp only [yl,I1,l9 g n v r];split <;> rfl
theorem t3 (K:pR ty κ ke kx):∀ L:List (List AV),GN ty L=true->∃ M:List (κ × AV),L=M.map (fun p=>[kx p.1,p.2])/\∀ p∈M,p.2.flat=true
 | [],_=>⟨[],rfl,fun _ h=>by cases h⟩
 | e :: r,h=>by
  unfold GN at h;simp only [List.all_cons,y7] at h;obtain ⟨M,hM,hf⟩:=t3 K r h.2;have h1:=h.1;split at h1
  ·rename_i k v;simp only [y7] at h1;obtain ⟨n,rfl⟩:=K.of k h1.1;exact ⟨(n,v) :: M,by rw [hM]; rfl,fun p hp=>by
    rcases yc.1 hp with rfl | hp
    ·exact h1.2
    ·exact hf p hp⟩
  ·cases h1
theorem i3 (K:pR ty κ ke kx) (M:List (κ × AV)):(M.map fun p=>[kx p.1,p.2]).map entV=(M.map fun p=>(p.1,p.2.flatV)).map fun p=>(ke p.1,p.2):=by
 rw [y0,y0];apply yz;intro p _;simp [entV,K.val]
end
theorem RU (k:IntKind):pR (.some k) Int (fun n=>Value.int k n) (fun n=>.int k n) where
 val _:=rfl
 eq a b:=by simp [xR]
 of x h:=by
  cases x <;> first | (simp [uJ] at h; done) | (simp only [uJ,decide_eq_true_eq] at h; subst h; exact ⟨_,rfl⟩)
 flat _:=rfl
theorem TU:pR .none ByteArray Value.string AV.str where
 val _:=rfl
 eq a b:=by simp [xR]
 of x h:=by
  cases x <;> first | (simp [uJ] at h; done) | exact ⟨_,rfl⟩
 flat _:=rfl
inductive KV where
 | i (k:IntKind) (n:Int)
 | s (b:ByteArray)
 deriving DecidableEq
def KV.av:KV->AV
 | .i k n=>.int k n
 | .s b=>.str b
def KV.kd:KV->Option IntKind
 | .i k _=>some k
 | .s _=>none
abbrev AKey (l:List (Option IntKind)):={ a:List KV // a.map KV.kd=l }
theorem M2:∀ a b:List KV,aY (a.map KV.av) (b.map KV.av)=decide (a=b)
 | [],[]=>rfl
 | [],b :: r=>by cases b <;> rfl
 | a :: r,[]=>by cases a <;> rfl
 | a :: r,b :: r'=>by
  have ih:=M2 r r';cases a <;> cases b <;> simp [KV.av,aY,ih,Bool.decide_and]
theorem WU:∀ (l:List (Option IntKind)) (cs:List AV),MP l cs=true->∃ a:List KV,a.map KV.kd=l/\cs=a.map KV.av
 | [],[],_=>⟨[],rfl,rfl⟩
 | [],_ :: _,h=>by simp [MP] at h
 | k :: r,[],h=>by cases k <;> simp [MP] at h
 | k :: r,c :: cs,h=>by
  cases k with
  | none =>
   cases c <;> simp only [MP] at h <;> first | (cases h; done) | skip
   rename_i b;obtain ⟨a,h1,h2⟩:=WU r cs h;exact ⟨.s b :: a,by simp [KV.kd,h1],by simp [KV.av,h2]⟩
  | some k =>
   cases c <;> simp only [MP] at h <;> first | (cases h; done) | skip
   rename_i k' n;simp only [y7,decide_eq_true_eq] at h;obtain ⟨rfl,h⟩:=h;obtain ⟨a,h1,h2⟩:=WU r cs h;exact ⟨.i k n :: a,by simp [KV.kd,h1],by simp [KV.av,h2]⟩
theorem kv_scal (a:List KV):(a.map KV.av).all AV.scal=true:=by
 simp only [List.all_map,y6];intro x _;cases x <;> rfl
theorem EU (l:List (Option IntKind)):pR (.agg l) (AKey l) (fun a=>.agg ((a.1.map KV.av).map AV.scalV).toArray) (fun a=>.agg (a.1.map KV.av)) where
 val _:=rfl
 eq a b:=by
  simp only [xR,M2];by_cases h:a.1=b.1
  ·rw [decide_eq_true h,decide_eq_true (Subtype.ext h)]
  ·rw [decide_eq_false h,decide_eq_false fun e=>h (congrArg Subtype.val e)]
 of x h:=by
  cases x <;> first | (simp [uJ] at h; done) | skip
  rename_i cs;obtain ⟨a,h1,h2⟩:=WU l cs h;exact ⟨⟨a,h1⟩,by rw [h2]⟩
 flat a:=kv_scal a.1
theorem eqC_kv:∀ a b:List KV,a.map KV.kd=b.map KV.kd->GL ((a.map KV.kd).map pL) (a.map KV.av) (b.map KV.av)=some (decide (a=b))
 | [],[],_=>rfl
 | [],_ :: _,h=>by simp at h
 | _ :: _,[],h=>by simp at h
 | a :: r,b :: r',h=>by
  simp only [yl,List.cons.injEq] at h;have ih:=eqC_kv r r' h.2;cases a <;> cases b <;> simp only [KV.kd,reduceCtorEq,Option.some.injEq,false_and] at h
  ·obtain ⟨rfl,h⟩:=h;rename_i n m;by_cases e:n=m
   ·subst e; simp [KV.kd,KV.av,pL,GL,ih,-y0]
   ·simp [KV.kd,KV.av,pL,GL,e]
  ·rename_i n m;by_cases e:n=m
   ·subst e; simp [KV.kd,KV.av,pL,GL,ih,-y0]
   ·simp [KV.kd,KV.av,pL,GL,e]
theorem nQ {t:TypeId} {ks:List Nat} (h:QR P t=some ks):kH P 8 t=some ks/\rK P t=some true:=by
 unfold QR at h;split at h
 ·cases h
 ·split at h
  ·rename_i zn; exact ⟨h,by simp [rK,zn]⟩
  ·rename_i zn; exact ⟨h,by simp [rK,zn]⟩
  ·cases h
theorem equal_kv {T:TypeId} {l:List (Option IntKind)} (ht:QR P T=some (l.map pL)) (a b:AKey l) (w:World) :
  (Op.equal T (.agg ((a.1.map KV.av).map AV.scalV).toArray) (.agg ((b.1.map KV.av).map AV.scalV).toArray)).run P w=.ok (decide (a=b)) w:=by
 obtain ⟨hk,hA⟩:=nQ ht;have he:=eqC_kv a.1 b.1 (a.2.trans b.2.symm);rw [a.2] at he;have hd:decide (a.1=b.1)=decide (a=b):=by
  by_cases h:a.1=b.1
  ·rw [decide_eq_true h,decide_eq_true (Subtype.ext h)]
  ·rw [decide_eq_false h,decide_eq_false fun e=>h (congrArg Subtype.val e)]
 rw [hd] at he;have hl:∀ c:AKey l,KA Ix.none (fun _ _=>False) w (c.1.map KV.av) (((c.1.map KV.av).map AV.scalV).toArray.toList.take (l.map pL).length):=fun c=>by
  rw [yv (by simp [<- c.2])];exact mD (UV (kv_scal c.1))
 exact (DV (ι:=Ix.none) (av:=fun _ _=>False) (fun t ks h=>UU 7 t ks h) 9992 hk hA (hl a) (hl b) he).2
theorem EO (em:Bool) (w:World):∀ (n:Nat) (t:TypeId) (ks:List Nat),kH P n t=some ks->∀ (d:Nat) (us:Array Value) (off:Nat),off + ks.length<=us.size->(∃ a,(part t us off).run P w=.ok a w/\(Instr.checkKey em (d + n) t a).run P w=.ok () w)/\(rK P t=some true->off=0->(Instr.checkKey em (d + n) t (.agg us)).run P w=.ok () w)
 | 0,_,_,h=>by cases h
 | n + 1,t,ks,hk=>by
  intro d us off ub;have whole:rK P t=some true->∀ vs:Array Value,ks.length<=vs.size->gC P t=some ks.length/\(Instr.checkKey em (d + (n + 1)) t (.agg vs)).run P w=.ok () w:=by
   intro hA vs hvs;unfold kH at hk;split at hk
   ·rename_i k wc;unfold rK at hA;unfold GZ at wc;split at wc <;> first | (cases wc; done) | (rename_i ht _; rw [ht] at hA; injection hA with hA; cases hA) | (rename_i ht; rw [ht] at hA; injection hA with hA; cases hA)
   ·split at hk
    ·rename_i m e ht;obtain ⟨l,hl,hk⟩:=yb.1 hk;split at hk
     ·rename_i hc;injection hk with hk;subst hk;obtain ⟨i,hi⟩:=NS hc.2.1;refine ⟨hc.2.2,?_⟩;have ma:i.size=l.length:=by
       have:=hc.2.1;simp only [gC,hi,yq,Option.some.injEq] at this;exact this
      have bj:(yj m l).flatten.length=m * l.length:=by simp
      rw [show d + (n + 1)=(d + n) + 1 from rfl,Instr.checkKey];simp only [Sem.run_bind,run_underlying ht,Result.andThen_ok];simp only [Std.Legacy.Range.forIn_eq_forIn_range',Std.Legacy.Range.size,Nat.sub_zero,Nat.add_one_sub_one,Nat.div_one];have each:∀ j∈List.range' 0 m,∃ a,(part e vs (j * P.cellsOf e)).run P w=.ok a w/\(Instr.checkKey em (d + n) e a).run P w=.ok () w:=fun j hj=>by
       have mt:j<m:=by simpa using hj
       refine (EO em w n e l hl d vs (j * P.cellsOf e) ?_).1;rw [hc.1,<- yt];rw [bj] at hvs;exact yw (yX _ mt) hvs
      generalize List.range' 0 m=is at each
      induction is with
      | nil=>simp
      | cons j is ih =>
       obtain ⟨a,p1,p2⟩:=each j (by simp);simp only [List.forIn_cons,Sem.run_bind,run_sizeOf w hi,Result.andThen_ok,p1,p2,Sem.run_pure];exact ih (fun y hy=>each y (by simp [hy]))
     ·cases hk
    ·rename_i fs ht;split at hk
     ·cases hk
     ·obtain ⟨l,hl,hk⟩:=yb.1 hk;split at hk
      ·rename_i hc;injection hk with hk;subst hk;refine ⟨hc,?_⟩;rw [show d + (n + 1)=(d + n) + 1 from rfl,Instr.checkKey];simp only [Sem.run_bind,run_underlying ht,Result.andThen_ok];rw [<- Array.forIn_toList];have go:∀ (L:List Field) (i:Nat) (l:List Nat),IQ (kH P n) i L=some l->i + l.length<=vs.size->∀ f∈L,f.name≠"_"/\∃ a,(part f.type vs f.offset).run P w=.ok a w/\(Instr.checkKey em (d + n) f.type a).run P w=.ok () w:=by
        intro L
        induction L with
        | nil=>intro i l _ _ f hf; cases hf
        | cons g L ih =>
         intro i l hl ub f hf;unfold IQ at hl;obtain ⟨l1,h1,hl⟩:=yb.1 hl;split at hl
         ·rename_i hn;obtain ⟨l2,h2,rfl⟩:=yg.1 hl;rw [yA] at ub;rcases yc.1 hf with rfl | hf
          ·exact ⟨hn.1,(EO em w n _ l1 h1 d vs f.offset (by rw [hn.2]; omega)).1⟩
          ·exact ih (i + l1.length) l2 h2 (by omega) f hf
         ·cases hl
       have each:=go fs.toList 0 l hl (by omega);clear go hl;generalize fs.toList=L at each
       induction L with
       | nil=>simp
       | cons f L ih =>
        obtain ⟨hn,a,p1,p2⟩:=each f (by simp);simp only [List.forIn_cons,Sem.run_bind,hn,ne_eq,not_false_eq_true,if_true,Result.andThen_ok,p1,p2,Sem.run_pure];exact ih (fun y hy=>each y (by simp [hy]))
      ·cases hk
    ·cases hk
  refine ⟨?_,fun hA h0=>(whole hA us (by omega)).2⟩;by_cases hA:rK P t=some true
  ·obtain ⟨h1,h2⟩:=whole hA (us.extract off (off + ks.length)) (by simp; omega);exact ⟨_,(tS hA h1 us off).1,h2⟩
  ·have tc:=hk;unfold kH at hk;split at hk
   ·rename_i k wc;injection hk with hk;subst hk;simp only [yI,List.length_nil] at ub;have hu:us[off]?=some us[off]:=Y00 (by omega);have hp:=(E9 (w:=w) 0 wc hu hu).1;refine ⟨_,hp,?_⟩;unfold GZ at wc;rw [show d + (n + 1)=(d + n) + 1 from rfl];split at wc
    ·rename_i ht _; simp [Instr.checkKey,run_underlying ht]
    ·rename_i ht _; simp [Instr.checkKey,run_underlying ht]
    ·rename_i ht _; simp [Instr.checkKey,run_underlying ht]
    ·cases wc
   ·split at hk
    ·rename_i ht; exact absurd (by simp [rK,ht]) hA
    ·rename_i ht; exact absurd (by simp [rK,ht]) hA
    ·cases hk
theorem find_kv {T:TypeId} {l:List (Option IntKind)} (ht:QR P T=some (l.map pL)) (a:AKey l) (w:World):∀ (es:List MapEntry) (L:List (AKey l × Value)) (m:Nat),es.map (fun e=>(e.key,e.val))=L.map (fun p=>(Value.agg ((p.1.1.map KV.av).map AV.scalV).toArray,p.2)) →
  (Instr.findAsking T (.agg ((a.1.map KV.av).map AV.scalV).toArray) es m).run P w=.ok (SG L a m) w
 | [],[],m,_=>by simp [Instr.findAsking,SG]
 | [],_ :: _,_,h=>by simp at h
 | _ :: _,[],_,h=>by simp at h
 | e :: es,p :: L,m,h=>by
  simp only [yl,List.cons.injEq,Prod.mk.injEq] at h;obtain ⟨⟨h1,h2⟩,h3⟩:=h;have ih:=find_kv ht a w es L (m + 1) h3;have he:=equal_kv (P:=P) ht a p.1 w;simp only [Instr.findAsking,Sem.run_bind,h1,he,Result.andThen_ok,FN,Sem.run_ite];by_cases hk:a=p.1
  ·simp [hk,h2]
  ·simp [hk,ih,-y0]
theorem d5 {T:TypeId} {l:List (Option IntKind)} (ht:QR P T=some (l.map pL)):SP P T (fun a:AKey l=>Value.agg ((a.1.map KV.av).map AV.scalV).toArray) where
 check empty a w:=by
  obtain ⟨hk,hA⟩:=nQ ht;exact (EO empty w 8 T _ hk 9992 _ 0 (by simp [<- a.2])).2 hA rfl
 find a es L w h:=by
  have hu:∃ desc,P.underlying T=some desc/\∀ x e,Instr.sameNow desc (.agg x) e=none:=by
   obtain ⟨hk,hA⟩:=nQ ht;unfold rK at hA;cases hd:P.underlying T with
   | none=>rw [hd] at hA; cases hA
   | some desc =>
    refine ⟨desc,rfl,fun x e=>?_⟩;cases desc <;> rfl
  obtain ⟨desc,hu,hn⟩:=hu;cases es with
  | nil =>
   cases L with
   | nil=>simp [Instr.findKey,run_underlying hu,Instr.findNow]
   | cons=>simp at h
  | cons e es =>
   have:=find_kv ht a w (e :: es) L 0 h;simp only [Instr.findKey,Sem.run_bind,run_underlying hu,Result.andThen_ok,Instr.findNow,hn,this,SG,yD]
 same a:=by
  have hq:∀ l:List KV,(((l.map KV.av).map AV.scalV).zip ((l.map KV.av).map AV.scalV)).all (fun (x,y)=>Instr.sameBits 9999 x y)=true:=by
   intro l
   induction l with
   | nil=>rfl
   | cons c r ih =>
    simp only [yl,List.zip_cons_cons,List.all_cons,ih,Bool.and_true];cases c <;> simp [KV.av,AV.scalV,Instr.sameBits,ba_beq]
  show Instr.sameBits (9999 + 1) _ _=true;simp only [Instr.sameBits,beq_self_eq_true,Bool.true_and];exact hq a.1
theorem zero_run {e:TypeId} {z:AV} (h:((P.info? e).bind (·.zero)).bind avC=some z) (w:World):∃ zv,(zeroValue e).run P w=.ok zv w/\avC zv=some z:=by
 obtain ⟨zv,h1,h2⟩:=yb.1 h;obtain ⟨i,hi,hz⟩:=yb.1 h1;exact ⟨zv,by simp [zeroValue,typeInfo,hi,hz],h2⟩
theorem b8 {κ:Type} [DecidableEq κ] {ke:κ->Value} {kx:κ->AV} {ty:KTy} (R:dC P O nt B F0 da w0 D s a w ι Θ) (K:pR ty κ ke kx) {t n:Nat} {v:Value} (hv:NA ι (AC da ι Θ) (SC ι Θ) w (.mp t n) v) {L:List (List AV)} (hL:(s.obj t n).bind aJ=some L) (hk:GN ty L=true) :
  ∃ (b:Nat) (H:Nat->Prop) (M:List (κ × AV)),v=.map (some b)/\ι t n=some b/\ι.ob t n=some H/\(∀ x,H x ↔ x=b)/\L=M.map (fun p=>[kx p.1,p.2])/\(∀ p∈M,p.2.flat=true)/\iP ke w b (M.map fun p=>(p.1,p.2.flatV))/\∃ es clock,w.heap[b]?=some (.map es clock)/\D4 es clock:=by
 obtain ⟨b,hb,rfl⟩:=hv;obtain ⟨S,hS,hm⟩:=yb.1 hL;obtain ⟨p,H,hp,zb,ic,_⟩:=R.objs t n S hS;rw [hb] at hp;injection hp with hp;subst hp;have sx:S=zH L:=by
  unfold aJ at hm;split at hm
  ·injection hm with hm; subst hm; rfl
  ·cases hm
 subst sx;obtain ⟨hH,es,clock,he,jg,mb⟩:=(O.maps L H b w).1 ic;obtain ⟨M,rfl,hf⟩:=t3 K L hk;exact ⟨b,H,M,rfl,hb,zb,hH,rfl,hf,⟨es,clock,he,jg.trans (i3 K M)⟩,es,clock,he,mb⟩
theorem X2 {κ:Type} [DecidableEq κ]:∀ {M:List (κ × AV)} {n:κ} {x:AV},(∀ p∈M,p.2.flat=true)->HL M n=some x->x.flat=true
 | [],_,_,_,h=>by cases h
 | p :: r,n,x,hf,h=>by
  unfold HL at h;split at h
  ·injection h with h; subst h; exact hf p yk
  ·exact X2 (fun q hq=>hf q (yh _ hq)) h
theorem xY {κ:Type} [DecidableEq κ] {ke:κ->Value} {kx:κ->AV} {ty:KTy} (R:dC P O nt B F0 da w0 D s a w ι Θ) (K:pR ty κ ke kx) {T kT eT:TypeId} (KL:SP P kT ke) (hT:P.underlying T=some (.map kT eT)) {zero:AV} (hz:((P.info? eT).bind (·.zero)).bind avC=some zero) (hzf:zero.flat=true)
  {X I:Operand} {y i:CB} (hx:opd X=some y) (hi:opd I=some i) {ok:Bool} (ho:o.op=.lookup T X I ok) {t n:Nat} (hy:y.get s=.mp t n) {L:List (List AV)} (hL:(s.obj t n).bind aJ=some L) (hk:GN ty L=true) (td:uJ ty (i.get s)=true) :
  lS P da a w ι Θ o ⟨if ok then .tup [(UK L (i.get s)).getD zero,.bool (UK L (i.get s)).isSome] else (UK L (i.get s)).getD zero,.no⟩:=by
 have hX:=(R.opd hx).1;have hI:=(R.opd hi).1;rw [hy] at hX;obtain ⟨b,H,M,hv,hb,zb,hH,rfl,hf,ic,_⟩:=b8 R K hX hL hk;obtain ⟨k,hkx⟩:=K.of _ td;rw [hkx] at hI ⊢;have hkf:(kx k).flat=true:=K.flat k;have hIv:a.eval I=ke k:=(JS hkf hI).trans (K.val k);obtain ⟨zv,hzr,hzc⟩:=zero_run hz w;have hzv:=avC_flat hzc hzf;rw [d3 K];have ae:(HL (M.map fun p=>(p.1,p.2.flatV)) k).getD zv=((HL M k).getD zero).flatV:=by
  rw [CX,hzv];cases HL M k <;> rfl
 have rj:((HL M k).getD zero).flat=true:=by
  cases hg:HL M k with
  | none=>exact hzf
  | some x=>exact X2 hf hg
 cases ok with
 | false =>
  have ia:=ic.lookup KL hT hzr k;rw [ae] at ia;refine ⟨((HL M k).getD zero).flatV,by simp only [execOp,ho,hv,hIv,Sem.run_bind,ia,Result.andThen_ok,Sem.run_pure],?_,trivial⟩;exact flat_S rj
 | true =>
  have ia:=ic.lookup_ok KL hT hzr k;rw [ae] at ia;have jn:(HL (M.map fun p=>(p.1,p.2.flatV)) k).isSome=(HL M k).isSome:=by rw [CX]; cases HL M k <;> rfl
  rw [jn] at ia;refine ⟨.tuple #[((HL M k).getD zero).flatV,.bool (HL M k).isSome],by simp only [execOp,ho,hv,hIv,Sem.run_bind,ia,Result.andThen_ok,Sem.run_pure],?_,trivial⟩;refine ⟨_,rfl,_,_,rfl,?_,_,_,rfl,rfl,rfl⟩;exact uH (uO rj)
theorem iP.updateS {κ:Type} [DecidableEq κ] {P:Program} {T kT eT:TypeId} {ke:κ->Value} {w:World} {m:Nat} {L:List (κ × Value)} (h:iP ke w m L) (K:SP P kT ke) (hT:P.underlying T=some (.map kT eT)) {es0:Array MapEntry} {cl0:Nat} (h0:w.heap[m]?=some (.map es0 cl0)) (mb:D4 es0 cl0) (k:κ) (v:Value) :
  ∃ es clock,(Instr.mapUpdate T (.map (some m)) (ke k) v).run P w=.ok () { w with heap:=w.heap.setIfInBounds m (.map es clock) }/\es.toList.map (fun e=>(e.key,e.val))=(I1 L k v).map (fun p=>(ke p.1,p.2))/\D4 es clock:=by
 obtain ⟨es,clock,h1,h2⟩:=h;rw [h1] at h0;injection h0 with h0;injection h0 with e1 e2;subst e1;subst e2;obtain ⟨s1,s2⟩:=mb;have hg:(getObj m).run P w=.ok (.map es clock) w:=by simp [getObj,Sem.run,h1]
 have hf:=K.find k es.toList L w h2;have hi:=idx_set L k v;have hl:es.toList.length=L.length:=by simpa using congrArg List.length h2
 cases hq:(L.map (·.1)).idxOf? k with
 | none =>
  rw [hq] at hf hi;refine ⟨es.push { key:=ke k,val:=v,born:=clock },clock + 1,?_,by rw [hi]; simp [h2],by simp [s1],fun i h=>?_⟩
  case refine_2 =>
   simp only [Array.size_push] at h;simp only [Array.getElem_push];split
   ·exact s2 _ _
   ·show clock=i;omega
  case refine_1 =>
   simp only [Instr.mapUpdate,Sem.run_bind,run_underlying hT,Result.andThen_ok,hg,K.check,hf,Option.bind_none];simp [setObj,Sem.run,h1]
 | some i =>
  rw [hq] at hf hi;have ep:i<L.length:=by have:=List.idxOf?_eq_some_iff.1 hq; simpa using this.1
  have hk:(L[i]).1=k:=by have:=List.idxOf?_eq_some_iff.1 hq; simpa using this.2.1
  have ww:i<es.size:=by
   have:es.size=L.length:=by simpa using hl
   omega
  have td:(es[i]).key=ke k:=by
   have:=congrArg (fun l=>(l[i]?).map (·.1)) h2;simp only [y8,Array.getElem?_toList,Y00 ww,yq,y4 ep,hk,Option.some.injEq] at this;exact this
  refine ⟨es.modify i fun e=>{ e with key:=ke k,val:=v },clock,?_,?_,by simp [s1],fun j h=>?_⟩
  case refine_3 =>
   simp only [Array.getElem_modify];split <;> exact s2 _ _
  case refine_1 =>
   have hL:L[i]?=some L[i]:=y4 ep;have he:es[i]?=some es[i]:=Y00 ww;simp only [Instr.mapUpdate,Sem.run_bind,run_underlying hT,Result.andThen_ok,hg,K.check,hf,V,hL,yq,he,Option.getD_some,td];simp [Instr.keyThatStays,K.same,setObj,Sem.run,h1]
  case refine_2 =>
   rw [hi];apply List.ext_getElem?;intro j;have hj:=congrArg (fun l=>l[j]?) h2;simp only [y8,Array.getElem?_toList] at hj;simp only [y8,Array.getElem?_toList,Array.getElem?_modify,List.getElem?_set];by_cases hij:i=j
   ·subst hij;simp [Y00 ww,ep]
   ·simp only [if_neg hij];exact hj
theorem fO {κ:Type} [DecidableEq κ] {ke:κ->Value} {kx:κ->AV} {ty:KTy} (R:dC P O nt B F0 da w0 D s a w ι Θ) (K:pR ty κ ke kx) {T kT eT:TypeId} (KL:SP P kT ke) (hT:P.underlying T=some (.map kT eT))
  {X I Y:Operand} {x i y:CB} (hx:opd X=some x) (hi:opd I=some i) (hyo:opd Y=some y) (ho:o.op=.mapUpdate T X I Y\/o.op=.insert T X I Y) (hd:∀ d,o.dst=some d->d<nt) {t n:Nat} (uc:x.get s=.mp t n) {L:List (List AV)} (hL:(s.obj t n).bind aJ=some L) (hk:GN ty L=true) (td:uJ ty (i.get s)=true) (hvf:(y.get s).flat=true) :
  ∃ w',(execOp a.eval o).run P w=.ok .skip w'/\CD P O nt B F0 da w0 D ((s.setObj t n (zH (NI L (i.get s) (y.get s)))).put o.dst ⟨.undef,.no⟩) (a.put o.dst undef) w':=by
 have hX:=(R.opd hx).1;have hI:=(R.opd hi).1;have hY:=JS hvf (R.opd hyo).1;rw [uc] at hX;obtain ⟨b,H,M,hv,hb,zb,hH,rfl,hf,ic,es0,cl0,hes0,hst0⟩:=b8 R K hX hL hk;obtain ⟨k,hkx⟩:=K.of _ td;rw [hkx] at hI ⊢;have hkf:(kx k).flat=true:=K.flat k;have hIv:a.eval I=ke k:=(JS hkf hI).trans (K.val k);have fa:=ic.lt;obtain ⟨es,clock,ia,jg,mb⟩:=ic.updateS KL hT hes0 hst0 k (y.get s).flatV;rw [l9] at jg;have dj:O.at_ (zH (NI (M.map fun p=>[kx p.1,p.2]) (kx k) (y.get s))) H b { w with heap:=w.heap.setIfInBounds b (.map es clock) }:=by
  refine (O.maps _ _ _ _).2 ⟨hH,es,clock,by simp [fa],?_,mb⟩;rw [b3 K,i3 K];exact jg
 have uj:QC H w { w with heap:=w.heap.setIfInBounds b (.map es clock) }:=⟨rfl,rfl,rfl,by simp,fun j _ hn=>by
  have:j≠b:=fun e=>hn ((hH j).2 e)
  simp only [Array.getElem?_setIfInBounds];rw [if_neg fun e:b=j=>this e.symm]⟩
 obtain ⟨ι',R2,_⟩:=R.turnObj hb zb dj (Q6.no rfl) (fun x hx=>.inl hx) uj;refine ⟨_,by rcases ho with ho | ho <;> simp only [execOp,ho,hv,hIv,hY,Sem.run_bind,ia,Result.andThen_ok,Sem.run_pure],ι',Θ,R2.putN (x:=⟨.undef,.no⟩) hd trivial trivial⟩
section
variable (R:dC P O nt B F0 da w0 D s a w ι Θ)
include R
theorem op_mkm {T:TypeId} (ho:o.op=.makeMap T none) {d:Nat} (ca:o.dst=some d) (hd:d<nt) (hD:¬ D d) :
  ∃ v w',(execOp a.eval o).run P w=.ok (.value v) w'/\CD P O nt B F0 da w0 (fun t=>D t\/t=d) ((s.setObj d s.next (zH [])).put (some d) ⟨.mp d s.next,.no⟩) (a.put o.dst v) w':=by
 have ia:(execOp a.eval o).run P w=.ok (.value (.map (some w.heap.size))) (w.alloc (.map #[] 0)):=by
  simp [execOp,ho,Instr.makeMap]
 have hb:Below w.heap.size w (w.alloc (.map #[] 0)):=Below.alloc (Below.refl _ _) (yf _) _;obtain ⟨ι',R2,hι,_⟩:=R.newObj (d:=d) (p:=w.heap.size) (H:=fun b=>b=w.heap.size) (S:=zH []) hb hD ((O.maps _ _ _ _).2 ⟨fun b=>Iff.rfl,#[],0,JR rfl,rfl,rfl,fun i h=>absurd h (by simp)⟩) (Q6.no rfl) (fun b h=>Nat.le_of_eq h.symm);rw [ca];exact ⟨_,_,ia,ι',Θ,R2.put (x:=⟨.mp d s.next,.no⟩) hd ⟨_,hι,rfl⟩ trivial⟩
theorem op_rng {T kT eT:TypeId} (hT:P.underlying T=some (.map kT eT)) {X:Operand} {x:CB} (hx:opd X=some x) (ho:o.op=.range T X) {t n:Nat} (uc:x.get s=.mp t n) {L:List (List AV)} (hL:(s.obj t n).bind aJ=some L) {d:Nat} (ca:o.dst=some d) (hd:d<nt) (hD:¬ D d) :
  ∃ v w',(execOp a.eval o).run P w=.ok (.value v) w'/\CD P O nt B F0 da w0 (fun t=>D t\/t=d) ((s.setObj d s.next (t5 t n L.length [])).put (some d) ⟨.ptr d s.next 0,.no⟩) (a.put o.dst v) w':=by
 have hX:=(R.opd hx).1;rw [uc] at hX;obtain ⟨b,hb,hv⟩:=hX;obtain ⟨S,hS,hm⟩:=yb.1 hL;obtain ⟨p,H,hp,zb,ic,_⟩:=R.objs t n S hS;rw [hb] at hp;injection hp with hp;subst hp;have sx:S=zH L:=by
  unfold aJ at hm;split at hm
  ·injection hm with hm; subst hm; rfl
  ·cases hm
 subst sx;obtain ⟨hH,es,clock,he,jg,hc,_⟩:=(O.maps L H b w).1 ic;have ba:es.size=L.length:=by simpa using congrArg List.length jg
 have hg:(getObj b).run P w=.ok (.map es clock) w:=by simp [getObj,Sem.run,he]
 have ia:(execOp a.eval o).run P w=.ok (.value (.pointer (some ⟨w.heap.size,0,none⟩))) (w.alloc (.mapIter (some b) clock #[] clock)):=by
  simp only [execOp,ho,hv,Instr.range,Sem.run_bind,run_underlying hT,Result.andThen_ok,hg,Sem.run_pure,run_newObj_alloc]
 have nj:Below w.heap.size w (w.alloc (.mapIter (some b) clock #[] clock)):=Below.alloc (Below.refl _ _) (yf _) _;obtain ⟨ι',R2,hι,_⟩:=R.newObj (d:=d) (p:=w.heap.size) (H:=fun b=>b=w.heap.size) (S:=t5 t n L.length []) nj hD ((O.iters _ _ _ _ (by rw [wX]; rfl)).2 ⟨fun b=>Iff.rfl,by simp⟩) (fun tm nm N seen e=>by
  rw [wX] at e;injection e with e;injection e with g1 e;injection e with g2 e;injection e with g3 g4;subst g1; subst g2; subst g3; subst g4;exact ⟨b,H,hb,zb,by rw [<- ba,<- hc]; exact JR rfl⟩) (fun b h=>Nat.le_of_eq h.symm)
 rw [ca];exact ⟨_,_,ia,ι',Θ,R2.put (x:=⟨.ptr d s.next 0,.no⟩) hd ⟨_,hι,rfl⟩ trivial⟩
theorem val_ent {X:Operand} {x:CB} (hx:opd X=some x) (ho:o.op=.entry X) {t n tm nm N:Nat} {seen:List Nat} (uc:x.get s=.ptr t n 0) (hi:(s.obj t n).bind uY=some (tm,nm,N,seen)) {L:List (List AV)} (hL:(s.obj tm nm).bind aJ=some L) {i:Nat} (hl:seen.getLast?=some i) (hN:L.length=N) {y v:AV} (zq:L[i]?=some [y,v]) (bj:(y.flat&&v.flat)=true) :
  lS P da a w ι Θ o ⟨.tup [y,v],.no⟩:=by
 have hX:=(R.opd hx).1;rw [uc] at hX;obtain ⟨q,hq,hv⟩:=hX;obtain ⟨S,hS,dg⟩:=yb.1 hi;obtain ⟨p,H,hp,zb,ic,pk⟩:=R.objs t n S hS;rw [hq] at hp;injection hp with hp;subst hp;obtain ⟨m,Hm,hm,hobm,la⟩:=pk tm nm N seen dg;obtain ⟨S2,hS2,ls⟩:=yb.1 hL;obtain ⟨p2,H2,zj,tv,hat2,_⟩:=R.objs tm nm S2 hS2;rw [hm] at zj;injection zj with zj;subst zj;have sx:S2=zH L:=by
  unfold aJ at ls;split at ls
  ·injection ls with ls; subst ls; rfl
  ·cases ls
 subst sx;obtain ⟨hH2,es,clock,he,jg,hc,mb⟩:=(O.maps L H2 m w).1 hat2;have hes:es.size=N:=by rw [<- hN]; simpa using congrArg List.length jg
 have hgq:(getObj q).run P w=.ok (.mapIter (some m) N seen.toArray N) w:=by simp [getObj,Sem.run,la]
 have hgm:(getObj m).run P w=.ok (.map es clock) w:=by simp [getObj,Sem.run,he]
 have ji:i<es.size:=by
  have:=(ym.1 zq).1;omega
 have jq:seen.toArray.back?=some i:=by simpa using hl
 have hfind:es.find? (fun e=>e.born == i)=some es[i]:=by
  rw [Array.find?_eq_some_iff_getElem];refine ⟨by simp [mb i ji],i,ji,rfl,fun j hj=>?_⟩;simp only [mb j (by omega),Bool.not_eq_true'];simp;omega
 have hkv:es[i].key=y.flatV/\es[i].val=v.flatV:=by
  have:=congrArg (fun l=>l[i]?) jg;simp only [y8,zq,Array.getElem?_toList,Y00 ji,yq,Option.some.injEq,entV] at this;exact ⟨congrArg Prod.fst this,congrArg Prod.snd this⟩
 rw [y7] at bj;have jd:(clock != N)=false:=by simp [hc,hes]
 refine ⟨.tuple #[y.flatV,v.flatV],?_,?_,trivial⟩
 ·simp only [execOp,ho,hv,Instr.entry,Sem.run_bind,hgq,hgm,jq,Result.andThen_ok,jd,yp,if_false,hfind,hkv.1,hkv.2,Sem.run_pure]
 ·exact ⟨_,rfl,_,_,rfl,uH (uO bj.1),_,_,rfl,uH (uO bj.2),rfl⟩
end
theorem avOf_nilP {v:Value} (h:NZ v=some .nilP):v=.pointer none:=by
 unfold NZ at h;split at h <;> first | rfl | (injection h with h; cases h; done) | (cases h; done)
theorem avOf_nil {v:Value} (h:NZ v=some (.sl true [])):v=.slice none 0 0:=by
 unfold NZ at h;split at h <;> first | rfl | (injection h with h; cases h; done) | (cases h; done)
theorem isBld_eq {l:List AV} (h:isBld l=true):l=[.nilP,.sl true []]:=by
 unfold isBld at h;split at h
 ·rfl
 ·cases h
theorem avAll_bld {vs:List Value} (h:lL vs=some [.nilP,.sl true []]):vs=[.pointer none,.slice none 0 0]:=by
 cases vs with
 | nil=>cases h
 | cons v r =>
  simp only [lL] at h;split at h
  ·rename_i x l hx hl;injection h with h;injection h with h1 h2;subst h1;subst h2;cases r with
   | nil=>cases hl
   | cons v' r' =>
    simp only [lL] at hl;split at hl
    ·rename_i x' l' sk im;injection hl with hl;injection hl with h1 h2;subst h1;subst h2;cases r' with
     | nil=>rw [avOf_nilP hx,avOf_nil sk]
     | cons v'' r'' =>
      simp only [lL] at im;split at im <;> cases im
    ·cases hl
  ·cases h
section
variable (R:dC P O nt B F0 da w0 D s a w ι Θ)
include R
theorem op_mkb {T e:TypeId} (sc:bldEl P T=some e) (ho:o.op=.alloc T) {d:Nat} (ca:o.dst=some d) (hd:d<nt) (hD:¬ D d) :
  ∃ v w',(execOp a.eval o).run P w=.ok (.value v) w'/\CD P O nt B F0 da w0 (fun t=>D t\/t=d) ((s.setObj d s.next (iH T e ⟨#[]⟩)).put (some d) ⟨.ptr d s.next 0,.no⟩) (a.put o.dst v) w':=by
 obtain ⟨l,hl,hb⟩:∃ l,tK P T=some l/\isBld l=true:=by
  unfold bldEl at sc;split at sc
  ·rename_i h; exact yg.1 h
  ·cases sc
 obtain ⟨z,i,hi,jp,hrz,cz⟩:=LG hl w;rw [isBld_eq hb] at cz;have hzc:z.cells=#[.pointer none,.slice none 0 0]:=by
  apply Array.ext';exact avAll_bld cz
 have ia:(execOp a.eval o).run P w=.ok (.value (.pointer (some ⟨w.heap.size,0,none⟩))) (w.alloc (.cells #[.pointer none,.slice none 0 0] T)):=by
  simp [execOp,ho,Instr.alloc,newVar,newRow,hrz,hzc]
 have hb:Below w.heap.size w (w.alloc (.cells #[.pointer none,.slice none 0 0] T)):=Below.alloc (Below.refl _ _) (yf _) _;obtain ⟨ι',R2,hι,_⟩:=R.newObj (d:=d) (p:=w.heap.size) (H:=fun b=>b=w.heap.size) (S:=iH T e ⟨#[]⟩) hb hD ((O.blds _ _ _ _ _ _).2 ⟨.slice none 0 0,.pointer none,JR rfl,.inl rfl,World.ownsRowF_nil _ _ _ _,by simp [Value.ownBlock],fun b=>by simp [Value.ownBlock]⟩) (Q6.no rfl) (fun b h=>Nat.le_of_eq h.symm);rw [ca];exact ⟨_,_,ia,ι',Θ,R2.put (x:=⟨.ptr d s.next 0,.no⟩) hd ⟨_,hι,rfl⟩ trivial⟩
theorem op_mlen {T:TypeId} {kT eT:TypeId} (hT:P.underlying T=some (.map kT eT)) {X:Operand} {x:CB} (hx:opd X=some x) (ho:o.op=.call { callee:=.builtin .len,args:=#[X],argTypes:=#[T] }) {t n:Nat} (uc:x.get s=.mp t n) {L:List (List AV)} (hL:(s.obj t n).bind aJ=some L) :
  lS P da a w ι Θ o ⟨.int .i64 L.length,.no⟩:=by
 have hX:=(R.opd hx).1;rw [uc] at hX;obtain ⟨b,hb,hv⟩:=hX;obtain ⟨S,hS,hm⟩:=yb.1 hL;obtain ⟨p,H,hp,zb,ic,_⟩:=R.objs t n S hS;rw [hb] at hp;injection hp with hp;subst hp;have sx:S=zH L:=by
  unfold aJ at hm;split at hm
  ·injection hm with hm; subst hm; rfl
  ·cases hm
 subst sx;obtain ⟨hH,es,clock,he,jg,_⟩:=(O.maps L H b w).1 ic;have ba:es.size=L.length:=by simpa using congrArg List.length jg
 have hg:(getObj b).run P w=.ok (.map es clock) w:=by simp [getObj,Sem.run,he]
 refine ⟨.int .i64 L.length,?_,by rw [jB],trivial⟩;simp [execOp,ho,resolve,invoke,builtin,Builtin.len_,run_underlying hT,hv,hg,goInt,ba]
theorem dC.turnNew {t n p:Nat} {H H':Nat->Prop} {S':AV} (hp:ι t n=some p) (zb:ι.ob t n=some H) (ic:O.at_ S' H' p w') (pk:Q6 ι S' p w') (hH:∀ b,H' b->H b\/w.heap.size<=b) (hk:QC H w w')
  {d g:Nat} (hD:¬ D d) (hg:w.heap.size<=g) (hgH:¬ H' g) {cur:Array Value} {ty:TypeId} (hgw:w'.heap[g]?=some (.cells cur ty (0,0))) {l:List AV} (hl:l.all AV.scal=true) (mf:∀ (j:Nat) (x:AV),l[j]?=some x->cur[j]?=some x.scalV) (di:l.length<=cur.size) :
  ∃ ι':Ix,dC P O nt B F0 da w0 (fun j=>D j\/j=d) ((s.setObj t n S').setRow d s.next (l.map (⟨·,.no⟩))) a w' ι' Θ/\ι' d s.next=some g/\ι'.z g=cur.size:=by
 obtain ⟨xp,tv⟩:=R.obs t n H zb;have hgl:=TA hgw;have ne:ι d s.next=none:=by
  cases h:ι d s.next with
  | none=>rfl
  | some b =>
   rcases (R.mine _ _ _ h).2.2 with h1 | h1
   ·omega
   ·exact absurd h1.2 hD
 have oe:ι.ob d s.next=none:=by
  cases h:ι.ob d s.next with
  | none=>rfl
  | some b =>
   rcases (R.obs _ _ _ h).2 with h1 | h1
   ·omega
   ·exact absurd h1.2 hD
 have hnd:¬ (t=d/\n=s.next):=fun e=>by rw [e.1,e.2,ne] at hp; cases hp
 obtain ⟨ι',hι'⟩:∃ ι':Ix,ι'=⟨fun t' n'=>if t'=d/\n'=s.next then some g else ι t' n',fun t' n'=>if t'=t/\n'=n then some H' else ι.ob t' n',fun b=>if b=g then cur.size else ι.z b⟩:=⟨_,rfl⟩;have hf:∀ t' n' b,ι' t' n'=some b->(t'=d/\n'=s.next/\b=g)\/(¬ (t'=d/\n'=s.next)/\ι t' n'=some b):=fun t' n' b h=>by
  subst hι';have h':(if t'=d/\n'=s.next then some g else ι t' n')=some b:=h;split at h'
  ·rename_i e; injection h' with h'; exact .inl ⟨e.1,e.2,h'.symm⟩
  ·rename_i e; exact .inr ⟨e,h'⟩
 have li:∀ t' n' H1,ι'.ob t' n'=some H1->(t'=t/\n'=n/\H1=H')\/(¬ (t'=t/\n'=n)/\ι.ob t' n'=some H1):=fun t' n' H1 h=>by
  subst hι';simp only at h;split at h
  ·rename_i e; injection h with h; exact .inl ⟨e.1,e.2,h.symm⟩
  ·rename_i e; exact .inr ⟨e,h⟩
 have ad:∀ t n b,ι t n=some b->ι' t n=some b:=fun t n b h=>by
  subst hι';show (if t=d/\n=s.next then some g else ι t n)=some b;split
  ·rename_i e; rw [e.1,e.2,ne] at h; cases h
  ·exact h
 have kc:ι' d s.next=some g:=by subst hι'; show (if d=d/\s.next=s.next then some g else ι d s.next)=_; rw [if_pos ⟨rfl,rfl⟩]
 have my:ι'.ob t n=some H':=by subst hι'; simp
 have uv:∀ t' n',¬ (t'=t/\n'=n)->ι'.ob t' n'=ι.ob t' n':=fun t' n' e=>by subst hι'; simp only [if_neg e]
 have hzg:ι'.z g=cur.size:=by subst hι'; simp
 have mh:∀ t1 n1 b1 H1,ι t1 n1=some b1->ι.ob t1 n1=some H1->ι' t1 n1=some b1/\∃ H2,ι'.ob t1 n1=some H2:=fun t1 n1 b1 H1 g1 g2=>⟨ad _ _ _ g1,by
  by_cases e:t1=t/\n1=n
  ·exact ⟨H',by rw [e.1,e.2]; exact my⟩
  ·exact ⟨H1,by rw [uv _ _ e]; exact g2⟩⟩
 have ub:Ix.Le ι ι':=⟨ad,fun t n b h=>by
  have:=(R.mine t n b h).2.1;subst hι';show (if b=g then cur.size else ι.z b)=ι.z b;rw [if_neg (by omega)]⟩
 clear hι';have ma:=hk.size;have le:=R.lowB;have lj:∀ b o,b<w.heap.size->SC ι' Θ b o->SC ι Θ b o:=fun b o hb h=>h.imp (fun h=>h.imp (fun ⟨t',n',h⟩=>by
  rcases hf _ _ _ h with ⟨_,_,e⟩ | ⟨_,h⟩
  ·omega
  ·exact ⟨t',n',h⟩) fun ⟨t',n',H1,h1,h2⟩=>by
  rcases li _ _ _ h1 with ⟨e1,e2,e3⟩ | ⟨_,h1⟩
  ·subst e3;rcases hH b h2 with h3 | h3
   ·exact ⟨t,n,H,zb,h3⟩
   ·omega
  ·exact ⟨t',n',H1,h1,h2⟩) id
 have gc:∀ b o u,w.cell? ⟨b,o,none⟩=some u->¬ H b->w'.cell? ⟨b,o,none⟩=some u:=fun b o u hc hn=>(World.cell?_of_block (w:=w) (a:=⟨b,o,none⟩) (hk.block b (SI hc) hn)).trans hc
 have hB:XA (SC ι Θ) (SC ι' Θ) w w':=⟨fun b o u hc hn=>⟨gc b o u hc fun h=>hn (.inl (.inr ⟨t,n,H,zb,h⟩)),fun h=>hn (lj b o (SI hc) h)⟩⟩;have hA:XA (AC da ι Θ) (AC da ι' Θ) w w':=⟨fun b o u hc hn=>⟨gc b o u hc fun h=>hn (.inr (.inl (.inr ⟨t,n,H,zb,h⟩))),fun h=>hn (h.imp id (lj b o (SI hc)))⟩⟩;refine ⟨ι',⟨R.defers,R.size,fun j=>NA.held ub hA hB _ _ (R.env j),R.ann,fun t' n' r hr=>?_,fun t' n' b h=>?_,fun t1 n1 t2 n2 b h h'=>?_,fun k o h=>?_,R.tinj,fun k o t' n' h h'=>?_,R.out,fun p' h=>⟨ad _ _ _ (R.pin p' h).1,?_⟩,?_,R.base,fun t' n' S1 h=>?_,fun t' n' H1 h=>?_,fun j=>NA.held ub hA hB _ _ (R.gen j),R.gann⟩,kc,hzg⟩
 ·simp only [aA.setRow] at hr;split at hr
  ·rename_i e;injection hr with hr;subst hr;have hoo:ι'.ob t' n'=none:=by
    rw [uv t' n' (fun e'=>hnd ⟨e'.1.symm.trans e.1,e'.2.symm.trans e.2⟩),e.1,e.2];exact oe
   refine ⟨hoo,g,cur,ty,by rw [e.1,e.2]; exact kc,hgw,⟨by simpa using di,fun j x hx=>?_⟩,by omega,hzg.symm⟩;rw [y8] at hx;cases hj:l[j]? with
   | none=>rw [hj] at hx; cases hx
   | some y =>
    rw [hj] at hx;injection hx with hx;subst hx;have hy:=y6.1 hl y (yQ hj);have hr:=lO (av:=AC da ι' Θ) (w:=w') hy;exact ⟨_,mf j y hj,hr.2,jL hr.1,trivial⟩
  ·have gg:s.mem t' n'=some r:=hr;obtain ⟨h0,b,wb,dr,h1,h2,h3,h8,h9⟩:=R.rows t' n' r gg;have ta:¬ (t'=t/\n'=n):=fun e=>by rw [e.1,e.2,zb] at h0; cases h0
   have hbn:¬ H b:=fun hb=>ta ((xp b hb).2.2.1 t' n' h1)
   exact ⟨by rw [uv _ _ ta]; exact h0,b,wb,dr,ad _ _ _ h1,(hk.block b (TA h2) hbn).trans h2,h3.held ub hA (fun _ _ h=>h),h8,h9.trans (ub.z _ _ _ h1).symm⟩
 ·rcases hf _ _ _ h with ⟨e1,e2,e3⟩ | ⟨_,h⟩
  ·subst e3;exact ⟨.inl (by omega),hgl,.inr ⟨e2,.inr e1⟩⟩
  ·obtain ⟨h1,h2,h3⟩:=R.mine t' n' b h;exact ⟨h1,by omega,h3.imp id fun ⟨e,d⟩=>⟨e,.inl d⟩⟩
 ·rcases hf _ _ _ h with ⟨e1,e2,e3⟩ | ⟨_,h⟩ <;> rcases hf _ _ _ h' with ⟨f1,f2,f3⟩ | ⟨_,h'⟩
  ·exact ⟨e1.trans f1.symm,e2.trans f2.symm⟩
  ·have:=(R.mine _ _ _ h').2.1; omega
  ·have:=(R.mine _ _ _ h).2.1; omega
  ·exact R.inj _ _ _ _ _ h h'
 ·obtain ⟨h1,h2,h3,h4,wb,h5,h6⟩:=R.tok k o h;exact ⟨h1,h2,h3,h4,wb,(hk.block _ (TA h5) (R.apob h zb)).trans h5,h6⟩
 ·obtain ⟨_,_,_,_,wb,h5,_⟩:=R.tok k o h;have fa:=TA h5;rcases hf _ _ _ h' with ⟨_,_,e⟩ | ⟨_,h'⟩
  ·omega
  ·exact R.apart k o t' n' h h'
 ·rcases (R.pin p' h).2 with dx | ⟨H1,h1⟩
  ·exact .inl ⟨dx.1,(ub.z _ _ _ (R.pin p' h).1).trans dx.2⟩
  refine .inr ?_;by_cases e:0=t/\0=n
  ·exact ⟨H',by rw [<- e.1,<- e.2] at my; exact my⟩
  ·exact ⟨H1,by rw [uv _ _ e]; exact h1⟩
 ·refine R.kept.trans hk fun i hi h=>?_
  have:=R.base;rcases (xp i h).1 with h1 | h1
  ·omega
  ·exact h1
 ·simp only [aA.setRow,aA.setObj] at h;split at h
  ·rename_i e;injection h with h;subst h;exact ⟨p,H',by rw [e.1,e.2]; exact ad _ _ _ hp,by rw [e.1,e.2]; exact my,ic,pk.keep mh fun x hx=>hx⟩
  ·rename_i e;obtain ⟨p1,H1,h1,h2,h3,h4⟩:=R.objs t' n' S1 h;have sq:∀ b,H1 b->¬ H b:=fun b hb sa=>e ((xp b sa).2.2.2.2 t' n' H1 h2 hb)
   exact ⟨p1,H1,ad _ _ _ h1,by rw [uv _ _ e]; exact h2,O.keep h3 (fun b hb=>hk.block b (O.lt h3 hb) (sq b hb)) ma,h4.keep mh fun x hx=>(hk.block _ (TA hx) (sq _ (O.main h3))).trans hx⟩
 ·rcases li _ _ _ h with ⟨e1,e2,e3⟩ | ⟨e,h⟩
  ·subst e1; subst e2; subst e3;refine ⟨fun b hb=>?_,tv.imp id fun ⟨e,d⟩=>⟨e,.inl d⟩⟩;have hbg:b≠g:=fun e=>hgH (e ▸ hb)
   rcases hH b hb with h1 | h1
   ·obtain ⟨g1,g2,g3,g4,g5⟩:=xp b h1;refine ⟨g1,by omega,fun t1 n1 h2=>?_,g4,fun t1 n1 H2 h2 h3=>?_⟩
    ·rcases hf _ _ _ h2 with ⟨_,_,e⟩ | ⟨_,h2⟩
     ·exact absurd e hbg
     ·exact g3 t1 n1 h2
    ·rcases li _ _ _ h2 with ⟨e1,e2,_⟩ | ⟨_,h2⟩
     ·exact ⟨e1,e2⟩
     ·exact g5 t1 n1 H2 h2 h3
   ·refine ⟨.inl (by omega),O.lt ic hb,fun t1 n1 h2=>?_,fun k o h2 e=>?_,fun t1 n1 H2 h2 h3=>?_⟩
    ·rcases hf _ _ _ h2 with ⟨_,_,e⟩ | ⟨_,h2⟩
     ·exact absurd e hbg
     ·have:=(R.mine _ _ _ h2).2.1; omega
    ·obtain ⟨_,_,_,_,wb,h5,_⟩:=R.tok k o h2; have:=TA h5; omega
    ·rcases li _ _ _ h2 with ⟨e1,e2,_⟩ | ⟨_,h2⟩
     ·exact ⟨e1,e2⟩
     ·have:=((R.obs _ _ _ h2).1 b h3).2.1; omega
  ·obtain ⟨h1,h2⟩:=R.obs t' n' H1 h;refine ⟨fun b hb=>?_,h2.imp id fun ⟨e,d⟩=>⟨e,.inl d⟩⟩;obtain ⟨g1,g2,g3,g4,g5⟩:=h1 b hb;refine ⟨g1,by omega,fun t1 n1 h2=>?_,g4,fun t1 n1 H2 h2 h3=>?_⟩
   ·rcases hf _ _ _ h2 with ⟨_,_,e'⟩ | ⟨_,h2⟩
    ·omega
    ·exact g3 t1 n1 h2
   ·rcases li _ _ _ h2 with ⟨e1,e2,e3⟩ | ⟨_,h2⟩
    ·subst e3;rcases hH b h3 with h4 | h4
     ·have:=g5 t n H zb h4;exact absurd ⟨this.1.symm,this.2.symm⟩ e
     ·omega
    ·exact g5 t1 n1 H2 h2 h3
theorem op_callf {call:DB} (ua:∀ f args S r,call f args S=some r->tD P O f args S r) {f:FuncId} {Xs:Array Operand} {ts:Array TypeId} {xs:List CB} (hx:bH Xs.toList=some xs) (ho:o.op=.call { callee:=.value (.func f),args:=Xs,argTypes:=ts }) (hd:∀ d,o.dst=some d->d<nt) (hD:∀ d,o.dst=some d->¬ D d) {cl:Cl} {sz:Nat} (ma:0<sz) {xe:rA × nD} (hr:(K.callf cl f sz xs).run call s=some xe) {g} {s':aA} (he:PA.eff ⟨o.dst,.callf cl f sz xs,g⟩ s xe=some s')
  {Kn:Act->World->Prop} {Q:Exit->Act->World->Prop} (hK:∀ a' w',CD P O nt B F0 da w0 (fun t=>D t\/o.dst=some t) s' a' w'->Kn a' w'):o.wp P a w Kn Q:=by
 simp only [K.run] at hr;obtain ⟨vs,hl,hr⟩:=yb.1 hr;have sg:(Xs.toList.map a.eval).toArray=Xs.map a.eval:=by rw [<- Array.toList_map,yS]
 have xg:∀ b o,AC da ι Θ b o->b<w.heap.size:=fun b o h=>R.low h
 split at hr
 ·rename_i t n nk;obtain ⟨r,hc,hr⟩:=yb.1 hr;split at hr
  ·rename_i l S';split at hr
   ·rename_i aa;obtain ⟨jn,ed,hscal,hni⟩:=aa;obtain ⟨S,hS⟩:=Option.isSome_iff_exists.1 jn;rw [hS] at hc;have na:T4 P O f vs (some S) (.sl false l,some S'):=tD.own (SQ hl) (ua f (.undef :: vs) (some S) _ hc);obtain ⟨p,H,hp,zb,ic,_⟩:=R.objs t n S hS;have fc:=WL (ι':=Ix.one p) (avl:=fun b _=>H b) R (fun b _ h=>⟨t,n,H,zb,h⟩) hx hl fun x hx t' n' h=>by
     have:(t',n')∈NJ s xs:=List.mem_filterMap.2 ⟨x,hx,by rw [h]⟩;rw [nk] at this;have:=yL.1 this;injection this with e1 e2;rw [e1,e2,hp];rfl
    have ia:(execOp a.eval o).run P w=.ok (.enter f (Xs.map a.eval)) w:=by
     simp only [execOp,ho,resolve,Act.eval,Deferred.ofValue,Sem.run_bind,Sem.run_pure,Result.andThen_ok,invoke];have:=na.1 (#[]++Xs.map a.eval++#[]) w;simp only [Array.empty_append,Array.append_empty] at this ⊢;exact this
    unfold Oper.wp;rw [ia,Oper.upon_enter];have hC:=na.2 (AC da ι Θ) w _ p H xg (fun b o h=>.inr (.inl (.inr ⟨t,n,H,zb,h⟩))) ic fc;rw [sg] at hC;refine hC.mono ?_;rintro e w' ⟨v,H',rfl,hv,dj,hH,hk⟩;split at hr
    ·rename_i ju;injection hr with hr;subst hr;simp only [PA.eff] at he;injection he with he;subst he;have xf:l=[]:=by simpa using ju
     subst xf;obtain ⟨ι',R',zd⟩:=R.turnObj hp zb dj (Q6.no hni) hH hk;have hv':∃ A c,v=.slice A 0 c/\(A=none->c=0):=by
      rcases hv with ⟨_,A,c,h1,h2⟩ | ⟨g,c,cur,ty,h1,_⟩
      ·exact ⟨A,c,h1,h2⟩
      ·exact ⟨_,c,h1,fun h=>by cases h⟩
     obtain ⟨A,c,rfl,hA⟩:=hv';refine hK _ _ ⟨ι',Θ,(R'.putN (x:=⟨.sl false [],.no⟩) hd ?_ trivial).more fun _ h=>.inl h⟩;rw [XD];simp only [bE,List.length_nil];exact ⟨A,c,rfl,Nat.zero_le _,(fun x hx=>by cases hx),(fun h=>by cases h),fun _=>⟨hA,fun h=>absurd h (Nat.lt_irrefl 0)⟩⟩
    ·rename_i ju;injection hr with hr;subst hr;cases ca:o.dst with
     | none=>simp [PA.eff,ca] at he
     | some d =>
      simp only [PA.eff,ca] at he;injection he with he;subst he;have ta:l≠[]:=fun h=>ju (by simp [h])
      have ab:0<l.length:=List.length_pos_iff.2 ta;rcases hv with ⟨h0,_⟩ | ⟨g,c,cur,ty,rfl,h2,h3,h4,h5,h6,h7⟩
      ·exact absurd h0 ta
      ·have so:=h6 sz ed ab;have bj:l.flatten.length=l.length * sz:=by
        have hind:∀ q:List (List AV),kB sz q=true->q.flatten.length=q.length * sz:=fun q=>by
         induction q with
         | nil=>simp
         | cons c r ih =>
          intro h;rw [PR] at h;simp only [y7,decide_eq_true_eq] at h;rw [yC,yA,ih h.2,h.1,yI,yt];omega
        exact hind l ed
       have hsc:l.flatten.all AV.scal=true:=by
        rw [List.all_flatten];exact hscal
       obtain ⟨ι',R',hι,hz⟩:=R.turnNew (d:=d) (g:=g) hp zb dj (Q6.no hni) hH hk (hD d ca) h2 h3 h4 hsc h7 (by rw [bj]; exact yw (yX _ h5) so);refine hK _ _ ⟨ι',Θ,?_⟩;rw [ca];exact (R'.put (x:=⟨.ref d s.next sz 0 l.length l.length,.no⟩) (hd d ca) ⟨g,hι,yf _,c,h5,by rw [hz,yD]; exact so,rfl⟩ trivial).more fun t h=>h.imp id fun e=>by rw [e]
   ·cases hr
  ·cases hr
 ·cases hr
end
end
end
section
open Go Go.RowKit
section
variable {P:Program} {O:GI} {nt B:Nat} {F0:cP} {da:Av} {w0:World} {D:Nat->Prop} {s:aA} {a:Act} {w w':World} {ι:Ix} {Θ:IL} {o:Oper}
theorem pC (R:dC P O nt B F0 da w0 D s a w ι Θ) {x:rA} {e:nD} (hv:e=.none/\lS P da a w ι Θ o x) (hd:∀ d,o.dst=some d->d<nt) {k:K} {g} {s':aA} (he:PA.eff ⟨o.dst,k,g⟩ s (x,e)=some s')
  {Kn:Act->World->Prop} {Q:Exit->Act->World->Prop} (hK:∀ a' w',CD P O nt B F0 da w0 D s' a' w'->Kn a' w'):o.wp P a w Kn Q:=by
 obtain ⟨rfl,v,ia,hS,hA⟩:=hv;simp only [PA.eff] at he;cases he;unfold Oper.wp;rw [ia,Oper.upon_value];exact hK _ _ ⟨ι,Θ,R.putN hd hS hA⟩
theorem run_wp {s':aA} (h:∃ v w',(execOp a.eval o).run P w=.ok (.value v) w'/\CD P O nt B F0 da w0 D s' (a.put o.dst v) w')
  {Kn:Act->World->Prop} {Q:Exit->Act->World->Prop} (hK:∀ a' w',CD P O nt B F0 da w0 D s' a' w'->Kn a' w'):o.wp P a w Kn Q:=by
 obtain ⟨v,w',ia,hR⟩:=h;unfold Oper.wp;rw [ia,Oper.upon_value];simp_all
theorem aD {α β:Type} {x:Option α} {f:α->β} {z:β} (h:x.map f=some z):∃ a,x=some a/\f a=z:=by
 simp_all
theorem opd_one {xs:Array Operand} {x':CB} (hx:bH xs.toList=some [x']):∃ X,xs=#[X]/\opd X=some x':=by
 obtain ⟨l⟩:=xs
 match l,hx with
 | [X],hx =>
  unfold bH at hx
  grind
 | [],hx=>simp [bH] at hx
 | X :: Y :: r,hx =>
  unfold bH at hx;split at hx
  ·rename_i y l hy hl;injection hx with hx;injection hx with h1 h2;subst h2;unfold bH at hl
   grind
  ·cases hx
theorem op_sound (R:dC P O nt B F0 da w0 D s a w ι Θ) {call:DB} (ua:∀ f args S r,call f args S=some r->tD P O f args S r) {cl:Cl} {mu:Option Bool} {nest:Bool} {k:K} (hk:compOp P cl mu o.op nest=some k) (tp:mu≠none->o.dst≠none) (hd:∀ d,o.dst=some d->d<nt) (hD:∀ d,o.dst=some d->(isA k||QU k)=true->¬ D d)
  {xe:rA × nD} (hr:k.run call s=some xe) {g} {s':aA} (he:PA.eff ⟨o.dst,k,g⟩ s xe=some s')
  {Kn:Act->World->Prop} {Q:Exit->Act->World->Prop} (hK:∀ a' w',CD P O nt B F0 da w0 (fun t=>D t\/o.dst=some t) s' a' w'->Kn a' w'):o.wp P a w Kn Q:=by
 have ee:∀ a' w',CD P O nt B F0 da w0 D s' a' w'->Kn a' w':=fun a' w' ⟨ι',Θ',h⟩=>hK a' w' ⟨ι',Θ',h.more fun _ h=>.inl h⟩
 have kc:∀ d,o.dst=some d->(∃ v w',(execOp a.eval o).run P w=.ok (.value v) w'/\CD P O nt B F0 da w0 (fun t=>D t\/t=d) s' (a.put o.dst v) w')->o.wp P a w Kn Q:=fun d ca h =>
  run_wp h fun a' w' ⟨ι',Θ',h⟩=>hK a' w' ⟨ι',Θ',h.more fun t h=>h.imp id fun e=>by rw [ca,e]⟩
 obtain ⟨x,e⟩:=xe;cases rb:o.op <;> rw [rb] at hk <;> simp only [compOp] at hk
 case move X=>obtain ⟨y,hy,rfl⟩:=aD hk; simp only [K.run] at hr; injection hr with hr; injection hr with h1 h2; subst h1; subst h2; exact pC R ⟨rfl,val_mv R hy (.inl rb)⟩ hd he ee
 case assign X=>obtain ⟨y,hy,rfl⟩:=aD hk; simp only [K.run] at hr; injection hr with hr; injection hr with h1 h2; subst h1; subst h2; exact pC R ⟨rfl,val_mv R hy (.inr rb)⟩ hd he ee
 case pick C X Y =>
  split at hk
  ·rename_i c x' y' hc hx hy;cases hk;simp only [K.run] at hr;split at hr
   ·rename_i t ht;injection hr with hr; injection hr with h1 h2; subst h1; subst h2;exact pC R ⟨rfl,val_pick R hc hx hy rb ht⟩ hd he ee
   ·cases hr
  ·cases hk
 case alloc t =>
  split at hk
  case h_2 =>
   obtain ⟨el,sc,rfl⟩:=aD hk;simp only [K.run] at hr;injection hr with hr; injection hr with h1 h2; subst h1; subst h2;cases ca:o.dst with
   | none=>simp [PA.eff,ca] at he
   | some d =>
    simp only [PA.eff,ca] at he;cases he;exact kc d ca (op_mkb R sc rb ca (hd d ca) (hD d ca rfl))
  obtain ⟨z,hz,rfl⟩:=aD hk;cases ca:o.dst with
  | none=>simp [K.run] at hr; obtain ⟨rfl,rfl⟩:=hr; simp [PA.eff,ca] at he
  | some d=>exact kc d ca (op_alloc R hz rb ca (hd d ca) (hD d ca rfl) hr he)
 case box t X =>
  split at hk
  ·rename_i z x' hz hx;cases hk;cases ca:o.dst with
   | none =>
    simp only [K.run] at hr;split at hr
    ·split at hr
     ·injection hr with hr; injection hr with h1 h2; subst h1; subst h2; simp [PA.eff,ca] at he
     ·cases hr
    ·split at hr
     ·injection hr with hr; injection hr with h1 h2; subst h1; subst h2; simp [PA.eff,ca] at he
     ·cases hr
   | some d=>exact kc d ca (op_boxE R hx rb ca (hd d ca) (hD d ca rfl) hr he)
  ·cases hk
 case build t ps =>
  split at hk
  ·rename_i fs z ys ht hz hy;split at hk
   ·rename_i pl wq;obtain ⟨zs,tk,rfl⟩:=aD hk;obtain ⟨zv,i,hi,jp,_,hl⟩:=LG hz w;refine pC R (Q4 R hl (pl:=(pl.toArray[·]?)) ?_ hy tk rb hr) hd he ee;simp [Program.built,hi,ht,jp,wq]
   ·cases hk
  ·rename_i n el z ys ht hz hy;split at hk
   ·rename_i ie ww;obtain ⟨zs,tk,rfl⟩:=aD hk;obtain ⟨zv,i,hi,jp,_,hl⟩:=LG hz w;refine pC R (Q4 R hl (pl:=fun i=>some (i * ie.size,ie.size)) ?_ hy tk rb hr) hd he ee;simp [Program.built,hi,ht,jp,ww]
   ·cases hk
  ·cases hk
 case buildSlice t n ps =>
  split at hk
  ·rename_i el ys ht hy;split at hk
   ·rename_i z kk hz hs;split at hk
    ·rename_i hc;cases mu with
     | none =>
      simp only at hk;cases hk;obtain ⟨rfl,v,w',ia,R',hS,hA⟩:=op_bsl R ht hz hs hc.1 hc.2.1 hc.2.2 hy rb hr;simp only [PA.eff] at he;cases he;unfold Oper.wp;rw [ia,Oper.upon_value];exact ee _ _ ⟨ι,Θ,R'.putN hd hS hA⟩
     | some m =>
      simp only at hk;cases hk;cases ca:o.dst with
      | none=>exact absurd ca (tp (by simp))
      | some d=>exact kc d ca (op_bslr R ht hz hs hc.1 hc.2.1 hc.2.2 hy rb ca (hd d ca) (hD d ca rfl) hr he)
    ·cases hk
   ·cases hk
  ·cases hk
 case load t X =>
  split at hk
  ·rename_i ag z y hA hz hx;cases hk;exact pC R (val_load R hA hz hx rb hr) hd he ee
  ·cases hk
 case store t X Y =>
  split at hk
  ·rename_i ag z x' y' hA hz hx hy;split at hk
   ·rename_i hag;cases hk;obtain ⟨w',ia,hR⟩:=op_store R hz (by simpa using hag) hx hy rb hd hr he;unfold Oper.wp;rw [ia,Oper.upon_skip];simp_all
   ·cases hk
  ·cases hk
 case nilCheck X=>obtain ⟨y,hy,rfl⟩:=aD hk; exact pC R (val_nilchk R hy rb hr) hd he ee
 case binOp op t X Y t' =>
  split at hk
  ·rename_i x' y' hx hy;split at hk
   ·cases hk;simp only [K.run] at hr;obtain ⟨v,hv,hr⟩:=aD hr;injection hr with h1 h2; subst h1; subst h2
    refine pC R ⟨rfl,val_bin R (fun hb=>?_) hx hy rb hv⟩ hd he ee
    grind
   ·split at hk
    ·split at hk
     ·rename_i el ht; injection hk with hk; subst hk; exact pC R (aX R (neg:=false) (ptr:=false) ⟨el,ht⟩ hx hy rb hr) hd he ee
     ·rename_i el ht; injection hk with hk; subst hk; exact pC R (aX R (neg:=false) (ptr:=true) ⟨el,ht⟩ hx hy rb hr) hd he ee
     ·obtain ⟨ks,ht,rfl⟩:=aD hk; exact pC R (val_eqa R (neg:=false) ht hx hy rb hr) hd he ee
    ·split at hk
     ·rename_i el ht; injection hk with hk; subst hk; exact pC R (aX R (neg:=true) (ptr:=false) ⟨el,ht⟩ hx hy rb hr) hd he ee
     ·rename_i el ht; injection hk with hk; subst hk; exact pC R (aX R (neg:=true) (ptr:=true) ⟨el,ht⟩ hx hy rb hr) hd he ee
     ·obtain ⟨ks,ht,rfl⟩:=aD hk; exact pC R (val_eqa R (neg:=true) ht hx hy rb hr) hd he ee
    ·cases hk
  ·cases hk
 case unOp op t X =>
  split at hk
  ·obtain ⟨y,hy,rfl⟩:=aD hk; exact pC R (val_un R hy rb hr) hd he ee
  ·cases hk
 case convert t t' X =>
  split at hk
  ·rename_i j kk x' h1 h2 hx; injection hk with hk; subst hk; exact pC R (H9 R (k:=some kk) ⟨⟨j,h1⟩,h2⟩ hx rb hr) hd he ee
  ·rename_i x' h1 h2 hx; injection hk with hk; subst hk; exact pC R (H9 R (k:=none) ⟨h1,h2⟩ hx rb hr) hd he ee
  ·rename_i j x' h1 h2 hx; injection hk with hk; subst hk; exact pC R (val_rstr R h1 h2 hx rb hr) hd he ee
  ·rename_i el x' h1 h2 hx;split at hk
   ·rename_i h3;split at hk
    ·injection hk with hk; subst hk; exact pC R (val_bstr R h1 h3 h2 hx rb hr) hd he ee
    ·cases hk
   ·cases hk
  ·cases hk
 case makeSlice t L C =>
  split at hk
  ·rename_i el l c ht hl hc;split at hk
   ·rename_i z i hz hi;split at hk
    ·rename_i aa;cases hk;cases ca:o.dst with
     | none =>
      simp only [K.run] at hr;split at hr
      ·split at hr
       ·injection hr with hr; injection hr with h1 h2; subst h1; subst h2; simp [PA.eff,ca] at he
       ·cases hr
      ·cases hr
     | some d=>exact kc d ca (op_mks R ht hi hz aa.1 hl hc rb ca (hd d ca) (hD d ca rfl) hr he)
    ·cases hk
   ·cases hk
  ·cases hk
 case slice t X L H M =>
  split at hk
  ·rename_i x' l h m hx hl hh hm;split at hk
   ·rename_i ht;cases hk;cases M with
    | none=>injection hm with hm; subst hm; exact pC R (val_slc R (str:=true) ht hx hl hh rb hr) hd he ee
    | some M=>simp only [KW] at hm; obtain ⟨m',_,rfl⟩:=aD hm; simp [K.run] at hr
   ·rename_i el ht;split at hk
    ·rename_i jx;obtain ⟨z,hz,rfl⟩:=aD hk;rw [y7] at jx;exact pC R (val_slz R ht hz jx.1 jx.2 hx rb hr) hd he ee
    ·obtain ⟨z,hz,rfl⟩:=aD hk;cases M with
     | none=>injection hm with hm; subst hm; exact pC R (val_slc R (str:=false) ⟨el,ht,hz⟩ hx hl hh rb hr) hd he ee
     | some M=>simp only [KW] at hm; obtain ⟨m',_,rfl⟩:=aD hm; simp [K.run] at hr
   ·rename_i n' el ht;cases M with
    | none =>
     injection hm with hm; subst hm;obtain ⟨z,hz,rfl⟩:=aD hk;exact pC R (val_aslc R ht hz hx hl hh rb hr) hd he ee
    | some M=>simp only [KW] at hm; obtain ⟨m',_,rfl⟩:=aD hm; cases hk
   ·cases hk
  ·cases hk
 case fieldAddr t X i =>
  split at hk
  ·rename_i fs x' ht hx;split at hk
   ·rename_i f hf;split at hk
    ·rename_i n hn; injection hk with hk; subst hk; exact pC R (val_faddr R ht hf hn hx rb hr) hd he ee
    ·cases hk
   ·cases hk
  ·cases hk
 case field t X i =>
  split at hk
  ·rename_i fs x' ht hx;split at hk
   ·rename_i f hf;split at hk
    ·rename_i ag z hA hz; injection hk with hk; subst hk; exact pC R (val_field R ht hf hA hz hx rb hr) hd he ee
    ·cases hk
   ·cases hk
  ·cases hk
 case indexAddr t X I =>
  split at hk
  ·rename_i el x' i' ht hx hi;obtain ⟨z,hz,rfl⟩:=aD hk;exact pC R (val_iaddr R ht hz hx hi rb hr) hd he ee
  ·rename_i n' e x' i' ht hx hi;obtain ⟨z,hz,rfl⟩:=aD hk;exact pC R (val_aaddr R ht hz hx hi rb hr) hd he ee
  ·cases hk
 case index t X I =>
  split at hk
  ·rename_i x' i' ht hx hi;cases hk;exact pC R (val_index R ht hx hi rb hr) hd he ee
  ·cases hk
 case makeMap t r =>
  split at hk
  ·rename_i kT eT ht;obtain ⟨ty,wa,rfl⟩:=aD hk;simp only [K.run] at hr;injection hr with hr; injection hr with h1 h2; subst h1; subst h2;cases ca:o.dst with
   | none=>simp [PA.eff,ca] at he
   | some d =>
    simp only [PA.eff,ca] at he;cases he;have h:=op_mkm R rb ca (hd d ca) (hD d ca rfl);exact kc d ca h
  ·cases hk
 case entry X =>
  obtain ⟨x',hx,rfl⟩:=aD hk;simp only [K.run] at hr;split at hr
  ·rename_i t' n uc;split at hr
   ·rename_i tm nm N seen hi;split at hr
    ·rename_i L i hL hl;split at hr
     ·rename_i hN;split at hr
      ·rename_i y v zq;split at hr
       ·rename_i bj;injection hr with hr; injection hr with h1 h2; subst h1; subst h2;exact pC R ⟨rfl,val_ent R hx rb uc hi hL hl hN zq bj⟩ hd he ee
       ·cases hr
      ·cases hr
     ·cases hr
    ·cases hr
   ·cases hr
  ·cases hr
 case range t X =>
  split at hk
  ·rename_i kT eT ht;obtain ⟨x',hx,rfl⟩:=aD hk;simp only [K.run] at hr;split at hr
   ·rename_i t' n uc;split at hr
    ·rename_i L hL;injection hr with hr; injection hr with h1 h2; subst h1; subst h2;cases ca:o.dst with
     | none=>simp [PA.eff,ca] at he
     | some d =>
      simp only [PA.eff,ca] at he;cases he;have h:=op_rng R ht hx rb uc hL ca (hd d ca) (hD d ca rfl);exact kc d ca h
    ·cases hr
   ·cases hr
  ·cases hk
 case lookup t X I ok =>
  split at hk
  ·rename_i kT eT x' i' ht hx hi;split at hk
   ·rename_i ty z wa hz;cases hk;simp only [K.run] at hr;split at hr
    ·rename_i t' n uc;split at hr
     ·rename_i L hL;split at hr
      ·rename_i aa;injection hr with hr; injection hr with h1 h2; subst h1; subst h2;unfold sY at wa;split at wa
       ·rename_i kk db;cases wa;exact pC R ⟨rfl,xY R (RU kk) (j5 db) ht hz aa.2.2 hx hi rb uc hL aa.1 aa.2.1⟩ hd he ee
       ·rename_i db;cases wa;exact pC R ⟨rfl,xY R TU (l5 db) ht hz aa.2.2 hx hi rb uc hL aa.1 aa.2.1⟩ hd he ee
       ·obtain ⟨l,_,wa⟩:=yb.1 wa;split at wa
        ·rename_i bj;cases wa;exact pC R ⟨rfl,xY R (EU l) (d5 bj.1) ht hz aa.2.2 hx hi rb uc hL aa.1 aa.2.1⟩ hd he ee
        ·cases wa
      ·cases hr
     ·cases hr
    ·cases hr
   ·cases hk
  ·cases hk
 case mapUpdate t X I Y =>
  split at hk
  ·rename_i kT eT x' i' y' ht hx hi hy;obtain ⟨ty,wa,rfl⟩:=aD hk;simp only [K.run] at hr;split at hr
   ·rename_i t' n uc;split at hr
    ·rename_i L hL;split at hr
     ·rename_i aa;injection hr with hr; injection hr with h1 h2; subst h1; subst h2;simp only [PA.eff] at he;cases he;have key:∃ w',(execOp a.eval o).run P w=.ok .skip w'/\CD P O nt B F0 da w0 D ((s.setObj t' n (zH (NI L (i'.get s) (y'.get s)))).put o.dst ⟨.undef,.no⟩) (a.put o.dst undef) w':=by
       unfold sY at wa;split at wa
       ·rename_i kk db;cases wa;exact fO R (RU kk) (j5 db) ht hx hi hy (.inl rb) hd uc hL aa.1 aa.2.1 aa.2.2
       ·rename_i db;cases wa;exact fO R TU (l5 db) ht hx hi hy (.inl rb) hd uc hL aa.1 aa.2.1 aa.2.2
       ·obtain ⟨l,_,wa⟩:=yb.1 wa;split at wa
        ·rename_i bj;cases wa;exact fO R (EU l) (d5 bj.1) ht hx hi hy (.inl rb) hd uc hL aa.1 aa.2.1 aa.2.2
        ·cases wa
      obtain ⟨w',ia,hR⟩:=key;unfold Oper.wp;rw [ia,Oper.upon_skip];simp_all
     ·cases hr
    ·cases hr
   ·cases hr
  ·cases hk
 case insert t X I Y =>
  split at hk
  ·rename_i kT eT x' i' y' ht hx hi hy;obtain ⟨ty,wa,rfl⟩:=aD hk;simp only [K.run] at hr;split at hr
   ·rename_i t' n uc;split at hr
    ·rename_i L hL;split at hr
     ·rename_i aa;injection hr with hr; injection hr with h1 h2; subst h1; subst h2;simp only [PA.eff] at he;cases he;have key:∃ w',(execOp a.eval o).run P w=.ok .skip w'/\CD P O nt B F0 da w0 D ((s.setObj t' n (zH (NI L (i'.get s) (y'.get s)))).put o.dst ⟨.undef,.no⟩) (a.put o.dst undef) w':=by
       unfold sY at wa;split at wa
       ·rename_i kk db;cases wa;exact fO R (RU kk) (j5 db) ht hx hi hy (.inr rb) hd uc hL aa.1 aa.2.1 aa.2.2
       ·rename_i db;cases wa;exact fO R TU (l5 db) ht hx hi hy (.inr rb) hd uc hL aa.1 aa.2.1 aa.2.2
       ·obtain ⟨l,_,wa⟩:=yb.1 wa;split at wa
        ·rename_i bj;cases wa;exact fO R (EU l) (d5 bj.1) ht hx hi hy (.inr rb) hd uc hL aa.1 aa.2.1 aa.2.2
        ·cases wa
      obtain ⟨w',ia,hR⟩:=key;unfold Oper.wp;rw [ia,Oper.upon_skip];simp_all
     ·cases hr
    ·cases hr
   ·cases hr
  ·cases hk
 case extract X i=>obtain ⟨y,hy,rfl⟩:=aD hk; exact pC R (val_ext R hy rb hr) hd he ee
 case call c =>
  obtain ⟨callee,xs,ts⟩:=c;cases callee with
  | invoke r m=>cases hk
  | value f =>
   cases f with
   | func f =>
    have plain:(bH xs.toList).map (.call cl f)=some k->o.wp P a w Kn Q:=fun hk=>by
     obtain ⟨ys,hy,rfl⟩:=aD hk;exact op_call R ua hy rb hd (fun d h=>hD d h rfl) hr he hK
    cases mu with
    | none=>exact plain hk
    | some b =>
     cases b with
     | true =>
      obtain ⟨ys,hy,rfl⟩:=aD (show (bH xs.toList).map (.callr cl f)=some k from hk);exact op_callr R ua hy rb hd hr he hK
     | false =>
      have tc:(match P.funcs[f]? with
       | some fn=>(match fn.resultTypes.toList with
        | [t]=>(match P.underlying t with
         | some (.slice e)=>(match gC P e,bH xs.toList with
          | some z,some xs=>if 0<z then some (K.callf cl f z xs) else none
          | _,_=>none)
         | _=>none)
        | _=>none)
       | none=>none)=some k:=hk
      clear hk;split at tc
      ·split at tc
       ·split at tc
        ·split at tc
         ·rename_i z ys hz hy;split at tc
          ·rename_i ab;injection tc with tc;subst tc;exact op_callf R ua hy rb hd (fun d h=>hD d h rfl) ab hr he hK
          ·cases tc
         ·cases tc
        ·cases tc
       ·cases tc
      ·cases tc
   | tmp tf =>
    obtain ⟨ys,hy,rfl⟩:=aD hk;exact op_callv R ua hy rb hd hr he hK
   | _=>cases hk
  | builtin b =>
  cases b
  case len =>
   simp only at hk;split at hk
   ·rename_i x' t hx zn;have hts:ts=#[t]:=by have h0:=congrArg List.toArray zn; rwa [yS] at h0
    subst hts;obtain ⟨X,hX,sk⟩:=opd_one hx;subst hX;split at hk
    ·rename_i ht; injection hk with hk; subst hk; exact pC R (val_len R (str:=true) ht sk rb hr) hd he ee
    ·rename_i el ht; injection hk with hk; subst hk; exact pC R (val_len R (str:=false) ⟨el,ht⟩ sk rb hr) hd he ee
    ·rename_i kT eT ht;cases hk;simp only [K.run] at hr;split at hr
     ·rename_i t n uc;split at hr
      ·rename_i L hL;injection hr with hr; injection hr with h1 h2; subst h1; subst h2;exact pC R ⟨rfl,op_mlen R ht sk rb uc hL⟩ hd he ee
      ·cases hr
     ·cases hr
    ·cases hk
   ·cases hk
  case clear =>
   simp only at hk;split at hk
   ·rename_i x' t hx zn;have hts:ts=#[t]:=by have h0:=congrArg List.toArray zn; rwa [yS] at h0
    subst hts;obtain ⟨X,hX,sk⟩:=opd_one hx;subst hX;split at hk
    ·rename_i el ht;obtain ⟨z,hz,rfl⟩:=aD hk;exact run_wp (op_clr R ht hz sk rb hd hr he) ee
    ·cases hk
   ·cases hk
  case max =>
   simp only at hk;split at hk
   ·rename_i X Y ze;have hX:xs=#[X,Y]:=by rw [<- yS (xs:=xs),ze]
    subst hX;split at hk
    ·rename_i x' y' hx hy;injection hk with hk; subst hk;simp only [K.run] at hr;obtain ⟨v,hv,hr⟩:=aD hr;injection hr with h1 h2; subst h1; subst h2;exact pC R ⟨rfl,val_mm R (mx:=true) hx hy rb hv⟩ hd he ee
    ·cases hk
   ·cases hk
  case min =>
   simp only at hk;split at hk
   ·rename_i X Y ze;have hX:xs=#[X,Y]:=by rw [<- yS (xs:=xs),ze]
    subst hX;split at hk
    ·rename_i x' y' hx hy;injection hk with hk; subst hk;simp only [K.run] at hr;obtain ⟨v,hv,hr⟩:=aD hr;injection hr with h1 h2; subst h1; subst h2;exact pC R ⟨rfl,val_mm R (mx:=false) hx hy rb hv⟩ hd he ee
    ·cases hk
   ·cases hk
  case append =>
   simp only at hk;split at hk
   ·rename_i x' y' t t' hx zn;split at hk
    ·rename_i htt';subst htt';have hts:ts=#[t,t]:=by have h0:=congrArg List.toArray zn; rwa [yS] at h0
     subst hts;obtain ⟨X,Y,hX,sk,bz⟩:∃ X Y,xs=#[X,Y]/\opd X=some x'/\opd Y=some y':=by
      obtain ⟨l⟩:=xs;have key:∀ {r:List Operand} {ys:List CB},bH r=some ys->r.length=ys.length/\∀ j (h:j<r.length),opd r[j]=ys[j]?:=by
       intro r
       induction r with
       | nil=>intro ys h; injection h with h; subst h; exact ⟨rfl,fun j h=>by simp at h⟩
       | cons X r ih =>
        intro ys h;unfold bH at h
        grind
      obtain ⟨h1,h2⟩:=key hx
      match l,h1,h2 with
      | [X,Y],_,h2=>exact ⟨X,Y,rfl,h2 0 (by simp),h2 1 (by simp)⟩
     subst hX;split at hk
     ·rename_i el ht;split at hk
      ·rename_i i z hi hz;split at hk
       ·rename_i aa;injection hk with hk;cases mu with
        | some m =>
         cases ca:o.dst with
         | none=>exact absurd ca (tp (by simp))
         | some d =>
          cases m with
          | true =>
           cases nest with
           | true=>simp only [if_true] at hk; subst hk; exact kc d ca (D5 R ht hi hz aa.1 aa.2 sk bz rb ca (hd d ca) (hD d ca rfl) hr he)
           | false=>simp only [yp,if_false] at hk; subst hk; exact kc d ca (op_appm R ht hi hz aa.1 aa.2 sk bz rb ca (hd d ca) (hD d ca rfl) hr he)
          | false=>simp only at hk; subst hk; exact kc d ca (op_appf R ht hi hz aa.1 aa.2 sk bz rb ca (hd d ca) (hD d ca rfl) hr he)
        | none =>
        simp only at hk;subst hk;cases ca:o.dst with
        | none =>
         have:∃ A,e=.app A 0:=by
          simp only [K.run] at hr
          grind
         obtain ⟨A,rfl⟩:=this;simp [PA.eff,ca] at he
        | some d=>exact run_wp (op_app R ht hi hz aa.1 aa.2 sk bz rb ca (hd d ca) hr he) ee
       ·cases hk
      ·cases hk
     ·cases hk
    ·cases hk
   ·cases hk
  all_goals cases hk
 case makeFunc fn fs Xs =>
  cases fn with
  | func f =>
   simp only at hk;split at hk
   ·rename_i h0;obtain ⟨ys,hy,rfl⟩:=aD hk;exact pC R (val_mkf R h0 hy rb hr) hd he ee
   ·cases hk
  | _=>cases hk
 all_goals cases hk
end
end
section
section
variable {call:DB} {s s' s1 s2:aA}
inductive Tr where
 | id
 | row (t n:Nat) (r:List rA)
 | an (A:An) (d:Nat)
 | obj (t n:Nat) (S:AV)
 | rn (k:Option (Nat × Nat)) (t n:Nat) (r:List rA)
 | ob2 (t n:Nat) (S:AV) (d m:Nat) (r:List rA)
def Tr.ap:Tr->aA->aA
 | .id,s=>s
 | .row t n r,s=>s.setRow t n r
 | .an A d,s=>(s.stripA A).strip d
 | .obj t n S,s=>s.setObj t n S
 | .rn k t n r,s=>(s.killO k).setRow t n r
 | .ob2 t n S d m r,s=>(s.setObj t n S).setRow d m r
def Tr.f:Tr->An->An
 | .an A d,x=>match A with
  | .own k _=>(x.strip k).strip d
  | _=>x.strip d
 | _,x=>x
theorem Tr.ends (T:Tr):R6 T.f:=by
 cases T with
 | an A d =>
  have h:∀ k j e,(An.own j e).strip k≠.ex:=fun k j e=>by simp only [An.strip]; split <;> simp
  have h':∀ k k' j e,((An.own j e).strip k).strip k'≠.ex:=fun k k' j e=>by
   by_cases hj:j=k
   ·simp [An.strip,hj]
   ·rw [show (An.own j e).strip k=An.own j e from if_neg hj];exact h k' j e
  cases A with
  | own k e=>exact ⟨rfl,rfl,fun j e=>h' k d j e⟩
  | no=>exact ⟨rfl,rfl,fun j e=>h d j e⟩
  | ex=>exact ⟨rfl,rfl,fun j e=>h d j e⟩
 | _=>exact ⟨rfl,rfl,fun _ _ h=>by cases h⟩
theorem Tr.ap_an (A:An) (d:Nat) (s:aA):(Tr.an A d).ap s=s.mapAn (Tr.an A d).f:=by
 cases A with
 | own k e=>simp [Tr.ap,aA.stripA,aA.strip,aA.mapAn,rA.strip,Tr.f,Function.comp_def]
 | no=>rfl
 | ex=>rfl
def PA.runG (call:DB) (o:PA) (s:aA):Option (rA × nD) :=
 match o.guard with
 | none=>o.op.run call s
 | some (t,want)=>match (s.env t).v with
  | .bool b=>if b=want then o.op.run call s else some (⟨.tup [],.no⟩,.none)
  | .tup []=>some (⟨.tup [],.no⟩,.none)
  | _=>none
def PA.effT (o:PA) (next:Nat):rA × nD->Option (Tr × rA)
 | (x,.none)=>some (.id,x)
 | (x,.new r)=>match o.dst with
  | none=>none
  | some d=>some (.row d next r,⟨match x.v with | .ref _ _ sz off l c=>.ref d next sz off l c | _=>.ptr d next 0,.no⟩)
 | (x,.set t n r)=>some (.row t n r,x)
 | (x,.app a _)=>match o.dst with
  | none=>none
  | some d=>some (.an a d,⟨x.v,match x.a with | .own _ e=>.own d e | a=>a⟩)
 | (x,.obj t n S)=>some (.obj t n S,x)
 | (x,.mk S)=>match o.dst with
  | none=>none
  | some d=>some (.obj d next S,⟨x.v.named d next,.no⟩)
 | (x,.ob2 t n S r)=>match o.dst with
  | none=>none
  | some d=>some (.ob2 t n S d next r,⟨match x.v with | .ref _ _ sz off l c=>.ref d next sz off l c | _=>.ptr d next 0,.no⟩)
 | (x,.rn k r)=>match o.dst with
  | none=>none
  | some d=>some (.rn k d next r,⟨match x.v with | .ref _ _ sz off l c=>.ref d next sz off l c | _=>.ptr d next 0,.no⟩)
theorem tP (o:PA) (s:aA):o.step call s=(o.runG call s).bind fun p=>(o.effT s.next p).map fun q=>(q.1.ap s).put o.dst q.2:=by
 have h:∀ p,o.eff s p=(o.effT s.next p).map fun q=>(q.1.ap s).put o.dst q.2:=by
  rintro ⟨x,e⟩;cases e with
  | none=>rfl
  | new r=>simp only [PA.eff,PA.effT]; cases o.dst <;> rfl
  | set t n r=>rfl
  | app a k=>simp only [PA.eff,PA.effT]; cases o.dst <;> rfl
  | obj t n S=>rfl
  | mk S=>simp only [PA.eff,PA.effT]; cases o.dst <;> rfl
  | rn k r=>simp only [PA.eff,PA.effT]; cases o.dst <;> rfl
  | ob2 t n S r=>simp only [PA.eff,PA.effT]; cases o.dst <;> rfl
 have hf:o.eff s=fun p=>(o.effT s.next p).map fun q=>(q.1.ap s).put o.dst q.2:=funext h
 unfold PA.step PA.runG;rw [<- hf];cases o.guard with
 | none=>rfl
 | some p =>
  obtain ⟨t,want⟩:=p;simp only;generalize (s.env t).v=y;cases y with
  | bool b=>simp only; split <;> rfl
  | tup l=>cases l <;> rfl
  | _=>rfl
theorem rP (k:K) {x:rA} {e:nD} (h:k.run call s=some (x,e)):match e with
    | .none=>True
    | .new _=>isA k=true
    | .set t _ _=>isS k=true/\∃ c,k.cl=some c/\c.okPtr t=true
    | .app _ _=>isT k=true
    | .obj _ _ _=>QU k=true/\isR k=false
    | .mk _=>QU k=true/\isR k=false
    | .rn _ _=>isM k=true
    | .ob2 _ _ _ _=>QU k=true/\isR k=false/\isA k=true:=by
  have hn:e=.none->(match e with
    | .none=>True
    | .new _=>isA k=true
    | .set t _ _=>isS k=true/\∃ c,k.cl=some c/\c.okPtr t=true
    | .app _ _=>isT k=true
    | .obj _ _ _=>QU k=true/\isR k=false
    | .mk _=>QU k=true/\isR k=false
    | .rn _ _=>isM k=true
    | .ob2 _ _ _ _=>QU k=true/\isR k=false/\isA k=true):=fun h=>by subst h; trivial
  cases k with
  | callh nt x xs=>cases h
  | nxt x=>cases h
  | ent x =>
    simp only [K.run] at h;split at h
    · split at h
      · split at h
        · split at h
          · split at h
            · split at h
              · injection h with h; injection h with _ h; exact hn h.symm
              · cases h
            · cases h
          · cases h
        · cases h
      · cases h
    · cases h
  | slz x =>
    simp only [K.run] at h;split at h <;> first | (cases h; done) | (injection h with h; injection h with _ h; exact hn h.symm)
  | rng x =>
    simp only [K.run] at h;split at h
    · split at h
      · injection h with h; injection h with _ h; subst h; exact ⟨rfl,rfl⟩
      · cases h
    · cases h
  | alloc z=>simp only [K.run] at h; injection h with h; injection h with _ h; subst h; rfl
  | box z x =>
    simp only [K.run] at h;split at h <;> split at h <;> first | (cases h; done) | (injection h with h; injection h with _ h; subst h; rfl)
  | mks z b zs l c =>
    simp only [K.run] at h;split at h
    · split at h
      · injection h with h; injection h with _ h; subst h; rfl
      · cases h
    · cases h
  | clr cl z x =>
    simp only [K.run] at h;split at h
    · injection h with h; injection h with _ h; subst h; trivial
    · rename_i t n sz off ln _ _
      split at h
      · rename_i na
        obtain ⟨r,_,h⟩:=yg.1 h;injection h with _ h;subst h;exact ⟨rfl,cl,rfl,na.1⟩
      · cases h
    · cases h
  | store cl g z x y =>
    simp only [K.run] at h;split at h
    · split at h
      · rename_i t n off _ na
        obtain ⟨r,_,h⟩:=yg.1 h;injection h with _ h;subst h;exact ⟨rfl,cl,rfl,na⟩
      · cases h
    · cases h
  | app cl e z b x y =>
    simp only [K.run] at h;split at h
    · split at h
      · split at h
        · cases h
        · split at h
          · injection h with h; injection h with _ h; subst h; rfl
          · cases h
        · injection h with h; injection h with _ h; subst h; rfl
      · cases h
    · cases h
  | appf cl e z b x y =>
    simp only [K.run] at h;split at h
    · split at h
      · split at h
        · split at h
          · injection h with h; injection h with _ h; exact hn h.symm
          · injection h with h; injection h with _ h; subst h; rfl
        · cases h
      · cases h
    · cases h
  | appm cl e z b x y =>
    simp only [K.run] at h;split at h
    · split at h
      · split at h
        · split at h
          · injection h with h; injection h with _ h; exact hn h.symm
          · injection h with h; injection h with _ h; subst h; rfl
        · cases h
      · cases h
    · split at h
      · split at h
        · injection h with h; injection h with _ h; subst h; rfl
        · cases h
      · cases h
    · cases h
  | appn cl e z b x y =>
    simp only [K.run] at h;split at h
    · split at h
      · split at h
        · injection h with h; injection h with _ h; subst h; rfl
        · cases h
      · cases h
    · split at h
      · split at h
        · injection h with h; injection h with _ h; subst h; rfl
        · cases h
      · cases h
    · cases h
  | bslr sz z n ps =>
    simp only [K.run] at h;split at h
    · injection h with h; injection h with _ h; subst h; rfl
    · cases h
  | bad=>simp only [K.run] at h; cases h
  | mkm=>simp only [K.run] at h; injection h with h; injection h with _ h; subst h; exact ⟨rfl,rfl⟩
  | mkb T e=>simp only [K.run] at h; injection h with h; injection h with _ h; subst h; exact ⟨rfl,rfl⟩
  | mget ok ty z x k =>
    simp only [K.run] at h;split at h
    · split at h
      · split at h
        · injection h with h; injection h with _ h; exact hn h.symm
        · cases h
      · cases h
    · cases h
  | mset ty x k v =>
    simp only [K.run] at h;split at h
    · split at h
      · split at h
        · injection h with h; injection h with _ h; subst h; exact ⟨rfl,rfl⟩
        · cases h
      · cases h
    · cases h
  | mlen x =>
    simp only [K.run] at h;split at h
    · split at h
      · injection h with h; injection h with _ h; exact hn h.symm
      · cases h
    · cases h
  | mv x=>simp only [K.run] at h; injection h with h; injection h with _ h; exact hn h.symm
  | pick c a b =>
    simp only [K.run] at h;split at h
    · injection h with h; injection h with _ h; exact hn h.symm
    · cases h
  | build z ps =>
    simp only [K.run] at h;split at h
    · obtain ⟨r,_,h⟩:=yg.1 h; injection h with _ h; exact hn h.symm
    · cases h
  | bsl z n ps =>
    simp only [K.run] at h;split at h
    · injection h with h; injection h with _ h; exact hn h.symm
    · cases h
  | load cl g z x =>
    simp only [K.run] at h;split at h
    · split at h
      · obtain ⟨r,_,h⟩:=yg.1 h; injection h with _ h; exact hn h.symm
      · cases h
    · split at h
      · cases h
      · obtain ⟨r,_,h⟩:=yg.1 h; injection h with _ h; exact hn h.symm
    · split at h
      · cases h
      · obtain ⟨r,_,h⟩:=yg.1 h; injection h with _ h; exact hn h.symm
    · cases h
  | mm b x y=>simp only [K.run] at h; obtain ⟨r,_,h⟩:=yg.1 h; injection h with _ h; exact hn h.symm
  | bin op b x y=>simp only [K.run] at h; obtain ⟨r,_,h⟩:=yg.1 h; injection h with _ h; exact hn h.symm
  | eqa n ks x y =>
    simp only [K.run] at h;split at h
    · obtain ⟨r,_,h⟩:=yg.1 h; injection h with _ h; exact hn h.symm
    · cases h
  | eqn n p x y =>
    simp only [K.run] at h;split at h <;> first | (cases h; done) | (obtain ⟨r,_,h⟩:=yg.1 h; injection h with _ h; exact hn h.symm)
  | un op x =>
    simp only [K.run] at h;split at h <;> first | (cases h; done) | (injection h with h; injection h with _ h; exact hn h.symm)
  | conv o x =>
    simp only [K.run] at h;split at h <;> first | (cases h; done) | (injection h with h; injection h with _ h; exact hn h.symm)
  | slc st z x lo hi mx =>
    cases mx with
    | some m=>simp [K.run] at h
    | none =>
      simp only [K.run] at h;split at h
      · cases h
      · split at h <;> first
          | (cases h; done)
          | (split at h
             · split at h
               · (try split at h) <;> (injection h with h; injection h with _ h; exact hn h.symm)
               · cases h
             · cases h)
  | faddr o x =>
    simp only [K.run] at h;split at h <;> first | (cases h; done) | (injection h with h; injection h with _ h; exact hn h.symm)
  | field g o z x =>
    simp only [K.run] at h;split at h
    · obtain ⟨r,_,h⟩:=yg.1 h; injection h with _ h; exact hn h.symm
    · cases h
  | aaddr l z x i =>
    simp only [K.run] at h;split at h
    · split at h
      · split at h <;> first | (cases h; done) | (injection h with h; injection h with _ h; exact hn h.symm)
      · cases h
    · cases h
  | iaddr z x i =>
    simp only [K.run] at h;split at h
    · split at h
      · obtain ⟨r,_,h⟩:=yb.1 h; split at h <;> first | (cases h; done) | (injection h with h; injection h with _ h; exact hn h.symm)
      · obtain ⟨r,_,h⟩:=yb.1 h; split at h <;> first | (cases h; done) | (injection h with h; injection h with _ h; exact hn h.symm)
      · split at h <;> first | (cases h; done) | (injection h with h; injection h with _ h; exact hn h.symm)
      · cases h
    · cases h
  | index x i =>
    simp only [K.run] at h;split at h
    · obtain ⟨r,_,h⟩:=yg.1 h; injection h with _ h; exact hn h.symm
    · cases h
  | ext x i =>
    simp only [K.run] at h;split at h
    · obtain ⟨r,_,h⟩:=yg.1 h; injection h with _ h; exact hn h.symm
    · cases h
  | call cl f xs =>
    simp only [K.run] at h;obtain ⟨vs,_,h⟩:=yb.1 h;split at h
    · obtain ⟨r,_,h⟩:=yb.1 h
      split at h
      · split at h <;> first | (cases h; done) | (injection h with h; injection h with _ h; exact hn h.symm)
      · split at h <;> first | (cases h; done) | (injection h with h; injection h with _ h; subst h; exact ⟨rfl,rfl⟩)
    · obtain ⟨r,_,h⟩:=yb.1 h
      split at h
      · cases h
      · split at h <;> first | (cases h; done) | (injection h with h; injection h with _ h; subst h; exact ⟨rfl,rfl⟩)
    · cases h
  | callf cl f z xs =>
    simp only [K.run] at h;obtain ⟨vs,_,h⟩:=yb.1 h;split at h
    · obtain ⟨r,_,h⟩:=yb.1 h
      split at h
      · split at h
        · split at h
          · injection h with h; injection h with _ h; subst h; exact ⟨rfl,rfl⟩
          · injection h with h; injection h with _ h; subst h; exact ⟨rfl,rfl,rfl⟩
        · cases h
      · cases h
    · cases h
  | callr cl f xs =>
    simp only [K.run] at h;split at h
    · split at h
      · rename_i na
        split at h
        · split at h
          · obtain ⟨q,_,h⟩:=yb.1 h
            split at h
            · split at h
              · injection h with h; injection h with _ h; subst h
                exact ⟨rfl,cl,rfl,na⟩
              · cases h
            · cases h
          · cases h
        · cases h
      · cases h
    · cases h
  | rstr x =>
    simp only [K.run] at h;split at h <;> first | (cases h; done) | (injection h with h; injection h with _ h; exact hn h.symm)
  | bstr cl x =>
    simp only [K.run] at h;split at h
    · obtain ⟨r,_,h⟩:=yg.1 h; injection h with _ h; exact hn h.symm
    · cases h
  | aslc cl l z x lo hi =>
    simp only [K.run] at h;split at h
    · split at h
      · split at h
        · split at h <;> (injection h with h; injection h with _ h; exact hn h.symm)
        · cases h
      · cases h
    · cases h
  | mkf f xs =>
    simp only [K.run] at h;split at h
    · injection h with h; injection h with _ h; exact hn h.symm
    · cases h
  | callv cl x xs =>
    simp only [K.run] at h;split at h
    · split at h
      · obtain ⟨r,_,h⟩:=yb.1 h
        split at h
        · split at h <;> first | (cases h; done) | (injection h with h; injection h with _ h; exact hn h.symm)
        · cases h
      · cases h
    · cases h
  | len st x =>
    simp only [K.run] at h;split at h <;> first
      | (cases h; done)
      | (split at h <;> first | (cases h; done) | (injection h with h; injection h with _ h; exact hn h.symm))
  | nilchk x =>
    simp only [K.run] at h;split at h <;> first | (cases h; done) | (injection h with h; injection h with _ h; exact hn h.symm)
def Tr.of (T:Tr) (o:PA):Prop:=match T with
 | .id=>True
 | .row t _ _=>(isA o.op=true/\o.dst=some t)\/(isS o.op=true/\∃ c,o.op.cl=some c/\c.okPtr t=true)
 | .an _ d=>isT o.op=true/\o.dst=some d
 | .obj _ _ _=>QU o.op=true/\isR o.op=false
 | .rn ..=>isM o.op=true
 | .ob2 _ _ _ d _ _=>(QU o.op=true/\isR o.op=false/\isA o.op=true)/\o.dst=some d
theorem d9 (o:PA) {x:rA} {e:nD} (h:o.runG call s=some (x,e)) {n:Nat} {T:Tr} {v:rA} (ht:o.effT n (x,e)=some (T,v)):T.of o:=by
 have key:o.op.run call s=some (x,e)\/e=.none:=by
  unfold PA.runG at h;split at h
  ·exact .inl h
  ·split at h
   ·split at h
    ·exact .inl h
    ·injection h with h; injection h with _ h; exact .inr h.symm
   ·injection h with h; injection h with _ h; exact .inr h.symm
   ·cases h
 cases e with
 | none=>simp only [PA.effT] at ht; injection ht with ht; injection ht with h1 _; subst h1; trivial
 | new r =>
  have:=rP o.op (key.resolve_right (by simp));simp only [PA.effT] at ht;split at ht
  ·cases ht
  ·rename_i d hd; injection ht with ht; injection ht with h1 _; subst h1; exact .inl ⟨this,hd⟩
 | set t n r =>
  have:=rP o.op (key.resolve_right (by simp));simp only [PA.effT] at ht;injection ht with ht; injection ht with h1 _; subst h1;exact .inr this
 | app a k =>
  have:=rP o.op (key.resolve_right (by simp));simp only [PA.effT] at ht;split at ht
  ·cases ht
  ·rename_i d hd; injection ht with ht; injection ht with h1 _; subst h1; exact ⟨this,hd⟩
 | obj t n S =>
  have:=rP o.op (key.resolve_right (by simp));simp only [PA.effT] at ht;injection ht with ht; injection ht with h1 _; subst h1;exact this
 | mk S =>
  have:=rP o.op (key.resolve_right (by simp));simp only [PA.effT] at ht;split at ht
  ·cases ht
  ·injection ht with ht; injection ht with h1 _; subst h1; exact this
 | rn k r =>
  have:=rP o.op (key.resolve_right (by simp));simp only [PA.effT] at ht;split at ht
  ·cases ht
  ·injection ht with ht; injection ht with h1 _; subst h1; exact this
 | ob2 t n S r =>
  have:=rP o.op (key.resolve_right (by simp));simp only [PA.effT] at ht;split at ht
  ·cases ht
  ·rename_i d hd; injection ht with ht; injection ht with h1 _; subst h1; exact ⟨this,hd⟩
theorem get_put {o:CB} {d:Option Nat} {x:rA} (h:∀ n,o=.t n->d≠some n):o.get (s.put d x)=o.get s/\o.an (s.put d x)=o.an s:=by
 cases d with
 | none=>exact ⟨rfl,rfl⟩
 | some d =>
  cases o with
  | c v=>exact ⟨rfl,by cases v <;> first | rfl | (rename_i b l; cases b <;> rfl)⟩
  | t n =>
   have:n≠d:=fun e=>h n rfl (by rw [e])
   simp [CB.get,CB.an,aA.put,this]
theorem looks_opds {o:PA} {n:Nat} {x:CB} (h:x∈o.op.opds) (hx:x=.t n):n∈o.looks:=by
 unfold PA.looks;refine List.mem_append_left _ (List.mem_filterMap.2 ⟨x,h,?_⟩);rw [hx]
theorem RO {x y:PA} (h:x.clear y=true):(∀ n,x.dst=some n->n ∉ y.looks)/\(∀ n,x.dst=some n->y.dst≠some n):=by
 unfold PA.clear at h;constructor
 ·intro n hn;rw [hn] at h;simp at h;exact h.1
 ·intro n hn;rw [hn] at h;simp at h;exact h.2
theorem JT {y:PA} {d:Option Nat} {v:rA} (h:∀ n,d=some n->n ∉ y.looks):y.runG call (s.put d v)=y.runG call s:=by
 have h1:y.op.run call (s.put d v)=y.op.run call s:=JQ _ (fun o ho=>get_put fun n hn hd=>h n hd (looks_opds ho hn)) (fun t n _=>by cases d <;> rfl) (fun _=>by cases d <;> rfl);unfold PA.runG;rw [h1];cases hg:y.guard with
 | none=>rfl
 | some p =>
  obtain ⟨t,want⟩:=p;have:t∈y.looks:=by unfold PA.looks; rw [hg]; simp
  have he:((s.put d v).env t)=s.env t:=by
   cases d with
   | none=>rfl
   | some d =>
    have:t≠d:=fun e=>h d rfl (e ▸ this)
    simp [aA.put,this]
  simp only [he]
def Tr.off (T:Tr) (o:PA):Prop:=match T with
 | .id=>True
 | .row t _ _=>¬ o.op.reads t
 | .an _ _=>isT o.op=false
 | .obj _ _ _=>QU o.op=false
 | .rn ..=>False
 | .ob2 _ _ _ d _ _=>QU o.op=false/\¬ o.op.reads d
def Tr.act (T:Tr) (p:rA × nD):rA × nD:=match T with
 | .an _ _=>(p.1.mapAn T.f,p.2.mapAn T.f)
 | _=>p
theorem runG_tr {y:PA} {T:Tr} (h:T.off y):y.runG call (T.ap s)=(y.runG call s).map T.act:=by
 cases T with
 | rn=>exact absurd h id
 | ob2 t n S d m r =>
  have h1:y.op.run call ((s.setObj t n S).setRow d m r)=y.op.run call s:=JQ _ (fun o ho=>by
   cases o with
   | t n=>exact ⟨rfl,rfl⟩
   | c v=>exact ⟨rfl,by cases v <;> first | rfl | (rename_i b l; cases b <;> rfl)⟩) (fun t' n' hr=>by
   simp only [aA.setRow,aA.setObj];rw [if_neg];rintro ⟨e,_⟩;exact h.2 (e ▸ hr)) (fun ho=>by
    have h':QU y.op=false:=h.1;rw [h'] at ho; cases ho)
  have:y.runG call ((Tr.ob2 t n S d m r).ap s)=y.runG call s:=by
   unfold PA.runG Tr.ap;rw [h1];rfl
  have h2:(Tr.act (.ob2 t n S d m r):rA × nD->rA × nD)=id:=rfl;rw [this,h2,Option.map_id];rfl
 | id =>
  have:(Tr.act .id:rA × nD->rA × nD)=id:=rfl;rw [this,Option.map_id];rfl
 | row t n r =>
  have h1:y.op.run call (s.setRow t n r)=y.op.run call s:=JQ _ (fun o ho=>by
   cases o with
   | t n=>exact ⟨rfl,rfl⟩
   | c v=>exact ⟨rfl,by cases v <;> first | rfl | (rename_i b l; cases b <;> rfl)⟩) (fun t' n' hr=>by
   simp only [aA.setRow];rw [if_neg];rintro ⟨e,_⟩;exact h (e ▸ hr)) (fun _=>rfl)
  have:y.runG call ((Tr.row t n r).ap s)=y.runG call s:=by
   unfold PA.runG Tr.ap;rw [h1];rfl
  have h2:(Tr.act (.row t n r):rA × nD->rA × nD)=id:=rfl;rw [this,h2,Option.map_id];rfl
 | obj t n S =>
  have h1:y.op.run call (s.setObj t n S)=y.op.run call s:=JQ _ (fun o ho=>by
   cases o with
   | t n=>exact ⟨rfl,rfl⟩
   | c v=>exact ⟨rfl,by cases v <;> first | rfl | (rename_i b l; cases b <;> rfl)⟩) (fun t' n' hr=>rfl) (fun ho=>by
    have h':QU y.op=false:=h;rw [h'] at ho; cases ho)
  have:y.runG call ((Tr.obj t n S).ap s)=y.runG call s:=by
   unfold PA.runG Tr.ap;rw [h1];rfl
  have h2:(Tr.act (.obj t n S):rA × nD->rA × nD)=id:=rfl;rw [this,h2,Option.map_id];rfl
 | an A d =>
  rw [Tr.ap_an];have h1:=run_mapAn (call:=call) (s:=s) (Tr.ends (.an A d)) y.op h;unfold PA.runG;rw [h1];cases y.guard with
  | none=>rfl
  | some p =>
   obtain ⟨t,want⟩:=p;simp only [aA.mapAn];generalize (s.env t).v=y;cases y with
   | bool b =>
    simp only;split
    ·rfl
    ·simp [Tr.act,rA.mapAn,nD.mapAn,(Tr.ends (.an A d)).no]
   | tup l=>cases l <;> simp [Tr.act,rA.mapAn,nD.mapAn,(Tr.ends (.an A d)).no]
   | _=>rfl
theorem T8 {x y:PA} (h:FI x y=true):FI y x=true:=by
 unfold FI at h ⊢;simp only [y7] at h ⊢;obtain ⟨⟨⟨⟨⟨⟨⟨m1,m2⟩,h1⟩,h0⟩,h2⟩,h3⟩,h4⟩,h5⟩:=h;refine ⟨⟨⟨⟨⟨⟨⟨m2,m1⟩,by rw [Bool.or_comm]; exact h1⟩,by rw [Bool.or_comm (!QU y.op),Bool.and_comm]; exact h0⟩,?_⟩,h4⟩,h3⟩,?_⟩
 ·cases hc:x.op.cl with
  | none=>cases y.op.cl <;> rfl
  | some c =>
   cases hd:y.op.cl with
   | none=>rfl
   | some d =>
    rw [hc,hd] at h2;simp only [Bool.or_eq_true] at h2 ⊢;refine h2.imp (fun h=>by rw [Bool.or_comm]; exact h) fun h=>?_
    cases c <;> cases d <;> first | rfl | exact h | (simp at h ⊢; exact fun e=>h e.symm) | (simp at h)
 ·simp only [Bool.or_eq_true] at h5 ⊢;rcases h5 with (h | h) | h
  ·exact .inl (.inr h)
  ·exact .inl (.inl h)
  ·exact .inr (by simp at h ⊢; exact fun e=>h e.symm)
theorem off_of {T:Tr} {x y:PA} (h:T.of x) (na:FI x y=true):T.off y:=by
 unfold FI at na;simp only [y7] at na;obtain ⟨⟨⟨⟨⟨⟨⟨m1,m2⟩,h1⟩,h0⟩,h2⟩,h3⟩,h4⟩,h5⟩:=na;cases T with
 | id=>trivial
 | rn k t n r =>
  have h':isM x.op=true:=h;rw [h'] at m1;cases m1
 | ob2 t n S d m r =>
  obtain ⟨⟨g1,g2,ha⟩,hd⟩:=h;rw [g1,g2] at h0;refine ⟨by simpa using h0,fun hr=>?_⟩;unfold K.reads at hr;rw [ha,hd] at h3;cases jd:y.op.cl with
  | none=>rw [jd] at hr; exact hr
  | some c =>
   rw [jd] at hr h3;cases c with
   | any=>simp at h3
   | imm=>exact hr
   | root r=>simp at h3; exact h3 hr
   | out L=>simp only [Bool.not_true,Bool.false_or] at h3 hr; rw [h3] at hr; cases hr
 | an A d =>
  have:=h.1;rw [this] at h1;show isT y.op=false;simpa using h1
 | obj t n S =>
  obtain ⟨g1,g2⟩:QU x.op=true/\isR x.op=false:=h;rw [g1,g2] at h0;show QU y.op=false;simpa using h0
 | row t n r =>
  intro hr;unfold K.reads at hr;rcases h with ⟨ha,hd⟩ | ⟨hs,hc⟩
  ·rw [ha,hd] at h3;cases jd:y.op.cl with
   | none=>rw [jd] at hr; exact hr
   | some c =>
    rw [jd] at hr h3;cases c with
    | any=>simp at h3
    | imm=>exact hr
    | root r=>simp at h3; exact h3 hr
    | out L=>simp only [Bool.not_true,Bool.false_or] at h3 hr; rw [h3] at hr; cases hr
  ·cases jd:y.op.cl with
   | none=>rw [jd] at hr; exact hr
   | some c =>
    rw [jd] at hr;obtain ⟨c0,hc,hp⟩:=hc;rw [hc,jd,hs] at h2;cases c0 with
    | imm=>simp [Cl.okPtr] at hp
    | any=>cases c <;> first | exact hr | (simp at h2)
    | root r0 =>
     simp [Cl.okPtr] at hp;subst hp;cases c with
     | imm=>exact hr
     | any=>simp at h2
     | root r=>simp at h2; exact h2 hr
     | out L=>simp at h2 hr; exact hr h2
    | out L0 =>
     simp [Cl.okPtr] at hp;cases c with
     | imm=>exact hr
     | any=>simp at h2
     | root r=>simp at h2 hr; subst hr; exact hp h2
     | out L=>simp at h2
theorem row_ne {t n t' n':Nat} {r r':List rA} {x y:PA} (h:(Tr.row t n r).of x) (h':(Tr.row t' n' r').of y) (na:FI x y=true):t≠t':=by
 unfold FI at na;simp only [y7] at na;obtain ⟨⟨⟨⟨⟨⟨⟨m1,m2⟩,h1⟩,h0⟩,h2⟩,h3⟩,h4⟩,h5⟩:=na;rintro rfl;rcases h with ⟨ha,hd⟩ | ⟨hs,hc⟩ <;> rcases h' with ⟨ha',sr⟩ | ⟨mg,lf⟩
 ·rw [ha,ha',hd,sr] at h5; simp at h5
 ·rw [ha,hd] at h3;obtain ⟨c,lf,hp⟩:=lf;rw [lf] at h3;cases c <;> simp [Cl.okPtr] at h3 hp <;> first | exact h3 hp.symm | exact hp h3
 ·rw [ha',sr] at h4;obtain ⟨c,hc,hp⟩:=hc;rw [hc] at h4;cases c <;> simp [Cl.okPtr] at h4 hp <;> first | exact h4 hp.symm | exact hp h4
 ·obtain ⟨c,hc,hp⟩:=hc;obtain ⟨c',lf,hp'⟩:=lf;rw [hc,lf,hs] at h2;cases c <;> cases c' <;> simp [Cl.okPtr] at h2 hp hp'
  ·subst hp; subst hp'; exact h2 rfl
  ·subst hp; exact hp' h2
  ·subst hp'; exact hp h2
def Tr.conj (T:Tr):Tr->Tr
 | .row t n r=>match T with
  | .an A d=>.row t n (r.map (rA.mapAn (Tr.an A d).f))
  | _=>.row t n r
 | .ob2 t n S d m r=>match T with
  | .an A d'=>.ob2 t n S d m (r.map (rA.mapAn (Tr.an A d').f))
  | _=>.ob2 t n S d m r
 | T'=>T'
def Tr.actS (T:Tr) (v:rA):rA:=match T with
 | .an A d=>v.mapAn (Tr.an A d).f
 | _=>v
theorem c7 {T:Tr} {o:PA} {n:Nat} {p:rA × nD} {T':Tr} {v:rA} (h:o.effT n p=some (T',v)) (hT:(∃ A d,T=.an A d)->∀ A d,T'≠.an A d) (hR:∀ k t m r,T'≠.rn k t m r):o.effT n (T.act p)=some (T.conj T',T.actS v):=by
 obtain ⟨x,e⟩:=p;cases T with
 | id=>rw [show Tr.id.act (x,e)=(x,e) from rfl,h]; cases T' <;> rfl
 | row t m r=>rw [show (Tr.row t m r).act (x,e)=(x,e) from rfl,h]; cases T' <;> rfl
 | obj t m S=>rw [show (Tr.obj t m S).act (x,e)=(x,e) from rfl,h]; cases T' <;> rfl
 | rn k t m r=>rw [show (Tr.rn k t m r).act (x,e)=(x,e) from rfl,h]; cases T' <;> rfl
 | ob2 t n S d m r=>rw [show (Tr.ob2 t n S d m r).act (x,e)=(x,e) from rfl,h]; cases T' <;> rfl
 | an A d =>
  cases e with
  | none=>simp only [PA.effT] at h; injection h with h; injection h with h1 h2; subst h1; subst h2; rfl
  | new r =>
   simp only [PA.effT] at h;split at h
   ·cases h
   ·rename_i d' hd;injection h with h; injection h with h1 h2; subst h1; subst h2;simp only [Tr.act,PA.effT,nD.mapAn,hd,Tr.conj,Tr.actS,rA.mapAn,(Tr.ends (.an A d)).no]
  | set t m r =>
   simp only [PA.effT] at h;injection h with h; injection h with h1 h2; subst h1; subst h2;simp only [Tr.act,PA.effT,nD.mapAn,Tr.conj,Tr.actS,rA.mapAn,(Tr.ends (.an A d)).no]
  | app a k =>
   simp only [PA.effT] at h;split at h
   ·cases h
   ·injection h with h; injection h with h1 h2; subst h1; exact absurd rfl (hT ⟨A,d,rfl⟩ _ _)
  | obj t m S =>
   simp only [PA.effT] at h;injection h with h; injection h with h1 h2; subst h1; subst h2;rfl
  | mk S =>
   simp only [PA.effT] at h;split at h
   ·cases h
   ·rename_i d' hd;injection h with h; injection h with h1 h2; subst h1; subst h2;simp only [Tr.act,PA.effT,nD.mapAn,hd,Tr.conj,Tr.actS,rA.mapAn,(Tr.ends (.an A d)).no]
  | rn k r =>
   simp only [PA.effT] at h;split at h
   ·cases h
   ·injection h with h; injection h with h1 h2; exact absurd h1.symm (hR _ _ _ _)
  | ob2 t n S r =>
   simp only [PA.effT] at h;split at h
   ·cases h
   ·rename_i d' hd;injection h with h; injection h with h1 h2; subst h1; subst h2;simp only [Tr.act,PA.effT,nD.mapAn,hd,Tr.conj,Tr.actS,rA.mapAn,(Tr.ends (.an A d)).no]
theorem sD {d d':Option Nat} (h:∀ n,d=some n->d'≠some n) (v v':rA):(s.put d v).put d' v'=(s.put d' v').put d v:=by
 cases d with
 | none=>rfl
 | some d =>
  cases d' with
  | none=>rfl
  | some d' =>
   have:d≠d':=fun e=>h d rfl (by rw [e])
   simp only [aA.put];congr 1;funext t;by_cases h1:t=d'
   ·by_cases h2:t=d
    ·exact absurd (h2.symm.trans h1) this
    ·rw [h1]; simp only [if_true]; rw [if_neg (fun e=>this e.symm)]
   ·simp [h1]
theorem pJ (f:An->An) (d:Option Nat) (v:rA):(s.put d v).mapAn f=(s.mapAn f).put d (v.mapAn f):=by
 cases d with
 | none=>rfl
 | some d =>
  simp only [aA.put,aA.mapAn];congr 1;funext t;by_cases h:t=d <;> simp [h,rA.mapAn]
theorem kM (f:An->An) (t n:Nat) (r:List rA):(s.setRow t n r).mapAn f=(s.mapAn f).setRow t n (r.map (rA.mapAn f)):=by
 simp only [aA.setRow,aA.mapAn];congr 1;funext t' n';by_cases h:t'=t/\n'=n
 ·simp only [h,and_self,if_true,yq]; rfl
 ·simp [h]
theorem BC (d:Option Nat) (v:rA) (t n:Nat) (r:List rA):(s.put d v).setRow t n r=(s.setRow t n r).put d v:=by cases d <;> rfl
theorem cQ {t n t' n':Nat} (h:t≠t') (r r':List rA):(s.setRow t n r).setRow t' n' r'=(s.setRow t' n' r').setRow t n r:=by
 simp only [aA.setRow];congr 1;funext a b;by_cases h1:a=t'
 ·have:¬ (a=t/\b=n):=fun e=>h (e.1.symm.trans h1)
  simp [this]
 ·have:¬ (a=t'/\b=n'):=fun e=>h1 e.1
  simp [this]
theorem WE (d:Option Nat) (v:rA) (t n:Nat) (S:AV):(s.put d v).setObj t n S=(s.setObj t n S).put d v:=by cases d <;> rfl
theorem jM (f:An->An) (t n:Nat) (S:AV):(s.setObj t n S).mapAn f=(s.mapAn f).setObj t n S:=rfl
theorem mR (t n:Nat) (r:List rA) (t' n':Nat) (S:AV):(s.setRow t n r).setObj t' n' S=(s.setObj t' n' S).setRow t n r:=rfl
theorem J6 {t n:Nat} {S:AV} {d m:Nat} {r:List rA} {o:PA} (h:(Tr.ob2 t n S d m r).of o):(Tr.row d m r).of o:=.inl ⟨h.1.2.2,h.2⟩
theorem next_tr (T:Tr) (s:aA) (d:Option Nat) (v:rA):((T.ap s).put d v).next=s.next:=by
 have:(T.ap s).next=s.next:=by
  cases T with
  | an A d=>rw [Tr.ap_an]; rfl
  | rn k t n r=>cases k <;> rfl
  | _=>rfl
 cases d <;> exact this
theorem commute0 {x y:PA} (xl:lK x y=true) (na:FI x y=true) (h1:x.step call s=some s1) (h2:y.step call s1=some s2):∃ jt,y.step call s=some jt/\x.step call jt=some s2:=by
 unfold lK at xl;simp only [y7] at xl;obtain ⟨a1,a2⟩:=RO xl.1;obtain ⟨a3,a4⟩:=RO xl.2;rw [tP] at h1 h2;obtain ⟨p,hp,h1⟩:=yb.1 h1;obtain ⟨⟨Tx,vx⟩,hx,h1⟩:=yg.1 h1;obtain ⟨q,hq,h2⟩:=yb.1 h2;obtain ⟨⟨Ty,vy⟩,hy,h2⟩:=yg.1 h2;simp only at h1 h2;subst h1;have ofx:Tx.of x:=d9 x (x:=p.1) (e:=p.2) hp hx;have offy:=off_of ofx na;rw [JT a1,runG_tr offy] at hq;obtain ⟨q0,hq0,rfl⟩:=yg.1 hq;rw [next_tr] at hy
 -- y in the first state
 have tg:∃ Ty0 vy0,y.effT s.next q0=some (Ty0,vy0):=by
  obtain ⟨u,e⟩:=q0;cases e with
  | none=>exact ⟨_,_,rfl⟩
  | new r =>
   cases hd:y.dst with
   | none =>
    exfalso;cases Tx <;> simp [Tr.act,PA.effT,nD.mapAn,hd] at hy
   | some d=>exact ⟨.row d s.next r,_,by simp only [PA.effT,hd]; rfl⟩
  | set t n r=>exact ⟨_,_,rfl⟩
  | obj t n S=>exact ⟨_,_,rfl⟩
  | mk S =>
   cases hd:y.dst with
   | none =>
    exfalso;cases Tx <;> simp [Tr.act,PA.effT,nD.mapAn,hd] at hy
   | some d=>exact ⟨.obj d s.next S,_,by simp only [PA.effT,hd]; rfl⟩
  | app a k =>
   cases hd:y.dst with
   | none =>
    exfalso;cases Tx <;> simp [Tr.act,PA.effT,nD.mapAn,hd] at hy
   | some d=>exact ⟨.an a d,_,by simp only [PA.effT,hd]; rfl⟩
  | rn k r =>
   cases hd:y.dst with
   | none =>
    exfalso;cases Tx <;> simp [Tr.act,PA.effT,nD.mapAn,hd] at hy
   | some d=>exact ⟨.rn k d s.next r,_,by simp only [PA.effT,hd]; rfl⟩
  | ob2 t n S r =>
   cases hd:y.dst with
   | none =>
    exfalso;cases Tx <;> simp [Tr.act,PA.effT,nD.mapAn,hd] at hy
   | some d=>exact ⟨.ob2 t n S d s.next r,_,by simp only [PA.effT,hd]; rfl⟩
 obtain ⟨Ty0,vy0,tg⟩:=tg;have ofy:Ty0.of y:=d9 y (x:=q0.1) (e:=q0.2) hq0 tg;have offx:=off_of ofy (T8 na);have notT:∀ A d A' d',Tx=.an A d->Ty0=.an A' d'->False:=fun A d A' d' e e'=>by
  subst e; subst e';have:=ofy.1;rw [show isT y.op=false from offy] at this;cases this
 have noM:∀ {T:Tr} {o:PA},T.of o->isM o.op=false->∀ k t m r,T≠.rn k t m r:=fun h hm k t m r e=>by
  subst e;have h':isM _=true:=h;rw [hm] at h';cases h'
 have hMx:isM x.op=false:=by unfold FI at na; simp only [y7] at na; simpa using na.1.1.1.1.1.1.1
 have hMy:isM y.op=false:=by unfold FI at na; simp only [y7] at na; simpa using na.1.1.1.1.1.1.2
 have nx:=noM ofx hMx;have ny:=noM ofy hMy;have hyc:=c7 (T:=Tx) tg (hR:=ny) (fun ⟨A,d,e⟩ A' d' e'=>notT A d A' d' e e');rw [hyc] at hy;injection hy with hy;injection hy with e1 e2;subst e1; subst e2;have hxc:=c7 (T:=Ty0) hx (hR:=nx) (fun ⟨A,d,e⟩ A' d' e'=>notT A' d' A d e' e);refine ⟨(Ty0.ap s).put y.dst vy0,by rw [tP,hq0,V,tg]; rfl,?_⟩;rw [tP,JT a3,runG_tr offx,hp];simp only [yq,V,next_tr,hxc];rw [<- h2];congr 1;have notO:∀ t n S t' n' S',Tx=.obj t n S->Ty0=.obj t' n' S'->False:=fun t n S t' n' S' e e'=>by
  subst e; subst e';have h1:QU y.op=true:=ofy.1;rw [show QU y.op=false from offy] at h1;cases h1
 cases Tx with
 | rn=>exact absurd rfl (nx _ _ _ _)
 | id =>
  cases Ty0 with
  | rn=>exact absurd rfl (ny _ _ _ _)
  | ob2 t n S d m r=>simp only [Tr.ap,Tr.conj,Tr.actS]; rw [WE,BC]; exact (sD a2 _ _).symm
  | id=>exact (sD a2 _ _).symm
  | row t n r=>simp only [Tr.ap,Tr.conj,Tr.actS]; rw [BC]; exact (sD a2 _ _).symm
  | an A d =>
   simp only [Tr.conj,Tr.actS,Tr.ap_an,pJ];exact (sD a2 _ _).symm
  | obj t n S=>simp only [Tr.ap,Tr.conj,Tr.actS]; rw [WE]; exact (sD a2 _ _).symm
 | row t n r =>
  cases Ty0 with
  | rn=>exact absurd rfl (ny _ _ _ _)
  | ob2 t' n' S d m r' =>
   have ta:=row_ne (x:=x) (y:=y) ofx (J6 ofy) na;simp only [Tr.ap,Tr.conj,Tr.actS];rw [BC,WE,BC,mR,cQ ta];exact (sD a2 _ _).symm
  | id=>simp only [Tr.ap,Tr.conj,Tr.actS]; rw [BC]; exact (sD a2 _ _).symm
  | row t' n' r' =>
   simp only [Tr.ap,Tr.conj,Tr.actS];rw [BC,BC,cQ (row_ne ofx ofy na)];exact (sD a2 _ _).symm
  | an A d =>
   simp only [Tr.conj,Tr.actS,Tr.ap_an,pJ];simp only [Tr.ap,kM,BC];exact (sD a2 _ _).symm
  | obj t' n' S =>
   simp only [Tr.ap,Tr.conj,Tr.actS];rw [WE,BC];exact (sD a2 _ _).symm
 | an A d =>
  cases Ty0 with
  | rn=>exact absurd rfl (ny _ _ _ _)
  | ob2 t' n' S d' m r' =>
   simp only [Tr.conj,Tr.actS,Tr.ap_an,pJ];simp only [Tr.ap,kM,jM,WE,BC];exact (sD a2 _ _).symm
  | id =>
   simp only [Tr.conj,Tr.actS,Tr.ap_an,pJ];exact (sD a2 _ _).symm
  | row t' n' r' =>
   simp only [Tr.conj,Tr.actS,Tr.ap_an,pJ];simp only [Tr.ap,kM,BC];exact (sD a2 _ _).symm
  | an A' d'=>exact (notT A d A' d' rfl rfl).elim
  | obj t' n' S =>
   simp only [Tr.conj,Tr.actS,Tr.ap_an,pJ];simp only [Tr.ap,jM,WE];exact (sD a2 _ _).symm
 | obj t n S =>
  cases Ty0 with
  | rn=>exact absurd rfl (ny _ _ _ _)
  | ob2 t' n' S' d m r'=>exact absurd ofy.1.1 (by rw [show QU y.op=false from offy]; decide)
  | id=>simp only [Tr.ap,Tr.conj,Tr.actS]; rw [WE]; exact (sD a2 _ _).symm
  | row t' n' r' =>
   simp only [Tr.ap,Tr.conj,Tr.actS];rw [BC,WE];exact (sD a2 _ _).symm
  | an A d =>
   simp only [Tr.conj,Tr.actS,Tr.ap_an,pJ];simp only [Tr.ap,jM,WE];exact (sD a2 _ _).symm
  | obj t' n' S'=>exact (notO t n S t' n' S' rfl rfl).elim
 | ob2 t n S d m r =>
  have hyO:QU y.op=false:=offy.1;cases Ty0 with
  | rn=>exact absurd rfl (ny _ _ _ _)
  | id=>simp only [Tr.ap,Tr.conj,Tr.actS]; rw [WE,BC]; exact (sD a2 _ _).symm
  | row t' n' r' =>
   have ta:=row_ne (x:=x) (y:=y) (J6 ofx) ofy na;simp only [Tr.ap,Tr.conj,Tr.actS];rw [BC,WE,BC,<- mR,cQ ta];exact (sD a2 _ _).symm
  | an A d' =>
   simp only [Tr.conj,Tr.actS,Tr.ap_an,pJ];simp only [Tr.ap,kM,jM,WE,BC];exact (sD a2 _ _).symm
  | obj t' n' S'=>exact absurd ofy.1 (by rw [hyO]; decide)
  | ob2 t' n' S' d' m' r'=>exact absurd ofy.1.1 (by rw [hyO]; decide)
def Tr.kl (T:Tr) (w:rA):rA:=match T with
 | .rn (some p) _ _ _=>w.kill p.1 p.2
 | _=>w
theorem isN_eff {k:K} (hk:isN k=true) {v:rA} {e:nD} (h:k.run call s=some (v,e)):e=.none\/(∃ r,e=.new r)\/∃ q r,e=.rn q r:=by
 cases k with
 | appm cl e' z b x y =>
  simp only [K.run] at h;split at h
  ·split at h
   ·split at h
    ·split at h
     ·injection h with h; injection h with _ h; exact .inl h.symm
     ·injection h with h; injection h with _ h; exact .inr (.inl ⟨_,h.symm⟩)
    ·cases h
   ·cases h
  ·split at h
   ·split at h
    ·injection h with h; injection h with _ h; exact .inr (.inr ⟨_,_,h.symm⟩)
    ·cases h
   ·cases h
  ·cases h
 | appn cl e' z b x y =>
  simp only [K.run] at h;split at h
  ·split at h
   ·split at h
    ·injection h with h; injection h with _ h; exact .inr (.inl ⟨_,h.symm⟩)
    ·cases h
   ·cases h
  ·split at h
   ·split at h
    ·injection h with h; injection h with _ h; exact .inr (.inr ⟨_,_,h.symm⟩)
    ·cases h
   ·cases h
  ·cases h
 | _=>cases hk
theorem isN_tr {x:PA} (hk:isN x.op=true) {p:rA × nD} (hp:x.runG call s=some p) {n:Nat} {T:Tr} {v:rA} (ht:x.effT n p=some (T,v)):T=.id\/(∃ t m r,T=.row t m r)\/∃ q t m r,T=.rn q t m r:=by
 have he:p.2=.none\/(∃ r,p.2=.new r)\/∃ q r,p.2=.rn q r:=by
  unfold PA.runG at hp;split at hp
  ·exact isN_eff hk (v:=p.1) (e:=p.2) hp
  ·split at hp
   ·split at hp
    ·exact isN_eff hk (v:=p.1) (e:=p.2) hp
    ·injection hp with hp; subst hp; exact .inl rfl
   ·injection hp with hp; subst hp; exact .inl rfl
   ·cases hp
 obtain ⟨v0,e⟩:=p;rcases he with he | ⟨r,he⟩ | ⟨q,r,he⟩
 ·simp only at he; subst he; injection ht with ht; injection ht with h1 _; exact .inl h1.symm
 ·simp only at he;subst he;simp only [PA.effT] at ht;split at ht
  ·cases ht
  ·injection ht with ht; injection ht with h1 _; exact .inr (.inl ⟨_,_,_,h1.symm⟩)
 ·simp only at he;subst he;simp only [PA.effT] at ht;split at ht
  ·cases ht
  ·injection ht with ht; injection ht with h1 _; exact .inr (.inr ⟨_,_,_,_,h1.symm⟩)
theorem r5 {T:Tr} (h:T=.id\/(∃ t m r,T=.row t m r)\/∃ q t m r,T=.rn q t m r) (s:aA) (d:Nat) (w:rA):T.ap (s.put (some d) w)=(T.ap s).put (some d) (T.kl w)/\∀ z,(T.ap s).env z=T.kl (s.env z):=by
 rcases h with rfl | ⟨t,m,r,rfl⟩ | ⟨q,t,m,r,rfl⟩
 ·exact ⟨rfl,fun _=>rfl⟩
 ·exact ⟨rfl,fun _=>rfl⟩
 ·cases q with
  | none=>exact ⟨rfl,fun _=>rfl⟩
  | some p =>
   refine ⟨?_,fun _=>rfl⟩;simp only [Tr.ap,aA.killO,aA.kill,aA.put,aA.setRow,Tr.kl];congr 1;funext j;by_cases hj:j=d <;> simp [hj]
theorem isMv_eq {y:PA} (h:isMv y=true):∃ d z,y=⟨d,.mv (.t z),none⟩:=by
 obtain ⟨d,k,g⟩:=y;unfold isMv at h;simp only at h;split at h
 ·exact ⟨_,_,rfl⟩
 ·cases h
theorem d7 {x y:PA} (xl:lK x y=true) (hx:isN x.op=true) (hy:isMv y=true):(∀ s s1 s2,x.step call s=some s1->y.step call s1=some s2->∃ jt,y.step call s=some jt/\x.step call jt=some s2)/\∀ s s1 s2,y.step call s=some s1->x.step call s1=some s2->∃ jt,x.step call s=some jt/\y.step call jt=some s2:=by
 obtain ⟨d,z,rfl⟩:=isMv_eq hy;unfold lK at xl;simp only [y7] at xl;obtain ⟨a1,a2⟩:=RO xl.1;obtain ⟨a3,a4⟩:=RO xl.2;have hz:∀ n,x.dst=some n->n≠z:=fun n hn e=>a1 n hn (by subst e; simp [PA.looks,K.opds])
 have hyr:∀ s:aA,(⟨d,.mv (.t z),none⟩:PA).step call s=some (s.put d ⟨(s.env z).v,(s.env z).a⟩):=fun _=>rfl
 have key:∀ (s:aA) (p:rA × nD) (T:Tr) (v:rA),x.runG call s=some p->x.effT s.next p=some (T,v)->(T.ap (s.put d (s.env z))).put x.dst v=((T.ap s).put x.dst v).put d ((((T.ap s).put x.dst v).env z))/\x.step call (s.put d (s.env z))=some ((T.ap (s.put d (s.env z))).put x.dst v):=fun s p T v hp hT=>by
  have hk:=isN_tr hx hp hT;constructor
  ·have he:((T.ap s).put x.dst v).env z=T.kl (s.env z):=by
    cases hd:x.dst with
    | none=>exact (r5 hk s 0 v).2 z
    | some n =>
     simp only [aA.put];rw [if_neg (fun e=>hz n hd e.symm)];exact (r5 hk s 0 v).2 z
   rw [he];cases d with
   | none=>rfl
   | some d =>
    rw [(r5 hk s d _).1];exact (sD (fun n hn e=>a4 n hn e) _ _)
  ·rw [tP,JT (fun n hn=>a3 n hn),hp];have hn:(s.put d (s.env z)).next=s.next:=by cases d <;> rfl
   simp only [V,hn,hT,yq]
 refine ⟨fun s s1 s2 h1 h2=>?_,fun s s1 s2 h1 h2=>?_⟩
 ·rw [tP] at h1;obtain ⟨p,hp,h1⟩:=yb.1 h1;obtain ⟨⟨T,v⟩,hT,h1⟩:=yg.1 h1;simp only at h1;rw [hyr] at h2;injection h2 with h2;refine ⟨_,hyr s,?_⟩;obtain ⟨k1,k2⟩:=key s p T v hp hT;have k2':x.step call (s.put d ⟨(s.env z).v,(s.env z).a⟩)=some ((T.ap (s.put d (s.env z))).put x.dst v):=k2;rw [k2',k1,<- h2,<- h1]
 ·rw [hyr] at h1;injection h1 with h1;subst h1;have mo:x.step call (s.put d (s.env z))=some s2:=h2;rw [tP,JT (fun n hn=>a3 n hn)] at mo;obtain ⟨p,hp,mo⟩:=yb.1 mo;obtain ⟨⟨T,v⟩,hT,mo⟩:=yg.1 mo;have hn:(s.put d (s.env z)).next=s.next:=by cases d <;> rfl
  rw [hn] at hT;obtain ⟨k1,_⟩:=key s p T v hp hT;refine ⟨(T.ap s).put x.dst v,by rw [tP,hp]; simp only [V,hT,yq],?_⟩;rw [hyr,<- mo];simp only;rw [k1]
theorem L6 {x y:PA} (h:lK x y=true):lK y x=true:=by
 unfold lK at h ⊢;rw [Bool.and_comm];exact h
theorem commute {x y:PA} (xl:lK x y=true) (na:LO x y=true) (h1:x.step call s=some s1) (h2:y.step call s1=some s2):∃ jt,y.step call s=some jt/\x.step call jt=some s2:=by
 unfold LO at na;simp only [Bool.or_eq_true,y7] at na;rcases na with h | ⟨h,h'⟩ | ⟨h,h'⟩
 ·exact commute0 xl h h1 h2
 ·exact (d7 (L6 xl) h' h).2 s s1 s2 h1 h2
 ·exact (d7 xl h' h).1 s s1 s2 h1 h2
end
end
section
open Go Go.RowKit
section
variable {P:Program} {O:GI} {nt B:Nat} {F0:cP} {da:Av} {w0:World} {s s':aA} {a:Act} {w w':World} {ι:Ix} {Θ:IL} {call:DB} {lh:LH} {Q:Exit->Act->World->Prop}
def gsh (nt:Nat) (a:Act) (g:Nat->Value):Nat->Value:=fun t=>if t<nt then a.tmps.getD t undef else g (t - nt)
def cP.wait (F0:cP) (nt:Nat) (a:Act):cP:=⟨F0.b,F0.p,F0.r,F0.z,gsh nt a F0.g⟩
def aA.bare (s:aA):aA:={ s with env:=fun _=>⟨.undef,.no⟩ }
def D6 (P:Program) (O:GI) (B:Nat) (F0:cP) (da:Av) (w0:World) (s:aA) (w:World) (ι:Ix) (Θ:IL):Prop:=dC P O 0 B F0 da w0 (fun _=>False) s.bare ⟨#[],[]⟩ w ι Θ
def XH (ι:Ix) (Θ:IL) (av avb:Av) (w:World):List rA->List Value->Prop
 | [],us=>us=[]
 | x :: r,us=>∃ u oa,us=u :: oa/\NA ι av avb w x.v u/\RM Θ x.a u/\XH ι Θ av avb w r oa
theorem kS {av avb:Av}:∀ {xs ys:List rA} {us vs:List Value},XH ι Θ av avb w xs us->XH ι Θ av avb w ys vs->XH ι Θ av avb w (xs++ys) (us++vs)
 | [],_,_,_,h,h'=>by simp only [XH] at h; subst h; exact h'
 | x :: r,_,_,_,h,h'=>by
  simp only [XH] at h;obtain ⟨u,oa,rfl,h0,h1,h⟩:=h;exact ⟨u,oa++_,rfl,h0,h1,kS h h'⟩
def P4 (P:Program) (O:GI) (hp:HpT):Prop:=∀ f xs s k r,hp f xs s k=some r->(∀ vs w,(callFunc f vs).run P w=.ok (.enter f vs) w) ∧
 ∀ (B:Nat) (F0:cP) (da:Av) (w0 w:World) (ι:Ix) (Θ:IL) (us:List Value) (E:Ending->World->Prop),D6 P O B F0 da w0 s w ι Θ->XH ι Θ (AC da ι Θ) (SC ι Θ) w xs us →
  (∀ y s' w' ι' Θ' v,D6 P O B F0 da w0 s' w' ι' Θ'->NA ι' (AC da ι' Θ') (SC ι' Θ') w' y.v v->RM Θ' y.a v->k y s'=some r->E (.returned v) w')->Calls P f us.toArray w E
theorem dC.wait {D:Nat->Prop} (R:dC P O nt B F0 da w0 D s a w ι Θ):D6 P O B (F0.wait nt a) da w0 (s.enter nt) w ι Θ :=
 ⟨rfl,rfl,fun _=>trivial,fun _=>trivial,R.rows,fun t n b h=>let ⟨h1,h2,h3⟩:=R.mine t n b h; ⟨h1,h2,.inl (by simp only [aA.bare,aA.enter]; rcases h3 with h | h <;> omega)⟩,R.inj,R.tok,R.tinj,R.apart,R.out,R.pin,R.kept,R.base,R.objs,fun t n H h=>let ⟨h1,h2⟩:=R.obs t n H h; ⟨h1,.inl (by simp only [aA.bare,aA.enter]; rcases h2 with h | h <;> omega)⟩,fun t=>by
  simp only [aA.bare,aA.enter,cP.wait,gsh];split
  ·exact R.env t
  ·exact R.gen _,fun t=>by
  simp only [aA.bare,aA.enter,cP.wait,gsh];split
  ·exact R.ann t
  ·exact R.gann _⟩
theorem dC.resume {D D':Nat->Prop} {s':aA} {ι':Ix} {Θ':IL} (R:dC P O nt B F0 da w0 D s a w ι Θ) (R':D6 P O B (F0.wait nt a) da w0 s' w' ι' Θ'):dC P O nt B F0 da w0 D' (s'.leave nt) a w' ι' Θ' :=
 ⟨R.defers,R.size,fun t=>by
  have:=R'.gen t;simp only [aA.bare,cP.wait,gsh] at this;simp only [aA.leave];split
  ·rename_i h; rw [if_pos h] at this; exact this
  ·trivial,fun t=>by
  have:=R'.gann t;simp only [aA.bare,cP.wait,gsh] at this;simp only [aA.leave];split
  ·rename_i h; rw [if_pos h] at this; exact this
  ·trivial,R'.rows,fun t n b h=>let ⟨h1,h2,h3⟩:=R'.mine t n b h; ⟨h1,h2,h3.imp id fun h=>h.2.elim⟩,R'.inj,R'.tok,R'.tinj,R'.apart,R'.out,R'.pin,R'.kept,R'.base,R'.objs,fun t n H h=>let ⟨h1,h2⟩:=R'.obs t n H h; ⟨h1,h2.imp id fun h=>h.2.elim⟩,fun t=>by
  have:=R'.gen (t + nt);simp only [aA.bare,cP.wait,gsh] at this;rw [if_neg (by omega),Nat.add_sub_cancel] at this;exact this,fun t=>by
  have:=R'.gann (t + nt);simp only [aA.bare,cP.wait,gsh] at this;rw [if_neg (by omega),Nat.add_sub_cancel] at this;exact this⟩
theorem zS {D:Nat->Prop} (R:dC P O nt B F0 da w0 D s a w ι Θ):∀ {Xs:List Operand} {xs:List CB},bH Xs=some xs->XH ι Θ (AC da ι Θ) (SC ι Θ) w (JP s xs) (Xs.map a.eval)
 | [],xs,h=>by injection h with h; subst h; rfl
 | X :: Xs,xs,h=>by
  unfold bH at h;split at h
  ·rename_i x l hx hl;injection h with h;subst h;exact ⟨_,_,rfl,(R.opd hx).1,(R.opd hx).2,zS R hl⟩
  ·cases h
theorem o7 {av avb:Av}:∀ {cs:List AV} {us:List Value},tH ι av avb w cs us->XH ι Θ av avb w (cs.map (⟨·,.no⟩)) us
 | [],_,h=>h
 | x :: r,_,h=>by
  simp only [tH] at h;obtain ⟨u,oa,rfl,h0,h⟩:=h;refine ⟨u,oa,rfl,?_,trivial,o7 h⟩;cases x with
  | bp cs=>exact h0
  | int k n=>exact wE (x:=.int k n) h0
  | bool b=>exact wE (x:=.bool b) h0
  | str b=>exact wE (x:=.str b) h0
  | nilP=>exact wE (x:=.nilP) h0
  | ptr t n o=>exact wE (x:=.ptr t n o) h0
  | ip cs=>exact wE (x:=.ip cs) h0
  | sl n l=>exact wE (x:=.sl n l) h0
  | bl l=>exact wE (x:=.bl l) h0
  | ref a b c d e f=>exact wE (x:=.ref a b c d e f) h0
  | mp t n=>exact wE (x:=.mp t n) h0
  | fn f cs=>exact wE (x:=.fn f cs) h0
  | agg cs=>exact wE (x:=.agg cs) h0
  | tup cs=>exact wE (x:=.tup cs) h0
  | undef=>trivial
theorem D8 {D:Nat->Prop} (R:dC P O nt B F0 da w0 D s a w ι Θ) {lh:LH} (uh:P4 P O lh.h) {o:Oper} {hs:Nat->Bool} {nt':Nat} {x:CB} {xs:List CB} (hk:O2 nt hs o.op=some (.callh nt' x xs)) (hd:∀ d,o.dst=some d->d<nt) {k:aA->Option RV} {r:RV} (hr:xP lh o.dst nt' x xs s k=some r)
  {Kn:Act->World->Prop} {Q:Exit->Act->World->Prop} (hK:∀ s' a' w',CD P O nt B F0 da w0 (fun t=>D t\/o.dst=some t) s' a' w'->k s'=some r->Kn a' w'):o.wp P a w Kn Q:=by
 have go:∀ {f:FuncId} {Xs:Array Operand} {cs:List AV} {us:List Value},nt'=nt->bH Xs.toList=some xs->tH ι (AC da ι Θ) (SC ι Θ) w cs us->lh.h f (JP s xs++cs.map (⟨·,.no⟩)) (s.enter nt) (fun y s'=>k ((s'.leave nt).put o.dst y))=some r->((∀ vs w,(callFunc f vs).run P w=.ok (.enter f vs) w)->(execOp a.eval o).run P w=.ok (.enter f (Xs.map a.eval++us.toArray)) w)->o.wp P a w Kn Q:=fun {f Xs cs us} hn hx di hh run=>by
  obtain ⟨h1,h2⟩:=uh _ _ _ _ _ hh;unfold Oper.wp;rw [run h1,Oper.upon_enter];have sg:(Xs.toList.map a.eval++us).toArray=Xs.map a.eval++us.toArray:=by
   apply Array.ext';simp
  rw [<- sg];refine h2 B (F0.wait nt a) da w0 w ι Θ _ _ R.wait (kS (zS R hx) (o7 di)) fun y s' w' ι' Θ' v R' hv ha ck=>?_
  exact hK _ _ _ ⟨ι',Θ',((R.resume (D':=D) R').putN hd hv ha).more fun _ h=>.inl h⟩ ck
 unfold O2 at hk;split at hk
 ·rename_i f Xs ts ho;split at hk
  ·obtain ⟨l,hl,hk⟩:=yg.1 hk;injection hk with hn hx ze;subst hx;subst ze;simp only [xP,CB.get] at hr;refine go (cs:=[]) (us:=[]) hn.symm hl rfl (by rw [hn]; exact hr) fun nd=>?_
   simp only [execOp,ho,resolve,Act.eval,Deferred.ofValue,Sem.run_bind,Sem.run_pure,Result.andThen_ok,invoke];have:=nd (#[]++Xs.map a.eval++#[]) w;simp only [Array.empty_append,Array.append_empty] at this ⊢;exact this
  ·cases hk
 ·rename_i tf Xs ts ho;split at hk
  ·obtain ⟨l,hl,hk⟩:=yg.1 hk;injection hk with hn hx ze;subst hx;subst ze;simp only [xP,CB.get] at hr;split at hr
   ·rename_i f cs kt;have hF:=R.env tf;rw [kt] at hF;obtain ⟨us,pd,di⟩:=hF;refine go (cs:=cs) (us:=us.toList) hn.symm hl di (by rw [hn]; exact hr) fun nd=>?_
    have hev:a.eval (.tmp tf)=.func (.func f) #[] us:=pd;simp only [execOp,ho,resolve,hev,Deferred.ofValue,Sem.run_bind,Sem.run_pure,Result.andThen_ok,invoke];have:=nd (#[]++Xs.map a.eval++us) w;simp only [Array.empty_append] at this ⊢;exact this
   ·cases hr
  ·cases hk
 ·obtain ⟨_,_,h⟩:=yg.1 hk; cases h
 ·cases hk
theorem OT {f:Nat->Option RV} {z:Option RV} {r:RV} (l:List Nat) (h:G5 f z l=some r):(l=[]->z=some r)/\∀ i∈l,f i=some r:=by
 match l,h with
 | [],h=>exact ⟨fun _=>h,fun i hi=>absurd hi (by simp)⟩
 | [a],h=>exact ⟨fun e=>(by cases e),fun i hi=>(by rw [yL.1 hi]; exact h)⟩
 | a :: b :: l,h =>
  have h':(open Classical in if ∀ x∈b :: l,f x=f a then f a else none)=some r:=h;split at h'
  ·rename_i hc;refine ⟨fun e=>(by cases e),fun i hi=>?_⟩;rcases yc.1 hi with hi | hi
   ·rw [hi]; exact h'
   ·exact (hc i hi).trans h'
  ·cases h'
theorem aZ {f:Nat->Option RV} {z:Option RV} {r:RV} (l:List Nat) (h0:l=[]->z=some r) (h:∀ i∈l,f i=some r):G5 f z l=some r:=by
 match l,h0,h with
 | [],h0,_=>exact h0 rfl
 | [a],_,h=>exact h a yk
 | a :: b :: l,_,h =>
  show (open Classical in if ∀ x∈b :: l,f x=f a then f a else none)=some r;rw [if_pos fun x hx=>(h x (yh _ hx)).trans (h a yk).symm];exact h a yk
theorem op_nxt {D:Nat->Prop} (R:dC P O nt B F0 da w0 D s a w ι Θ) {o:Oper} {X:Operand} {x:CB} (hx:opd X=some x) (ho:o.op=.next X false) (hd:∀ d,o.dst=some d->d<nt) {k:aA->Option RV} {r:RV} (hr:nY o.dst x s k=some r)
  {Kn:Act->World->Prop} {Q:Exit->Act->World->Prop} (hK:∀ s' a' w',CD P O nt B F0 da w0 (fun t=>D t\/o.dst=some t) s' a' w'->k s'=some r->Kn a' w'):o.wp P a w Kn Q:=by
 unfold nY at hr;split at hr
 case h_2=>cases hr
 rename_i t n uc;split at hr
 case h_2=>cases hr
 rename_i tm nm N seen hi;split at hr
 case h_2=>cases hr
 rename_i L hL;split at hr
 case isFalse=>cases hr
 rename_i hN;have hX:=(R.opd hx).1;rw [uc] at hX;obtain ⟨q,hq,hv⟩:=hX;obtain ⟨S,hS,dg⟩:=yb.1 hi;obtain ⟨p,H,hp,zb,ic,pk⟩:=R.objs t n S hS;rw [hq] at hp;injection hp with hp;subst hp;obtain ⟨m,Hm,hm,hobm,la⟩:=pk tm nm N seen dg;obtain ⟨hH,fa⟩:=(O.iters S H q w (by rw [dg]; rfl)).1 ic;obtain ⟨S2,hS2,ls⟩:=yb.1 hL;obtain ⟨p2,H2,zj,tv,hat2,_⟩:=R.objs tm nm S2 hS2;rw [hm] at zj;injection zj with zj;subst zj;have sx:S2=zH L:=by
  unfold aJ at ls;split at ls
  ·injection ls with ls; subst ls; rfl
  ·cases ls
 subst sx;obtain ⟨hH2,es,clock,he,jg,hc,mb⟩:=(O.maps L H2 m w).1 hat2;have hes:es.size=N:=by rw [<- hN]; simpa using congrArg List.length jg
 obtain ⟨h1,h2⟩:=OT _ hr;have hgq:(getObj q).run P w=.ok (.mapIter (some m) N seen.toArray N) w:=by simp [getObj,Sem.run,la]
 have hgm:(getObj m).run P w=.ok (.map es clock) w:=by simp [getObj,Sem.run,he]
 have uu:∀ i (hi:i<es.size),(es[i]∈es.filter (fun e=>!seen.toArray.contains e.born) ↔ (!seen.contains i)=true):=fun i hi=>by
  rw [Array.mem_filter,mb i hi];simp
 have xz:(!seen.toArray.isEmpty&&!es.isEmpty&&es.all (fun x=>decide (x.born>=N)))=false:=by
  cases ju:es.isEmpty with
  | true=>simp
  | false =>
   have h0:0<es.size:=by
    rcases yG es.size with h0 | h0
    ·simp [Array.isEmpty,h0] at ju
    ·exact h0
   have:es.all (fun x=>decide (x.born>=N))=false:=by
    rw [Bool.eq_false_iff];intro za;rw [Array.all_eq_true] at za;have:=za 0 h0;rw [mb 0 h0] at this;simp at this;omega
   simp [this]
 have jb:∀ x∈es.filter (fun e=>!seen.toArray.contains e.born),x.born<N:=fun x hx=>by
  have sk:x∈es:=(Array.mem_filter.1 hx).1;obtain ⟨i,jc,rfl⟩:=Array.mem_iff_getElem.1 sk;rw [mb i jc];omega
 generalize hLf:es.filter (fun e=>!seen.toArray.contains e.born)=Lf at jb uu;have e1:Lf.filter (fun x=>decide (x.born<N))=Lf:=Array.filter_eq_self.2 fun x hx=>by simpa using jb x hx
 have e2:Lf.filter (fun x=>decide (x.born>=N))=#[]:=by
  rw [Array.filter_eq_empty_iff];intro x hx;have:=jb x hx;simp;omega
 unfold Oper.wp;by_cases h0:Lf.size=0
 ·have hz:Lf=#[]:=Array.eq_empty_of_size_eq_zero h0;have ov:(List.range N).filter (fun i=>!seen.contains i)=[]:=by
   refine List.eq_nil_iff_forall_not_mem.2 fun i jc=>?_
   have ga:i<es.size:=by have:=(List.mem_filter.1 jc).1; rw [hes]; exact List.mem_range.1 this
   have:=(uu i ga).2 (List.mem_filter.1 jc).2;rw [hz] at this;simp at this
  have ia:(execOp a.eval o).run P w=.ok (.value (.tuple #[.bool false])) w:=by
   simp only [execOp,ho,hv,Instr.next,Sem.run_bind,hgq,hgm,Result.andThen_ok,xz,yp,if_false,hLf,e1,e2,hz,Array.append_empty];simp [choose,Sem.run,Question.forced]
  rw [ia,Oper.upon_value];exact hK _ _ _ ⟨ι,Θ,(R.putN hd (x:=⟨.tup [.bool false],.no⟩) ⟨_,rfl,_,_,rfl,rfl,rfl⟩ trivial).more fun _ h=>.inl h⟩ (h1 ov)
 ·have ta:Lf.isEmpty=false:=by simp [Array.isEmpty,h0]
  obtain ⟨j,w1,hj,ri,hch⟩:∃ (j:Nat) (w1:World),j<Lf.size/\(w1=w\/w1=w.drew)/\(choose (Question.mapNext Lf.size)).run P w=.ok j w1:=by
   by_cases hf:Lf.size<=1
   ·exact ⟨0,w,by omega,.inl rfl,by simp [choose,Sem.run,Question.forced,hf]⟩
   ·exact ⟨_,w.drew,Nat.mod_lt _ (by omega),.inr rfl,by
     simp only [choose,Sem.run,Question.forced,decide_eq_true_eq,hf,if_false,Question.cut];rfl⟩
  have mt:Lf[j]∈Lf:=by simp
  have hje:Lf[j]∈es:=by
   have:∀ x,x∈Lf->x∈es:=fun x hx=>by rw [<- hLf] at hx; exact (Array.mem_filter.1 hx).1
   exact this _ mt
  obtain ⟨i,ji,hie'⟩:=Array.mem_iff_getElem.1 hje;have jc:i∈(List.range N).filter fun i=>!seen.contains i:=List.mem_filter.2 ⟨List.mem_range.2 (by rw [<- hes]; exact ji),(uu i ji).1 (by rw [hie']; exact mt)⟩
  have hborn:Lf[j].born=i:=by rw [<- hie']; exact mb i ji
  have hk:=h2 i jc;split at hk
  case h_2=>cases hk
  rename_i y v zq;split at hk
  case isFalse=>cases hk
  rename_i bj;rw [y7] at bj;have hkv:Lf[j].key=y.flatV/\Lf[j].val=v.flatV:=by
   have:=congrArg (fun l=>l[i]?) jg;simp only [y8,zq,Array.getElem?_toList,Y00 ji,yq,Option.some.injEq,entV] at this;rw [<- hie'];exact ⟨congrArg Prod.fst this,congrArg Prod.snd this⟩
  have lw:w1.heap=w.heap:=by rcases ri with rfl | rfl <;> rfl
  have hq1:w1.heap[q]?=some (.mapIter (some m) N seen.toArray N):=by rw [lw]; exact la
  have xy:(setObj q (.mapIter (some m) N (seen.toArray.push i) clock)).run P w1=.ok () { w1 with heap:=w1.heap.setIfInBounds q (.mapIter (some m) N (seen.toArray.push i) clock) }:=by
   simp [setObj,Sem.run,hq1]
  have ia:(execOp a.eval o).run P w=.ok (.value (.tuple #[.bool true,y.flatV,v.flatV])) { w1 with heap:=w1.heap.setIfInBounds q (.mapIter (some m) N (seen.toArray.push i) clock) }:=by
   simp only [execOp,ho,hv,Instr.next,Sem.run_bind,hgq,hgm,Result.andThen_ok,xz,yp,if_false,hLf,e1,e2,ta,Array.append_empty,Array.empty_append,Array.size_map,hch,Array.getElem?_map,Y00 hj,yq,hborn,xy,Sem.run_pure,hkv.1,hkv.2]
  rw [ia,Oper.upon_value];have R1:dC P O nt B F0 da w0 D s a w1 ι Θ:=R.grow (fun b _=>by rw [lw]) (by rw [lw]; exact yf _) (by rcases ri with rfl | rfl; exact R.kept; exact R.kept.drew);have dj:O.at_ (t5 tm nm N (seen++[i])) H q { w1 with heap:=w1.heap.setIfInBounds q (.mapIter (some m) N (seen.toArray.push i) clock) }:=(O.iters _ _ _ _ (by rw [wX]; rfl)).2 ⟨hH,by simp; rw [lw]; exact fa⟩;have uj:QC H w1 { w1 with heap:=w1.heap.setIfInBounds q (.mapIter (some m) N (seen.toArray.push i) clock) }:=⟨rfl,rfl,rfl,by simp,fun j' _ hn=>by
   have:j'≠q:=fun e=>hn ((hH j').2 e)
   simp only [Array.getElem?_setIfInBounds];rw [if_neg fun e:q=j'=>this e.symm]⟩
  have htie':Q6 ι (t5 tm nm N (seen++[i])) q { w1 with heap:=w1.heap.setIfInBounds q (.mapIter (some m) N (seen.toArray.push i) clock) }:=fun tm' nm' N' seen' e=>by
   rw [wX] at e;injection e with e;injection e with g1 e;injection e with g2 e;injection e with g3 g4;subst g1; subst g2; subst g3; subst g4;refine ⟨m,Hm,hm,hobm,?_⟩;have hlt1:q<w1.heap.size:=by rw [lw]; exact fa
   simp [hlt1,hc,hes]
  obtain ⟨ι',R2,_⟩:=R1.turnObj hq zb dj htie' (fun b hb=>.inl hb) uj;refine hK _ _ _ ⟨ι',Θ,(R2.putN hd (x:=⟨.tup [.bool true,y,v],.no⟩) ?_ trivial).more fun _ h=>.inl h⟩ hk;exact ⟨_,rfl,_,_,rfl,rfl,_,_,rfl,uH (uO bj.1),_,_,rfl,uH (uO bj.2),rfl⟩
structure A6 (P:Program) (nt:Nat) (ops:Array Oper) (o:Oper) (c:PA):Prop where
 dst:c.dst=o.dst
 op:(isH c.op=false/\∃ cl mu b q,g7 P cl mu b q o.op=some c.op/\(mu≠none->o.dst≠none))\/∃ hs,O2 nt hs o.op=some c.op
 lt:∀ d,o.dst=some d->d<nt
 guard:match o.guard with
  | none=>c.guard=none
  | some (g,want)=>∃ t,(ops[g]?).bind (·.dst)=some t/\c.guard=some (t,want)
theorem NV {boxes:List Nat} {all:List Oper} {draw:Bool}:∀ {ops:List Oper} {cs:List PA},IS P boxes nt all draw ops=some cs->cs.length=ops.length/\∀ (i:Nat) (o:Oper),ops[i]?=some o->∃ c,cs[i]?=some c/\A6 P nt all.toArray o c
 | [],cs,h=>by injection h with h; subst h; exact ⟨rfl,fun i o ho=>by simp at ho⟩
 | o :: r,cs,h=>by
  unfold IS at h;split at h
  ·rename_i k l hk hl;split at h
   ·rename_i fa;have ga:∀ d,o.dst=some d->d<nt:=fun d hd=>by rw [hd] at fa; simpa [dstOk] using fa
    obtain ⟨h1,h2⟩:=NV hl;have fin:∀ c,cs=c :: l->A6 P nt all.toArray o c->cs.length=(o :: r).length/\∀ (i:Nat) (o':Oper),(o :: r)[i]?=some o'->∃ c,cs[i]?=some c/\A6 P nt all.toArray o' c:=fun c e hc=>by
     subst e;refine ⟨by simp [h1],fun i o' ho=>?_⟩;cases i with
     | zero=>simp at ho; subst ho; exact ⟨c,rfl,hc⟩
     | succ i=>simpa using h2 i o' (by simpa using ho)
    have tp:(match o.dst with | some d=>if boxes.contains (nt + 1 + (2 * d + 1)) then some true else if boxes.contains (nt + 1 + 2 * d) then some false else none | none=>none)≠none->o.dst≠none:=fun h e=>by rw [e] at h; exact h rfl
    have rb:(isH k=false/\∃ cl mu b q,g7 P cl mu b q o.op=some k/\(mu≠none->o.dst≠none))\/∃ hs,O2 nt hs o.op=some k:=by
     split at hk
     ·rename_i k' tc;injection hk with hk;exact .inr ⟨_,hk ▸ tc⟩
     ·obtain ⟨h1,h2⟩:=Option.filter_eq_some_iff.1 hk;exact .inl ⟨by simpa using h2,_,_,_,_,h1,tp⟩
    cases hg:o.guard with
    | none =>
     simp only [hg] at h;injection h with h;exact fin _ h.symm ⟨rfl,rb,ga,by rw [hg]⟩
    | some p =>
     obtain ⟨g,want⟩:=p;simp only [hg] at h;split at h
     ·rename_i t ht;injection h with h;exact fin _ h.symm ⟨rfl,rb,ga,by rw [hg]; exact ⟨t,by simpa using ht,rfl⟩⟩
     ·cases h
   ·cases h
  ·cases h
section
variable {D:Nat->Prop} (R:CD P O nt B F0 da w0 D s a w) (ua:∀ f args S r,call f args S=some r->tD P O f args S r)
include D R ua
theorem step_sound {ops:Array Oper} {i:Nat} {o:Oper} {c:PA} (ho:ops[i]?=some o) (ok:A6 P nt ops o c) (hD:∀ d,o.dst=some d->(isA c.op||QU c.op)=true->¬ D d) (rb:∃ cl mu b q,g7 P cl mu b q o.op=some c.op/\(mu≠none->o.dst≠none)) (hs:c.step call s=some s')
  {Kn:Act->World->Prop} (hK:∀ a' w',CD P O nt B F0 da w0 (fun t=>D t\/o.dst=some t) s' a' w'->Kn a' w'):wpOp P ops Q i Kn a w:=by
 obtain ⟨ι,Θ,R⟩:=R;obtain ⟨cl,mu,b,q,rb,tp⟩:=rb;obtain ⟨cd,cop,cg⟩:=c;have ca:cd=o.dst:=ok.dst;subst ca;have main:cop.run call s≠none->(cop.run call s).bind (PA.eff ⟨o.dst,cop,cg⟩ s)=some s'->o.wp P a w Kn Q:=fun _ h=>by
  obtain ⟨xe,hx,he⟩:=yb.1 h;unfold g7 at rb;split at rb
  ·rename_i k hk;injection rb with rb;subst rb;exact op_sound R ua hk tp ok.lt hD hx he hK
  ·split at rb
   ·injection rb with rb;subst rb;cases hx
   ·cases rb
 have main':(cop.run call s).bind (PA.eff ⟨o.dst,cop,cg⟩ s)=some s'->o.wp P a w Kn Q:=fun h=>main (fun e=>by rw [e] at h; cases h) h
 unfold wpOp;simp only [ho];have ez:NA ι (AC da ι Θ) (SC ι Θ) w (.tup []) undef:=⟨#[],rfl,rfl⟩;have hg:=ok.guard;cases ou:o.guard with
 | none =>
  rw [ou] at hg;simp only at hg;subst hg;have:Region.wanted o (yielded ops a.tmps)=true:=by simp [Region.wanted,ou]
  rw [if_pos this];exact .inl (main' hs)
 | some p =>
  obtain ⟨g,want⟩:=p;rw [ou] at hg;obtain ⟨t,ht,hg⟩:=hg;simp only at hg;subst hg;unfold PA.step at hs;simp only at hs;split at hs
  ·rename_i b hb;have hr:=R.env t;rw [hb,SB] at hr;have hy:yielded ops a.tmps g=some b:=by
    unfold yielded;rw [ht];simp only [V];rw [yY] at hr;cases hh:a.tmps[t]? with
    | none=>rw [hh] at hr; simp [undef] at hr
    | some v=>rw [hh] at hr; simp only [Option.getD_some] at hr; subst hr; rfl
   have hw:Region.wanted o (yielded ops a.tmps)=(b == want):=by
    simp only [Region.wanted,ou,hy];cases b <;> cases want <;> rfl
   rw [hw];split at hs
   ·rename_i e;subst e;rw [if_pos (by simp)];exact .inl (main' hs)
   ·rename_i e;injection hs with hs;subst hs;rw [if_neg (by simpa using e)];exact hK _ _ ⟨ι,Θ,(R.putN ok.lt (x:=⟨.tup [],.no⟩) ez trivial).more fun _ h=>.inl h⟩
  ·rename_i hb;have hr:=R.env t;rw [hb] at hr;obtain ⟨us,hv,sd⟩:=hr;have hy:yielded ops a.tmps g=none:=by
    unfold yielded;rw [ht];simp only [V];rw [yY] at hv;cases hh:a.tmps[t]? with
    | none=>rfl
    | some v=>rw [hh] at hv; simp only [Option.getD_some] at hv; subst hv; rfl
   have hw:Region.wanted o (yielded ops a.tmps)=false:=by
    simp only [Region.wanted,ou,hy];cases want <;> rfl
   rw [hw];injection hs with hs;subst hs;rw [if_neg (by decide)];exact hK _ _ ⟨ι,Θ,(R.putN ok.lt (x:=⟨.tup [],.no⟩) ez trivial).more fun _ h=>.inl h⟩
  ·cases hs
theorem dW (uh:P4 P O lh.h) {ops:Array Oper} {i:Nat} {o:Oper} {c:PA} (ho:ops[i]?=some o) (ok:A6 P nt ops o c) (hD:∀ d,o.dst=some d->(isA c.op||QU c.op)=true->¬ D d) {k:aA->Option RV} {r:RV} (hs:c.stepK call lh s k=some r)
  {Kn:Act->World->Prop} (hK:∀ s' a' w',CD P O nt B F0 da w0 (fun t=>D t\/o.dst=some t) s' a' w'->k s'=some r->Kn a' w'):wpOp P ops Q i Kn a w:=by
 rcases ok.op with ⟨hH,rb⟩ | ⟨mg,rb⟩
 ·have hb:(c.step call s).bind k=some r:=by
   unfold PA.stepK at hs;split at hs
   ·rename_i h; rw [h] at hH; cases hH
   ·rename_i h; rw [h] at hH; cases hH
   ·exact hs
  obtain ⟨s1,h1,h2⟩:=yb.1 hb;exact step_sound R ua ho ok hD rb h1 fun a' w' R'=>hK s1 a' w' R' h2
 ·obtain ⟨cd,cop,cg⟩:=c;have ca:cd=o.dst:=ok.dst;subst ca;simp only at rb;obtain ⟨ι,Θ,R⟩:=R;obtain ⟨st,mb,main'⟩:∃ st,PA.stepK call lh ⟨o.dst,cop,cg⟩ s k=RK s o.dst cg st k/\(st=some r->o.wp P a w Kn Q):=by
   have jj:=rb;unfold O2 at jj;split at jj
   ·split at jj
    ·obtain ⟨_,_,h⟩:=yg.1 jj; subst h; exact ⟨_,rfl,fun h=>D8 R uh rb ok.lt h hK⟩
    ·cases jj
   ·split at jj
    ·obtain ⟨_,_,h⟩:=yg.1 jj; subst h; exact ⟨_,rfl,fun h=>D8 R uh rb ok.lt h hK⟩
    ·cases jj
   ·rename_i X hox;obtain ⟨x,hx,h⟩:=yg.1 jj;subst h;exact ⟨_,rfl,fun h=>op_nxt R hx hox ok.lt h hK⟩
   ·cases jj
  rw [mb] at hs;unfold wpOp;simp only [ho];have ez:NA ι (AC da ι Θ) (SC ι Θ) w (.tup []) undef:=⟨#[],rfl,rfl⟩;have hg:=ok.guard;cases ou:o.guard with
  | none =>
   rw [ou] at hg;simp only at hg;subst hg;have:Region.wanted o (yielded ops a.tmps)=true:=by simp [Region.wanted,ou]
   rw [if_pos this];exact .inl (main' hs)
  | some p =>
   obtain ⟨g,want⟩:=p;rw [ou] at hg;obtain ⟨t,ht,hg⟩:=hg;simp only at hg;subst hg;unfold RK at hs;simp only at hs;split at hs
   ·rename_i b hb;have hr:=R.env t;rw [hb,SB] at hr;have hy:yielded ops a.tmps g=some b:=by
     unfold yielded;rw [ht];simp only [V];rw [yY] at hr;cases hh:a.tmps[t]? with
     | none=>rw [hh] at hr; simp [undef] at hr
     | some v=>rw [hh] at hr; simp only [Option.getD_some] at hr; subst hr; rfl
    have hw:Region.wanted o (yielded ops a.tmps)=(b == want):=by
     simp only [Region.wanted,ou,hy];cases b <;> cases want <;> rfl
    rw [hw];split at hs
    ·rename_i e;subst e;rw [if_pos (by simp)];exact .inl (main' hs)
    ·rename_i e;rw [if_neg (by simpa using e)];exact hK _ _ _ ⟨ι,Θ,(R.putN ok.lt (x:=⟨.tup [],.no⟩) ez trivial).more fun _ h=>.inl h⟩ hs
   ·rename_i hb;have hr:=R.env t;rw [hb] at hr;obtain ⟨us,hv,sd⟩:=hr;have hy:yielded ops a.tmps g=none:=by
     unfold yielded;rw [ht];simp only [V];rw [yY] at hv;cases hh:a.tmps[t]? with
     | none=>rfl
     | some v=>rw [hh] at hv; simp only [Option.getD_some] at hv; subst hv; rfl
    have hw:Region.wanted o (yielded ops a.tmps)=false:=by
     simp only [Region.wanted,ou,hy];cases want <;> rfl
    rw [hw];rw [if_neg (by decide)];exact hK _ _ _ ⟨ι,Θ,(R.putN ok.lt (x:=⟨.tup [],.no⟩) ez trivial).more fun _ h=>.inl h⟩ hs
   ·cases hs
end
theorem CD.next {D:Nat->Prop} (R:CD P O nt B F0 da w0 D s a w):CD P O nt B F0 da w0 (fun _=>False) { s with next:=s.next + 1 } a w:=by
 obtain ⟨ι,Θ,R⟩:=R;exact ⟨ι,Θ,R.defers,R.size,R.env,R.ann,R.rows,fun t n b h=>let ⟨h1,h2,h3⟩:=R.mine t n b h; ⟨h1,h2,.inl (by rcases h3 with h | h <;> simp only <;> omega)⟩,R.inj,R.tok,R.tinj,R.apart,R.out,R.pin,R.kept,R.base,R.objs,fun t n H h=>let ⟨h1,h2⟩:=R.obs t n H h; ⟨h1,.inl (by rcases h2 with h | h <;> simp only <;> omega)⟩,R.gen,R.gann⟩
theorem XX {cs:List PA} (h:KS cs=true) {i j:Nat} {x y:PA} (hx:cs[i]?=some x) (hy:cs[j]?=some y) (ta:i≠j) (hA:(isA y.op||QU y.op)=true) (jn:y.dst.isSome=true):x.dst≠y.dst:=by
 have hj:=(ym.1 hy).1;have hi:=(ym.1 hx).1;have h1:=y6.1 h j (List.mem_range.2 hj);rw [hy] at h1;simp only [hA,jn,Bool.true_and,Bool.not_true,Bool.false_or] at h1;have h2:=y6.1 h1 i (List.mem_range.2 hi);rw [hx] at h2;simp only [Bool.or_eq_true] at h2;rcases h2 with h2 | h2
 ·exact absurd (by simpa using h2) ta
 ·simpa using h2
theorem O3 {ops:Array Oper} {cs:List PA} (ua:∀ f args S r,call f args S=some r->tD P O f args S r) (uh:P4 P O lh.h) (na:∀ (i:Nat) (o:Oper),ops[i]?=some o->∃ c,cs[i]?=some c/\A6 P nt ops o c) (ba:cs.length=ops.size) (hf:KS cs=true) {k:aA->Option RV} {r:RV} :
  ∀ (n i:Nat) (s:aA) (a:Act) (w:World),i + n=ops.size->CD P O nt B F0 da w0 (fun t=>∃ j c,j<i/\cs[j]?=some c/\c.dst=some t) s a w->XG call lh (cs.drop i) s k=some r →
   (∀ s' a' w',CD P O nt B F0 da w0 (fun _=>True) s' a' w'->k s'=some r->Q .normal a' w')->wpOps P ops Q (List.range' i n) a w
 | 0,i,s,a,w,hi,R,hr,hQ=>by
  have:cs.drop i=[]:=ye (by omega);rw [this] at hr;obtain ⟨ι,Θ,R⟩:=R;exact hQ s a w ⟨ι,Θ,R.more fun _ _=>trivial⟩ hr
 | n + 1,i,s,a,w,hi,R,hr,hQ=>by
  have fa:i<ops.size:=by omega
  obtain ⟨c,hc,ok⟩:=na i ops[i] (Y00 fa);have jd:i<cs.length:=by omega
  have hci:cs[i]=c:=(ym.1 hc).2;rw [y9 jd,hci] at hr;unfold XG at hr;rw [List.range'_succ,wpOps_cons];refine dW R ua uh (Y00 fa) ok (fun d hd hA ⟨j,c',hj,lf,sr⟩=>?_) hr fun s' a' w' R' hk=>?_
  ·exact XX hf lf hc (by omega) hA (by rw [ok.dst,hd]; rfl) (by rw [sr,ok.dst,hd])
  ·refine O3 ua uh na ba hf n (i + 1) s' a' w' (by omega) ?_ hk hQ;obtain ⟨ι,Θ,R'⟩:=R';refine ⟨ι,Θ,R'.more fun t ht=>?_⟩;rcases ht with ⟨j,c',hj,lf,sr⟩ | ht
   ·exact ⟨j,c',by omega,lf,sr⟩
   ·exact ⟨i,c,by omega,hc,by rw [ok.dst,ht]⟩
end
end
section
open Go Go.RowKit
section
variable {P:Program} {O:GI} {nt B:Nat} {F0:cP} {da:Av} {w0:World} {s s':aA} {a:Act} {w w':World} {call:DB} {lh:LH} {Q:Exit->Act->World->Prop}
noncomputable def HK (call:DB) (lh:LH) (cs:List PA):List Nat->aA->(aA->Option RV)->Option RV
 | [],s,k=>k s
 | i :: r,s,k=>match cs[i]? with
  | some c=>c.stepK call lh s fun s=>HK call lh cs r s k
  | none=>none
theorem EZ (cs:List PA) (k:aA->Option RV):∀ (n i:Nat) (s:aA),i + n=cs.length->XG call lh (cs.drop i) s k=HK call lh cs (List.range' i n) s k
 | 0,i,s,h=>by rw [ye (by omega)]; rfl
 | n + 1,i,s,h=>by
  have fa:i<cs.length:=by omega
  rw [y9 fa,List.range'_succ];unfold XG HK;rw [y4 fa];simp only;congr 1;funext s1;exact EZ cs k n (i + 1) s1 (by omega)
theorem gJ {c:PA} (h:isH c.op=false) (s:aA) (k:aA->Option RV):c.stepK call lh s k=(c.step call s).bind k:=by
 unfold PA.stepK;split
 ·rename_i e; rw [e] at h; cases h
 ·rename_i e; rw [e] at h; cases h
 ·rfl
theorem isM_H {k:K} (h:isM k=false):isH k=false:=by
 cases k <;> first | rfl | cases h
theorem pair_H {x y:PA} (h:LO x y=true):isH x.op=false/\isH y.op=false:=by
 have hN:∀ {k:K},isN k=true->isH k=false:=fun {k} h=>by cases k <;> first | rfl | cases h
 have hV:∀ {o:PA},isMv o=true->isH o.op=false:=fun h=>by obtain ⟨d,z,rfl⟩:=isMv_eq h; rfl
 unfold LO at h;simp only [Bool.or_eq_true,y7] at h;rcases h with h | ⟨h,h'⟩ | ⟨h,h'⟩
 ·unfold FI at h;simp only [y7] at h;exact ⟨isM_H (by simpa using h.1.1.1.1.1.1.1),isM_H (by simpa using h.1.1.1.1.1.1.2)⟩
 ·exact ⟨hV h,hN h'⟩
 ·exact ⟨hN h',hV h⟩
theorem bubble0 {cs:List PA} {i:Nat} {c:PA} (hc:cs[i]?=some c) (hH:isH c.op=false) {L2:List Nat} {k:aA->Option RV} {r:RV}:∀ {L1:List Nat} {s:aA},(∀ r∈L1,∃ cr,cs[r]?=some cr/\lK cr c=true/\LO cr c=true)->HK call lh cs (L1++i :: L2) s k=some r →
  ∃ s1,c.step call s=some s1/\HK call lh cs (L1++L2) s1 k=some r
 | [],s,_,h=>by
  simp only [yK,HK,hc,gJ hH] at h;obtain ⟨s1,h1,h2⟩:=yb.1 h;exact ⟨s1,h1,h2⟩
 | q :: L1,s,hL,h=>by
  obtain ⟨cr,hr,ha,ho⟩:=hL q (yk);simp only [yx,HK,hr,gJ (pair_H ho).1] at h;obtain ⟨s1,h1,h2⟩:=yb.1 h;obtain ⟨s2,h3,h4⟩:=bubble0 hc hH (fun q hq=>hL q (yh _ hq)) h2;obtain ⟨jt,h5,h6⟩:=commute ha ho h1 h3;refine ⟨jt,h5,?_⟩;simp only [yx,HK,hr,gJ (pair_H ho).1,h6,V];exact h4
theorem bubble {cs:List PA} {i:Nat} {c:PA} (hc:cs[i]?=some c) {L2:List Nat} {k:aA->Option RV} {r:RV} {L1:List Nat} {s:aA} (hL:∀ r∈L1,∃ cr,cs[r]?=some cr/\lK cr c=true/\LO cr c=true) (h:HK call lh cs (L1++i :: L2) s k=some r) :
  c.stepK call lh s (fun s1=>HK call lh cs (L1++L2) s1 k)=some r:=by
 cases L1 with
 | nil=>simpa only [yK,HK,hc] using h
 | cons q L1 =>
  obtain ⟨cr,hr,ha,ho⟩:=hL q (yk);have hH:=(pair_H ho).2;obtain ⟨s1,h1,h2⟩:=bubble0 hc hH hL h;rw [gJ hH,h1,V];exact h2
theorem T3 {o:Oper} {e:Nat}:e∈iL o ↔ ∃ d∈o.after,Region.binds .any d=true/\d.on=e:=by
 unfold iL;rw [List.mem_filterMap];constructor
 ·rintro ⟨d,hd,h⟩;split at h
  ·rename_i hb; injection h with h; exact ⟨d,by simpa using hd,hb,h⟩
  ·cases h
 ·rintro ⟨d,hd,hb,rfl⟩;exact ⟨d,by simpa using hd,by rw [if_pos hb]⟩
theorem bf_spec {ops:List Oper} {bf:List Nat} (h:bfOk ops bf=true) {i:Nat} {o:Oper} (ho:ops[i]?=some o):(∀ e∈iL o,e<i)/\∀ r,r<i->(bf.getD i 0).testBit r=true->∃ e∈iL o,e=r\/(r<e/\(bf.getD e 0).testBit r=true):=by
 have hi:=(ym.1 ho).1;have h1:=y6.1 h i (List.mem_range.2 hi);rw [ho] at h1;simp only [y7] at h1;refine ⟨fun e he=>by simpa using y6.1 h1.1 e he,fun r hr hb=>?_⟩;have h2:=y6.1 h1.2 r (List.mem_range.2 hr);simp only [hb,Bool.not_true,Bool.false_or,List.any_eq_true,Bool.or_eq_true,beq_iff_eq,y7,decide_eq_true_eq] at h2;exact h2
theorem N1 {ops:List Oper} {bf:List Nat} (h:bfOk ops bf=true) {L:List Nat} (jd:∀ (j:Nat) (o:Oper),ops[j]?=some o->j ∉ L->∀ e∈iL o,e ∉ L):∀ (n i:Nat) (o:Oper),i<n->ops[i]?=some o->(∀ e∈iL o,e ∉ L)->∀ r,r<i->(bf.getD i 0).testBit r=true->r ∉ L
 | 0,i,o,hn,_,_,_,_,_=>by omega
 | n + 1,i,o,hn,ho,hed,r,hr,hb=>by
  obtain ⟨h1,h2⟩:=bf_spec h ho;obtain ⟨e,he,hor⟩:=h2 r hr hb;rcases hor with rfl | ⟨bi,hbe⟩
  ·exact hed _ he
  ·have hei:=h1 e he;have fa:i<ops.length:=(ym.1 ho).1;have hoe:ops[e]?=some ops[e]:=y4 (by omega);exact N1 h jd n e _ (by omega) hoe (jd e _ hoe (hed e he)) r bi hbe
theorem draw_pair {ops:List Oper} {cs:List PA} (h:kU ops cs=true) {i j:Nat} (hj:j<ops.length) (hij:i<j) (hb:((RQ ops).getD j 0).testBit i=false):∃ x y,cs[i]?=some x/\cs[j]?=some y/\lK x y=true/\LO x y=true:=by
 unfold kU at h;simp only [y7] at h;have h1:=y6.1 h.2 j (List.mem_range.2 hj);have h2:=y6.1 h1 i (List.mem_range.2 hij);rw [hb,Bool.false_or] at h2;split at h2
 ·rename_i x y hx hy;simp only [y7] at h2;exact ⟨x,y,hx,hy,h2.1,h2.2⟩
 ·cases h2
theorem X1 {ops:Array Oper} {cs:List PA} (ua:∀ f args S r,call f args S=some r->tD P O f args S r) (uh:P4 P O lh.h) (na:∀ (i:Nat) (o:Oper),ops[i]?=some o->∃ c,cs[i]?=some c/\A6 P nt ops o c) (ba:cs.length=ops.size) (hf:KS cs=true) (hdr:kU ops.toList cs=true) {k:aA->Option RV} {r:RV}
  (hQ:∀ s' a' w',CD P O nt B F0 da w0 (fun _=>True) s' a' w'->k s'=some r->Q .normal a' w') :
  ∀ (fuel:Nat) (L:List Nat) (listed:Array Bool) (s:aA) (a:Act) (w:World),L.length=fuel->(∀ i,i<ops.size->(listed.getD i true=false ↔ i∈L))->listed.size=ops.size->L.Pairwise (·<·)->(∀ i∈L,i<ops.size) →
   (∀ (j:Nat) (o:Oper),ops.toList[j]?=some o->j ∉ L->∀ e∈iL o,e ∉ L)->CD P O nt B F0 da w0 (fun t=>∃ j c,j ∉ L/\cs[j]?=some c/\c.dst=some t) s a w->HK call lh cs L s k=some r->wpAny P .any ops Q fuel listed a w
 | 0,L,listed,s,a,w,hl,hlist,ma,_,_,_,R,hr=>by
  have:L=[]:=yF hl;subst this;refine ⟨?_,?_⟩
  ·refine List.eq_nil_iff_forall_not_mem.2 fun i hi=>?_
   obtain ⟨ez,o,ho,_⟩:=mem_ready.1 hi;have jc:=(Array.getElem?_eq_some_iff.1 ho).1;have:=(hlist i jc).1 ez;cases this
  ·obtain ⟨ι,Θ,R⟩:=R;exact hQ s a w ⟨ι,Θ,R.more fun _ _=>trivial⟩ hr
 | fuel + 1,L,listed,s,a,w,hl,hlist,ma,hsort,ai,jd,R,hr=>by
  have hbf:bfOk ops.toList (RQ ops.toList)=true:=by
   unfold kU at hdr;simp only [y7] at hdr;exact hdr.1
  refine ⟨fun ov=>?_,fun i hi=>?_⟩
  ·exfalso;cases L with
   | nil=>simp at hl
   | cons i0 L0 =>
    have fg:=ai i0 (yk);have ho:ops.toList[i0]?=some ops[i0]:=by simp [fg]
    have jb:i0∈Region.ready .any ops listed:=by
     refine mem_ready.2 ⟨(hlist i0 fg).2 (yk),ops[i0],Y00 fg,fun e he hb=>?_⟩;have fa:=(bf_spec hbf ho).1 e.on (T3.2 ⟨e,he,hb,rfl⟩);have hnot:e.on ∉ i0 :: L0:=fun hm=>by
      rcases yc.1 hm with h | h
      ·omega
      ·have:=(List.pairwise_cons.1 hsort).1 _ h; omega
     have h1:listed.getD e.on true≠false:=fun h=>hnot ((hlist e.on (by omega)).1 h)
     have hs:e.on<listed.size:=by omega
     simp only [yY,Y00 hs,Option.getD_some] at h1 ⊢;simpa using h1
    rw [ov] at jb;cases jb
  ·obtain ⟨ez,o,ho,hed⟩:=mem_ready.1 hi;have jc:=(Array.getElem?_eq_some_iff.1 ho).1;have hiL:=(hlist i jc).1 ez;have hol:ops.toList[i]?=some o:=by simpa using ho
   have hedL:∀ e∈iL o,e ∉ L:=fun e he=>by
    obtain ⟨d,hd,hb,rfl⟩:=T3.1 he;have h1:=hed d hd hb;intro hm;have fa:=ai _ hm;have h2:=(hlist _ fa).2 hm;have hs:d.on<listed.size:=by omega
    simp only [yY,Y00 hs,Option.getD_some] at h1 h2;rw [h1] at h2;cases h2
   obtain ⟨L1,L2,rfl⟩:=List.append_of_mem hiL;obtain ⟨c,hc,ok⟩:=na i o ho;have eh:=List.pairwise_append.1 hsort;have hL1:∀ r∈L1,∃ cr,cs[r]?=some cr/\lK cr c=true/\LO cr c=true:=fun r hr=>by
    have hri:r<i:=eh.2.2 r hr i (yk);have hbit:((RQ ops.toList).getD i 0).testBit r=false:=by
     cases hb:((RQ ops.toList).getD i 0).testBit r with
     | false=>rfl
     | true=>exact absurd (List.mem_append_left _ hr) (N1 hbf jd (i + 1) i o (by omega) hol hedL r hri hb)
    obtain ⟨x,y,hx,hy,h1,h2⟩:=draw_pair hdr (by simpa using jc) hri hbit;rw [hc] at hy;injection hy with hy;subst hy;exact ⟨x,hx,h1,h2⟩
   have h1:=bubble hc hL1 hr;have hnd:i ∉ L1++L2:=fun hm=>by
    rcases yE.1 hm with h | h
    ·have:=eh.2.2 i h i (yk); omega
    ·have:=(List.pairwise_cons.1 eh.2.1).1 i h; omega
   have ad:∀ j,j ∉ L1++i :: L2 ↔ (j ∉ L1++L2/\j≠i):=fun j=>by
    simp only [yE,yc,not_or];exact ⟨fun ⟨h1,h2,h3⟩=>⟨⟨h1,h3⟩,h2⟩,fun ⟨⟨h1,h3⟩,h2⟩=>⟨h1,h2,h3⟩⟩
   refine dW R ua uh ho ok (fun d hd hA ⟨j,c',hj,lf,sr⟩=>?_) h1 fun s1 a' w' R' h2=>?_
   ·have:j≠i:=((ad j).1 hj).2;exact XX hf lf hc this hA (by rw [ok.dst,hd]; rfl) (by rw [sr,ok.dst,hd])
   ·refine X1 ua uh na ba hf hdr hQ fuel (L1++L2) (listed.setIfInBounds i true) s1 a' w' (by simp at hl ⊢; omega) (fun j hj=>?_) (by simpa using ma) ?_ (fun j hj=>ai j ?_) (fun j o' ho' hj e he hm=>?_) ?_ h2
    ·have hjs:j<listed.size:=by omega
     by_cases e:i=j
     ·subst e;simp only [yY,Array.getElem?_setIfInBounds,if_true,hjs,Option.getD_some];exact ⟨fun h=>by simp at h,fun h=>absurd h hnd⟩
     ·simp only [yY,Array.getElem?_setIfInBounds,if_neg e];have:=hlist j hj;simp only [yY] at this;rw [this];simp only [yE,yc];exact ⟨fun h=>by rcases h with h | h | h; exact .inl h; exact absurd h.symm e; exact .inr h,fun h=>by rcases h with h | h; exact .inl h; exact .inr (.inr h)⟩
    ·exact List.pairwise_append.2 ⟨eh.1,(List.pairwise_cons.1 eh.2.1).2,fun x hx y hy=>eh.2.2 x hx y (yh _ hy)⟩
    ·rcases yE.1 hj with h | h
     ·exact List.mem_append_left _ h
     ·exact List.mem_append_right _ (yh _ h)
    ·have tb:e∈L1++i :: L2:=by
      rcases yE.1 hm with h | h
      ·exact List.mem_append_left _ h
      ·exact List.mem_append_right _ (yh _ h)
     by_cases e':j=i
     ·subst e';rw [hol] at ho';injection ho' with ho';subst ho';exact hedL e he tb
     ·exact jd j o' ho' ((ad j).2 ⟨hj,e'⟩) e he tb
    ·obtain ⟨ι,Θ,R'⟩:=R';refine ⟨ι,Θ,R'.more fun t ht=>?_⟩;rcases ht with ⟨j,c',hj,lf,sr⟩ | ht
     ·exact ⟨j,c',((ad j).1 hj).1,lf,sr⟩
     ·exact ⟨i,c,hnd,hc,by rw [ok.dst,ht]⟩
theorem K5 (hm:P.follows .mixedOrders=true) (ua:∀ f args S r,call f args S=some r->tD P O f args S r) (uh:P4 P O lh.h) {boxes:List Nat} {id:Nat} {ops:Array Oper} {draw:Bool} {cs:List PA} (hc:IS P boxes nt ops.toList draw ops.toList=some cs) (hf:KS cs=true) (hd:draw=true->kU ops.toList cs=true)
  (R:CD P O nt B F0 da w0 (fun _=>False) s a w) {k:aA->Option RV} {r:RV} (hr:XG call lh cs s k=some r) (hQ:∀ s' a' w',CD P O nt B F0 da w0 (fun _=>False) { s' with next:=s'.next + 1 } a' w'->k s'=some r->Q .normal a' w'):(Code.region id ops draw).wp P Q a w:=by
 obtain ⟨ba,xo⟩:=NV hc;have wu:cs.length=ops.size:=by simpa using ba
 have na:∀ (i:Nat) (o:Oper),ops[i]?=some o->∃ c,cs[i]?=some c/\A6 P nt ops o c:=fun i o ho=>by
  have:=xo i o (by simpa using ho);rw [yS] at this;exact this
 have hQ':∀ s' a' w',CD P O nt B F0 da w0 (fun _=>True) s' a' w'->k s'=some r->Q .normal a' w':=fun s' a' w' h hk=>hQ s' a' w' h.next hk
 cases draw with
 | false =>
  refine wp_region ?_;rw [List.range_eq_range'];refine O3 ua uh na wu hf ops.size 0 s a w (by omega) ?_ (by simpa using hr) hQ';obtain ⟨ι,Θ,R⟩:=R;exact ⟨ι,Θ,R.more fun _ h=>h.elim⟩
 | true =>
  refine wp_region_any hm ?_;have ia:HK call lh cs (List.range' 0 ops.size) s k=some r:=by
   rw [<- wu,<- EZ cs k cs.length 0 s (by omega)];simpa using hr
  refine X1 ua uh na wu hf (hd rfl) hQ' ops.size (List.range' 0 ops.size) _ s a _ (by simp) (fun i hi=>?_) (by simp) List.pairwise_lt_range' (fun i hi=>?_) (fun j o ho hj=>?_) ?_ ia
  ·simp [hi]
  ·simpa using hi
  ·have:=(ym.1 ho).1;exact absurd (by simpa using this) (by simpa using hj)
  ·obtain ⟨ι,Θ,R⟩:=R;exact ⟨ι,Θ,(R.grow (w':=w.drew) (fun _ _=>rfl) (yf _) R.kept.drew).more fun _ h=>h.elim⟩
end
end
section
open Go Go.RowKit
section
variable {P:Program} {O:GI} {nt B:Nat} {F0:cP} {da:Av} {w0:World} {s s':aA} {a:Act} {w w':World} {call:DB} {lp:LH}
def exOf:Ex->Exit
 | .nrm=>.normal
 | .exit id=>.exit id
 | .ret=>.ret
def LpOk (P:Program) (O:GI) (N:Nat) (lp:LpT):Prop :=
 ∀ (boxes:List Nat) (nt B:Nat) (F0:cP) (da:Av) (w0:World) (code:Code) (b:C) (s:aA) (k:Ex->aA->Option RV) (r:RV) (a:Act) (w:World) (Q:Exit->Act->World->Prop),comp P boxes nt code=some b->lp b s k=some r->CD P O nt B F0 da w0 (fun _=>False) s a w →
  (∀ e s' a' w',CD P O nt B F0 da w0 (fun _=>False) s' a' w'->k e s'=some r->Q (exOf e) a' w')->Code.rounds P code Q N a w
theorem DF (hm:P.follows .mixedOrders=true) (ua:∀ f args S r,call f args S=some r->tD P O f args S r) {N:Nat} (zu:LpOk P O N lp.l) (uh:P4 P O lp.h) {boxes:List Nat} :
  ∀ (code:Code) (c:C) (s:aA) (k:Ex->aA->Option RV) (r:RV) (a:Act) (w:World) (Q:Exit->Act->World->Prop),comp P boxes nt code=some c->c.run call lp s k=some r->CD P O nt B F0 da w0 (fun _=>False) s a w →
   (∀ e s' a' w',CD P O nt B F0 da w0 (fun _=>False) s' a' w'->k e s'=some r->Q (exOf e) a' w')->code.wp P Q a w
 | .skip,c,s,k,r,a,w,Q,hc,hr,R,hk=>by
  injection hc with hc;subst hc;exact wp_skip (hk .nrm s a w R hr)
 | .seq x y,c,s,k,r,a,w,Q,hc,hr,R,hk=>by
  unfold comp at hc;split at hc
  ·rename_i cx cy hx hy;injection hc with hc;subst hc;refine wp_seq (DF hm ua zu uh x cx s _ r a w _ hx hr R fun e s' a' w' R' he=>?_);cases e with
   | nrm=>exact DF hm ua zu uh y cy s' k r a' w' Q hy he R' hk
   | exit id=>exact hk _ _ _ _ R' he
   | ret=>exact hk _ _ _ _ R' he
  ·cases hc
 | .region id ops draw,c,s,k,r,a,w,Q,hc,hr,R,hk=>by
  unfold comp at hc;split at hc
  ·rename_i cs di;split at hc
   ·rename_i na;injection hc with hc;subst hc;simp only [y7,Bool.or_eq_true] at na;simp only [C.run] at hr;exact K5 hm ua uh di na.1 (fun h=>by rcases na.2 with h' | h'; rw [h] at h'; cases h'; exact h') R hr fun s' a' w' R' tc=>hk .nrm _ _ _ R' tc
   ·cases hc
  ·cases hc
 | .cond x t e,c,s,k,r,a,w,Q,hc,hr,R,hk=>by
  unfold comp at hc;split at hc
  ·rename_i cx ct ce hx ht he;injection hc with hc;subst hc;simp only [C.run] at hr;split at hr
   ·rename_i b hb;have hv:a.eval x=.bool b:=by
     obtain ⟨ι,Θ,R⟩:=R;have:=(R.opd hx).1
     rwa [hb,SB] at this
    cases b with
    | true=>exact wp_cond_true hv (DF hm ua zu uh t ct s k r a w Q ht (by simpa using hr) R hk)
    | false=>exact wp_cond_false hv (DF hm ua zu uh e ce s k r a w Q he (by simpa using hr) R hk)
   ·cases hr
  ·cases hc
 | .block id b,c,s,k,r,a,w,Q,hc,hr,R,hk=>by
  unfold comp at hc;obtain ⟨cb,hb,rfl⟩:=yg.1 hc;refine wp_block (DF hm ua zu uh b cb s _ r a w _ hb hr R fun e s' a' w' R' he=>?_);cases e with
  | nrm=>exact hk _ _ _ _ R' he
  | ret=>exact hk _ _ _ _ R' he
  | exit j =>
   simp only at he;show Exit.inBlock id Q (.exit j) a' w';unfold Exit.inBlock;split at he
   ·rename_i e; simp only [e,if_true]; exact hk _ _ _ _ R' he
   ·rename_i e; simp only [e,if_false]; exact hk _ _ _ _ R' he
 | .loop b,c,s,k,r,a,w,Q,hc,hr,R,hk=>by
  unfold comp at hc;obtain ⟨cb,hb,rfl⟩:=yg.1 hc;exact wp_loop_rounds N (zu boxes nt B F0 da w0 b cb s k r a w Q hb hr R hk)
 | .exit id,c,s,k,r,a,w,Q,hc,hr,R,hk=>by
  injection hc with hc;subst hc;exact wp_exit (hk (.exit id) s a w R hr)
 | .ret,c,s,k,r,a,w,Q,hc,hr,R,hk=>by
  injection hc with hc;subst hc;exact wp_ret (hk .ret s a w R hr)
 | .scope b,c,s,k,r,a,w,Q,hc,hr,R,hk=>by
  unfold comp at hc;refine wp_scope_straight (DF hm ua zu uh b c s k r a w _ hc hr R fun e s' a' w' R' he=>?_);have:=hk _ _ _ _ R' he;cases e <;> exact this
 | .rangeFunc ..,_,_,_,_,_,_,_,hc,_,_,_=>by cases hc
 | .label _,_,_,_,_,_,_,_,hc,_,_,_=>by cases hc
 | .goto _,_,_,_,_,_,_,_,hc,_,_,_=>by cases hc
 | .refuse _,_,_,_,_,_,_,_,hc,_,_,_=>by cases hc
theorem rep_of_S {ι:Ix} {av:Av} {x:AV} {v:Value} (h:NA ι av (fun _ _=>False) w x v) (hx:x.free=true):bE av w x v:=by
  cases x <;> first
    | exact h
    | (simp [AV.free,AV.free0] at hx; done)
    | (obtain ⟨us,hv,hc⟩:=h
       exact ⟨us,hv,EH hc fun y hy=>y6.1 hx y hy⟩)
theorem JV {av:Av}:∀ {xs:List AV} {us:List Value},QO av w xs us->us.length=xs.length
 | [],_,h=>by simp only [QO] at h; subst h; rfl
 | x :: r,_,h=>by
  simp only [QO] at h;obtain ⟨u,oa,rfl,_,h⟩:=h;simp [JV h]
theorem jS {p:Nat} {av:Av}:∀ {xs:List AV} {us:List Value},IM p av w xs us->us.length=xs.length
 | [],_,h=>by simp only [IM] at h; subst h; rfl
 | x :: r,_,h=>by
  simp only [IM] at h;obtain ⟨u,oa,rfl,_,h⟩:=h;simp [jS h]
def CN (ι:Ix) (av avb:Av) (w:World):List AV->List Value->Prop
 | [],us=>us=[]
 | x :: r,us=>∃ u oa,us=u :: oa/\NA ι av avb w x u/\CN ι av avb w r oa
theorem NA.toRep {ι:Ix} {av lb avb:Av} {x:AV} {v:Value} (h:NA ι av avb w x v) (hx:x.free=true) (zd:∀ b o,lb b o->av b o):bE lb w x v :=
 bE.held (XA.less zd) _ _ (rep_of_S (U7 (ι':=ι) h hx) hx)
theorem CN.toT {ι:Ix} {av lb avb:Av} (zd:∀ b o,lb b o->av b o):∀ {xs:List AV} {us:List Value},CN ι av avb w xs us->(∀ v∈xs,v.free=true)->QO lb w xs us
 | [],_,h,_=>h
 | x :: r,_,h,hf=>by
  simp only [CN] at h;obtain ⟨u,oa,rfl,h0,h⟩:=h;exact ⟨u,oa,rfl,h0.toRep (hf x yk) zd,h.toT zd fun v hv=>hf v (yh _ hv)⟩
theorem unname_ptr {t n:Nat} {x:AV} (h:(uK t n x).isObj=true):x=.ptr t n 0:=by
 cases x with
 | ptr t' n' o =>
  simp only [uK] at h;split at h
  ·rename_i e; obtain ⟨rfl,rfl,rfl⟩:=e; rfl
  ·cases h
 | _=>cases h
theorem D9 {t n:Nat} {x:AV} (h:(uK t n x).free=true):uK t n x=x:=by
 cases x with
 | ptr t' n' o =>
  simp only [uK] at h;split at h <;> cases h
 | _=>rfl
theorem CN.toO {ι:Ix} {av lb avb:Av} {t n p:Nat} (hp:ι t n=some p) (zd:∀ b o,lb b o->av b o):∀ {xs:List AV} {us:List Value},CN ι av avb w xs us->(∀ v∈xs,((uK t n v).free||(uK t n v).isObj)=true)->IM p lb w (xs.map (uK t n)) us
 | [],_,h,_=>h
 | x :: r,_,h,hf=>by
  simp only [CN] at h;obtain ⟨u,oa,rfl,h0,h⟩:=h;refine ⟨u,oa,rfl,?_,h.toO hp zd fun v hv=>hf v (yh _ hv)⟩;have h1:=hf x yk;unfold pU;split
  ·rename_i ho;have:=unname_ptr ho;subst this;obtain ⟨b,hb,hv⟩:=h0;rw [hp] at hb;injection hb with hb;rw [hv,hb]
  ·rename_i ho;have hfr:(uK t n x).free=true:=by
    rcases Bool.or_eq_true_iff.1 h1 with h | h
    ·exact h
    ·exact absurd h ho
   have rf:=D9 hfr;rw [rf] at hfr ⊢;exact h0.toRep hfr zd
def avF (s:aA) (av:Av) (ι:Ix):Av:=fun b o=>av b o/\¬ ∃ t n r,s.mem t n=some r/\ι t n=some b
theorem BA.frz1 {D:Nat->Prop} {ι:Ix} {Θ:IL} (R:dC P O nt B F0 da w0 D s a w ι Θ) {x:AV} {u:Value} (h:BA ι (AC da ι Θ) w x u):BA ι (avF s (AC da ι Θ) ι) w (x.frz1 s) u:=by
 have less:XA (AC da ι Θ) (avF s (AC da ι Θ) ι) w w:=XA.less fun b o h=>h.1
 have same:=BA.held (Ix.Le.refl ι) less x u h;cases x with
 | ref t n sz off len c =>
  simp only [AV.frz1];split
  ·rename_i l hl;obtain ⟨r,hm,hl⟩:=yb.1 hl;obtain ⟨b,hb,ub,cc,rh,hz,hv⟩:=h;obtain ⟨dd,b',cur,ty,sa,la,ka,_⟩:=R.rows t n r hm;rw [hb] at sa;injection sa with sa;subst sa;obtain ⟨h1,h2,us,hL,sd⟩:=UL ka la hl;subst h1;show bE _ w (.sl false l) u;simp only [bE];refine ⟨_,cc,hv,yw ub rh,fun x hx y hy=>(h2 x hx).trans (h2 y hy).symm,(fun h=>by cases h),fun _=>⟨fun h=>(by cases h),fun _=>⟨b,off,rfl,?_⟩⟩⟩;rw [MF];exact cJ (DC.held less _ _ hL) fun j u hj=>⟨sd j u hj,fun h=>h.2 ⟨t,n,r,hm,hb⟩⟩
  ·exact same
 | _=>exact same
theorem KA.frz1 {D:Nat->Prop} {ι:Ix} {Θ:IL} (R:dC P O nt B F0 da w0 D s a w ι Θ):∀ {xs:List AV} {us:List Value},KA ι (AC da ι Θ) w xs us->KA ι (avF s (AC da ι Θ) ι) w (xs.map (AV.frz1 s)) us
 | [],_,h=>h
 | x :: r,_,h=>by
  simp only [KA] at h;obtain ⟨u,oa,rfl,h0,h1,h⟩:=h;exact ⟨u,oa,rfl,h0.frz1 R,h1,h.frz1 R⟩
theorem BA.frz {D:Nat->Prop} {ι:Ix} {Θ:IL} (R:dC P O nt B F0 da w0 D s a w ι Θ) {x:AV} {u:Value} (h:BA ι (AC da ι Θ) w x u):BA ι (avF s (AC da ι Θ) ι) w (x.frz0 s) u:=by
 have less:XA (AC da ι Θ) (avF s (AC da ι Θ) ι) w w:=XA.less fun b o h=>h.1
 have same:=BA.held (Ix.Le.refl ι) less x u h;cases x with
 | ref t n sz off len c =>
  simp only [AV.frz0];split
  ·rename_i l hl;obtain ⟨r,hm,hl⟩:=yb.1 hl;obtain ⟨b,hb,ub,cc,rh,hz,hv⟩:=h;obtain ⟨dd,b',cur,ty,sa,la,ka,_⟩:=R.rows t n r hm;rw [hb] at sa;injection sa with sa;subst sa;obtain ⟨h1,h2,us,hL,sd⟩:=UL ka la hl;subst h1;show bE _ w (.sl false l) u;simp only [bE];refine ⟨_,cc,hv,yw ub rh,fun x hx y hy=>(h2 x hx).trans (h2 y hy).symm,(fun h=>by cases h),fun _=>⟨fun h=>(by cases h),fun _=>⟨b,off,rfl,?_⟩⟩⟩;rw [MF];exact cJ (DC.held less _ _ hL) fun j u hj=>⟨sd j u hj,fun h=>h.2 ⟨t,n,r,hm,hb⟩⟩
  ·split
   ·rename_i l hl;obtain ⟨r,hm,hl⟩:=yb.1 hl;obtain ⟨l0,xf,hl⟩:=yb.1 hl;split at hl
    ·rename_i af;injection hl with hl;subst hl;obtain ⟨b,hb,ub,cc,rh,hz,hv⟩:=h;obtain ⟨dd,b',cur,ty,sa,la,ka,_⟩:=R.rows t n r hm;rw [hb] at sa;injection sa with sa;subst sa;obtain ⟨h1,h2,us,hL,sd⟩:=xQ ka la xf;subst h1;have hL1:=KA.frz1 R hL;rw [List.map_flatten] at hL1;have hL2:=EH hL1 fun x hx=>y6.1 af x hx
     show bE _ w (.sl false _) u;simp only [bE];refine ⟨_,cc,by rw [yn]; exact hv,by rw [yn]; exact yw ub rh,fun x hx y hy=>?_,(fun h=>by cases h),fun _=>⟨fun h=>(by cases h),fun _=>⟨b,off,rfl,?_⟩⟩⟩
     ·obtain ⟨x',sk,rfl⟩:=yB.1 hx;obtain ⟨y',bz,rfl⟩:=yB.1 hy;rw [yn,yn,h2 x' sk,h2 y' bz]
     ·rw [MF];exact cJ hL2 fun j u hj=>⟨sd j u hj,fun h=>h.2 ⟨t,n,r,hm,hb⟩⟩
    ·cases hl
   ·exact same
 | _=>exact same
theorem KA.frz {D:Nat->Prop} {ι:Ix} {Θ:IL} (R:dC P O nt B F0 da w0 D s a w ι Θ):∀ {xs:List AV} {us:List Value},KA ι (AC da ι Θ) w xs us->KA ι (avF s (AC da ι Θ) ι) w (xs.map (AV.frz0 s)) us
 | [],_,h=>h
 | x :: r,_,h=>by
  simp only [KA] at h;obtain ⟨u,oa,rfl,h0,h1,h⟩:=h;exact ⟨u,oa,rfl,h0.frz R,h1,h.frz R⟩
theorem NA.frz {D:Nat->Prop} {ι:Ix} {Θ:IL} (R:dC P O nt B F0 da w0 D s a w ι Θ) {x:AV} {u:Value} (h:NA ι (AC da ι Θ) (SC ι Θ) w x u):NA ι (avF s (AC da ι Θ) ι) (SC ι Θ) w (x.frz s) u:=by
 have less:XA (AC da ι Θ) (avF s (AC da ι Θ) ι) w w:=XA.less fun b o h=>h.1
 have same:=NA.held (Ix.Le.refl ι) less (XA.refl _ _) x u h;cases x with
 | agg cs=>obtain ⟨us,hv,hc⟩:=h; exact ⟨us,hv,hc.frz R⟩
 | ref t n sz off len c =>
  have:=BA.frz R (x:=.ref t n sz off len c) h;show NA _ _ _ w (AV.frz0 s (.ref t n sz off len c)) u;generalize hy:AV.frz0 s (.ref t n sz off len c)=y at this ⊢;simp only [AV.frz0] at hy;split at hy
  ·subst hy; exact this
  ·split at hy <;> (subst hy; exact this)
 | _=>exact same
theorem CN.frz {D:Nat->Prop} {ι:Ix} {Θ:IL} (R:dC P O nt B F0 da w0 D s a w ι Θ):∀ {xs:List AV} {us:List Value},CN ι (AC da ι Θ) (SC ι Θ) w xs us->CN ι (avF s (AC da ι Θ) ι) (SC ι Θ) w (xs.map (AV.frz s)) us
 | [],_,h=>h
 | x :: r,_,h=>by
  simp only [CN] at h;obtain ⟨u,oa,rfl,h0,h⟩:=h;exact ⟨u,oa,rfl,h0.frz R,h.frz R⟩
def dQ (us:List Value):Value:=if h:us.toArray.size=1 then us.toArray[0] else .tuple us.toArray
theorem tZ {av:Av}:∀ {xs:List AV} {us:List Value},QO av w xs us->bE av w (U1 xs) (dQ us)
 | [],us,h=>by simp only [QO] at h; subst h; exact ⟨#[],rfl,rfl⟩
 | [x],us,h=>by
  simp only [QO] at h;obtain ⟨u,oa,rfl,h0,rfl⟩:=h;exact h0
 | x :: y :: r,us,h=>by
  have hl:=JV h;have:¬ us.toArray.size=1:=by simp; simp at hl; omega
  unfold dQ;rw [dif_neg this];exact ⟨_,rfl,h⟩
theorem pack_repN {p:Nat} {av:Av}:∀ {xs:List AV} {us:List Value},IM p av w xs us->(∀ v∈xs,(v.free||v.isObj)=true)->N9 p av w (U1 xs) (dQ us)
 | [],us,h,_=>by simp only [IM] at h; subst h; exact ⟨#[],rfl,rfl⟩
 | [x],us,h,hf=>by
  simp only [IM] at h;obtain ⟨u,oa,rfl,h0,rfl⟩:=h;have:=hf x yk;cases x with
  | tup vs=>cases this
  | _=>exact h0
 | x :: y :: r,us,h,_=>by
  have hl:=jS h;have:¬ us.toArray.size=1:=by simp; simp at hl; omega
  unfold dQ;rw [dif_neg this];exact ⟨_,rfl,h⟩
def qP (tmps:Array Value):ResultVar->Sem Value
 | .tmp t=>pure (tmps.getD t undef)
 | .cell b t=>do loadVar t (<- asAddr (tmps.getD b undef))
theorem uX {D:Nat->Prop} {ι:Ix} {Θ:IL} (R:dC P O nt B F0 da w0 D s a w ι Θ):∀ {rs:List ResultVar} {cs:List ResC} {vs:List AV},dM P rs=some cs->ZW s cs=some vs →
  ∃ us,(rs.mapM (qP a.tmps)).run P w=Result.ok us w/\CN ι (AC da ι Θ) (SC ι Θ) w vs us
 | [],cs,vs,h,hr=>by
  injection h with h;subst h;injection hr with hr;subst hr;exact ⟨[],by simp,rfl⟩
 | .tmp t :: rs,cs,vs,h,hr=>by
  unfold dM at h;obtain ⟨l,hl,rfl⟩:=yg.1 h;simp only [ZW] at hr;obtain ⟨xt,hv,rfl⟩:=yg.1 hr;obtain ⟨us,hu,hT⟩:=uX R hl hv;refine ⟨a.tmps.getD t undef :: us,by rw [List.mapM_cons]; simp only [qP,Sem.run_bind,Sem.run_pure,Result.andThen_ok,hu],_,us,rfl,R.env t,hT⟩
 | .cell b t :: rs,cs,vs,h,hr=>by
  unfold dM at h;split at h
  ·rename_i ag z l hA hz hl;injection h with h;subst h;simp only [ZW] at hr;split at hr
   ·rename_i t' n off hb;cases hm:s.mem t' n with
    | none=>rw [hm] at hr; cases hr
    | some row =>
     rw [hm,V] at hr;obtain ⟨x,hx,hr⟩:=yb.1 hr;obtain ⟨xt,hv,rfl⟩:=yg.1 hr;obtain ⟨us,hu,hT⟩:=uX R hl hv;have hv:=R.env b;rw [hb,AF] at hv;obtain ⟨bb,hbb,hv⟩:=hv;obtain ⟨ij,b',cur,ty,sa,la,ka,_⟩:=R.rows t' n row hm;rw [hbb] at sa;injection sa with sa;subst sa;have gc:∀ (j:Nat) (u:Value),((cur.toList.take row.length).drop off)[j]?=some u->w.cell? ⟨bb,off + j,none⟩=some u:=fun j u hu=>by
      rw [cell_of_row w bb (off + j) cur ty (0,0) la];rw [yT,yU] at hu;split at hu
      ·simpa using hu
      ·cases hu
     have lc:=SF off ka.rep;have hi:DG ag z ((row.map (·.v)).drop off)=some x.v:=by
      cases ag with
      | true =>
       simp only [SA,if_true] at hx;split at hx
       ·rename_i ub;injection hx with hx;subst hx;simp only [DG,if_true,List.length_drop,yn];rw [if_pos (by omega)];simp [List.map_take,List.map_drop]
       ·cases hx
      | false =>
       simp only [SA,yp,if_false] at hx;simp [DG,yT,hx]
     obtain ⟨u,ia,hS,_⟩:=eQ (P:=P) (avb:=SC ι Θ) hA hz lc gc hi;refine ⟨u :: us,by rw [List.mapM_cons]; simp only [qP,Sem.run_bind,hv,asAddr,Sem.run_pure,Result.andThen_ok,ia,hu],_,us,rfl,hS,hT⟩
   ·cases hr
  ·cases h
structure QA (P:Program) (f:FuncId) (c:qB):Prop where
 enter:∀ xs w,(callFunc f xs).run P w=.ok (.enter f xs) w
 fn:∃ fn,P.funcs[f]?=some fn/\BV P c.mu fn=some c
theorem HV {ι:Ix} {av avl:Av}:∀ {xs:List AV} {us:List Value},gL ι av avl w xs us->us.length=xs.length
 | [],_,h=>by simp only [gL] at h; subst h; rfl
 | x :: r,_,h=>by
  simp only [gL] at h;obtain ⟨u,oa,rfl,_,h⟩:=h;simp [HV h]
theorem F6 {ι:Ix} {av avl:Av}:∀ {xs:List AV} {us:List Value} (_:gL ι av avl w xs us) (t:Nat),NA ι av avl w (xs.getD t .undef) (us.getD t undef)
 | [],_,_,_=>by simp [NA]
 | x :: r,_,h,t=>by
  simp only [gL] at h;obtain ⟨u,oa,rfl,h0,h⟩:=h;cases t with
  | zero=>simpa using h0
  | succ t=>simpa using F6 h t
section
variable {vs:List Value} {args:List AV}
include vs args
theorem mU {ι:Ix} {av avl:Av} {np:Nat} (h:gL ι av avl w args vs) (hl:args.length=np) (hn:np<=nt):(vs.toArray++Array.replicate (nt - vs.toArray.size) undef).size=nt:=by
 have:=HV h;simp;omega
theorem rY {ι ι':Ix} {av lb avb avl:Av} {S0:Option AV} (h:gL ι av avl w args vs) (hι:Ix.Le ι ι') (hA:XA av lb w w) (hB:XA avl avb w w) (t:Nat) :
  NA ι' lb avb w ((aA.init args S0).env t).v ((vs.toArray++Array.replicate (nt - vs.toArray.size) undef).getD t undef):=by
 have h1:=NA.held hι hA hB _ _ (F6 h t);have h2:(vs.toArray++Array.replicate (nt - vs.toArray.size) undef).getD t undef=vs.getD t undef:=by
  simp only [yY,List.getD_eq_getElem?_getD,Array.getElem?_append,List.size_toArray,List.getElem?_toArray];split
  ·rfl
  ·rename_i dh;rw [yZ (by omega)];simp only [Array.getElem?_replicate];split <;> rfl
 rw [h2];exact h1
theorem B2 {av:Av} {np:Nat} (h:gL Ix.none av (fun _ _=>False) w args vs) (zd:∀ b o,av b o->b<w.heap.size) (hl:args.length=np) (hn:np<=nt) :
  CD P O nt w.heap.size ⟨fun _=>False,none,fun _=>False,0,fun _=>undef⟩ av w (fun _=>False) (aA.init args none) { tmps:=vs.toArray++Array.replicate (nt - vs.toArray.size) undef,defers:=[] } w:=by
 have sw:∀ b o,SC Ix.none (fun _=>none) b o->False:=fun b o h=>by rcases h with (⟨t,n,h⟩ | ⟨t,n,H,h,_⟩) | ⟨k,ow,h,_⟩ <;> cases h
 have hA:XA av (AC av Ix.none (fun _=>none)) w w:=XA.less fun b o h=>h.resolve_right (sw b o)
 have hB:XA (fun _ _=>False) (SC Ix.none (fun _=>none)) w w:=XA.less fun b o h=>sw b o h
 exact ⟨Ix.none,fun _=>none,rfl,mU h hl hn,fun t=>rY h (Ix.Le.refl _) hA hB t,fun t=>trivial,fun t n r h=>(by cases h),fun t n b h=>(by cases h),fun _ _ _ _ _ h=>(by cases h),fun _ _ h=>(by cases h),fun _ _ _ _ h=>(by cases h),fun _ _ _ _ h=>(by cases h),zd,fun _ h=>(by cases h),QC.refl _ _,rfl,fun t n S h=>(by simp [aA.init] at h),fun t n H h=>(by cases h),fun _=>trivial,fun _=>trivial⟩
theorem init_some {av:Av} {np p:Nat} {H:Nat->Prop} {S:AV} (h:gL (Ix.one p) av (fun b _=>H b) w args vs) (zd:∀ b o,av b o->b<w.heap.size) (hH:∀ b o,H b->av b o) (ic:O.at_ S H p w) (hni:Q5 S=true) (hl:args.length=np) (hn:np<=nt) :
  CD P O nt w.heap.size ⟨H,some p,fun _=>False,0,fun _=>undef⟩ av w (fun _=>False) (aA.init args (some S)) { tmps:=vs.toArray++Array.replicate (nt - vs.toArray.size) undef,defers:=[] } w:=by
 obtain ⟨ι,hι⟩:∃ ι:Ix,ι=⟨fun t n=>if t=0/\n=0 then some p else none,fun t n=>if t=0/\n=0 then some H else none,fun _=>0⟩:=⟨_,rfl⟩;have hf:∀ t n b,ι t n=some b->t=0/\n=0/\b=p:=fun t n b h=>by
  subst hι;have h':(if t=0/\n=0 then some p else none)=some b:=h;split at h'
  ·rename_i e; injection h' with h'; exact ⟨e.1,e.2,h'.symm⟩
  ·cases h'
 have ho:∀ t n H1,ι.ob t n=some H1->t=0/\n=0/\H1=H:=fun t n b h=>by
  subst hι;simp only at h;split at h
  ·rename_i e; injection h with h'; exact ⟨e.1,e.2,h'.symm⟩
  ·cases h
 have h0:ι 0 0=some p:=by subst hι; rfl
 have h1:ι.ob 0 0=some H:=by subst hι; rfl
 have ad:∀ t n b,Ix.one p t n=some b->ι t n=some b:=fun t n b h=>by subst hι; exact h
 have ub:Ix.Le (Ix.one p) ι:=⟨ad,fun _ _ _ _=>by subst hι; rfl⟩;clear hι;have hpH:=O.main ic;have sw:∀ b o,SC ι (fun _=>none) b o->H b:=fun b o h=>by
  rcases h with (⟨t,n,h⟩ | ⟨t,n,H1,h,hb⟩) | ⟨k,ow,h,_⟩
  ·rw [(hf _ _ _ h).2.2]; exact hpH
  ·rw [(ho _ _ _ h).2.2] at hb; exact hb
  ·cases h
 have hA:XA av (AC av ι (fun _=>none)) w w:=XA.less fun b o h=>h.elim id fun h=>hH b o (sw b o h)
 refine ⟨ι,fun _=>none,rfl,mU h hl hn,fun t=>?_,fun t=>trivial,fun t n r h=>(by cases h),fun t n b h=>?_,fun t n t' n' b h h'=>?_,fun _ _ h=>(by cases h),fun _ _ _ _ h=>(by cases h),fun _ _ _ _ h=>(by cases h),zd,fun q h=>?_,QC.refl _ _,rfl,fun t n S1 h=>?_,fun t n H1 h=>?_,fun _=>trivial,fun _=>trivial⟩
 ·exact rY h ub hA (XA.less fun b o h=>sw b o h) t
 ·obtain ⟨rfl,rfl,rfl⟩:=hf _ _ _ h;exact ⟨.inr hpH,O.lt ic hpH,.inl (by simp [aA.init])⟩
 ·obtain ⟨rfl,rfl,_⟩:=hf _ _ _ h;obtain ⟨rfl,rfl,_⟩:=hf _ _ _ h';exact ⟨rfl,rfl⟩
 ·injection h with h;subst h;exact ⟨h0,.inr ⟨H,h1⟩⟩
 ·simp only [aA.init] at h;split at h
  ·rename_i e;injection h with h;subst h;exact ⟨p,H,by rw [e.1,e.2]; exact h0,by rw [e.1,e.2]; exact h1,ic,Q6.no hni⟩
  ·cases h
 ·obtain ⟨rfl,rfl,rfl⟩:=ho _ _ _ h;refine ⟨fun b hb=>⟨.inr hb,O.lt ic hb,fun t' n' h=>?_,fun _ _ h=>(by cases h),fun t' n' H' h _=>?_⟩,.inl (by simp [aA.init])⟩
  ·obtain ⟨rfl,rfl,_⟩:=hf _ _ _ h; exact ⟨rfl,rfl⟩
  ·obtain ⟨rfl,rfl,_⟩:=ho _ _ _ h; exact ⟨rfl,rfl⟩
end
theorem init_row {vs:List Value} {args cs:List AV} {av:Av} {np p:Nat} {cur:Array Value} {ty:TypeId} (h:gL (Ix.row p cur.size) av (fun b _=>b=p) w args vs) (zd:∀ b o,av b o->b<w.heap.size) (xl:∀ o,av p o) (la:w.heap[p]?=some (.cells cur ty (0,0))) (di:cs.length<=cur.size) (lc:DC av w cs (cur.toList.take cs.length)) (hl:args.length=np) (hn:np<=nt) :
  CD P O nt w.heap.size ⟨fun b=>b=p,some p,fun b=>b=p,cur.size,fun _=>undef⟩ av w (fun _=>False) (aA.initR args cs) { tmps:=vs.toArray++Array.replicate (nt - vs.toArray.size) undef,defers:=[] } w:=by
 have hf:∀ t n b,(Ix.row p cur.size) t n=some b->t=0/\n=0/\b=p:=fun t n b h=>by
  have h':(if t=0/\n=0 then some p else none)=some b:=h;split at h'
  ·rename_i e; injection h' with h'; exact ⟨e.1,e.2,h'.symm⟩
  ·cases h'
 have sw:∀ b o,SC (Ix.row p cur.size) (fun _=>none) b o->b=p:=fun b o h=>by
  rcases h with (⟨t,n,h⟩ | ⟨t,n,H1,h,hb⟩) | ⟨k,ow,h,_⟩
  ·exact (hf _ _ _ h).2.2
  ·cases h
  ·cases h
 have hA:XA av (AC av (Ix.row p cur.size) (fun _=>none)) w w:=XA.less fun b o h=>h.elim id fun h=>sw b o h ▸ xl o
 refine ⟨Ix.row p cur.size,fun _=>none,rfl,mU h hl hn,fun t=>?_,fun t=>trivial,fun t n r h=>?_,fun t n b h=>?_,fun t n t' n' b h h'=>?_,fun _ _ h=>(by cases h),fun _ _ _ _ h=>(by cases h),fun _ _ _ _ h=>(by cases h),zd,fun q h=>?_,QC.refl _ _,rfl,fun t n S1 h=>(by cases h),fun t n H1 h=>(by cases h),fun _=>trivial,fun _=>trivial⟩
 ·exact rY (S0:=none) h (Ix.Le.refl _) hA (XA.less fun b o h=>sw b o h) t
 ·simp only [aA.initR] at h;split at h
  ·rename_i e;injection h with h;subst h;refine ⟨rfl,p,cur,ty,by rw [e.1,e.2]; rfl,la,row_ofz (DC.held hA _ _ lc) fun j u hu=>?_,.inr rfl,rfl⟩;have hj:j<cs.length:=by
    have:=(ym.1 hu).1;rw [yN] at this;omega
   rw [List.getElem?_take_of_lt hj] at hu;simpa using hu
  ·cases h
 ·obtain ⟨rfl,rfl,rfl⟩:=hf _ _ _ h;exact ⟨.inr rfl,TA la,.inl (by simp [aA.initR])⟩
 ·obtain ⟨rfl,rfl,_⟩:=hf _ _ _ h;obtain ⟨rfl,rfl,_⟩:=hf _ _ _ h';exact ⟨rfl,rfl⟩
 ·injection h with h;subst h;exact ⟨rfl,.inl ⟨rfl,rfl⟩⟩
theorem dC.drop0 {D:Nat->Prop} {ι:Ix} {Θ:IL} (R:dC P O nt B F0 da w0 D s a w ι Θ):dC P O nt B F0 da w0 D s.drop0 a w ι Θ :=
 ⟨R.defers,R.size,R.env,R.ann,fun t n r h=>by
  simp only [aA.drop0] at h;split at h
  ·cases h
  ·exact R.rows t n r h,R.mine,R.inj,R.tok,R.tinj,R.apart,R.out,R.pin,R.kept,R.base,R.objs,R.obs,R.gen,R.gann⟩
theorem row_sound (hm:P.follows .mixedOrders=true) {call:DB} {lp:LH} {N:Nat} (ua:∀ f args S r,call f args S=some r->tD P O f args S r) (zu:LpOk P O N lp.l) (uh:P4 P O lp.h) {f:FuncId} {fn:Func} {c:qB} (nd:∀ xs w,(callFunc f xs).run P w=.ok (.enter f xs) w) (kt:P.funcs[f]?=some fn) (se:BV P c.mu fn=some c) {rest cs:List AV} {r:RV} (ba:rest.length=c.np)
  (h:c.code.run call lp (aA.initR rest cs) (gM c cs.length)=some r):U4 P f rest (some (.agg cs)) r:=by
 unfold BV at se;split at se
 ·cases se
 ·rename_i code zl;split at se
  ·rename_i cc rr rh hrr;split at se
   ·rename_i aa;injection se with se;obtain ⟨mu,tp⟩:∃ mu,mu=c.mu:=⟨_,rfl⟩;rw [<- tp] at se rh;clear tp;subst se;have sv:fn.params.size + fn.nfree<=fn.ntmps:=aa;refine ⟨nd,?_⟩;obtain ⟨r1,r2⟩:=r
    match r2,h with
    | some (.agg px),h =>
     intro av w vs p cur ty zd xl la ub lc fc;refine calls_of_wp kt zl ?_;refine DF hm ua zu uh code cc _ _ _ _ w _ rh h (init_row fc zd xl la ub lc ba sv) fun e s' a' w' R' he=>?_
     have we:e=.nrm\/e=.ret:=by
      cases e with
      | nrm=>exact .inl rfl
      | ret=>exact .inr rfl
      | exit id=>cases he
     have th:∃ xs,ZW s' rr=some xs/\rJ cs.length s' (xs.map (AV.frz s'.drop0))=some (r1,some (.agg px)):=by
      rcases we with rfl | rfl <;> exact yb.1 he
     obtain ⟨xs,ze,pd⟩:=th;obtain ⟨ι,Θ,R'⟩:=R';obtain ⟨us,sd,hT'⟩:=uX R' hrr ze;have ae:(results fn a'.tmps).run P w'=.ok (dQ us) w':=by
      have he:results fn a'.tmps=(do let vs <- fn.results.mapM (qP a'.tmps); pure (if h:vs.size=1 then vs[0] else .tuple vs)):=rfl;rw [he,Array.mapM_eq_mapM_toList];simp only [Sem.run_bind,Sem.run_map,sd,Result.andThen_ok,Sem.run_pure];rfl
     have hs:=hT'.frz R'.drop0;unfold rJ at pd;split at pd
     ·rename_i za;obtain ⟨row,xm,pd⟩:=yb.1 pd;split at pd
      ·rename_i aa;injection pd with pd;injection pd with hfv1 hfv2;injection hfv2 with hfv2;injection hfv2 with hfv2;subst hfv1;subst hfv2;obtain ⟨dd,b,wb,dr,hb,zo,ka,_,hz⟩:=R'.rows 0 0 row xm;obtain ⟨hpp,hpz⟩:=R'.pin p rfl;rw [hpp] at hb;injection hb with hb;subst hb;have hz':ι.z p=cur.size:=by
        rcases hpz with ⟨_,h⟩ | ⟨H,h⟩
        ·exact h
        ·rw [h] at dd; cases dd
       have ad:∀ b o,av b o->avF s'.drop0 (AC av ι Θ) ι b o:=fun b o h=>⟨.inl h,fun ⟨t,n,r,hm,hb⟩=>by
        simp only [aA.drop0] at hm;split at hm
        ·cases hm
        ·rename_i hn;obtain ⟨_,b',_,_,sa,_,_,fj,_⟩:=R'.rows t n r hm;rw [hb] at sa;injection sa with sa;subst sa;rcases fj with fj | fj
         ·have:=zd _ _ h; omega
         ·have:b=p:=fj;subst this;exact hn (R'.inj _ _ _ _ _ hb hpp)⟩
       have post:a'.defers=[]/\∃ v,(results fn a'.tmps).run P w'=.ok v w'/\∃ v' cur'' ty'',Ending.returned v=.returned v'/\bE av w' (U1 (xs.map (AV.frz s'.drop0))) v'/\w'.heap[p]?=some (.cells cur'' ty'' (0,0))/\cur''.size=cur.size/\DC av w' (row.map fun x=>AV.frz0 s'.drop0 x.v) (cur''.toList.take (row.map fun x=>AV.frz0 s'.drop0 x.v).length)/\QC (fun b=>b=p) w w':=by
        refine ⟨R'.defers,_,ae,_,wb,dr,rfl,tZ (hs.toT ad fun v hv=>y6.1 za v hv),zo,hz.trans hz',?_,R'.kept⟩;have h1:=ka.rep.frz R'.drop0;rw [y0] at h1;have h2:=EH h1 fun x hx=>y6.1 aa.1 x hx
        rw [yn];exact DC.held (XA.less ad) _ _ h2
       rcases we with rfl | rfl <;> exact post
      ·cases pd
     ·cases pd
    | none,h=>trivial
    | some (.int ..),h=>trivial
    | some (.bool _),h=>trivial
    | some (.str _),h=>trivial
    | some .nilP,h=>trivial
    | some (.ptr ..),h=>trivial
    | some (.ip _),h=>trivial
    | some (.bp _),h=>trivial
    | some (.sl ..),h=>trivial
    | some (.bl _),h=>trivial
    | some (.ref ..),h=>trivial
    | some (.mp ..),h=>trivial
    | some (.fn ..),h=>trivial
    | some (.tup _),h=>trivial
    | some .undef,h=>trivial
   ·cases se
  ·cases se
theorem zZ {D:Nat->Prop} {ι:Ix} {Θ:IL} (R:dC P O nt B F0 da w0 D s a w ι Θ):∀ {rs:List ResultVar} {cs:List ResC} {vs:List rA},dM P rs=some cs->tR s cs=some vs →
  ∃ us,(rs.mapM (qP a.tmps)).run P w=Result.ok us w/\XH ι Θ (AC da ι Θ) (SC ι Θ) w vs us
 | [],cs,vs,h,hr=>by
  injection h with h;subst h;injection hr with hr;subst hr;exact ⟨[],by simp,rfl⟩
 | .tmp t :: rs,cs,vs,h,hr=>by
  unfold dM at h;obtain ⟨l,hl,rfl⟩:=yg.1 h;simp only [tR] at hr;obtain ⟨xt,hv,rfl⟩:=yg.1 hr;obtain ⟨us,hu,hT⟩:=zZ R hl hv;refine ⟨a.tmps.getD t undef :: us,by rw [List.mapM_cons]; simp only [qP,Sem.run_bind,Sem.run_pure,Result.andThen_ok,hu],_,us,rfl,R.env t,R.ann t,hT⟩
 | .cell b t :: rs,cs,vs,h,hr=>by
  unfold dM at h;split at h
  ·rename_i ag z l hA hz hl;injection h with h;subst h;simp only [tR] at hr;split at hr
   ·rename_i t' n off hb;cases hm:s.mem t' n with
    | none=>rw [hm] at hr; cases hr
    | some row =>
     rw [hm,V] at hr;obtain ⟨x,hx,hr⟩:=yb.1 hr;obtain ⟨xt,hv,rfl⟩:=yg.1 hr;obtain ⟨us,hu,hT⟩:=zZ R hl hv;have hv:=R.env b;rw [hb,AF] at hv;obtain ⟨bb,hbb,hv⟩:=hv;obtain ⟨ij,b',cur,ty,sa,la,ka,_⟩:=R.rows t' n row hm;rw [hbb] at sa;injection sa with sa;subst sa;have gc:∀ (j:Nat) (u:Value),((cur.toList.take row.length).drop off)[j]?=some u->w.cell? ⟨bb,off + j,none⟩=some u:=fun j u hu=>by
      rw [cell_of_row w bb (off + j) cur ty (0,0) la];rw [yT,yU] at hu;split at hu
      ·simpa using hu
      ·cases hu
     have lc:=SF off ka.rep;have hi:DG ag z ((row.map (·.v)).drop off)=some x.v:=by
      cases ag with
      | true =>
       simp only [SA,if_true] at hx;split at hx
       ·rename_i ub;injection hx with hx;subst hx;simp only [DG,if_true,List.length_drop,yn];rw [if_pos (by omega)];simp [List.map_take,List.map_drop]
       ·cases hx
      | false =>
       simp only [SA,yp,if_false] at hx;simp [DG,yT,hx]
     obtain ⟨u,ia,hS,_⟩:=eQ (P:=P) (avb:=SC ι Θ) hA hz lc gc hi;refine ⟨u :: us,by rw [List.mapM_cons]; simp only [qP,Sem.run_bind,hv,asAddr,Sem.run_pure,Result.andThen_ok,ia,hu],u,us,rfl,hS,trivial,hT⟩
   ·cases hr
  ·cases h
theorem mO {ι:Ix} {Θ:IL} {av avb:Av}:∀ {xs:List rA} {us:List Value},XH ι Θ av avb w xs us->us.length=xs.length
 | [],_,h=>by simp only [XH] at h; subst h; rfl
 | x :: r,_,h=>by
  simp only [XH] at h;obtain ⟨u,oa,rfl,_,_,h⟩:=h;simp [mO h]
theorem aU {ι:Ix} {Θ:IL} {av avb:Av}:∀ {xs:List rA} {us:List Value} (_:XH ι Θ av avb w xs us) (t:Nat),NA ι av avb w (xs.getD t ⟨.undef,.no⟩).v (us.getD t undef)/\RM Θ (xs.getD t ⟨.undef,.no⟩).a (us.getD t undef)
 | [],_,_,_=>by simp [NA,RM]
 | x :: r,_,h,t=>by
  simp only [XH] at h;obtain ⟨u,oa,rfl,h0,h1,h⟩:=h;cases t with
  | zero=>simpa using ⟨h0,h1⟩
  | succ t=>simpa using aU h t
theorem RepU_ofS {ι:Ix} {av avb:Av} {x:AV} {v:Value} (h:NA ι av avb w x v) (hx:x.tupOk=true):GP ι av w x v:=by
 cases x <;> first
  | exact h
  | (cases hx; done)
theorem jX {ι:Ix} {Θ:IL} {av avb:Av}:∀ {xs:List rA} {us:List Value},XH ι Θ av avb w xs us->xs.all (fun x=>x.v.tupOk)=true->CG ι av w (xs.map (·.v)) us
 | [],_,h,_=>h
 | x :: r,_,h,hf=>by
  simp only [XH] at h;obtain ⟨u,oa,rfl,h0,_,h⟩:=h;simp only [List.all_cons,y7] at hf;exact ⟨u,oa,rfl,RepU_ofS h0 hf.1,jX h hf.2⟩
theorem packS_rep {ι:Ix} {Θ:IL} {av avb:Av}:∀ {xs:List rA} {us:List Value} {y:rA},XH ι Θ av avb w xs us->kO xs=some y->NA ι av avb w y.v (dQ us)/\RM Θ y.a (dQ us)
 | [],us,y,h,hp=>by
  simp only [XH] at h;subst h;injection hp with hp;subst hp;exact ⟨⟨#[],rfl,rfl⟩,trivial⟩
 | [x],us,y,h,hp=>by
  simp only [XH] at h;obtain ⟨u,oa,rfl,h0,h1,rfl⟩:=h;injection hp with hp;subst hp;exact ⟨h0,h1⟩
 | x :: z :: r,us,y,h,hp=>by
  have hl:=mO h;have:¬ us.toArray.size=1:=by simp; simp at hl; omega
  unfold dQ;rw [dif_neg this];unfold kO at hp;split at hp
  ·rename_i e; cases e
  ·split at hp
   ·rename_i za;injection hp with hp;subst hp;exact ⟨⟨_,rfl,jX h za⟩,trivial⟩
   ·cases hp
theorem initH_rel {B:Nat} {F0:cP} {da:Av} {w0 w:World} {ι:Ix} {Θ:IL} {xs:List rA} {us:List Value} (R:D6 P O B F0 da w0 s w ι Θ) (h:XH ι Θ (AC da ι Θ) (SC ι Θ) w xs us) {np:Nat} (hl:xs.length=np) (hn:np<=nt) :
  dC P O nt B F0 da w0 (fun _=>False) (s.initH xs) { tmps:=us.toArray++Array.replicate (nt - us.toArray.size) undef,defers:=[] } w ι Θ:=by
 have hg:∀ t,(us.toArray++Array.replicate (nt - us.toArray.size) undef).getD t undef=us.getD t undef:=fun t=>by
  simp only [yY,List.getD_eq_getElem?_getD,Array.getElem?_append,List.size_toArray,List.getElem?_toArray];split
  ·rfl
  ·rename_i dh;rw [yZ (by omega)];simp only [Array.getElem?_replicate];split <;> rfl
 have ma:(us.toArray++Array.replicate (nt - us.toArray.size) undef).size=nt:=by
  have:=mO h;simp;omega
 exact ⟨rfl,ma,fun t=>by simp only [aA.initH]; rw [hg]; exact (aU h t).1,fun t=>by simp only [aA.initH]; rw [hg]; exact (aU h t).2,R.rows,R.mine,R.inj,R.tok,R.tinj,R.apart,R.out,R.pin,R.kept,R.base,R.objs,R.obs,R.gen,R.gann⟩
theorem dC.bare {D:Nat->Prop} {ι:Ix} {Θ:IL} (R:dC P O nt B F0 da w0 (fun _=>False) s a w ι Θ):D6 P O B F0 da w0 s w ι Θ :=
 ⟨rfl,rfl,fun _=>trivial,fun _=>trivial,R.rows,R.mine,R.inj,R.tok,R.tinj,R.apart,R.out,R.pin,R.kept,R.base,R.objs,R.obs,R.gen,R.gann⟩
theorem heap_sound (hm:P.follows .mixedOrders=true) {call:DB} {lp:LH} {N:Nat} (ua:∀ f args S r,call f args S=some r->tD P O f args S r) (zu:LpOk P O N lp.l) (uh:P4 P O lp.h) {f:FuncId} {fn:Func} {c:qB} (nd:∀ xs w,(callFunc f xs).run P w=.ok (.enter f xs) w) (kt:P.funcs[f]?=some fn) (se:BV P c.mu fn=some c) {xs:List rA} {k:rA->aA->Option RV} {r:RV} (ba:xs.length=c.np)
  (h:c.code.run call lp (s.initH xs) (sN c k)=some r):(∀ vs w,(callFunc f vs).run P w=.ok (.enter f vs) w) ∧
 ∀ (B:Nat) (F0:cP) (da:Av) (w0 w:World) (ι:Ix) (Θ:IL) (us:List Value) (E:Ending->World->Prop),D6 P O B F0 da w0 s w ι Θ->XH ι Θ (AC da ι Θ) (SC ι Θ) w xs us →
  (∀ y s' w' ι' Θ' v,D6 P O B F0 da w0 s' w' ι' Θ'->NA ι' (AC da ι' Θ') (SC ι' Θ') w' y.v v->RM Θ' y.a v->k y s'=some r->E (.returned v) w')->Calls P f us.toArray w E:=by
 unfold BV at se;split at se
 ·cases se
 ·rename_i code zl;split at se
  ·rename_i cc rr rh hrr;split at se
   ·rename_i aa;injection se with se;obtain ⟨mu,tp⟩:∃ mu,mu=c.mu:=⟨_,rfl⟩;rw [<- tp] at se rh;clear tp;subst se;have sv:fn.params.size + fn.nfree<=fn.ntmps:=aa;refine ⟨nd,fun B F0 da w0 w ι Θ us E R ze hE=>?_⟩;refine calls_of_wp kt zl ?_;refine DF hm ua zu uh code cc _ _ _ _ w _ rh h ⟨ι,Θ,initH_rel R ze ba sv⟩ fun e s' a' w' R' he=>?_
    have we:e=.nrm\/e=.ret:=by
     cases e with
     | nrm=>exact .inl rfl
     | ret=>exact .inr rfl
     | exit id=>cases he
    have th:∃ y,(tR s' rr).bind kO=some y/\k y s'=some r:=by
     rcases we with rfl | rfl <;> exact yb.1 he
    obtain ⟨y,hy,hk⟩:=th;obtain ⟨l,hl,hp⟩:=yb.1 hy;obtain ⟨ι',Θ',R'⟩:=R';obtain ⟨vs,hvs,hT'⟩:=zZ R' hrr hl;have ae:(results fn a'.tmps).run P w'=.ok (dQ vs) w':=by
     have he:results fn a'.tmps=(do let vs <- fn.results.mapM (qP a'.tmps); pure (if h:vs.size=1 then vs[0] else .tuple vs)):=rfl;rw [he,Array.mapM_eq_mapM_toList];simp only [Sem.run_bind,Sem.run_map,hvs,Result.andThen_ok,Sem.run_pure];rfl
    obtain ⟨eg,wi⟩:=packS_rep hT' hp;have post:a'.defers=[]/\∃ v,(results fn a'.tmps).run P w'=.ok v w'/\E (.returned v) w':=⟨R'.defers,_,ae,hE y s' w' ι' Θ' _ (dC.bare (D:=fun _=>False) R') eg wi hk⟩;rcases we with rfl | rfl <;> exact post
   ·cases se
  ·cases se
theorem markR_some {args rest:List AV} (h:cR args=some rest):args=.undef :: .undef :: rest:=by
 unfold cR at h;split at h
 ·injection h with h; subst h; rfl
 ·cases h
theorem EX (hm:P.follows .mixedOrders=true) {T:Nat->Option qB} {ext:DB} (hT:∀ f c,T f=some c->QA P f c) (ku:∀ f args S r,ext f args S=some r->tD P O f args S r) :
  ∀ N,(∀ f args S r,gE T ext N f args S=some r->tD P O f args S r)/\LpOk P O N (OL T ext N)/\P4 P O (pN T ext N)
 | 0=>by
  refine ⟨fun f args S r h=>?_,fun _ _ _ _ _ _ _ _ _ _ _ _ _ _ _ h _ _=>(by cases h),fun _ _ _ _ _ h=>(by cases h)⟩;unfold gE at h;split at h
  ·exact ku f args S r h
  ·cases h
 | N + 1=>by
  obtain ⟨gr,io,fr⟩:=EX hm hT ku N;refine ⟨fun f args S0 r h=>?_,fun boxes nt B F0 da w0 code b s k r a w Q hc h R hk=>?_,fun f xs s k r h=>?_⟩
  ·unfold gE at h;split at h
   ·exact ku f args S0 r h
   ·rename_i c hTc;obtain ⟨nd,fn,kt,se⟩:=hT f c hTc;cases hmk:cR args with
    | some rest =>
     rw [hmk] at h
     match S0,h with
     | some (.agg cs),h =>
      simp only at h;split at h
      ·rename_i hl;rw [markR_some hmk];exact row_sound (lp:=⟨OL T ext N,pN T ext N⟩) hm gr io fr nd kt se hl.1 h
      ·cases h
     | none,h=>cases h
     | some (.int ..),h=>cases h
     | some (.bool _),h=>cases h
     | some (.str _),h=>cases h
     | some .nilP,h=>cases h
     | some (.ptr ..),h=>cases h
     | some (.ip _),h=>cases h
     | some (.bp _),h=>cases h
     | some (.sl ..),h=>cases h
     | some (.bl _),h=>cases h
     | some (.ref ..),h=>cases h
     | some (.mp ..),h=>cases h
     | some (.fn ..),h=>cases h
     | some (.tup _),h=>cases h
     | some .undef,h=>cases h
    | none =>
    rw [hmk] at h;simp only at h;split at h
    ·rename_i hlm;obtain ⟨ba,hmark,hnoit⟩:=hlm;unfold BV at se;split at se
     ·cases se
     ·rename_i code zl;split at se
      ·rename_i cc rr rh hrr;split at se
       ·rename_i aa;injection se with se;obtain ⟨mu,tp⟩:∃ mu,mu=c.mu:=⟨_,rfl⟩;rw [<- tp] at se rh;clear tp;subst se;have sv:fn.params.size + fn.nfree<=fn.ntmps:=aa;have ending:∀ {F0:cP} {av:Av} {w:World} {vs:List Value} {E:Ending->World->Prop},
          CD P O fn.ntmps w.heap.size F0 av w (fun _=>False) (aA.init args S0) { tmps:=vs.toArray++Array.replicate (fn.ntmps - vs.toArray.size) undef,defers:=[] } w →
          (∀ (s':aA) (a':Act) (w':World) (ι:Ix) (Θ:IL) (us:List Value) (xs:List AV),dC P O fn.ntmps w.heap.size F0 av w (fun _=>False) s' a' w' ι Θ->CN ι (avF s' (AC av ι Θ) ι) (SC ι Θ) w' xs us->B4 S0 s' xs=some r->E (.returned (dQ us)) w')->Calls P f vs.toArray w E:=fun {F0 av w vs E} R hE=>by
         refine calls_of_wp kt zl ?_;refine DF (lp:=⟨OL T ext N,pN T ext N⟩) hm gr io fr code cc _ _ r _ w _ rh h R fun e s' a' w' R' he=>?_
         have we:e=.nrm\/e=.ret:=by
          cases e with
          | nrm=>exact .inl rfl
          | ret=>exact .inr rfl
          | exit id=>cases he
         have th:∃ xs,ZW s' rr=some xs/\B4 S0 s' (xs.map (AV.frz s'))=some r:=by
          rcases we with rfl | rfl <;> exact yb.1 he
         obtain ⟨xs,ze,pd⟩:=th;obtain ⟨ι,Θ,R'⟩:=R';obtain ⟨us,sd,hT'⟩:=uX R' hrr ze;have ae:(results fn a'.tmps).run P w'=.ok (dQ us) w':=by
          have he:results fn a'.tmps=(do let vs <- fn.results.mapM (qP a'.tmps); pure (if h:vs.size=1 then vs[0] else .tuple vs)):=rfl;rw [he,Array.mapM_eq_mapM_toList];simp only [Sem.run_bind,Sem.run_map,sd,Result.andThen_ok,Sem.run_pure];rfl
         have post:a'.defers=[]/\∃ v,(results fn a'.tmps).run P w'=.ok v w'/\E (.returned v) w':=⟨R'.defers,_,ae,hE s' a' w' ι Θ us _ R' (hT'.frz R') pd⟩;rcases we with rfl | rfl <;> exact post
        refine (tD.of hmark).2 ⟨nd,?_⟩;obtain ⟨r1,r2⟩:=r;cases S0 with
        | none =>
         cases r2 with
         | none =>
          intro av w vs zd fc;refine ending (B2 fc zd ba sv) fun s' a' w' ι Θ us xs R' hs pd=>?_
          refine ⟨_,rfl,?_,R'.kept.below⟩;simp only [B4] at pd;split at pd
          ·rename_i za;injection pd with pd;injection pd with pd;subst pd;exact tZ (hs.toT (fun b o h=>⟨.inl h,fun ⟨t,n,r,hm,hb⟩=>by
            obtain ⟨_,b',cur,ty,sa,_,_,fj,_⟩:=R'.rows t n r hm;rw [hb] at sa;injection sa with sa;subst sa;have:=zd _ _ h;have:=fj.elim id False.elim;omega⟩) fun v hv=>y6.1 za v hv)
          ·split at pd
           ·split at pd
            ·split at pd <;> cases pd
            ·cases pd
           ·cases pd
         | some S' =>
          intro av w vs zd fc;refine ending (B2 fc zd ba sv) fun s' a' w' ι Θ us xs R' hs pd=>?_
          simp only [B4] at pd;split at pd
          ·cases pd
          ·split at pd
           ·rename_i t n _;split at pd
            ·rename_i S hS;split at pd
             ·rename_i za;injection pd with pd;injection pd with hfv1 hfv2;injection hfv2 with hfv2;subst hfv1;subst hfv2;obtain ⟨p,H,hp,zb,ic,_⟩:=R'.objs t n S hS;refine ⟨_,p,H,rfl,?_,ic,fun b hb=>(((R'.obs t n H zb).1 b hb).1).elim id False.elim,R'.kept.below⟩;have mc:∀ v∈xs,((uK t n v).free||(uK t n v).isObj)=true:=fun v hv=>y6.1 za _ (List.mem_map_of_mem hv)
              refine pack_repN (hs.toO hp (fun b o h=>?_) mc) fun v hv=>y6.1 za v hv
              refine ⟨?_,fun ⟨t',n',r,hm,hb⟩=>?_⟩
              ·rcases h with h | h
               ·exact .inl h
               ·exact .inr (.inl (.inr ⟨t,n,H,zb,h⟩))
              ·obtain ⟨dd,b',cur,ty,sa,_,_,fj,_⟩:=R'.rows t' n' r hm;rw [hb] at sa;injection sa with sa;subst sa;rcases h with h | h
               ·have:=zd _ _ h;have:=fj.elim id False.elim;omega
               ·have e:=((R'.obs t n H zb).1 b h).2.2.1 t' n' hb;rw [e.1,e.2,zb] at dd;cases dd
             ·cases pd
            ·cases pd
           ·cases pd
        | some S =>
         cases r2 with
         | none =>
          trivial
         | some S' =>
          intro av w vs p H zd hH ic fc;have hni:Q5 S=true:=hnoit;refine ending (init_some fc zd hH ic hni ba sv) fun s' a' w' ι Θ us xs R' hs pd=>?_
          simp only [B4] at pd;split at pd
          ·rename_i za;obtain ⟨S1,hS1,pd⟩:=yg.1 pd;injection pd with hfv1 hfv2;injection hfv2 with hfv2;subst hfv1;subst hfv2;obtain ⟨p',H',hp,zb,dj,_⟩:=R'.objs 0 0 S1 hS1;have hpp:=(R'.pin p rfl).1;rw [hpp] at hp;injection hp with hp;subst hp;refine ⟨_,H',rfl,tZ (hs.toT (fun b o h=>?_) fun v hv=>y6.1 za v hv),dj,fun b hb=>(((R'.obs 0 0 H' zb).1 b hb).1).symm,R'.kept⟩;refine ⟨?_,fun ⟨t',n',r,hm,hb⟩=>?_⟩
           ·rcases h with h | h
            ·exact .inl h
            ·exact .inr (.inl (.inr ⟨0,0,H',zb,h⟩))
           ·obtain ⟨dd,b',cur,ty,sa,_,_,fj,_⟩:=R'.rows t' n' r hm;rw [hb] at sa;injection sa with sa;subst sa;rcases h with h | h
            ·have:=zd _ _ h;have:=fj.elim id False.elim;omega
            ·have e:=((R'.obs 0 0 H' zb).1 b h).2.2.1 t' n' hb;rw [e.1,e.2,zb] at dd;cases dd
          ·cases pd
       ·cases se
      ·cases se
    ·cases h
  ·unfold OL at h;rw [rounds_succ];refine DF (lp:=⟨OL T ext N,pN T ext N⟩) hm gr io fr code b s _ r a w _ hc h R fun e s' a' w' R' he=>?_
   cases e with
   | nrm=>exact io boxes nt B F0 da w0 code b s' k r a' w' Q hc he R' hk
   | exit id=>exact hk _ _ _ _ R' he
   | ret=>exact hk _ _ _ _ R' he
  ·unfold pN at h;split at h
   ·cases h
   ·rename_i c hTc;obtain ⟨nd,fn,kt,se⟩:=hT f c hTc;split at h
    ·rename_i ba;exact heap_sound (lp:=⟨OL T ext N,pN T ext N⟩) hm gr io fr nd kt se ba h
    ·cases h
end
end
end Go.Proofs.YtjoaiabjebpbjaaGreat
