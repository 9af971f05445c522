/- A part of the proof. -/
import Derived.Test.YtbnlmgncbgaepaaGreatWa
import Derived.Laws.BytesString
import Derived.OrdersHeld
import Derived.LoopN
set_option linter.all false
set_option maxRecDepth 100000
set_option maxHeartbeats 8000000
open Option renaming bind_some → V, bind_eq_some_iff → y8, map_eq_some_iff → yg, map_some → yz
open List renaming map_map → y0, all_eq_true → y4, getElem?_eq_getElem → y5, drop_eq_getElem_cons → y9, getElem?_eq_some_iff → yb, getElem?_map → yc, drop_eq_nil_of_le → ye, mem_cons → yf, map_cons → yh, mem_of_getElem? → yj, mem_cons_self → yk, map_congr_left → yl, length_map → yo, length_append → yp, mem_cons_of_mem → yq, map_nil → yr, mem_append → yu, mem_map → yw, replicate → yA, flatten_cons → yB, length_take → yC, take_of_length_le → yD, getElem?_append_left → yE, length_cons → yH, getElem?_eq_none → yL, eq_nil_of_length_eq_zero → yN, append_nil → yO, getElem?_append_right → yP, getElem?_drop → yQ, getElem?_take → yR, mem_singleton → yU, append_assoc → yV, mem_map_of_mem → yX
open Bool renaming and_eq_true → y7, false_eq_true → yn
open Nat renaming le_refl → ym, succ_mul → yt, zero_add → yF, eq_zero_or_pos → yI, mul_le_mul_right → yW
open Array renaming length_toList → yS, toArray_toList → yT, getD_eq_getD_getElem? → yY, getElem?_eq_getElem → yZ
namespace Go.Proofs.YtbnlmgncbgaepaaGreat
open Go
section
open Go Go.RowKit
section
variable {P:Program} {O:Objs} {nt B:Nat} {F0:Own} {da:Av} {w0:World} {D:Nat->Prop} {s:MSt} {a:Act} {w w':World} {ι:Ix} {Θ:Fam} {o:Oper}
def An.twice (A:An) (d:Nat) (x:An):An:=match A with
 | .own k _=>(x.strip k).strip d
 | _=>x.strip d
theorem twice_eq (A:An) (d:Nat):(s.stripA A).strip d=s.mapAn (A.twice d):=by
 cases A with
 | own k e=>simp [MSt.stripA,MSt.strip,MSt.mapAn,Slot.strip,An.twice,Function.comp_def]
 | no=>rfl
 | ex=>rfl
def Fam.less (Θ:Fam) (A:An) (d:Nat):Fam:=fun j=>match A with
 | .own k _=>if j=d\/j=k then none else Θ j
 | _=>if j=d then none else Θ j
theorem q1v {A:An} {d j:Nat} {o:Ow} (h:Θ.less A d j=some o):Θ j=some o/\j≠d/\∀ k e,A=.own k e->j≠k:=by
 unfold Fam.less at h;cases A with
 | own k e =>
  simp only at h;split at h
  ·cases h
  ·rename_i hn; exact ⟨h,fun e=>hn (.inl e),fun k' e' he=>by injection he with h1; subst h1; exact fun e=>hn (.inr e)⟩
 | no =>
  simp only at h;split at h
  ·cases h
  ·rename_i hn; exact ⟨h,hn,fun k' e' he=>by cases he⟩
 | ex =>
  simp only at h;split at h
  ·cases h
  ·rename_i hn; exact ⟨h,hn,fun k' e' he=>by cases he⟩
theorem less_d {A:An} {d:Nat}:Θ.less A d d=none:=by
 unfold Fam.less;cases A <;> simp
theorem less_an {A:An} {d:Nat} {Θ':Fam} (hΘ:∀ j o,Θ.less A d j=some o->Θ' j=some o) (x:An) (v:Value) (h:AnOk Θ x v):AnOk Θ' (A.twice d x) v:=by
 have h1:∀ k,x.strip k=.no\/(x.strip k=x/\∀ j e,x=.own j e->j≠k):=fun k=>by
  cases x with
  | no=>exact .inl rfl
  | ex=>exact .inr ⟨rfl,fun _ _ h=>by cases h⟩
  | own j e =>
   simp only [An.strip];split
   ·exact .inl rfl
   ·rename_i hn; exact .inr ⟨rfl,fun j' e' h=>by injection h with h; subst h; exact hn⟩
 have key:A.twice d x=.no\/(A.twice d x=x/\(∀ j e,x=.own j e->j≠d)/\∀ k e',A=.own k e'->∀ j e,x=.own j e->j≠k):=by
  cases A with
  | own k e' =>
   simp only [An.twice];rcases h1 k with h2 | ⟨h2,h3⟩
   ·rw [h2]; exact .inl rfl
   ·rw [h2];rcases h1 d with h4 | ⟨h4,h5⟩
    ·exact .inl h4
    ·exact .inr ⟨h4,h5,fun k' e'' he=>by injection he with he; subst he; exact h3⟩
  | no=>rcases h1 d with h4 | ⟨h4,h5⟩; exact .inl h4; exact .inr ⟨h4,h5,fun _ _ he=>by cases he⟩
  | ex=>rcases h1 d with h4 | ⟨h4,h5⟩; exact .inl h4; exact .inr ⟨h4,h5,fun _ _ he=>by cases he⟩
 rcases key with h2 | ⟨h2,h3,h4⟩
 ·rw [h2]; trivial
 ·rw [h2];cases x with
  | no=>trivial
  | ex=>exact h
  | own j e =>
   refine h.imp id fun ⟨ow,h5,h6⟩=>⟨ow,hΘ _ _ ?_,h6⟩
   unfold Fam.less;cases A with
   | own k e'=>simp only; rw [if_neg]; exact h5; rintro (e1 | e1); exact h3 _ _ rfl e1; exact h4 _ _ rfl _ _ rfl e1
   | no=>simp only; rw [if_neg (h3 _ _ rfl)]; exact h5
   | ex=>simp only; rw [if_neg (h3 _ _ rfl)]; exact h5
theorem Rel.apob (R:Rel P O nt B F0 da w0 D s a w ι Θ) {k:Nat} {o:Ow} {t n:Nat} {H:Nat->Prop} (h:Θ k=some o) (hH:ι.ob t n=some H):¬ H o.g:=fun hb=>((R.obs t n H hH).1 _ hb).2.2.2.1 k o h rfl
theorem Rel.less (R:Rel P O nt B F0 da w0 D s a w ι Θ) (A:An) (d:Nat):Rel P O nt B F0 da w0 D (s.mapAn (A.twice d)) a w ι (Θ.less A d) :=
 R.fam _ _ (fun _ _ h=>h.imp id fun ⟨k,ow,h1,h2⟩=>⟨k,ow,(q1v h1).1,h2⟩) (less_an fun _ _ h=>h) (fun k o h=>R.tok k o (q1v h).1) (fun k k' o o' h h'=>R.tinj k k' o o' (q1v h).1 (q1v h').1) (fun k o t n h=>R.apart k o t n (q1v h).1) (fun _ _ _ _ _ h=>R.apob (q1v h).1)
theorem q7F {av:Av}:∀ {xs ys:List AV} {us vs:List Value},RepL av w xs us->RepL av w ys vs->RepL av w (xs++ys) (us++vs)
 | [],_,_,_,h,h'=>by simp only [RepL] at h; subst h; exact h'
 | x :: r,_,_,_,h,h'=>by
  simp only [RepL] at h;obtain ⟨u,sa,rfl,h0,h1,h⟩:=h;exact ⟨u,sa++_,rfl,h0,h1,q7F h h'⟩
theorem RepL_one {av:Av}:∀ {xs:List AV} {us:List Value},RepL av w xs us->∀ u∈us,u.oneCell'=true
 | [],_,h,u,hu=>by simp only [RepL] at h; subst h; cases hu
 | x :: r,_,h,u,hu=>by
  simp only [RepL] at h;obtain ⟨v,sa,rfl,h0,h1,h⟩:=h;rcases yf.1 hu with rfl | hu
  ·exact h1
  ·exact RepL_one h u hu
theorem op_app (R:Rel P O nt B F0 da w0 D s a w ι Θ) {t e:TypeId} {i:TypeInfo} {z:List AV} (ht:P.underlying t=some (.slice e)) (hi:P.info? e=some i) (hz:q8E P e=some z) (ic:z.length=i.size) (ab:0<i.size) {X Y:Operand} {x y:Opd} (hx:opd X=some x) (hy:opd Y=some y)
  (ho:o.op=.call { callee:=.builtin .append,args:=#[X,Y],argTypes:=#[t,t] }) {d:Nat} (ca:o.dst=some d) (hd:d<nt) {cl:Cl} {call} {xe:Slot × Eff} (hr:(K.app cl e i.size i.bytes x y).run call s=some xe) {g} {s':MSt} (he:OpC.eff ⟨o.dst,.app cl e i.size i.bytes x y,g⟩ s xe=some s') :
  ∃ v w',(execOp a.eval o).run P w=.ok (.value v) w'/\RelE P O nt B F0 da w0 D s' (a.put o.dst v) w':=by
 obtain ⟨zv,i',ac,so,bj,hl⟩:=q52 hz w;rw [hi] at ac;injection ac with ac;subst ac;have pm:zv.cells.size=i.size:=by
  have:=q4m hl;simp only [yS] at this;omega
 have hX:=R.opd hx;have hY:=(R.opd hy).1;have ui:∀ v w',(Builtin.append_ #[t,t] o.type #[a.eval X,a.eval Y]).run P w=.ok v w'->(execOp a.eval o).run P w=.ok (.value v) w':=fun v w' h=>by
  simp only [execOp,ho,resolve,invoke,builtin,Sem.run_bind,Sem.run_pure,Result.andThen_ok,List.map_toArray,yh,yr,h]
 simp only [K.run] at hr;split at hr
 ·rename_i b l m kc sc;split at hr
  ·rename_i aa;obtain ⟨ba,ta⟩:=aa;obtain ⟨ze,ig⟩:=q0d.1 ba;have dc:∀ c∈l++m,c.length=i.size:=fun c hc=>by simpa using y4.1 ta c hc
   have ld:∀ c∈m,c.length=i.size:=fun c hc=>dc c (List.mem_append_right _ hc)
   have rq:∀ c∈l,c.length=i.size:=fun c hc=>dc c (List.mem_append_left _ hc)
   obtain ⟨news,ud,le⟩:=q7P R hY sc ab ld;rw [kc] at hX;have my:=hX.1;rw [q2F] at my;obtain ⟨xs,fe,ku⟩:=q7P (cl:=cl) R hX.1 (m:=l) rfl ab rq;simp only [Rep] at my;obtain ⟨A,c,hv,wu,hu,hn,hs⟩:=my;have ae:xs.length=l.length * i.size:=ku.1;have pe:∀ a',A=some a'->∀ j u,xs[j]?=some u->w.cell? (a'.add j)=some u:=fun a' ha j u hj=>by
    obtain ⟨_,A2,c2,mA,_,h2⟩:=ku;rw [hv] at mA;injection mA with e1 e2 e3;subst e1;have hp:0<l.length:=by
     rcases yI l.length with h | h
     ·rw [h] at ae; have:=(yb.1 hj).1; omega
     ·exact h
    obtain ⟨b',off,hA,_,_,jd⟩:=h2 hp;rw [ha] at hA;injection hA with hA;subst hA;rw [Addr.add_lit];exact jd j u hj
   have zb:news.length=m.length * i.size:=le.1;have eo:∀ u∈news,u.oneCell'=true:=RepL_one ud;have xp:∃ A0,anN b (x.an s)=A0/\(A0=.ex\/∃ k,A0=.own k e)/\xe=(⟨.sl (b&&m.isEmpty) (l++m),.own 0 e⟩,.app A0 0):=by
    cases tk:anN b (x.an s) with
    | no=>rw [tk] at hr; cases hr
    | ex=>rw [tk] at hr; injection hr with hr; exact ⟨_,rfl,.inl rfl,hr.symm⟩
    | own k e' =>
     rw [tk] at hr;simp only at hr;split at hr
     ·rename_i bO; subst bO; injection hr with hr; exact ⟨_,rfl,.inr ⟨k,rfl⟩,hr.symm⟩
     ·cases hr
   obtain ⟨A0,tk,fN,rfl⟩:=xp;simp only [OpC.eff,ca] at he;injection he with he;subst he;rw [twice_eq,ca];have pu:AnOk Θ A0 (a.eval X):=by
    rw [<- tk];cases b with
    | false=>exact hX.2
    | true =>
     obtain ⟨h1,h2,h3⟩:=hn rfl;exact ⟨none,0,by rw [hv,h1,h2,h3]⟩
   -- what is read of the old elements and the new ones behind
   have ec:RepL (avA da ι Θ) w (l++m).flatten (xs++news):=by rw [List.flatten_append]; exact q7F fe ud
   have gE:∀ c∈l++m,∀ c'∈l++m,c.length=c'.length:=fun c hc c' cf=>(dc c hc).trans (dc c' cf).symm
   -- a new block
   have grow:c<l.length + m.length->∃ v w',(execOp a.eval o).run P w=.ok (.value v) w'/\RelE P O nt B F0 da w0 D ((s.mapAn (A0.twice d)).put (some d) ⟨.sl (b&&m.isEmpty) (l++m),.own d e⟩) (a.put (some d) v) w':=fun fa=>by
    have ia:=append_grow (P:=P) (w:=w) ht hi so o.type ae (fun hA=>by
     cases b with
     | true=>have:=hn rfl; exact ⟨this.2.1,this.2.2⟩
     | false =>
      obtain ⟨h1,h2⟩:=hs rfl;refine ⟨?_,h1 hA⟩;rcases yI l.length with h0 | h0
      ·exact h0
      ·obtain ⟨_,_,ha,_⟩:=h2 h0; rw [hA] at ha; cases ha) pe le fa wu ig ze
    rw [<- hv] at ia;have te:=grownCap_ge w (l.length + m.length) c e;have ir:grownCap w (l.length + m.length) c e<=maxLen:=grownCap_le_maxLen w (l.length + m.length) c e (by unfold maxLen; omega);have zt:(xs.toArray++news.toArray++Builtin.zeroCells zv.cells (grownCap w (l.length + m.length) c e - (l.length + m.length))).size=grownCap w (l.length + m.length) c e * i.size:=by
     simp only [Array.size_append,List.size_toArray,size_zeroCells,pm,ae,zb,<- Nat.add_mul];congr 1;omega
    have R1:=(R.less A0 d).fresh (d:=d) less_d zt ab te ir (e:=e) (by simp [q1Z,hi]);refine ⟨_,_,ui _ _ ia,ι,_,R1.put hd ?_ (.inr ⟨_,if_pos rfl,rfl,rfl⟩)⟩;have hb:(b&&m.isEmpty)=false:=by
     cases b with
     | false=>rfl
     | true =>
      have:=(hn rfl);have:m≠[]:=fun h=>by subst h; simp at fa; omega
      simpa using this
    show RepS _ _ _ _ (.sl (b&&m.isEmpty) (l++m)) _;rw [hb,q2F];simp only [Rep,yp];refine ⟨_,_,rfl,te,gE,(fun h=>by cases h),fun _=>⟨fun h=>(by cases h),fun _=>⟨w.heap.size,0,rfl,?_⟩⟩⟩;rw [q3q];have pr:Held (avA da ι Θ) (avA da ι (fun j=>if j=d then some ⟨w.heap.size,l.length + m.length,grownCap w (l.length + m.length) c e,i.size,e⟩ else Θ.less A0 d j)) w (grewW w xs news zv e (l.length + m.length) c):=Held.grown (fun b hb=>Below.heap_alloc w.drew _ b hb) fun b' o' ua h=>h.imp id fun h=>h.imp id fun ⟨k,ow,h1,h2,h3⟩=>by
     by_cases ek:k=d
     ·simp only [if_pos ek] at h1; injection h1 with h1; subst h1; simp only at h2; omega
     ·simp only [if_neg ek] at h1; exact ⟨k,ow,(q1v h1).1,h2,h3⟩
    refine q6T (RepL.held pr _ _ ec) fun j u hj=>⟨?_,fun h=>?_⟩
    ·rw [yF];rw [cell_of_row _ w.heap.size j _ e (0,0) (new_at (w:=w.drew) rfl)];have ei:=(yb.1 hj).1;rw [Array.getElem?_append_left (by simp only [Array.size_append,List.size_toArray]; simpa using ei)];simpa using hj
    ·rw [yF] at h;have ei:=(yb.1 hj).1;rw [yp,ae,zb,<- Nat.add_mul] at ei;rcases h with h | (⟨t',n',h⟩ | ⟨t',n',H,h,ua⟩) | ⟨k,ow,h1,h2,h3⟩
     ·have:=R.out _ _ h; have:=R.lowB; omega
     ·have:=(R.mine _ _ _ h).2.1; omega
     ·have:=((R.obs _ _ _ h).1 _ ua).2.1; omega
     ·by_cases ek:k=d
      ·simp only [if_pos ek] at h1; injection h1 with h1; subst h1; simp only at h3; omega
      ·simp only [if_neg ek] at h1;obtain ⟨_,_,_,_,lb,h5,_⟩:=R.tok _ _ (q1v h1).1;have:=q0h h5;omega
   -- nothing new
   have same:m=[]->exV (a.eval X)->∃ v w',(execOp a.eval o).run P w=.ok (.value v) w'/\RelE P O nt B F0 da w0 D ((s.mapAn (A0.twice d)).put (some d) ⟨.sl (b&&m.isEmpty) (l++m),.own d e⟩) (a.put (some d) v) w':=fun al fq=>by
    subst al;have ia:=append_zero (P:=P) (w:=w) ht hi o.type (A:=A) wu le;rw [<- hv] at ia;have R1:=R.less A0 d;refine ⟨_,_,ui _ _ ia,ι,_,R1.put hd ?_ (.inl fq)⟩;have hb:(b&&List.isEmpty ([]:List (List AV)))=b:=by simp
    show RepS _ _ _ _ (.sl (b&&List.isEmpty []) (l++[])) _;rw [hb,yO];have eD:Held (avA da ι Θ) (avA da ι (Θ.less A0 d)) w w:=Held.less fun b o h=>h.imp id fun h=>h.imp id fun ⟨k,ow,h1,h2⟩=>⟨k,ow,(q1v h1).1,h2⟩
    have rz:Held (avB ι Θ) (avB ι (Θ.less A0 d)) w w:=Held.less fun b o h=>h.imp id fun ⟨k,ow,h1,h2⟩=>⟨k,ow,(q1v h1).1,h2⟩
    exact RepS.held (Ix.Le.refl _) eD rz _ _ hX.1
   have exact:exV (a.eval X)->∃ v w',(execOp a.eval o).run P w=.ok (.value v) w'/\RelE P O nt B F0 da w0 D ((s.mapAn (A0.twice d)).put (some d) ⟨.sl (b&&m.isEmpty) (l++m),.own d e⟩) (a.put (some d) v) w':=fun fq=>by
    obtain ⟨A',n',lC⟩:=fq;rw [hv] at lC;injection lC with e1 e2 e3;rcases yI m.length with h0 | h0
    ·exact same (yN h0) ⟨A',n',by rw [hv,e1,e2,e3]⟩
    ·exact grow (by omega)
   rcases fN with rfl | ⟨k,rfl⟩
   ·exact exact pu
   ·rcases pu with pu | ⟨ow,hk,kB,pu⟩
    ·exact exact pu
    ·rw [hv] at pu;injection pu with e1 e2 e3;obtain ⟨mO,hosz,honc,tI,cur,je,uv⟩:=R.tok k ow hk;rw [kB] at je;have ep:ow.sz=i.size:=by
      have:=uv.2;rw [kB] at this;simp [q1Z,hi] at this;exact this.symm
     rcases Nat.lt_or_ge c (l.length + m.length) with fa | te
     ·exact grow fa
     ·subst e1;have ia:=append_room (P:=P) (w:=w) ht hi o.type je (by rw [uv.1,ep]) so le eo (n:=l.length) (m:=m.length) (c:=ow.c) (by omega);have gn:l.length * i.size + news.length<=cur.toList.length:=by
       have jd:cur.toList.length=ow.c * i.size:=by rw [yS,uv.1,ep]
       rw [zb,<- Nat.add_mul,jd];exact yW _ (by omega)
      obtain ⟨new,tb⟩:∃ new,new=(cur.toList.take (l.length * i.size)++news++cur.toList.drop (l.length * i.size + news.length)).toArray:=⟨_,rfl⟩;rw [<- tb] at ia;have jB:new.size=cur.size:=by
       rw [tb];simp only [List.size_toArray,yp,yC,List.length_drop];simp only [yS] at gn ⊢;omega
      have iq:ow.n * ow.sz=l.length * i.size:=by rw [<- e2,ep]
      have mw:(cur.toList.take (l.length * i.size)).length=l.length * i.size:=by rw [yC]; omega
      have bt:∀ j,j<l.length * i.size->new[j]?=cur[j]?:=fun j hj=>by
       rw [tb,List.getElem?_toArray,yV,yE (by omega),yR,if_pos hj];simp
      have nJ:∀ j u,(xs++news)[j]?=some u->new[j]?=some u:=fun j u hj=>by
       rcases Nat.lt_or_ge j (l.length * i.size) with ei | ei
       ·rw [bt j ei];rw [yE (by omega)] at hj;have:=pe _ rfl j u hj;rw [Addr.add_lit,yF,cell_of_row w ow.g j cur e (0,0) je] at this;exact this
       ·rw [yP (by omega),ae] at hj;have ew:=(yb.1 hj).1;rw [tb,List.getElem?_toArray,yV,yP (by omega),mw,yE ew];exact hj
      have R1:=R.spare (new:=new) hk (by rw [kB]; exact je) jB (fun j hj=>bt j (by omega));have jr:(w.setRow ow.g new).heap[ow.g]?=some (.cells new e (0,0)):=setRow_heap w ow.g cur new e (0,0) je;have td:∀ b o,avB ι (fun j=>if j=d then some ⟨ow.g,l.length + m.length,ow.c,i.size,e⟩ else Θ.less (.own k e) d j) b o->avB ι Θ b o:=fun b o h=>h.imp id fun ⟨k',gM,h1,h2,h3⟩=>by
       by_cases ek:k'=d
       ·simp only [if_pos ek] at h1;injection h1 with h1;subst h1;refine ⟨k,ow,hk,h2,?_⟩;simp only [Nat.add_mul] at h3;omega
       ·simp only [if_neg ek] at h1; exact ⟨k',gM,(q1v h1).1,h2,h3⟩
      have R2:=R1.fam (fun j=>if j=d then some ⟨ow.g,l.length + m.length,ow.c,i.size,e⟩ else Θ.less (.own k e) d j) ((An.own k e).twice d) td
       (less_an fun j o' h=>by have:=(q1v h).2.1; simp only [if_neg this]; exact h)
       (fun k' o' h=>by
        by_cases ek:k'=d
        ·simp only [if_pos ek] at h;injection h with h;subst h;exact ⟨mO,ab,by simp only; omega,tI,new,jr,by rw [jB,uv.1,ep],by simp [q1Z,hi]⟩
        ·simp only [if_neg ek] at h;exact R1.tok k' o' (q1v h).1)
       (fun k' k'' o' o'' h h' hg=>by
        by_cases e1:k'=d <;> by_cases e2:k''=d
        ·rw [e1,e2]
        ·simp only [if_pos e1] at h; simp only [if_neg e2] at h';injection h with h; subst h;exact absurd (R.tinj _ _ _ _ hk (q1v h').1 hg).symm ((q1v h').2.2 k e rfl)
        ·simp only [if_neg e1] at h; simp only [if_pos e2] at h';injection h' with h'; subst h';exact absurd (R.tinj _ _ _ _ (q1v h).1 hk hg) ((q1v h).2.2 k e rfl)
        ·simp only [if_neg e1] at h; simp only [if_neg e2] at h';exact R.tinj _ _ _ _ (q1v h).1 (q1v h').1 hg)
       (fun k' o' t' n' h=>by
        by_cases ek:k'=d
        ·simp only [if_pos ek] at h;injection h with h;subst h;exact R.apart k ow t' n' hk
        ·simp only [if_neg ek] at h;exact R.apart k' o' t' n' (q1v h).1)
       (fun k' o' t' n' H h hH=>by
        by_cases ek:k'=d
        ·simp only [if_pos ek] at h;injection h with h;subst h;show ¬ H ow.g;exact R.apob hk hH
        ·simp only [if_neg ek] at h;exact R.apob (q1v h).1 hH)
      have kA:a.eval X=.slice (some ⟨ow.g,0,none⟩) l.length ow.c:=by rw [hv,e3]
      rw [<- kA] at ia;refine ⟨_,_,ui _ _ ia,ι,_,R2.put hd ?_ (.inr ⟨_,if_pos rfl,rfl,rfl⟩)⟩;show RepS _ _ _ _ (.sl (b&&m.isEmpty) (l++m)) _;have hb:b=false:=by
       cases b with
       | false=>rfl
       | true=>have:=(hn rfl).1; cases this
      rw [hb,Bool.false_and,q2F];simp only [Rep,yp];refine ⟨_,_,rfl,by omega,gE,(fun h=>by cases h),fun _=>⟨fun h=>(by cases h),fun _=>⟨ow.g,0,rfl,?_⟩⟩⟩;rw [q3q];have pr:Held (avA da ι Θ) (avA da ι (fun j=>if j=d then some ⟨ow.g,l.length + m.length,ow.c,i.size,e⟩ else Θ.less (.own k e) d j)) w (w.setRow ow.g new):=⟨fun b' o' u hc gL=>by
       refine ⟨?_,fun h=>gL (h.imp id (td b' o'))⟩;by_cases ua:b'=ow.g
       ·subst ua;rw [cell_of_row _ ow.g o' new e (0,0) jr];have:o'<l.length * i.size:=by
         rcases Nat.lt_or_ge o' (l.length * i.size) with h | h
         ·exact h
         ·exact absurd (.inr (.inr ⟨k,ow,hk,rfl,by omega⟩)) gL
        rw [bt o' this,<- cell_of_row w ow.g o' cur e (0,0) je];exact hc
       ·exact (World.cell?_of_block (w:=w) (a:=⟨b',o',none⟩) (setRow_other w ow.g b' new ua)).trans hc⟩
      refine q6T (RepL.held pr _ _ ec) fun j u hj=>⟨?_,fun h=>?_⟩
      ·rw [yF,cell_of_row _ ow.g j new e (0,0) jr];exact nJ j u hj
      ·rw [yF] at h;have ei:=(yb.1 hj).1;rw [yp,ae,zb,<- Nat.add_mul] at ei;rcases h with h | (⟨t',n',h⟩ | ⟨t',n',H,h,ua⟩) | ⟨k',gM,h1,h2,h3⟩
       ·have:=R.out _ _ h; omega
       ·exact R.apart k ow t' n' hk h
       ·exact R.apob hk h ua
       ·by_cases ek:k'=d
        ·simp only [if_pos ek] at h1; injection h1 with h1; subst h1; simp only at h3; omega
        ·simp only [if_neg ek] at h1;exact absurd (R.tinj _ _ _ _ (q1v h1).1 hk h2) ((q1v h1).2.2 k e rfl)
  ·cases hr
 ·cases hr
def Ix.del (ι:Ix) (t n:Nat):Ix:=⟨fun t' n'=>if t'=t/\n'=n then .none else ι t' n',ι.ob,ι.z⟩
theorem Ix.del_some {ι:Ix} {t n t' n' b:Nat} (h:(ι.del t n) t' n'=some b):ι t' n'=some b/\¬ (t'=t/\n'=n):=by
 have h':(if t'=t/\n'=n then Option.none else ι t' n')=Option.some b:=h;split at h'
 ·cases h'
 ·rename_i hn; exact ⟨h',hn⟩
theorem Ix.del_lk (ι:Ix) (t n:Nat):Ix.Lk t n ι (ι.del t n):=⟨fun t' n' b hn h=>by
 show (if t'=t/\n'=n then Option.none else ι t' n')=Option.some b;rw [if_neg hn]; exact h,fun _ _ _ _=>rfl⟩
theorem q3p.kill {t n:Nat} {ι':Ix} {av eb:Av} {r:List Slot} {cur:Array Value} (h:q3p ι Θ av w r cur) (hι:Ix.Lk t n ι ι') (hh:Held av eb w w):q3p ι' Θ eb w (r.map (Slot.kill t n)) cur:=by
 refine ⟨by simpa using h.1,fun j x hx=>?_⟩;rw [yc] at hx;cases hj:r[j]? with
 | none=>rw [hj] at hx; cases hx
 | some y =>
  rw [hj] at hx;injection hx with hx;subst hx;obtain ⟨u,hu,h1,hr,ha⟩:=h.2 j y hj;refine ⟨u,hu,h1,?_,ha⟩;have hk:=RepC.kill hι hh y.v u hr;show RepC ι' eb w (y.v.kill t n) u;cases hy:y.v with
  | agg cs=>rw [hy] at hr; obtain ⟨us,rfl,_⟩:=hr; simp [Value.oneCell'] at h1
  | tup cs=>rw [hy] at hr; obtain ⟨us,rfl,_⟩:=hr; simp [Value.oneCell'] at h1
  | _=>rw [hy] at hk; exact hk
theorem Rel.kill (R:Rel P O nt B F0 da w0 D s a w ι Θ) {t n:Nat} (iq:t≠0) {r:List Slot} (hm:s.mem t n=some r):Rel P O nt B F0 da w0 D (s.kill t n) a w (ι.del t n) Θ:=by
 have tc:=(R.rows t n r hm).1;have dk:=Ix.del_lk ι t n;have ri:∀ b o,avB (ι.del t n) Θ b o->avB ι Θ b o:=fun b o h=>h.imp (fun h=>h.imp (fun ⟨t',n',h⟩=>⟨t',n',(Ix.del_some h).1⟩) id) id
 have hB:Held (avB ι Θ) (avB (ι.del t n) Θ) w w:=Held.less ri;have hA:Held (avA da ι Θ) (avA da (ι.del t n) Θ) w w:=Held.less fun b o h=>h.imp id (ri b o)
 refine ⟨R.defers,R.size,fun j=>RepS.kill dk hA hB _ _ (R.env j),R.ann,fun t' n' r' hr=>?_,fun t' n' b h=>R.mine t' n' b (Ix.del_some h).1,fun t1 n1 t2 n2 b h h'=>R.inj t1 n1 t2 n2 b (Ix.del_some h).1 (Ix.del_some h').1,R.tok,R.tinj,fun k o t' n' h h'=>R.apart k o t' n' h (Ix.del_some h').1,R.out,fun p h=>?_,R.kept,R.base,fun t' n' S h=>?_,fun t' n' H h=>?_,fun j=>RepS.kill dk hA hB _ _ (R.gen j),R.gann⟩
 ·simp only [MSt.kill] at hr;split at hr
  ·cases hr
  ·rename_i hn;cases ld:s.mem t' n' with
   | none=>rw [ld] at hr; cases hr
   | some r0 =>
    rw [ld] at hr;injection hr with hr;subst hr;obtain ⟨h0,b,cur,ty,h1,h2,h3,h4⟩:=R.rows t' n' r0 ld;exact ⟨h0,b,cur,ty,dk.f _ _ _ hn h1,h2,h3.kill dk hA,h4⟩
 ·obtain ⟨h1,h2⟩:=R.pin p h;exact ⟨dk.f _ _ _ (fun e=>iq e.1.symm) h1,h2.imp (fun g=>⟨g.1,(dk.z _ _ _ h1).trans g.2⟩) id⟩
 ·obtain ⟨p,H,h1,h2,h3,h4⟩:=R.objs t' n' S h;have ji:∀ t1 n1 b1 H1,ι t1 n1=some b1->ι.ob t1 n1=some H1->(ι.del t n) t1 n1=some b1:=fun t1 n1 b1 H1 g1 g2=>dk.f _ _ _ (fun e=>by rw [<- e.1,<- e.2,g2] at tc; cases tc) g1
  exact ⟨p,H,ji _ _ _ _ h1 h2,h2,h3,h4.keep (fun t1 n1 b1 H1 g1 g2=>⟨ji _ _ _ _ g1 g2,H1,g2⟩) fun x hx=>hx⟩
 ·obtain ⟨h1,h2⟩:=R.obs t' n' H h;refine ⟨fun b hb=>?_,h2⟩;obtain ⟨g1,g2,g3,g4,g5⟩:=h1 b hb;exact ⟨g1,g2,fun t2 n2 h=>g3 t2 n2 (Ix.del_some h).1,g4,g5⟩
theorem Rel.ren (R:Rel P O nt B F0 da w0 D s a w ι Θ) {t n:Nat} (iq:t≠0) {r:List Slot} (hm:s.mem t n=some r) (ne:r.map (Slot.kill t n)=r) {d:Nat} (hd:d<nt) (hD:¬ D d) {x:AV} {v:Value}
  (hx:∀ ι':Ix,ι' d s.next=ι t n->(∀ b,ι'.z b=ι.z b)->RepS ι' (avA da ι' Θ) (avB ι' Θ) w x v) :
  ∃ ι',Rel P O nt B F0 da w0 (fun j=>D j\/j=d) (((s.kill t n).setRow d s.next r).put (some d) ⟨x,.no⟩) (a.put (some d) v) w ι' Θ:=by
 obtain ⟨tc,b0,cur0,nQ,nv,jz,ut,ou,gc⟩:=R.rows t n r hm;have ge:ι d s.next=none:=by
  cases h:ι d s.next with
  | none=>rfl
  | some b =>
   rcases (R.mine _ _ _ h).2.2 with h1 | h1
   ·omega
   ·exact absurd h1.2 hD
 have ee:ι.ob d s.next=none:=by
  cases h:ι.ob d s.next with
  | none=>rfl
  | some b =>
   rcases (R.obs _ _ _ h).2 with h1 | h1
   ·omega
   ·exact absurd h1.2 hD
 have oa:¬ (t=d/\n=s.next):=fun e=>by rw [e.1,e.2,ge] at nv; cases nv
 obtain ⟨ι',hι'⟩:∃ ι':Ix,ι'=⟨fun t' n'=>if t'=d/\n'=s.next then some b0 else (ι.del t n) t' n',ι.ob,ι.z⟩:=⟨_,rfl⟩;have tb:ι' d s.next=some b0:=by subst hι'; show (if d=d/\s.next=s.next then some b0 else _)=_; rw [if_pos ⟨rfl,rfl⟩]
 have wh:∀ t' n' b,ι' t' n'=some b->(t'=d/\n'=s.next/\b=b0)\/(ι t' n'=some b/\¬ (t'=t/\n'=n)/\¬ (t'=d/\n'=s.next)):=fun t' n' b h=>by
  subst hι';have h':(if t'=d/\n'=s.next then some b0 else (ι.del t n) t' n')=some b:=h;split at h'
  ·rename_i e; injection h' with h'; exact .inl ⟨e.1,e.2,h'.symm⟩
  ·rename_i e; exact .inr ⟨(Ix.del_some h').1,(Ix.del_some h').2,e⟩
 have mb:ι'.ob=ι.ob:=by subst hι'; rfl
 have dk:Ix.Lk t n ι ι':=⟨fun t' n' b hn h=>by
  subst hι';show (if t'=d/\n'=s.next then some b0 else (ι.del t n) t' n')=some b;rw [if_neg (fun e=>by rw [e.1,e.2,ge] at h; cases h)];exact (Ix.del_lk ι t n).f _ _ _ hn h,fun _ _ _ _=>by subst hι'; rfl⟩
 have wq:∀ b,ι'.z b=ι.z b:=fun b=>by subst hι'; rfl
 clear hι';have ri:∀ b o,avB ι' Θ b o->avB ι Θ b o:=fun b o h=>h.imp (fun h=>h.imp (fun ⟨t',n',h⟩=>by
  rcases wh _ _ _ h with ⟨_,_,e⟩ | ⟨h,_⟩
  ·exact ⟨t,n,e ▸ nv⟩
  ·exact ⟨t',n',h⟩) (fun ⟨t',n',H,h,hb⟩=>⟨t',n',H,mb ▸ h,hb⟩)) id
 have hB:Held (avB ι Θ) (avB ι' Θ) w w:=Held.less ri;have hA:Held (avA da ι Θ) (avA da ι' Θ) w w:=Held.less fun b o h=>h.imp id (ri b o)
 refine ⟨ι',Rel.put (s:=(s.kill t n).setRow d s.next r) ⟨R.defers,R.size,fun j=>RepS.kill dk hA hB _ _ (R.env j),R.ann,fun t' n' r' hr=>?_,fun t' n' b h=>?_,fun t1 n1 t2 n2 b h h'=>?_,R.tok,R.tinj,fun k o t' n' h h'=>?_,R.out,fun p h=>?_,R.kept,R.base,fun t' n' S h=>?_,fun t' n' H h=>?_,fun j=>RepS.kill dk hA hB _ _ (R.gen j),R.gann⟩ hd (hx _ (tb.trans nv.symm) wq) trivial⟩
 ·simp only [MSt.setRow] at hr;split at hr
  ·rename_i e;injection hr with hr;subst hr;refine ⟨by rw [mb,e.1,e.2]; exact ee,b0,cur0,nQ,by rw [e.1,e.2]; exact tb,jz,?_,ou,gc.trans (wq _).symm⟩;have:=ut.kill dk hA;rw [ne] at this;exact this
  ·simp only [MSt.kill] at hr;split at hr
   ·cases hr
   ·rename_i hn;cases ld:s.mem t' n' with
    | none=>rw [ld] at hr; cases hr
    | some r0 =>
     rw [ld] at hr;injection hr with hr;subst hr;obtain ⟨h0,b,cur,ty,h1,h2,h3,h4,h5⟩:=R.rows t' n' r0 ld;exact ⟨mb ▸ h0,b,cur,ty,dk.f _ _ _ hn h1,h2,h3.kill dk hA,h4,h5.trans (wq _).symm⟩
 ·rcases wh _ _ _ h with ⟨e1,e2,e3⟩ | ⟨h,_⟩
  ·subst e1; subst e3;obtain ⟨h1,h2,_⟩:=R.mine t n b nv;exact ⟨h1,h2,.inr ⟨e2,.inr rfl⟩⟩
  ·obtain ⟨h1,h2,h3⟩:=R.mine t' n' b h;exact ⟨h1,h2,h3.imp id fun ⟨e,d⟩=>⟨e,.inl d⟩⟩
 ·rcases wh _ _ _ h with ⟨e1,e2,e3⟩ | ⟨h,hn,_⟩ <;> rcases wh _ _ _ h' with ⟨f1,f2,f3⟩ | ⟨h',ak,_⟩
  ·exact ⟨e1.trans f1.symm,e2.trans f2.symm⟩
  ·subst e3; exact absurd (R.inj _ _ _ _ _ h' nv) ak
  ·subst f3; exact absurd (R.inj _ _ _ _ _ h nv) hn
  ·exact R.inj _ _ _ _ _ h h'
 ·rcases wh _ _ _ h' with ⟨e1,e2,e3⟩ | ⟨h',_⟩
  ·exact R.apart k o t n h (e3 ▸ nv)
  ·exact R.apart k o t' n' h h'
 ·obtain ⟨h1,h2⟩:=R.pin p h;exact ⟨dk.f _ _ _ (fun e=>iq e.1.symm) h1,h2.imp (fun g=>⟨g.1,(dk.z _ _ _ h1).trans g.2⟩) fun g=>mb ▸ g⟩
 ·obtain ⟨p,H,h1,h2,h3,h4⟩:=R.objs t' n' S h;have ji:∀ t1 n1 b1 H1,ι t1 n1=some b1->ι.ob t1 n1=some H1->ι' t1 n1=some b1:=fun t1 n1 b1 H1 g1 g2=>dk.f _ _ _ (fun e=>by rw [<- e.1,<- e.2,g2] at tc; cases tc) g1
  exact ⟨p,H,ji _ _ _ _ h1 h2,mb ▸ h2,h3,h4.keep (fun t1 n1 b1 H1 g1 g2=>⟨ji _ _ _ _ g1 g2,H1,mb ▸ g2⟩) fun x hx=>hx⟩
 ·rw [mb] at h;obtain ⟨h1,h2⟩:=R.obs t' n' H h;refine ⟨fun b hb=>?_,h2.imp id fun ⟨e,d⟩=>⟨e,.inl d⟩⟩;obtain ⟨g1,g2,g3,g4,g5⟩:=h1 b hb;refine ⟨g1,g2,fun t2 n2 h'=>?_,g4,mb ▸ g5⟩;rcases wh _ _ _ h' with ⟨e1,e2,e3⟩ | ⟨h',_⟩
  ·exfalso;have e:=g3 t n (e3 ▸ nv);rw [<- e.1,<- e.2] at h;rw [tc] at h;cases h
  ·exact g3 t2 n2 h'
theorem row_of {av:Av} {cs:List AV} {us:List Value} (h:RepL av w cs us) {cur:Array Value} (hc:∀ (j:Nat) (u:Value),us[j]?=some u->cur[j]?=some u):q3p ι Θ av w (cs.map (⟨·,.no⟩)) cur:=by
 have ja:=q1B (q27 (ι:=ι) h);constructor
 ·rw [yo];rcases yI cs.length with h0 | h0
  ·omega
  ·have:=hc (cs.length - 1) us[cs.length - 1] (y5 (by omega));have:=(Array.getElem?_eq_some_iff.1 this).1;omega
 ·intro j x hx;rw [yc] at hx;cases hj:cs[j]? with
  | none=>rw [hj] at hx; cases hx
  | some y =>
   rw [hj] at hx;injection hx with hx;subst hx;obtain ⟨u,hu,h1,hr⟩:=q6t (q27 (ι:=ι) h) hj;exact ⟨u,hc j u hu,h1,hr,trivial⟩
theorem Rel.drew (R:Rel P O nt B F0 da w0 D s a w ι Θ):Rel P O nt B F0 da w0 D s a w.drew ι Θ:=R.grow (w':=w.drew) (fun _ _=>rfl) (ym _) R.kept.drew
theorem setRow_kill (s:MSt) (t n:Nat) (r:List Slot):(s.setRow t n r).kill t n=s.kill t n:=by
 simp only [MSt.setRow,MSt.kill];congr 1;funext t' n';by_cases h:t'=t/\n'=n <;> simp [h]
theorem row_ofC {av:Av} {cs:List AV} {us:List Value} (h:q0w ι av w cs us) {cur:Array Value} (hc:∀ (j:Nat) (u:Value),us[j]?=some u->cur[j]?=some u):q3p ι Θ av w (cs.map (⟨·,.no⟩)) cur:=by
 have ja:=q1B h;constructor
 ·rw [yo];rcases yI cs.length with h0 | h0
  ·omega
  ·have:=hc (cs.length - 1) us[cs.length - 1] (y5 (by omega));have:=(Array.getElem?_eq_some_iff.1 this).1;omega
 ·intro j x hx;rw [yc] at hx;cases hj:cs[j]? with
  | none=>rw [hj] at hx; cases hx
  | some y =>
   rw [hj] at hx;injection hx with hx;subst hx;obtain ⟨u,hu,h1,hr⟩:=q6t h hj;exact ⟨u,hc j u hu,h1,hr,trivial⟩
theorem RepCL_one {av:Av}:∀ {xs:List AV} {us:List Value},q0w ι av w xs us->∀ u∈us,u.oneCell'=true
 | [],us,h,u,hu=>by simp only [q0w] at h; subst h; cases hu
 | x :: r,us,h,u,hu=>by
  simp only [q0w] at h;obtain ⟨u',sa,rfl,_,h1,h⟩:=h;rcases yf.1 hu with rfl | hu
  ·exact h1
  ·exact RepCL_one h u hu
theorem qb2 {t n:Nat} {v:AV} (h:v.noName t n=true):v.kill0 t n=v/\v.kill t n=v:=by
  cases v <;> first
    | exact ⟨rfl,rfl⟩
    | (simp only [AV.noName,Bool.not_eq_true',Bool.and_eq_false_imp,decide_eq_true_eq,decide_eq_false_iff_not] at h
       have h':¬ (_=t/\_=n):=fun e=>h e.1 e.2
       exact ⟨by simp only [AV.kill0,if_neg h'],by simp only [AV.kill,AV.kill0,if_neg h']⟩)
    | cases h
theorem noName_kill {t n:Nat} {l:List AV} (h:l.all (AV.noName t n)=true):l.map (AV.kill0 t n)=l:=by
 have:l.map (AV.kill0 t n)=l.map id:=yl fun x hx=>(qb2 (y4.1 h x hx)).1
 rwa [List.map_id] at this
theorem noName_free {t n:Nat} {l:List AV} (h:l.all (AV.noName t n)=true):(l.map (⟨·,.no⟩)).map (Slot.kill t n)=l.map (⟨·,.no⟩):=by
 rw [y0];apply yl;intro x hx;show (⟨x.kill t n,.no⟩:Slot)=⟨x,.no⟩;rw [(qb2 (y4.1 h x hx)).2]
theorem op_appn (R:Rel P O nt B F0 da w0 D s a w ι Θ) {t e:TypeId} {i:TypeInfo} {z:List AV} (ht:P.underlying t=some (.slice e)) (hi:P.info? e=some i) (hz:q8E P e=some z) (ic:z.length=i.size) (ab:0<i.size) {X Y:Operand} {x y:Opd} (hx:opd X=some x) (hy:opd Y=some y)
  (ho:o.op=.call { callee:=.builtin .append,args:=#[X,Y],argTypes:=#[t,t] }) {d:Nat} (ca:o.dst=some d) (hd:d<nt) (hD:¬ D d) {cl:Cl} {call} {xe:Slot × Eff} (hr:(K.appn cl e i.size i.bytes x y).run call s=some xe) {g} {s':MSt} (he:OpC.eff ⟨o.dst,.appn cl e i.size i.bytes x y,g⟩ s xe=some s') :
  ∃ v w',(execOp a.eval o).run P w=.ok (.value v) w'/\RelE P O nt B F0 da w0 (fun t=>D t\/t=d) s' (a.put o.dst v) w':=by
 obtain ⟨zv,i',ac,so,bj,hl⟩:=q52 hz w;rw [hi] at ac;injection ac with ac;subst ac;have pm:zv.cells.size=i.size:=by
  have:=q4m hl;simp only [yS] at this;omega
 have hX:=R.opd hx;have hY:=(R.opd hy).1;have ui:∀ v w',(Builtin.append_ #[t,t] o.type #[a.eval X,a.eval Y]).run P w=.ok v w'->(execOp a.eval o).run P w=.ok (.value v) w':=fun v w' h=>by
  simp only [execOp,ho,resolve,invoke,builtin,Sem.run_bind,Sem.run_pure,Result.andThen_ok,List.map_toArray,yh,yr,h]
 -- a new block for l++m
 have grow:∀ {s1:MSt} {ι1:Ix} {l m:List (List AV)} {xs news:List Value} {A:Option Addr} {ln c:Nat},Rel P O nt B F0 da w0 D s1 a w.drew ι1 Θ->a.eval X=.slice A ln c->xs.length=ln * i.size->(A=none->ln=0/\c=0)->(∀ a',A=some a'->∀ j u,xs[j]?=some u->w.cell? (a'.add j)=some u) →
   l.length=ln->Sl (fun _=>False) w i.size (a.eval Y) m.length news->c<ln + m.length->ln<=c->q0w ι1 (avA da ι1 Θ) w.drew (l++m).flatten (xs++news)->q0G i.bytes (ln + m.length)=true →
   ∃ v w',(execOp a.eval o).run P w=.ok (.value v) w'/\RelE P O nt B F0 da w0 (fun t=>D t\/t=d) ((s1.setRow d s1.next ((l++m).flatten.map (⟨·,.no⟩))).put (some d) ⟨.ref d s1.next i.size 0 (ln + m.length) (ln + m.length),.no⟩) (a.put (some d) v) w':=by
  intro s1 ι1 l m xs news A ln c R1 hv fe hA mJ rf le fa wu ec ba;obtain ⟨ze,ig⟩:=q0d.1 ba;have ia:=append_grow (P:=P) (w:=w) ht hi so o.type fe hA mJ le fa wu ig ze;rw [<- hv] at ia;have te:=grownCap_ge w (ln + m.length) c e;have jB:news.length=m.length * i.size:=le.1;have ka:q3p ι1 Θ (avA da ι1 Θ) w.drew ((l++m).flatten.map (⟨·,.no⟩)) (xs.toArray++news.toArray++Builtin.zeroCells zv.cells (grownCap w (ln + m.length) c e - (ln + m.length))):=row_ofC ec fun j u hj=>by
   have ei:=(yb.1 hj).1;rw [Array.getElem?_append_left (by simp only [Array.size_append,List.size_toArray]; simpa using ei)];simpa using hj
  obtain ⟨ι',h⟩:=R1.new hd hD e ka (x:=.ref d s1.next i.size 0 (ln + m.length) (ln + m.length)) (v:=.slice (some ⟨w.heap.size,0,none⟩) (ln + m.length) (grownCap w (ln + m.length) c e)) (fun ι' h hz=>⟨_,h,ym _,_,te,by
   rw [show ι'.z w.drew.heap.size=_ from hz,yF];simp only [Array.size_append,List.size_toArray,size_zeroCells,pm,fe,jB,<- Nat.add_mul];exact yW _ (by omega),rfl⟩)
  exact ⟨_,_,ui _ _ ia,ι',Θ,h⟩
 have drewHeld:Held (avA da ι Θ) (avA da ι Θ) w w.drew:=Held.grown (fun _ _=>rfl) fun _ _ _ h=>h
 simp only [K.run] at hr;split at hr
 ·rename_i b l m kc sc;split at hr
  ·rename_i aa;obtain ⟨ba,ta,al⟩:=aa;have dc:∀ c∈l++m,c.length=i.size:=fun c hc=>by simpa using y4.1 ta c hc
   have ld:∀ c∈m,c.length=i.size:=fun c hc=>dc c (List.mem_append_right _ hc)
   have rq:∀ c∈l,c.length=i.size:=fun c hc=>dc c (List.mem_append_left _ hc)
   obtain ⟨news,ud,le⟩:=raws_sl R hY sc ab ld;rw [kc] at hX;have my:=hX.1;rw [q2F] at my;obtain ⟨xs,fe,ku⟩:=q7P (cl:=cl) R hX.1 (m:=l) rfl ab rq;simp only [Rep] at my;obtain ⟨A,c,hv,wu,hu,hn,hs⟩:=my;have ae:xs.length=l.length * i.size:=ku.1;have pe:∀ a',A=some a'->∀ j u,xs[j]?=some u->w.cell? (a'.add j)=some u:=fun a' ha j u hj=>by
    obtain ⟨_,A2,c2,mA,_,h2⟩:=ku;rw [hv] at mA;injection mA with e1 e2 e3;subst e1;have hp:0<l.length:=by
     rcases yI l.length with h | h
     ·rw [h] at ae; have:=(yb.1 hj).1; omega
     ·exact h
    obtain ⟨b',off,hA,_,_,jd⟩:=h2 hp;rw [ha] at hA;injection hA with hA;subst hA;rw [Addr.add_lit];exact jd j u hj
   split at hr
   ·rename_i tk;have uN:exV (a.eval X):=by
     cases b with
     | false=>have h2:=hX.2; rw [show x.an s=.ex from tk] at h2; exact h2
     | true =>
      obtain ⟨h1,h2,h3⟩:=hn rfl;exact ⟨none,0,by rw [hv,h1,h2,h3]⟩
    obtain ⟨A',n',fq⟩:=uN;rw [hv] at fq;injection fq with e1 e2 e3;injection hr with hr;subst hr;simp only [OpC.eff,ca] at he;injection he with he;subst he;rw [ca];exact grow R.drew hv ae (fun hA=>by
     cases b with
     | true=>have:=hn rfl; exact ⟨this.2.1,this.2.2⟩
     | false =>
      obtain ⟨h1,h2⟩:=hs rfl;refine ⟨?_,h1 hA⟩;rcases yI l.length with h0 | h0
      ·exact h0
      ·obtain ⟨_,_,ha,_⟩:=h2 h0; rw [hA] at ha; cases ha) pe rfl le (by omega) wu (by rw [List.flatten_append]; exact q4k (q27 (RepL.held drewHeld _ _ fe)) (q0w.held (Ix.Le.refl _) drewHeld _ _ ud)) ba
   ·cases hr
  ·cases hr
 ·rename_i t' n sz off ln cp m kc sc;split at hr
  ·rename_i l rf;split at hr
   ·rename_i aa;obtain ⟨rfl,rfl,ba,ta,iq,ox⟩:=aa;injection hr with hr;subst hr;have ld:∀ c∈m,c.length=i.size:=fun c hc=>by simpa using y4.1 ta c hc
    obtain ⟨news,ud,le⟩:=raws_sl R hY sc ab ld;rw [kc] at hX;obtain ⟨b,hb,wb,cc,xf,pJ,hv⟩:=q4Y.1 hX.1;simp only [AV.raws] at rf;split at rf
    ·cases hm:s.mem t' n with
     | none=>rw [hm] at rf; cases rf
     | some r =>
      rw [hm,V] at rf;obtain ⟨tc,b',cur,ty,ua,ra,ka,jj,kr⟩:=R.rows t' n r hm;rw [hb] at ua;injection ua with ua;subst ua;obtain ⟨tz,rq,xs,fe,pe⟩:=q9w ka ra rf;simp only [yF] at pe pJ;have nr:∀ {q:List (List AV)},(∀ c∈q,c.length=i.size)->q.flatten.length=q.length * i.size:=fun {q} hq=>by
       induction q with
       | nil=>simp
       | cons c r ih=>rw [yB,yp,hq c (by simp),ih (fun c hc=>hq c (by simp [hc])),yH,yt]; omega
      have ae:xs.length=ln * i.size:=by
       have:=q1B fe;rw [this,nr rq,tz]
      have zb:news.length=m.length * i.size:=le.1;have ec:q0w ι (avA da ι Θ) w (l++m).flatten (xs++news):=by rw [List.flatten_append]; exact q4k fe ud
      have ur:(l++m).flatten.map (AV.kill0 t' n)=(l++m).flatten:=noName_kill ox;simp only [OpC.eff,ca,MSt.killO] at he;injection he with he;subst he;rw [ca];rcases Nat.lt_or_ge cc (ln + m.length) with fa | te
      ·have dk:Held (avA da ι Θ) (avA da (ι.del t' n) Θ) w w.drew:=Held.grown (fun _ _=>rfl) fun b o _ h=>h.imp id fun h=>h.imp (fun h=>h.imp (fun ⟨t',n',h⟩=>⟨t',n',(Ix.del_some h).1⟩) id) id
       exact grow (R.drew.kill iq hm) hv ae (fun h=>by cases h) (fun a' ha j u hj=>by
        injection ha with ha;subst ha;rw [Addr.add_lit,yF];exact pe j u hj) tz le fa (Nat.le_trans wb xf) (by have:=q0w.kill (Ix.del_lk ι t' n) dk _ _ ec; rwa [ur] at this) ba
      ·obtain ⟨new,tb⟩:∃ new,new=(cur.toList.take (ln * i.size)++news++cur.toList.drop (ln * i.size + news.length)).toArray:=⟨_,rfl⟩;have gn:ln * i.size + news.length<=cur.size:=by
        rw [zb,<- Nat.add_mul,kr];exact Nat.le_trans (yW _ te) pJ
       have ia:(Builtin.append_ #[t,t] o.type #[a.eval X,a.eval Y]).run P w=.ok (.slice (some ⟨b,0,none⟩) (ln + m.length) cc) (w.setRow b new):=by
        rw [hv,tb];obtain ⟨pg,A,c',sP,hc,pb⟩:=le;rw [sP];cases A with
        | none =>
         have al:m.length=0:=by
          rcases yI m.length with h | h
          ·exact h
          ·obtain ⟨b,off,hA,_⟩:=pb h; cases hA
         have ox:news=[]:=yN (by rw [zb,al,Nat.zero_mul]);subst ox;rw [al] at te ⊢;have wt:w.setRow b (cur.toList.take (ln * i.size)++[]++cur.toList.drop (ln * i.size + ([]:List Value).length)).toArray=w:=by
          simp only [yO,List.length_nil,Nat.add_zero,List.take_append_drop,yT];exact setRow_self w b cur ty (0,0) ra
         rw [wt];simp only [Nat.add_zero] at te;simp [Builtin.append_,run_underlying ht,sizeOf,typeInfo,hi,Builtin.lenOf,Builtin.firstCells,te,storeCells]
        | some a' =>
         have fA:∀ (j:Nat) (u:Value),news[j]?=some u->w.cell? (a'.add j)=some u:=fun j u hu=>by
          have al:0<m.length:=by
           rcases yI m.length with h | h
           ·rw [h] at zb; have:=(yb.1 hu).1; omega
           ·exact h
          obtain ⟨b,off,hA,_,_,jd⟩:=pb al;injection hA with hA;subst hA;rw [Addr.add_lit];exact jd j u hu
         have zr:=run_loadCells_list (P:=P) w a' news fA;rw [zb] at zr;have za:=run_storeCells_at P b (ln * i.size) ty news 0 cur w ra (by simpa using gn) (RepCL_one ud);simp only [Nat.add_zero] at za;simp [Builtin.append_,run_underlying ht,sizeOf,typeInfo,hi,Builtin.lenOf,Builtin.firstCells,te,zr,Addr.add_lit,za]
       have sI:new.size=cur.size:=by
        rw [tb];simp only [List.size_toArray,yp,yC,List.length_drop,yS];omega
       have jl:q3p ι Θ (avA da ι Θ) w ((l++m).flatten.map (⟨·,.no⟩)) new:=row_ofC ec fun j u hj=>by
        have mw:(cur.toList.take (ln * i.size)).length=ln * i.size:=by rw [yC,yS]; omega
        rw [tb,List.getElem?_toArray,yV];rcases Nat.lt_or_ge j (ln * i.size) with h | h
        ·rw [yE (by omega)] at hj;have:=pe j u hj;rw [cell_of_row w b j cur ty (0,0) ra] at this;rw [yE (by omega),yR,if_pos h];simpa using this
        ·rw [yP (by omega),ae] at hj;have ew:=(yb.1 hj).1;rw [yP (by omega),mw,yE ew];exact hj
       have R1:=R.set hb tc ra jl jj (sI.trans kr);have R2:=R1.ren (t:=t') (n:=n) iq (d:=d) (r:=(l++m).flatten.map (⟨·,.no⟩)) (by simp [MSt.setRow]) (noName_free ox) hd hD (x:=.ref d s.next i.size 0 (ln + m.length) (ln + m.length)) (v:=.slice (some ⟨b,0,none⟩) (ln + m.length) cc) (fun ι' h1 h2=>⟨b,h1.trans hb,ym _,cc,te,by rw [h2,yF]; exact pJ,rfl⟩);rw [setRow_kill] at R2;obtain ⟨ι',R2⟩:=R2;exact ⟨_,_,ui _ _ ia,ι',Θ,R2⟩
    ·cases rf
   ·cases hr
  ·cases hr
 ·cases hr
theorem raws_of {v:AV} {cl:Cl} {l:List (List AV)} (h:v.elems s cl=some l):v.raws s cl=some l:=by
 cases v with
 | ref t n sz off len cap =>
  simp only [AV.elems,AV.raws] at h ⊢;split at h
  ·rename_i hc;rw [if_pos hc];cases hm:s.mem t n with
   | none=>rw [hm] at h; cases h
   | some r =>
    rw [hm,V,q2R] at h;split at h
    ·rename_i hr;rw [V,q5G,if_pos hr.1];exact h
    ·cases h
  ·cases h
 | _=>exact h
theorem RepL_no {av:Av} (t n:Nat):∀ {xs:List AV} {us:List Value},RepL av w xs us->xs.all (AV.noName t n)=true
 | [],_,_=>rfl
 | x :: r,_,h=>by
  simp only [RepL] at h;obtain ⟨u,sa,rfl,h0,h1,h⟩:=h;rw [List.all_cons,RepL_no t n h,Bool.and_true];cases x <;> first | rfl | (simp [Rep] at h0; done) | (simp only [Rep] at h0; obtain ⟨us,rfl,_⟩:=h0; simp [Value.oneCell'] at h1; done)
theorem op_appf (R:Rel P O nt B F0 da w0 D s a w ι Θ) {t e:TypeId} {i:TypeInfo} {z:List AV} (ht:P.underlying t=some (.slice e)) (hi:P.info? e=some i) (hz:q8E P e=some z) (ic:z.length=i.size) (ab:0<i.size) {X Y:Operand} {x y:Opd} (hx:opd X=some x) (hy:opd Y=some y)
  (ho:o.op=.call { callee:=.builtin .append,args:=#[X,Y],argTypes:=#[t,t] }) {d:Nat} (ca:o.dst=some d) (hd:d<nt) (hD:¬ D d) {cl:Cl} {call} {xe:Slot × Eff} (hr:(K.appf cl e i.size i.bytes x y).run call s=some xe) {g} {s':MSt} (he:OpC.eff ⟨o.dst,.appf cl e i.size i.bytes x y,g⟩ s xe=some s') :
  ∃ v w',(execOp a.eval o).run P w=.ok (.value v) w'/\RelE P O nt B F0 da w0 (fun t=>D t\/t=d) s' (a.put o.dst v) w':=by
 have hX:=R.opd hx;have hY:=(R.opd hy).1;simp only [K.run] at hr;split at hr
 ·rename_i b l m kc sc;split at hr
  ·rename_i aa;split at hr
   ·rename_i tk;split at hr
    ·rename_i aw;cases hr;have al:m=[]:=by simpa using aw
     subst al;have dc:∀ c∈l,c.length=i.size:=fun c hc=>by simpa using y4.1 aa.2 c (List.mem_append_left _ hc)
     obtain ⟨news,ud,le⟩:=q7P R hY sc ab (fun _ h=>by cases h);rw [kc] at hX;obtain ⟨hX,pu⟩:=hX;obtain ⟨A,c,hv,wu,_,hn,_⟩:=q2F.1 hX;cases he;have ia:=append_zero (P:=P) (w:=w) ht hi o.type (A:=A) wu le;rw [<- hv] at ia;refine ⟨_,_,by simp only [execOp,ho,resolve,invoke,builtin,Sem.run_bind,Sem.run_pure,Result.andThen_ok,List.map_toArray,yh,yr,ia],ι,Θ,(R.putN (d:=o.dst) (x:=⟨.sl b l,.ex⟩) (fun t h=>by rw [ca] at h; cases h; exact hd) hX ?_).more fun _ h=>.inl h⟩;cases b with
     | false=>rw [show x.an s=.ex from tk] at pu; exact pu
     | true=>obtain ⟨h1,h2,h3⟩:=hn rfl; exact ⟨none,0,by rw [hv,h1,h2,h3]⟩
    ·rename_i aw;exact op_appn R ht hi hz ic ab hx hy ho ca hd hD (cl:=cl) (call:=call) (xe:=xe) (by simp only [K.run,kc,raws_of sc]; rw [if_pos ⟨aa.1,aa.2,by cases m <;> simp at aw ⊢⟩,tk]; exact hr) (g:=g) he
   ·cases hr
  ·cases hr
 ·cases hr
theorem op_appm (R:Rel P O nt B F0 da w0 D s a w ι Θ) {t e:TypeId} {i:TypeInfo} {z:List AV} (ht:P.underlying t=some (.slice e)) (hi:P.info? e=some i) (hz:q8E P e=some z) (ic:z.length=i.size) (ab:0<i.size) {X Y:Operand} {x y:Opd} (hx:opd X=some x) (hy:opd Y=some y)
  (ho:o.op=.call { callee:=.builtin .append,args:=#[X,Y],argTypes:=#[t,t] }) {d:Nat} (ca:o.dst=some d) (hd:d<nt) (hD:¬ D d) {cl:Cl} {call} {xe:Slot × Eff} (hr:(K.appm cl e i.size i.bytes x y).run call s=some xe) {g} {s':MSt} (he:OpC.eff ⟨o.dst,.appm cl e i.size i.bytes x y,g⟩ s xe=some s') :
  ∃ v w',(execOp a.eval o).run P w=.ok (.value v) w'/\RelE P O nt B F0 da w0 (fun t=>D t\/t=d) s' (a.put o.dst v) w':=by
 have hX:=R.opd hx;have hY:=(R.opd hy).1;simp only [K.run] at hr;split at hr
 ·rename_i b l m kc sc;exact op_appf R ht hi hz ic ab hx hy ho ca hd hD (cl:=cl) (call:=call) (xe:=xe) (by simp only [K.run,kc,sc]; exact hr) (g:=g) he
 ·rename_i t' n sz off ln cp m kc sc;split at hr
  ·rename_i l rf;split at hr
   ·rename_i aa;obtain ⟨h1,h2,ba,ta,iq⟩:=aa;obtain ⟨news,ud,le⟩:=q7P R hY sc ab fun c hc=>by simpa using y4.1 ta c hc
    rw [kc] at hX;have tc:(l++m).flatten.all (AV.noName t' n)=true:=by
     rw [List.flatten_append,List.all_append,RepL_no t' n ud,Bool.and_true];simp only [AV.elems] at rf;split at rf
     ·cases hm:s.mem t' n with
      | none=>rw [hm] at rf; cases rf
      | some r =>
       rw [hm,V] at rf;obtain ⟨_,b',cur,ty,_,ra,ka,_⟩:=R.rows t' n r hm;obtain ⟨_,_,xs,fe,_⟩:=q6N ka ra rf;exact RepL_no t' n fe
     ·cases rf
    exact op_appn R ht hi hz ic ab hx hy ho ca hd hD (cl:=cl) (call:=call) (xe:=xe) (by simp only [K.run,kc,raws_of sc,raws_of rf]; rw [if_pos ⟨h1,h2,ba,ta,iq,tc⟩]; exact hr) (g:=g) he
   ·cases hr
  ·cases hr
 ·cases hr
theorem op_bslr (R:Rel P O nt B F0 da w0 D s a w ι Θ) {t e:TypeId} {n z:Nat} {zero:List AV} (ht:P.underlying t=some (.slice e)) (hz:q8E P e=some zero) (hs:q1Z P e=some z) (ic:zero.length=z) (ab:0<z) (ad:n * z<=16777216) {ps:Array (Nat × Operand)} {ys:List (Nat × Opd)} (hy:opds ps.toList=some ys) (ho:o.op=.buildSlice t n ps)
  {d:Nat} (ca:o.dst=some d) (hd:d<nt) (hD:¬ D d) {call} {xe:Slot × Eff} (hr:(K.bslr z zero n ys).run call s=some xe) {g} {s':MSt} (he:OpC.eff ⟨o.dst,.bslr z zero n ys,g⟩ s xe=some s') :
  ∃ v w',(execOp a.eval o).run P w=.ok (.value v) w'/\RelE P O nt B F0 da w0 (fun t=>D t\/t=d) s' (a.put o.dst v) w':=by
 obtain ⟨zv,i',ac,so,bj,hl⟩:=q52 hz w;have gI:i'.size=z:=by simp [q1Z,ac] at hs; exact hs
 have pm:zv.cells.size=z:=by
  have:=q4m hl;simp only [yS] at this;omega
 simp only [K.run] at hr;split at hr
 ·rename_i aa;obtain ⟨kg,ta,_,_⟩:=aa;injection hr with hr; subst hr;simp only [OpC.eff,ca] at he;injection he with he;subst he;have dc:∀ p∈ys,(p.2.get s).whole=true/\(p.2.get s).cells.length=zero.length:=fun p hp=>by
   have:=y4.1 ta p hp;simpa using this
  have hn:ys.length=n:=by
   have:=congrArg List.length kg;simpa using this
  have wi:=fill_flat (s:=s) z ys 0 [] (yA n zero).flatten (by rw [kg,List.range_eq_range',hn]) (by simp) (by simp [hn,ic]) (fun p hp=>by rw [(dc p hp).2,ic]);rw [List.nil_append,List.nil_append] at wi;have hp:=qaN z ys;have fj:((Array.range (n * z)).map (((if n * z=0 then (#[]:Array Value) else zv.cells)[· % (if n * z=0 then (#[]:Array Value) else zv.cells).size]!))).toList=(yA n zv.cells.toList).flatten:=by
   rcases yI n with h0 | h0
   ·subst h0; simp
   ·have:¬ n * z=0:=by have:=Nat.mul_pos h0 ab; omega
    simp only [if_neg this];rw [<- pm];exact range_mod zv.cells n
  obtain ⟨sa,h1,h2⟩:=qbH (pl:=fun i=>some (i * z,z)) (ι:=ι) (av:=avA da ι Θ) (avb:=avB ι Θ) (w:=w) (s:=s) (a:=a) rfl (fun X y h=>(R.opd h).1) hy hp (fun p hp=>by
   obtain ⟨q,hq,rfl⟩:=yw.1 hp;exact (dc q hq).1) (by rw [y0]; exact wi) (us:=(Array.range (n * z)).map (((if n * z=0 then (#[]:Array Value) else zv.cells)[· % (if n * z=0 then (#[]:Array Value) else zv.cells).size]!))) (by
    rw [fj];exact range_rep _ _ (q6x hl _ _) n)
  have ia:(execOp a.eval o).run P w=.ok (.value (.slice (some ⟨w.heap.size,0,none⟩) n n)) (w.alloc (.cells sa e)):=by
   have h3:Instr.fill (fun i=>some (i * z,z)) ((Array.range (n * z)).map (((if n * z=0 then (#[]:Array Value) else zv.cells)[· % (if n * z=0 then (#[]:Array Value) else zv.cells).size]!))) (ps.map fun (i,x)=>(i,a.eval x)).toList=some sa:=by
    rw [Array.toList_map];exact h1
   have wb:¬ (n * z > 2 ^ 24):=by omega
   by_cases h0:n * z=0
   ·simp only [if_pos h0] at h3;simp only [execOp,ho,Instr.buildSlice,Sem.run_bind,run_underlying ht,Result.andThen_ok,q1q hs,if_neg wb,if_pos h0,Sem.run_pure,h3,newRow,run_newObj_alloc]
   ·simp only [if_neg h0] at h3;simp only [execOp,ho,Instr.buildSlice,Sem.run_bind,run_underlying ht,Result.andThen_ok,q1q hs,if_neg wb,if_neg h0,Sem.run_pure,bj,h3,newRow,run_newObj_alloc]
  refine ⟨_,_,ia,?_⟩;rw [ca];have ja:=q1B h2;have ah:(ys.map fun p=>(p.2.get s).cells).flatten.length=n * z:=by
   rw [<- hn];clear wi h2 ja h1 kg ta hp hy ad fj hn
   induction ys with
   | nil=>simp
   | cons p r ih=>rw [yh,yB,yp,(dc p (by simp)).2,ih (fun q hq=>dc q (by simp [hq])),ic,yH,yt]; omega
  have rd:sa.size=n * z:=by
   rw [ah,yS] at ja;exact ja
  have ka:q3p ι Θ (avA da ι Θ) w (q0c (ys.map fun p=>(p.2.get s).cells)) sa:=row_ofC h2 fun j u hj=>by simpa using hj
  obtain ⟨ι',h⟩:=R.new hd hD e ka (x:=.ref d s.next z 0 n n) (v:=.slice (some ⟨w.heap.size,0,none⟩) n n) (fun ι' h hz=>⟨_,h,ym _,_,ym _,by
   rw [show ι'.z w.heap.size=_ from hz,yF,rd];exact ym _,rfl⟩)
  exact ⟨ι',Θ,h⟩
 ·cases hr
end
end
section
open Go Go.RowKit
section
variable {P:Program} {O:Objs} {nt B:Nat} {F0:Own} {da:Av} {w0:World} {D:Nat->Prop} {s:MSt} {a:Act} {w w':World} {ι:Ix} {Θ:Fam} {o:Oper}
def RepA (ι:Ix) (av avl:Av) (w:World):List AV->List Value->Prop
 | [],us=>us=[]
 | x :: r,us=>∃ u sa,us=u :: sa/\RepS ι av avl w x u/\RepA ι av avl w r sa
def Ix.one (p:Nat):Ix:=⟨fun t n=>if t=0/\n=0 then some p else .none,fun _ _=>.none,fun _=>0⟩
def RepO (p:Nat) (av:Av) (w:World) (x:AV) (v:Value):Prop:=if x.isObj then v=.pointer (some ⟨p,0,none⟩) else Rep av w x v
def q94 (p:Nat) (av:Av) (w:World):List AV->List Value->Prop
 | [],us=>us=[]
 | x :: r,us=>∃ u sa,us=u :: sa/\RepO p av w x u/\q94 p av w r sa
def RepN (p:Nat) (av:Av) (w:World):AV->Value->Prop
 | .tup vs,v=>∃ us,v=.tuple us/\q94 p av w vs us.toList
 | x,v=>RepO p av w x v
def OwnV (base:Nat) (H:Nat->Prop) (w:World) (l:List (List AV)) (v:Value):Prop :=
 (l=[]/\∃ A c,v=.slice A 0 c/\(A=none->c=0))\/∃ g c cur ty,v=.slice (some ⟨g,0,none⟩) l.length c/\base<=g/\¬ H g/\w.heap[g]?=some (.cells cur ty (0,0))/\l.length<=c/\(∀ sz,q13 sz l=true->0<l.length->c * sz<=cur.size)/\∀ (j:Nat) (x:AV),l.flatten[j]?=some x->cur[j]?=some x.scalV
def CallOwn (P:Program) (O:Objs) (f:FuncId) (args:List AV) (S0:Option AV) (r:RV):Prop :=
 (∀ xs w,(callFunc f xs).run P w=.ok (.enter f xs) w) ∧
 match S0,r with
 | some S,(.sl false l,some S')=>∀ (av:Av) (w:World) (vs:List Value) (p:Nat) (H:Nat->Prop),(∀ b o,av b o->b<w.heap.size)->(∀ b o,H b->av b o)->O.at_ S H p w->RepA (Ix.one p) av (fun b _=>H b) w args vs →
  Calls P f vs.toArray w fun e w'=>∃ v H',e=.returned v/\OwnV w.heap.size H' w' l v/\O.at_ S' H' p w'/\(∀ b,H' b->H b\/w.heap.size<=b)/\Keep H w w'
 | _,_=>True
def CallOk0 (P:Program) (O:Objs) (f:FuncId) (args:List AV) (S0:Option AV) (r:RV):Prop :=
 (∀ xs w,(callFunc f xs).run P w=.ok (.enter f xs) w) ∧
 match S0,r.2 with
 | none,none=>∀ (av:Av) (w:World) (vs:List Value),(∀ b o,av b o->b<w.heap.size)->RepA Ix.none av (fun _ _=>False) w args vs →
  Calls P f vs.toArray w fun e w'=>∃ v,e=.returned v/\Rep av w' r.1 v/\Below w.heap.size w w'
 | some S,some S'=>∀ (av:Av) (w:World) (vs:List Value) (p:Nat) (H:Nat->Prop),(∀ b o,av b o->b<w.heap.size)->(∀ b o,H b->av b o)->O.at_ S H p w->RepA (Ix.one p) av (fun b _=>H b) w args vs →
  Calls P f vs.toArray w fun e w'=>∃ v H',e=.returned v/\Rep (fun b o=>av b o\/H' b) w' r.1 v/\O.at_ S' H' p w'/\(∀ b,H' b->H b\/w.heap.size<=b)/\Keep H w w'
 | none,some S'=>∀ (av:Av) (w:World) (vs:List Value),(∀ b o,av b o->b<w.heap.size)->RepA Ix.none av (fun _ _=>False) w args vs →
  Calls P f vs.toArray w fun e w'=>∃ v p H',e=.returned v/\RepN p (fun b o=>av b o\/H' b) w' r.1 v/\O.at_ S' H' p w'/\(∀ b,H' b->w.heap.size<=b)/\Below w.heap.size w w'
 | some _,none=>True
def Ix.row (p z:Nat):Ix:=⟨fun t n=>if t=0/\n=0 then some p else .none,fun _ _=>.none,fun _=>z⟩
def CallRow (P:Program) (f:FuncId) (args:List AV) (S0:Option AV) (r:RV):Prop :=
 (∀ xs w,(callFunc f xs).run P w=.ok (.enter f xs) w) ∧
 match S0,r with
 | some (.agg cs),(r1,some (.agg bv))=>∀ (av:Av) (w:World) (vs:List Value) (p:Nat) (cur:Array Value) (ty:TypeId),(∀ b o,av b o->b<w.heap.size)->(∀ o,av p o)->w.heap[p]?=some (.cells cur ty (0,0))->cs.length<=cur.size->RepL av w cs (cur.toList.take cs.length)->RepA (Ix.row p cur.size) av (fun b _=>b=p) w args vs →
  Calls P f vs.toArray w fun e w'=>∃ v lb up,e=.returned v/\Rep av w' r1 v/\w'.heap[p]?=some (.cells lb up (0,0))/\lb.size=cur.size/\RepL av w' bv (lb.toList.take bv.length)/\Keep (fun b=>b=p) w w'
 | _,_=>True
def q2i (P:Program) (O:Objs) (f:FuncId) (args:List AV) (S0:Option AV) (r:RV):Prop:=match args with
 | .undef :: .undef :: rest=>CallRow P f rest S0 r
 | .undef :: rest=>CallOwn P O f rest S0 r
 | _=>CallOk0 P O f args S0 r
theorem q2i.of {P:Program} {O:Objs} {f:FuncId} {args:List AV} {S0:Option AV} {r:RV} (hm:q6K args=false):q2i P O f args S0 r ↔ CallOk0 P O f args S0 r:=by
 unfold q2i;split
 ·cases hm
 ·cases hm
 ·simp_all
theorem q2i.own {P:Program} {O:Objs} {f:FuncId} {args:List AV} {S0:Option AV} {r:RV} (hm:q6K args=false) (h:q2i P O f (.undef :: args) S0 r):CallOwn P O f args S0 r:=by
 cases args with
 | nil=>exact h
 | cons x r=>cases x <;> first | exact h | (simp [q6K] at hm; done)
theorem free_rep {ι':Ix} {av avb avl:Av} {x:AV} {v:Value} (h:RepS ι av avb w x v) (hx:x.free=true):RepS ι' av avl w x v:=by
  cases x <;> first
    | exact h
    | (simp [AV.free,AV.free0] at hx; done)
    | (obtain ⟨us,hv,hc⟩:=h
       exact ⟨us,hv,q27 (q4r hc fun y hy=>y4.1 hx y hy)⟩)
theorem CellsB_mk {av avb:Av}:∀ {cs:List AV} {us:List Value} {b off:Nat},RepL av w cs us->(∀ (j:Nat) (u:Value),us[j]?=some u->w.cell? ⟨b,off + j,none⟩=some u/\¬ avb b (off + j))->q1G av avb w cs b off
 | [],_,_,_,_,_=>by simp [q1G]
 | x :: r,_,b,off,h,hj=>by
  simp only [RepL] at h;obtain ⟨u,sa,rfl,h0,h1,h⟩:=h;simp only [q1G];have h2:=hj 0 u rfl;refine ⟨⟨u,h2.1,h0,h1⟩,h2.2,CellsB_mk h fun j v hv=>?_⟩;have:=hj (j + 1) v (by simpa using hv);rw [show off + 1 + j=off + (j + 1) from by omega];exact this
section
variable (R:Rel P O nt B F0 da w0 D s a w ι Θ) {avl:Av}
include R avl
theorem lend_rep0 {cl:Cl} {y x:AV} (hB:∀ b o,avl b o->avB ι Θ b o) (fJ:∀ t n b o,ι t n=some b->ι.ob t n=none->(∃ sz off len cap,y=.ref t n sz off len cap)->¬ avl b o) {v:Value} {ι':Ix} (hY:RepS ι (avA da ι Θ) (avB ι Θ) w y v) (h:lend s cl y=some x) (mb:∀ t n,y=.ptr t n 0->ι' 0 0=ι t n):RepS ι' (avA da ι Θ) avl w x v:=by
 unfold lend at h;split at h
 ·rename_i t n sz off len cap;split at h
  ·cases hm:s.mem t n with
   | none=>rw [hm] at h; cases h
   | some r =>
    rw [hm,V] at h;cases hr:q2R r sz off len with
    | none=>rw [hr] at h; cases h
    | some m =>
     rw [hr] at h;cases h;obtain ⟨b,hb,wb,cc,xf,_,hv⟩:=q4Y.1 hY;obtain ⟨tc,b',cur,ty,ua,ra,ka,_⟩:=R.rows t n r hm;rw [hb] at ua;injection ua with ua
     subst ua;obtain ⟨h1,h2,us,hl,rd⟩:=q6N ka ra hr;subst h1;exact ⟨_,cc,hv,Nat.le_trans wb xf,fun c hc c' cf=>(h2 c hc).trans (h2 c' cf).symm,fun _=>⟨b,off,rfl,q6q.2 (CellsB_mk hl fun j u hj=>⟨rd j u hj,fJ t n b _ hb tc ⟨_,_,_,_,rfl⟩⟩)⟩⟩
  ·cases h
 ·cases h;obtain ⟨a',c,hv,hc,hu,hs⟩:=hY;refine ⟨a',c,hv,hc,hu,fun h0=>?_⟩;obtain ⟨b,off,ha,hr⟩:=hs h0;exact ⟨b,off,ha,q95.held (Held.refl _ _) (Held.less hB) _ _ _ hr⟩
 ·cases h;obtain ⟨b,off,hv,hc⟩:=hY;exact ⟨b,off,hv,q1G.held (Held.refl _ _) (Held.less hB) _ _ _ hc⟩
 ·rename_i t n off;split at h
  ·rename_i hc;cases h;obtain ⟨h0,_,_⟩:=hc;subst h0;obtain ⟨b,hb,hv⟩:=q48.1 hY;exact ⟨b,(mb t n rfl).trans hb,hv⟩
  ·cases h
 ·split at h
  ·rename_i hf;cases h;exact free_rep hY hf
  ·cases h
theorem lend_rep (mf:∀ b o,avl b o->∃ t n H,ι.ob t n=some H/\H b) {cl:Cl} {y x:AV} {v:Value} {ι':Ix} (hY:RepS ι (avA da ι Θ) (avB ι Θ) w y v) (h:lend s cl y=some x) (mb:∀ t n,y=.ptr t n 0->ι' 0 0=ι t n):RepS ι' (avA da ι Θ) avl w x v :=
 lend_rep0 R (fun b o h=>.inl (.inr (mf b o h))) (fun t n b o hb tc _ h=>by
  obtain ⟨t',n',H,ho,hH⟩:=mf _ _ h;obtain ⟨e1,e2⟩:=((R.obs _ _ _ ho).1 _ hH).2.2.1 _ _ hb;rw [e1,e2,ho] at tc;cases tc) hY h mb
theorem lendP_rep (mf:∀ b o,avl b o->∃ t n H,ι.ob t n=some H/\H b) {cl:Cl} {y x:AV} {v:Value} {ι':Ix} (hY:RepP ι (avA da ι Θ) (avB ι Θ) w y v) (h:lendP s cl y=some x):RepP ι' (avA da ι Θ) avl w x v:=by
 have hB:∀ b o,avl b o->avB ι Θ b o:=fun b o h=>.inl (.inr (mf b o h))
 unfold lendP at h;split at h
 ·rename_i t n off;split at h
  ·split at h
   ·rename_i r hm;split at h
    ·rename_i ta;cases h;obtain ⟨b,hb,hv⟩:=hY;obtain ⟨tc,b',cur,ty,ua,ra,ka,_⟩:=R.rows t n r hm;rw [hb] at ua;injection ua with ua
     subst ua;have ec:=q3a off ka.rep;rw [<- List.map_drop] at ec;have ne:∀ x∈(r.drop off).map (·.v),x.free0=true:=fun x hx=>by
      grind
     refine ⟨b,off,hv,CellsB_mk (q4r ec ne) fun j u hu=>⟨?_,fun h=>?_⟩⟩
     ·rw [yQ] at hu;have hj:off + j<r.length:=by
       grind
      rw [List.getElem?_take_of_lt hj] at hu;simp only [World.cell?,ra];simp_all
     ·obtain ⟨t',n',H,ho,hH⟩:=mf _ _ h;obtain ⟨e1,e2⟩:=((R.obs _ _ _ ho).1 _ hH).2.2.1 _ _ hb;simp_all
    ·cases h
   ·cases h
  ·cases h
 ·cases h;obtain ⟨b,off,hv,hc⟩:=hY;exact ⟨b,off,hv,q1G.held (Held.refl _ _) (Held.less hB) _ _ _ hc⟩
 ·cases h;exact hY
 ·cases h
end
theorem qar (R:Rel P O nt B F0 da w0 D s a w ι Θ) {avl:Av} (mf:∀ b o,avl b o->∃ t n H,ι.ob t n=some H/\H b) {cl:Cl} {ι':Ix}:∀ {ys xs:List AV} {us:List Value},q6v ι (avA da ι Θ) (avB ι Θ) w ys us->q2G s cl ys=some xs->q6v ι' (avA da ι Θ) avl w xs us
 | [],xs,us,hY,h=>by
  injection h with h;subst h;exact hY
 | y :: r,xs,us,hY,h=>by
  obtain ⟨u,sa,rfl,h0,hY⟩:=hY;unfold q2G at h;split at h
  ·rename_i v vs hv hr;injection h with h;subst h;exact ⟨u,sa,rfl,lendP_rep R mf h0 hv,qar R mf hY hr⟩
  ·cases h
theorem lendF_rep (R:Rel P O nt B F0 da w0 D s a w ι Θ) {avl:Av} (mf:∀ b o,avl b o->∃ t n H,ι.ob t n=some H/\H b) {cl:Cl} {y x:AV} {v:Value} {ι':Ix} (hY:RepS ι (avA da ι Θ) (avB ι Θ) w y v) (h:q5y s cl y=some x) (mb:∀ t n,y=.ptr t n 0->ι' 0 0=ι t n):RepS ι' (avA da ι Θ) avl w x v:=by
 unfold q5y at h;split at h
 ·rename_i f cs;obtain ⟨ws,hw,h⟩:=yg.1 h;subst h;obtain ⟨us,hv,hc⟩:=hY;exact ⟨us,hv,qar R mf hc hw⟩
 ·exact lend_rep R mf hY h mb
theorem RepA_ofPL {ι':Ix} {av avl:Av}:∀ {xs:List AV} {us:List Value},(∀ x∈xs,x.capOk=true)->q6v ι' av avl w xs us->RepA ι' av avl w xs us
 | [],_,_,h=>h
 | x :: r,_,hc,h=>by
  obtain ⟨u,sa,rfl,h0,h⟩:=h;refine ⟨u,sa,rfl,?_,RepA_ofPL (fun y hy=>hc y (yq _ hy)) h⟩;have:=hc x (yk);cases x <;> first | (simp [AV.capOk] at this; done) | exact h0
theorem RepA_append {ι':Ix} {av avl:Av}:∀ {xs ys:List AV} {us vs:List Value},RepA ι' av avl w xs us->RepA ι' av avl w ys vs->RepA ι' av avl w (xs++ys) (us++vs)
 | [],_,_,_,h,h'=>by cases h; exact h'
 | x :: r,_,_,_,h,h'=>by
  obtain ⟨u,sa,rfl,h0,h⟩:=h;exact ⟨u,sa++_,rfl,h0,RepA_append h h'⟩
theorem lendPs_ok {cl:Cl}:∀ {ys xs:List AV},q2G s cl ys=some xs->∀ x∈xs,x.capOk=true
 | [],xs,h=>by injection h with h; subst h; intro x hx; cases hx
 | y :: r,xs,h=>by
  unfold q2G at h;split at h
  ·rename_i v vs hv hr;injection h with h;subst h;intro x hx;rcases yf.1 hx with rfl | hx
   ·unfold lendP at hv;split at hv
    ·split at hv
     ·split at hv
      ·split at hv
       ·injection hv with hv; subst hv; rfl
       ·cases hv
      ·cases hv
     ·cases hv
    ·injection hv with hv; subst hv; rfl
    ·injection hv with hv; subst hv; rfl
    ·cases hv
   ·exact lendPs_ok hr x hx
  ·cases h
theorem q6I (R:Rel P O nt B F0 da w0 D s a w ι Θ) {avl:Av} (mf:∀ b o,avl b o->∃ t n H,ι.ob t n=some H/\H b) {cl:Cl} {ι':Ix}:∀ {Xs:List Operand} {xs:List Opd} {vs:List AV},opdL Xs=some xs->q30 s cl xs=some vs->(∀ x∈xs,∀ t n,x.get s=.ptr t n 0->ι' 0 0=ι t n)->RepA ι' (avA da ι Θ) avl w vs (Xs.map a.eval)
 | [],xs,vs,h,hl,_=>by
  injection h with h;subst h;injection hl with hl;subst hl;rfl
 | X :: Xs,xs,vs,h,hl,mb=>by
  unfold opdL at h;split at h
  ·rename_i x l hx hr;injection h with h;subst h;unfold q30 at hl;split at hl
   ·rename_i v dv hv ff;injection hl with hl;subst hl;exact ⟨_,_,rfl,lendF_rep R mf (R.opd hx).1 hv (mb x (yk)),q6I R mf hr ff fun y hy=>mb y (yq _ hy)⟩
   ·cases hl
  ·cases h
theorem named_rep {p d n:Nat} {ι':Ix} {av avb:Av} {x:AV} {v:Value} (h:RepN p av w x v) (hp:ι' d n=some p) (hx:x.backN=true):RepS ι' av avb w (x.named d n) v:=by
 have one:∀ {x:AV} {u:Value},RepO p av w x u->RepC ι' av w (if x.isObj then .ptr d n 0 else x) u:=fun {x u} h=>by
  unfold RepO at h;split at h
  ·rename_i ho; rw [if_pos ho]; exact ⟨p,hp,h⟩
  ·rename_i ho; rw [if_neg ho]; exact q6u h
 have oneU:∀ {x:AV} {u:Value},RepO p av w x u->RepU ι' av w (if x.isObj then .ptr d n 0 else x) u:=fun {x u} h=>by
  unfold RepO at h;split at h
  ·rename_i ho; rw [if_pos ho]; exact ⟨p,hp,h⟩
  ·rename_i ho; rw [if_neg ho]; exact q49 h
 have all:∀ {xs:List AV} {us:List Value},q94 p av w xs us->q62 ι' av w (xs.map fun v=>if v.isObj then .ptr d n 0 else v) us:=by
  intro xs
  induction xs with
  | nil=>intro us h; simpa [q94,q62] using h
  | cons x r ih =>
   intro us h;simp only [q94] at h;obtain ⟨u,sa,rfl,h0,h⟩:=h;exact ⟨u,sa,rfl,oneU h0,ih h⟩
 cases x with
 | tup vs =>
  obtain ⟨us,hv,hc⟩:=h;exact ⟨us,hv,all hc⟩
 | ptr t' n' off =>
  have h1:=one (x:=.ptr t' n' off) h;have h2:(AV.ptr t' n' off).isObj=true:=hx;simp only [h2,if_true] at h1;show RepS ι' av avb w (if (AV.ptr t' n' off).isObj then .ptr d n 0 else .ptr t' n' off) v;rw [if_pos h2];exact h1
 | _=>simp [AV.backN,AV.isObj] at hx
theorem RepO.held {p:Nat} {av eb:Av} {w w':World} (h:Held av eb w w') {x:AV} {v:Value} (hr:RepO p av w x v):RepO p eb w' x v:=by
 unfold RepO at hr ⊢;split at hr
 ·rename_i ho; rw [if_pos ho]; exact hr
 ·rename_i ho; rw [if_neg ho]; exact Rep.held h _ _ hr
theorem RepN.held {p:Nat} {av eb:Av} {w w':World} (h:Held av eb w w') {x:AV} {v:Value} (hr:RepN p av w x v):RepN p eb w' x v:=by
 have all:∀ {xs:List AV} {us:List Value},q94 p av w xs us->q94 p eb w' xs us:=by
  intro xs
  induction xs with
  | nil=>intro us h; exact h
  | cons x r ih =>
   intro us h';simp only [q94] at h' ⊢;obtain ⟨u,sa,rfl,h0,h'⟩:=h';exact ⟨u,sa,rfl,RepO.held h h0,ih h'⟩
 cases x <;> first | exact RepO.held h hr | (obtain ⟨us,hv,hc⟩:=hr; exact ⟨us,hv,all hc⟩)
theorem Rel.turnObj (R:Rel P O nt B F0 da w0 D s a w ι Θ) {t n p:Nat} {H H':Nat->Prop} {S':AV} (hp:ι t n=some p) (mb:ι.ob t n=some H) (wc:O.at_ S' H' p w') (tj:Tie ι S' p w') (hH:∀ b,H' b->H b\/w.heap.size<=b) (hk:Keep H w w') :
  ∃ ι':Ix,Rel P O nt B F0 da w0 D (s.setObj t n S') a w' ι' Θ/\Held (fun b o=>avA da ι Θ b o\/H' b) (avA da ι' Θ) w' w':=by
 obtain ⟨wn,ot⟩:=R.obs t n H mb;have uh:∀ t' n' H1,(if t'=t/\n'=n then some H' else ι.ob t' n')=some H1->(t'=t/\n'=n/\H1=H')\/(¬ (t'=t/\n'=n)/\ι.ob t' n'=some H1):=fun t' n' H1 h=>by
  grind
 have ri:∀ b o,b<w.heap.size->avB ⟨ι.f,fun t' n'=>if t'=t/\n'=n then some H' else ι.ob t' n',ι.z⟩ Θ b o->avB ι Θ b o:=fun b o hb h=>h.imp (fun h=>h.imp id fun ⟨t',n',H1,h1,h2⟩=>by
  rcases uh _ _ _ h1 with ⟨e1,e2,e3⟩ | ⟨_,h1⟩
  ·subst e3;rcases hH b h2 with h3 | h3
   ·exact ⟨t,n,H,mb,h3⟩
   ·omega
  ·exact ⟨t',n',H1,h1,h2⟩) id
 have rg:∀ t1 n1 b1 H1,ι t1 n1=some b1->ι.ob t1 n1=some H1->(⟨ι.f,fun t' n'=>if t'=t/\n'=n then some H' else ι.ob t' n',ι.z⟩:Ix) t1 n1=some b1/\∃ H2,(⟨ι.f,fun t' n'=>if t'=t/\n'=n then some H' else ι.ob t' n',ι.z⟩:Ix).ob t1 n1=some H2:=fun t1 n1 b1 H1 g1 g2=>⟨g1,by
  by_cases e:t1=t/\n1=n
  ·exact ⟨H',by simp only [if_pos e]⟩
  ·exact ⟨H1,by simp only [if_neg e]; exact g2⟩⟩
 have pb:∀ b o u,w.cell? ⟨b,o,none⟩=some u->¬ H b->w'.cell? ⟨b,o,none⟩=some u:=fun b o u hc hn=>(World.cell?_of_block (w:=w) (a:=⟨b,o,none⟩) (hk.block b (q5R hc) hn)).trans hc
 have hB:Held (avB ι Θ) (avB ⟨ι.f,fun t' n'=>if t'=t/\n'=n then some H' else ι.ob t' n',ι.z⟩ Θ) w w':=⟨fun b o u hc hn=>⟨pb b o u hc fun h=>hn (.inl (.inr ⟨t,n,H,mb,h⟩)),fun h=>hn (ri b o (q5R hc) h)⟩⟩;have hA:Held (avA da ι Θ) (avA da ⟨ι.f,fun t' n'=>if t'=t/\n'=n then some H' else ι.ob t' n',ι.z⟩ Θ) w w':=⟨fun b o u hc hn=>⟨pb b o u hc fun h=>hn (.inr (.inl (.inr ⟨t,n,H,mb,h⟩))),fun h=>hn (h.imp id (ri b o (q5R hc)))⟩⟩;have ar:=R.lowB;have ic:=hk.size;have jH:∀ t1,RepS ⟨ι.f,fun t' n'=>if t'=t/\n'=n then some H' else ι.ob t' n',ι.z⟩ (avA da ⟨ι.f,fun t' n'=>if t'=t/\n'=n then some H' else ι.ob t' n',ι.z⟩ Θ) (avB ⟨ι.f,fun t' n'=>if t'=t/\n'=n then some H' else ι.ob t' n',ι.z⟩ Θ) w' (s.env t1).v (a.tmps.getD t1 undef):=fun t1=>RepS.held (ι:=ι) (ι':=⟨ι.f,fun t' n'=>if t'=t/\n'=n then some H' else ι.ob t' n',ι.z⟩) ⟨fun _ _ _ h=>h,fun _ _ _ _=>rfl⟩ hA hB _ _ (R.env t1)
 have rH:∀ t1,RepS ⟨ι.f,fun t' n'=>if t'=t/\n'=n then some H' else ι.ob t' n',ι.z⟩ (avA da ⟨ι.f,fun t' n'=>if t'=t/\n'=n then some H' else ι.ob t' n',ι.z⟩ Θ) (avB ⟨ι.f,fun t' n'=>if t'=t/\n'=n then some H' else ι.ob t' n',ι.z⟩ Θ) w' (s.gh t1).v (F0.g t1):=fun t1=>RepS.held (ι:=ι) (ι':=⟨ι.f,fun t' n'=>if t'=t/\n'=n then some H' else ι.ob t' n',ι.z⟩) ⟨fun _ _ _ h=>h,fun _ _ _ _=>rfl⟩ hA hB _ _ (R.gen t1)
 refine ⟨⟨ι.f,fun t' n'=>if t'=t/\n'=n then some H' else ι.ob t' n',ι.z⟩,⟨R.defers,R.size,jH,R.ann,fun t' n' r hr=>?_,fun t' n' b h=>?_,R.inj,fun k o h=>?_,R.tinj,R.apart,R.out,(fun p' h=>⟨(R.pin p' h).1,by
  rcases (R.pin p' h).2 with bA | ⟨H1,h1⟩
  ·exact .inl bA
  refine .inr ?_;show ∃ H2,(if 0=t/\0=n then some H' else ι.ob 0 0)=some H2;split
  ·exact ⟨_,rfl⟩
  ·exact ⟨H1,h1⟩⟩),?_,R.base,fun t' n' S1 h=>?_,fun t' n' H1 h=>?_,rH,R.gann⟩,?_⟩
 ·obtain ⟨h0,b,cur,ty,h1,h2,h3,h8⟩:=R.rows t' n' r hr;have oa:¬ (t'=t/\n'=n):=fun e=>by rw [e.1,e.2,mb] at h0; cases h0
  have dC:¬ H b:=fun hb=>oa ((wn b hb).2.2.1 t' n' h1)
  exact ⟨by simp only [if_neg oa]; exact h0,b,cur,ty,h1,(hk.block b (q0h h2) dC).trans h2,h3.held ⟨fun _ _ _ h=>h,fun _ _ _ _=>rfl⟩ hA (fun _ _ h=>h),h8⟩
 ·obtain ⟨h1,h2,h3⟩:=R.mine t' n' b h;exact ⟨h1,by omega,h3⟩
 ·obtain ⟨h1,h2,h3,h4,lb,h5,h6⟩:=R.tok k o h;exact ⟨h1,h2,h3,h4,lb,(hk.block _ (q0h h5) (R.apob h mb)).trans h5,h6⟩
 ·refine R.kept.trans hk fun i hi h=>?_
  have:=R.base
  grind
 ·simp only [MSt.setObj] at h;split at h
  ·rename_i e;injection h with h;subst h;exact ⟨p,H',by rw [e.1,e.2]; exact hp,by simp only [if_pos e],wc,tj.keep rg fun x hx=>hx⟩
  ·rename_i e;obtain ⟨p1,H1,h1,h2,h3,h4⟩:=R.objs t' n' S1 h;have zo:∀ b,H1 b->¬ H b:=fun b hb ua=>e ((wn b ua).2.2.2.2 t' n' H1 h2 hb)
   exact ⟨p1,H1,h1,by simp only [if_neg e]; exact h2,O.keep h3 (fun b hb=>hk.block b (O.lt h3 hb) (zo b hb)) ic,h4.keep rg fun x hx=>(hk.block _ (q0h hx) (zo _ (O.main h3))).trans hx⟩
 ·rcases uh _ _ _ h with ⟨e1,e2,e3⟩ | ⟨e,h⟩
  ·subst e1; subst e2; subst e3;refine ⟨fun b hb=>?_,ot⟩;rcases hH b hb with h1 | h1
   ·grind
   ·refine ⟨.inl (by omega),O.lt wc hb,fun t1 n1 h2=>?_,fun k o h2 e=>?_,fun t1 n1 H2 h2 h3=>?_⟩
    ·have:=(R.mine _ _ _ h2).2.1; omega
    ·obtain ⟨_,_,_,_,lb,h5,_⟩:=R.tok k o h2; have:=q0h h5; omega
    ·rcases uh _ _ _ h2 with ⟨e1,e2,_⟩ | ⟨_,h2⟩
     ·omega
     ·have:=((R.obs _ _ _ h2).1 b h3).2.1; omega
  ·obtain ⟨h1,h2⟩:=R.obs t' n' H1 h;refine ⟨fun b hb=>?_,h2⟩;obtain ⟨g1,g2,g3,g4,g5⟩:=h1 b hb;refine ⟨g1,by omega,g3,g4,fun t1 n1 H2 h2 h3=>?_⟩;rcases uh _ _ _ h2 with ⟨e1,e2,e3⟩ | ⟨_,h2⟩
   ·subst e3;rcases hH b h3 with h4 | h4
    ·have:=g5 t n H mb h4;omega
    ·omega
   ·exact g5 t1 n1 H2 h2 h3
 ·refine Held.less fun b o h=>?_
  rcases h with h | h | h
  ·exact .inl (.inl h)
  ·rcases h with h | ⟨t1,n1,H2,h2,h3⟩
   ·exact .inl (.inr (.inl (.inl h)))
   ·rcases uh _ _ _ h2 with ⟨_,_,e3⟩ | ⟨_,h2⟩
    ·grind
    ·exact .inl (.inr (.inl (.inr ⟨t1,n1,H2,h2,h3⟩)))
  ·exact .inl (.inr (.inr h))
theorem Rel.newObj (R:Rel P O nt B F0 da w0 D s a w ι Θ) {d p:Nat} {H:Nat->Prop} {S:AV} (hb:Below w.heap.size w w') (hD:¬ D d) (wc:O.at_ S H p w') (tj:Tie ι S p w') (hH:∀ b,H b->w.heap.size<=b) :
  ∃ ι':Ix,Rel P O nt B F0 da w0 (fun t=>D t\/t=d) (s.setObj d s.next S) a w' ι' Θ/\ι' d s.next=some p/\Held (fun b o=>avA da ι Θ b o\/H b) (avA da ι' Θ) w' w':=by
 have ar:=R.lowB;have ic:=hb.size;have lF:=hH p (O.main wc);have ge:ι d s.next=none:=by
  cases h:ι d s.next with
  | none=>rfl
  | some b =>
   rcases (R.mine _ _ _ h).2.2 with h1 | h1
   ·omega
   ·simp_all
 have ee:ι.ob d s.next=none:=by
  cases h:ι.ob d s.next with
  | none=>rfl
  | some b =>
   rcases (R.obs _ _ _ h).2 with h1 | h1
   ·omega
   ·simp_all
 have hmemn:s.mem d s.next=none:=by
  cases h:s.mem d s.next with
  | none=>rfl
  | some r=>obtain ⟨_,b,cur,ty,h1,_⟩:=R.rows _ _ _ h; rw [ge] at h1; cases h1
 obtain ⟨ι',hι'⟩:∃ ι':Ix,ι'=⟨fun t' n'=>if t'=d/\n'=s.next then some p else ι t' n',fun t' n'=>if t'=d/\n'=s.next then some H else ι.ob t' n',ι.z⟩:=⟨_,rfl⟩;have hf:∀ t' n' b,ι' t' n'=some b->(t'=d/\n'=s.next/\b=p)\/(¬ (t'=d/\n'=s.next)/\ι t' n'=some b):=fun t' n' b h=>by
  subst hι'
  grind
 have ho:∀ t' n' H1,ι'.ob t' n'=some H1->(t'=d/\n'=s.next/\H1=H)\/(¬ (t'=d/\n'=s.next)/\ι.ob t' n'=some H1):=fun t' n' H1 h=>by
  subst hι'
  grind
 have nc:∀ t n b,ι t n=some b->ι' t n=some b:=fun t n b h=>by
  subst hι'
  grind
 have jp:∀ t n H1,¬ (t=d/\n=s.next)->ι.ob t n=H1->ι'.ob t n=H1:=fun t n H1 e h=>by
  simp_all
 have tb:ι' d s.next=some p:=by
  simp_all
 have jt:ι'.ob d s.next=some H:=by subst hι'; simp
 have rg:∀ t1 n1 b1 H1,ι t1 n1=some b1->ι.ob t1 n1=some H1->ι' t1 n1=some b1/\∃ H2,ι'.ob t1 n1=some H2:=fun t1 n1 b1 H1 g1 g2=>⟨nc _ _ _ g1,H1,jp _ _ _ (fun e=>by rw [e.1,e.2,ee] at g2; cases g2) g2⟩
 have wq:∀ b,ι'.z b=ι.z b:=fun b=>by subst hι'; rfl
 have wb:Ix.Le ι ι':=⟨nc,fun _ _ _ _=>wq _⟩;clear hι';have ri:∀ b o,b<w.heap.size->avB ι' Θ b o->avB ι Θ b o:=fun b o gk h=>h.imp (fun h=>by
  rcases h with ⟨t',n',h⟩ | ⟨t',n',H1,h,h2⟩
  ·rcases hf _ _ _ h with ⟨_,_,e⟩ | ⟨_,h⟩
   ·omega
   ·exact .inl ⟨t',n',h⟩
  ·rcases ho _ _ _ h with ⟨_,_,e⟩ | ⟨_,h⟩
   ·subst e; have:=hH b h2; omega
   ·exact .inr ⟨t',n',H1,h,h2⟩) id
 have hB:Held (avB ι Θ) (avB ι' Θ) w w':=Held.grown (fun b ua=>hb.block b ua) ri;have hA:Held (avA da ι Θ) (avA da ι' Θ) w w':=Held.grown (fun b ua=>hb.block b ua) fun b o gk h=>h.imp id (ri b o gk)
 refine ⟨ι',⟨R.defers,R.size,fun t=>RepS.held wb hA hB _ _ (R.env t),R.ann,fun t' n' r hr=>?_,fun t' n' b h=>?_,fun t n t' n' b h h'=>?_,fun k o h=>?_,R.tinj,fun k o t n h h'=>?_,R.out,fun p h=>⟨nc _ _ _ (R.pin p h).1,by
  rcases (R.pin p h).2 with bA | ⟨H1,h1⟩
  ·exact .inl ⟨bA.1,(wb.z _ _ _ (R.pin p h).1).trans bA.2⟩
  refine .inr ?_;by_cases e:0=d/\0=s.next
  ·exact ⟨H,by rw [<- e.1,<- e.2] at jt; exact jt⟩
  ·exact ⟨H1,jp _ _ _ e h1⟩⟩,R.kept.trans_below hb,R.base,fun t' n' S1 h=>?_,fun t' n' H1 h=>?_,fun t=>RepS.held wb hA hB _ _ (R.gen t),R.gann⟩,tb,?_⟩
 ·obtain ⟨h0,b,cur,ty,h1,h2,h3,h8,h9⟩:=R.rows t' n' r hr;have oa:¬ (t'=d/\n'=s.next):=fun e=>by
   simp_all
  exact ⟨jp _ _ _ oa h0,b,cur,ty,nc _ _ _ h1,(hb.block b (q0h h2)).trans h2,h3.held wb hA (fun _ _ h=>h),h8,h9.trans (wq _).symm⟩
 ·rcases hf _ _ _ h with ⟨e1,e2,e⟩ | ⟨_,h⟩
  ·subst e;exact ⟨.inl (by omega),O.lt wc (O.main wc),.inr ⟨e2,.inr e1⟩⟩
  ·obtain ⟨h1,h2,h3⟩:=R.mine t' n' b h;exact ⟨h1,by omega,h3.imp id fun ⟨e,d⟩=>⟨e,.inl d⟩⟩
 ·rcases hf _ _ _ h with ⟨e1,e2,e⟩ | ⟨_,h⟩ <;> rcases hf _ _ _ h' with ⟨g1,g2,g⟩ | ⟨_,h'⟩
  ·omega
  ·have:=(R.mine _ _ _ h').2.1; omega
  ·have:=(R.mine _ _ _ h).2.1; omega
  ·exact R.inj t n t' n' b h h'
 ·obtain ⟨h1,h2,h3,h4,lb,h5,h6⟩:=R.tok k o h;exact ⟨h1,h2,h3,h4,lb,(hb.block _ (q0h h5)).trans h5,h6⟩
 ·obtain ⟨_,_,_,_,lb,h5,_⟩:=R.tok k o h;have fa:=q0h h5;rcases hf _ _ _ h' with ⟨_,_,e⟩ | ⟨_,h'⟩
  ·omega
  ·exact R.apart k o t n h h'
 ·simp only [MSt.setObj] at h;split at h
  ·rename_i e;injection h with h;subst h;exact ⟨p,H,by rw [e.1,e.2]; exact tb,by rw [e.1,e.2]; exact jt,wc,tj.keep rg fun x hx=>hx⟩
  ·rename_i e;obtain ⟨p1,H1,h1,h2,h3,h4⟩:=R.objs t' n' S1 h;exact ⟨p1,H1,nc _ _ _ h1,jp _ _ _ e h2,O.keep h3 (fun b ua=>hb.block b (O.lt h3 ua)) ic,h4.keep rg fun x hx=>(hb.block _ (q0h hx)).trans hx⟩
 ·rcases ho _ _ _ h with ⟨e1,e2,e⟩ | ⟨_,h⟩
  ·subst e;refine ⟨fun b ua=>⟨.inl (by have:=hH b ua; omega),O.lt wc ua,fun t1 n1 h2=>?_,fun k o h2 e=>?_,fun t1 n1 H2 h2 h3=>?_⟩,.inr ⟨e2,.inr e1⟩⟩
   ·have:=hH b ua;rcases hf _ _ _ h2 with ⟨g1,g2,_⟩ | ⟨_,h2⟩
    ·omega
    ·have:=(R.mine _ _ _ h2).2.1; omega
   ·have:=hH b ua;obtain ⟨_,_,_,_,lb,h5,_⟩:=R.tok k o h2; have:=q0h h5; omega
   ·have:=hH b ua;rcases ho _ _ _ h2 with ⟨g1,g2,_⟩ | ⟨_,h2⟩
    ·omega
    ·have:=((R.obs _ _ _ h2).1 b h3).2.1; omega
  ·obtain ⟨h1,h2⟩:=R.obs t' n' H1 h;refine ⟨fun b ua=>?_,h2.imp id fun ⟨e,d⟩=>⟨e,.inl d⟩⟩;obtain ⟨g1,g2,g3,g4,g5⟩:=h1 b ua;refine ⟨g1,by omega,fun t1 n1 h2=>?_,g4,fun t1 n1 H2 h2 h3=>?_⟩
   ·grind
   ·grind
 ·refine Held.less fun b o h=>?_
  rcases h with h | h | h
  ·exact .inl (.inl h)
  ·rcases h with ⟨t',n',h⟩ | ⟨t',n',H1,h,h2⟩
   ·rcases hf _ _ _ h with ⟨_,_,e⟩ | ⟨_,h⟩
    ·subst e; exact .inr (O.main wc)
    ·exact .inl (.inr (.inl (.inl ⟨t',n',h⟩)))
   ·rcases ho _ _ _ h with ⟨_,_,e⟩ | ⟨_,h⟩
    ·simp_all
    ·exact .inl (.inr (.inl (.inr ⟨t',n',H1,h,h2⟩)))
  ·exact .inl (.inr (.inr h))
theorem q9V {s:MSt} {cl:Cl}:∀ {xs:List Opd} {vs:List AV},q30 s cl xs=some vs->q6K vs=false
 | [],vs,h=>by injection h with h; subst h; rfl
 | x :: r,vs,h=>by
  unfold q30 at h;split at h
  ·rename_i v us hv hr;injection h with h;subst h;cases v with
   | undef =>
    exfalso;unfold q5y at hv;split at hv
    ·obtain ⟨_,_,hv⟩:=yg.1 hv; cases hv
    unfold lend at hv;split at hv
    ·split at hv
     ·obtain ⟨_,_,hv⟩:=yg.1 hv; cases hv
     ·cases hv
    ·injection hv with hv; cases hv
    ·injection hv with hv; cases hv
    ·split at hv
     ·injection hv with hv; cases hv
     ·cases hv
    ·split at hv
     ·rename_i hf; injection hv with hv; rw [hv] at hf; cases hf
     ·cases hv
   | _=>rfl
  ·cases h
section
variable (R:Rel P O nt B F0 da w0 D s a w ι Θ) {call:q18} (wa:∀ f args S r,call f args S=some r->q2i P O f args S r)
include R call wa
theorem op_call {f:FuncId} {Xs:Array Operand} {ts:Array TypeId} {xs:List Opd} (hx:opdL Xs.toList=some xs) (ho:o.op=.call { callee:=.value (.func f),args:=Xs,argTypes:=ts }) (hd:∀ d,o.dst=some d->d<nt) (hD:∀ d,o.dst=some d->¬ D d) {cl:Cl} {xe:Slot × Eff} (hr:(K.call cl f xs).run call s=some xe) {g} {s':MSt} (he:OpC.eff ⟨o.dst,.call cl f xs,g⟩ s xe=some s')
  {Kn:Act->World->Prop} {Q:Exit->Act->World->Prop} (hK:∀ a' w',RelE P O nt B F0 da w0 (fun t=>D t\/o.dst=some t) s' a' w'->Kn a' w'):o.wp P a w Kn Q:=by
 simp only [K.run] at hr;obtain ⟨vs,hl,hr⟩:=y8.1 hr;have md:(Xs.toList.map a.eval).toArray=Xs.map a.eval:=by rw [<- Array.toList_map,yT]
 have run:∀ {S0:Option AV} {r:RV},CallOk0 P O f vs S0 r->(execOp a.eval o).run P w=.ok (.enter f (Xs.map a.eval)) w:=fun h=>by
  simp only [execOp,ho,resolve,Act.eval,Deferred.ofValue,Sem.run_bind,Sem.run_pure,Result.andThen_ok,invoke];have:=h.1 (#[]++Xs.map a.eval++#[]) w;simp_all
 have se:∀ b o,avA da ι Θ b o->b<w.heap.size:=fun b o h=>R.low h
 split at hr
 ·rename_i il;have nob:∀ x∈xs,∀ t n,x.get s=.ptr t n 0->False:=fun x hx t n h=>by
   have:(t,n)∈q79 s xs:=List.mem_filterMap.2 ⟨x,hx,by rw [h]⟩;simp_all
  have lc:=q6I (ι':=Ix.none) (avl:=fun _ _=>False) R (fun _ _ h=>h.elim) hx hl fun x hx t n h=>(nob x hx t n h).elim
  obtain ⟨r,hc,hr⟩:=y8.1 hr;have la:=(q2i.of (q9V hl)).1 (wa f vs none r hc);obtain ⟨r1,r2⟩:=r;unfold Oper.wp;rw [run la,Oper.upon_enter];cases r2 with
  | none =>
   simp only at hr;split at hr
   ·cases hr;simp only [OpC.eff] at he;cases he;have hC:=la.2 (avA da ι Θ) w _ se lc;rw [md] at hC;refine hC.mono ?_;rintro e w' ⟨v,rfl,hv,hb⟩;have R':Rel P O nt B F0 da w0 D s a w' ι Θ:=R.grow (fun b ua=>hb.block b ua) hb.size (R.kept.trans_below hb);exact hK _ _ ⟨ι,Θ,(R'.putN (x:=⟨_,.no⟩) hd (q8G hv) trivial).more fun _ h=>.inl h⟩
   ·cases hr
  | some S' =>
   simp only at hr;split at hr
   ·rename_i oo;cases hr;simp only [OpC.eff] at he;split at he
    ·cases he
    ·rename_i d ca;cases he;have hC:=la.2 (avA da ι Θ) w _ se lc;rw [md] at hC;refine hC.mono ?_;rintro e w' ⟨v,p,H',rfl,hv,wc,hH,hb⟩;obtain ⟨ι',R2,hι,td⟩:=R.newObj (d:=d) hb (hD d ca) wc (Tie.no oo.2.2) hH;rw [ca];refine hK _ _ ⟨ι',Θ,(R2.put (x:=⟨_,.no⟩) (hd d ca) (named_rep (RepN.held td hv) hι oo.1) trivial).more fun t h=>h.imp id fun e=>by rw [ca,e]⟩
   ·cases hr
 ·rename_i t n eo;obtain ⟨r,hc,hr⟩:=y8.1 hr;obtain ⟨r1,r2⟩:=r;cases r2 with
  | none=>cases hr
  | some S' =>
   simp only at hr;split at hr
   ·rename_i aa;cases hr;simp only [OpC.eff] at he;cases he;obtain ⟨S,hS⟩:=Option.isSome_iff_exists.1 aa.2.1;rw [hS] at hc;have la:=(q2i.of (q9V hl)).1 (wa f vs (some S) _ hc);obtain ⟨p,H,hp,mb,wc,_⟩:=R.objs t n S hS;have lc:=q6I (ι':=Ix.one p) (avl:=fun b _=>H b) R (fun b _ h=>⟨t,n,H,mb,h⟩) hx hl fun x hx t' n' h=>by
     have:(t',n')∈q79 s xs:=List.mem_filterMap.2 ⟨x,hx,by rw [h]⟩;rw [eo] at this;have:=yU.1 this;injection this with e1 e2;rw [e1,e2,hp];rfl
    unfold Oper.wp;rw [run la,Oper.upon_enter];have hC:=la.2 (avA da ι Θ) w _ p H se (fun b o h=>.inr (.inl (.inr ⟨t,n,H,mb,h⟩))) wc lc;rw [md] at hC;refine hC.mono ?_;rintro e w' ⟨v,H',rfl,hv,bi,hH,hk⟩;obtain ⟨ι',R',td⟩:=R.turnObj hp mb bi (Tie.no aa.2.2) hH hk;refine hK _ _ ⟨ι',Θ,(R'.putN (x:=⟨_,.no⟩) hd (q8G (Rep.held td _ _ hv)) trivial).more fun _ h=>.inl h⟩
   ·cases hr
 ·cases hr
theorem op_callv {tf:Nat} {Xs:Array Operand} {ts:Array TypeId} {xs:List Opd} (hx:opdL Xs.toList=some xs) (ho:o.op=.call { callee:=.value (.tmp tf),args:=Xs,argTypes:=ts }) (hd:∀ d,o.dst=some d->d<nt) {cl:Cl} {xe:Slot × Eff} (hr:(K.callv cl (.t tf) xs).run call s=some xe) {g} {s':MSt} (he:OpC.eff ⟨o.dst,.callv cl (.t tf) xs,g⟩ s xe=some s')
  {Kn:Act->World->Prop} {Q:Exit->Act->World->Prop} (hK:∀ a' w',RelE P O nt B F0 da w0 (fun t=>D t\/o.dst=some t) s' a' w'->Kn a' w'):o.wp P a w Kn Q:=by
 simp only [K.run,Opd.get] at hr;have hF:=R.env tf;split at hr
 ·rename_i f cs pq;rw [pq] at hF;obtain ⟨us,bd,kj⟩:=hF;split at hr
  ·rename_i vs ws hl hw il;have se:∀ b o,avA da ι Θ b o->b<w.heap.size:=fun b o h=>R.low h
   have nob:∀ x∈xs,∀ t n,x.get s=.ptr t n 0->False:=fun x hx t n h=>by
    have:(t,n)∈q79 s xs:=List.mem_filterMap.2 ⟨x,hx,by rw [h]⟩;simp_all
   have lc:=q6I (ι':=Ix.none) (avl:=fun _ _=>False) R (fun _ _ h=>h.elim) hx hl fun x hx t n h=>(nob x hx t n h).elim
   have cC:=RepA_ofPL (lendPs_ok hw) (qar (ι':=Ix.none) (avl:=fun _ _=>False) R (fun _ _ h=>h.elim) kj hw);have ta:=RepA_append lc cC;obtain ⟨r,hc,hr⟩:=y8.1 hr;have hm:q6K (vs++ws)=false:=by
    cases vs with
    | cons v r=>have:=q9V hl; cases v <;> first | rfl | exact this
    | nil =>
     cases ws with
     | nil=>rfl
     | cons v r =>
      have:=lendPs_ok hw v (yk);cases v <;> first | rfl | (simp [AV.capOk] at this; done)
   have la:=(q2i.of hm).1 (wa f (vs++ws) none r hc);obtain ⟨r1,r2⟩:=r;cases r2 with
   | some S'=>cases hr
   | none =>
    simp only at hr;split at hr
    ·cases hr;simp only [OpC.eff] at he;cases he;have md:(Xs.toList.map a.eval++us.toList).toArray=Xs.map a.eval++us:=by
      simp_all
     have run:(execOp a.eval o).run P w=.ok (.enter f (Xs.map a.eval++us)) w:=by
      have bz:a.eval (.tmp tf)=.func (.func f) #[] us:=bd;simp only [execOp,ho,resolve,bz,Deferred.ofValue,Sem.run_bind,Sem.run_pure,Result.andThen_ok,invoke];have:=la.1 (#[]++Xs.map a.eval++us) w;simp_all
     unfold Oper.wp;rw [run,Oper.upon_enter];have hC:=la.2 (avA da ι Θ) w _ se ta;rw [md] at hC;refine hC.mono ?_;rintro e w' ⟨v,rfl,hv,hb⟩;have R':Rel P O nt B F0 da w0 D s a w' ι Θ:=R.grow (fun b ua=>hb.block b ua) hb.size (R.kept.trans_below hb);exact hK _ _ ⟨ι,Θ,(R'.putN (x:=⟨_,.no⟩) hd (q8G hv) trivial).more fun _ h=>.inl h⟩
    ·cases hr
  ·cases hr
 ·cases hr
end
theorem val_rstr (R:Rel P O nt B F0 da w0 D s a w ι Θ) {t t':TypeId} {k:IntKind} (ht:P.underlying t=some (.int k)) (mB:P.underlying t'=some .string) {X:Operand} {x:Opd} (hx:opd X=some x) (ho:o.op=.convert t t' X)
  {call} {y:Slot} {e:Eff} (hr:(K.rstr x).run call s=some (y,e)):e=.none/\Val P da a w ι Θ o y:=by
 have hX:=(R.opd hx).1;simp only [K.run] at hr;split at hr
 ·rename_i k' n hy;injection hr with hr; injection hr with h1 h2; subst h1; subst h2;rw [hy,q0E] at hX;exact ⟨rfl,.string (Utf8.encode n),by simp [execOp,ho,convert,run_underlying ht,run_underlying mB,hX,Conv.intToString],by rw [q4Z],trivial⟩
 ·cases hr
theorem qaW {av:Av}:∀ {m:List (List AV)} {bs:List UInt8} {us:List Value},bytesOf m=some bs->RepL av w m.flatten us->∃ ns:List Int,us=ns.map (Value.int .u8)/\bs=ns.map (fun n=>UInt8.ofNat n.toNat)/\∀ c∈m,c.length=1
 | [],bs,us,hb,h=>by
  injection hb with hb;subst hb;cases h;exact ⟨[],rfl,rfl,by simp⟩
 | c :: r,bs,us,hb,h=>by
  unfold bytesOf at hb;split at hb
  ·rename_i n l hr;injection hb with hb;subst hb;simp only [yB,List.cons_append,List.nil_append,RepL] at h;obtain ⟨u,sa,rfl,h0,_,h⟩:=h;obtain ⟨ns,e1,e2,e3⟩:=qaW hr h;refine ⟨n :: ns,?_,by rw [e2]; rfl,?_⟩
   ·simp only [Rep] at h0;rw [h0,e1]; rfl
   ·intro c hc;rcases yf.1 hc with rfl | hc
    ·rfl
    ·exact e3 c hc
  ·cases hb
theorem push_fold:∀ (ns:List Int) (acc:ByteArray),ns.foldl (fun r n=>r.push (UInt8.ofNat n.toNat)) acc=⟨acc.data++(ns.map fun n=>UInt8.ofNat n.toNat).toArray⟩
 | [],acc=>by simp
 | n :: r,acc=>by
  rw [List.foldl_cons,push_fold r];congr 1;apply Array.ext';simp [ByteArray.push]
theorem val_bstr (R:Rel P O nt B F0 da w0 D s a w ι Θ) {t t' e':TypeId} (ht:P.underlying t=some (.slice e')) (tg:P.underlying e'=some (.int .u8)) (mB:P.underlying t'=some .string) {X:Operand} {x:Opd} (hx:opd X=some x) (ho:o.op=.convert t t' X)
  {call} {cl:Cl} {y:Slot} {e:Eff} (hr:(K.bstr cl x).run call s=some (y,e)):e=.none/\Val P da a w ι Θ o y:=by
 have hX:=(R.opd hx).1;simp only [K.run] at hr;split at hr
 ·rename_i m hm;obtain ⟨bs,ov,hr⟩:=yg.1 hr;injection hr with h1 h2; subst h1; subst h2;have gD:∀ c∈m,c.length=1:=by
   clear hX hm hr
   induction m generalizing bs with
   | nil=>simp
   | cons c r ih =>
    unfold bytesOf at ov
    grind
  obtain ⟨us,ec,hl,A,c,hv,hc,pb⟩:=q7P R hX hm (sz:=1) (by omega) gD;obtain ⟨ns,e1,e2,_⟩:=qaW ov ec;refine ⟨rfl,.string ⟨bs.toArray⟩,?_,by rw [q4Z],trivial⟩;have sI:ns.length=m.length:=by rw [e1] at hl; simpa using hl
  simp only [execOp,ho,hv,Sem.run_bind];rw [run_convert_bytes_string w t t' e' A m.length c ht tg mB];cases A with
  | none =>
   rcases yI m.length with h0 | h0
   ·have:ns=[]:=yN (by omega);subst this;subst e2;simp [Conv.bytesToString];rfl
   ·simp_all
  | some a' =>
   have zr:(loadCells a' m.length).run P w=.ok (ns.map (Value.int .u8)).toArray w:=by
    have:=run_loadCells_list (P:=P) w a' (ns.map (Value.int .u8)) (fun j v hj=>by
     have ei:j<m.length:=by
      grind
     obtain ⟨b,off,hA,_,_,jd⟩:=pb (by omega);cases hA;rw [Addr.add_lit];rw [<- e1] at hj;exact jd j v hj)
    simp_all
   rw [run_bytesToString w a' m.length c ns zr,push_fold];simp_all
 ·cases hr
theorem sliceAt_array {t e:TypeId} {z n:Nat} (ht:P.underlying t=some (.array n e)) (hz:q1Z P e=some z) {b off:Nat} {L H:Option Operand} {l h:Nat} (hl:endOf a 0 L (L.map a.eval,l)) (hh:endOf a n H (H.map a.eval,h)) (h1:l<=h) (h2:h<=n) :
  (Instr.sliceAt t (.pointer (some ⟨b,off,none⟩)) (L.map a.eval) (H.map a.eval) none).run P w=.ok (.slice (some (if n=l then ⟨b,off,none⟩ else ⟨b,off + l * z,none⟩)) (h - l) (n - l)) w:=by
 cases L with
 | none =>
  obtain ⟨_,rfl⟩:=hl;cases H with
  | none =>
   obtain ⟨_,rfl⟩:=hh;simp [Instr.sliceAt,Instr.sureAddr,Instr.sliceBounds,run_underlying ht,q1q hz,Addr.add_lit]
  | some x =>
   obtain ⟨_,k,i,hx,h0,rfl⟩:=hh;have:0<=i/\i<=(n:Int):=⟨h0,by omega⟩;simp [Instr.sliceAt,Instr.sureAddr,Instr.sliceBounds,Instr.sliceBound,run_underlying ht,q1q hz,hx,asIntOf,this,Addr.add_lit]
 | some y =>
  obtain ⟨_,k',i',hy,af,rfl⟩:=hl;cases H with
  | none =>
   obtain ⟨_,rfl⟩:=hh;have:0<=i'/\i'<=(h:Int):=⟨af,by omega⟩;simp [Instr.sliceAt,Instr.sureAddr,Instr.sliceBounds,Instr.sliceBound,run_underlying ht,q1q hz,hy,asIntOf,this,Addr.add_lit]
  | some x =>
   obtain ⟨_,k,i,hx,h0,rfl⟩:=hh;have h3:0<=i/\i<=(n:Int):=⟨h0,by omega⟩;have h4:0<=i'/\i'<=i:=⟨af,by omega⟩;have h5:((i.toNat:Nat):Int)=i:=by omega
   simp [Instr.sliceAt,Instr.sureAddr,Instr.sliceBounds,Instr.sliceBound,run_underlying ht,q1q hz,hy,hx,asIntOf,h3,h4,h5,Addr.add_lit]
section
variable (R:Rel P O nt B F0 da w0 D s a w ι Θ)
include R
theorem val_aslc {t e':TypeId} {n z:Nat} (ht:P.underlying t=some (.array n e')) (hz:q1Z P e'=some z) {X:Operand} {L H:Option Operand} {x:Opd} {l h:Option Opd} (hx:opd X=some x) (hl:opdO L=some l) (hh:opdO H=some h)
  (ho:o.op=.slice t X L H none) {call} {cl:Cl} {y:Slot} {e:Eff} (hr:(K.aslc cl n z x l h).run call s=some (y,e)):e=.none/\Val P da a w ι Θ o y:=by
 have hX:=(R.opd hx).1;simp only [K.run] at hr;split at hr
 ·rename_i t' n' off hy;split at hr
  ·rename_i lo hi r fD sr hm;have hL:=q6M R hl fD;have hH:=q6M R hh sr;rw [hy,q48] at hX;obtain ⟨b,hb,hv⟩:=hX;obtain ⟨_,b',cur,ty,ua,ra,ka,_,kr⟩:=R.rows t' n' r hm;rw [hb] at ua;injection ua with ua;subst ua;split at hr
   ·rename_i aa;obtain ⟨h1,h2,gc,h3,_⟩:=aa;have ia:=sliceAt_array (w:=w) (b:=b) (off:=off) ht hz hL hH h1 h2;split at hr
    ·rename_i iO;injection hr with hr; injection hr with e1 e2; subst e1; subst e2;refine ⟨rfl,.slice (some (if n=lo then ⟨b,off,none⟩ else ⟨b,off + lo * z,none⟩)) (hi - lo) (n - lo),by simp only [execOp,ho,hv,Option.map_none,Sem.run_bind,ia,Result.andThen_ok,Sem.run_pure],?_,trivial⟩;simp only [q2F,Rep];refine ⟨some (if n=lo then ⟨b,off,none⟩ else ⟨b,off + lo * z,none⟩),n - lo,by rw [iO]; simp,by simp,by simp,by simp,fun _=>⟨by simp,by simp⟩⟩
    ·rename_i oa;injection hr with hr; injection hr with e1 e2; subst e1; subst e2;refine ⟨rfl,.slice (some (if n=lo then ⟨b,off,none⟩ else ⟨b,off + lo * z,none⟩)) (hi - lo) (n - lo),by simp only [execOp,ho,hv,Option.map_none,Sem.run_bind,ia,Result.andThen_ok,Sem.run_pure],?_,trivial⟩;rw [q4Y];refine ⟨b,hb,by omega,n - lo,ym _,?_,by rw [if_neg (by omega)]⟩;have:(n - lo) * z + lo * z=n * z:=by rw [<- Nat.add_mul]; congr 1; omega
     have:=ka.1;omega
   ·cases hr
  ·cases hr
 ·cases hr
theorem val_mkf {f:FuncId} {fs Xs:Array Operand} (kO:fs.size=0) {xs:List Opd} (hx:opdL Xs.toList=some xs) (ho:o.op=.makeFunc (.func f) fs Xs)
  {call} {y:Slot} {e:Eff} (hr:(K.mkf f xs).run call s=some (y,e)):e=.none/\Val P da a w ι Θ o y:=by
 simp only [K.run] at hr;split at hr
 ·rename_i ta;injection hr with hr; injection hr with e1 e2; subst e1; subst e2;have key:∀ {Xs:List Operand} {xs:List Opd},opdL Xs=some xs->xs.all (fun x=>(x.get s).capOk)=true->q6v ι (avA da ι Θ) (avB ι Θ) w (xs.map (·.get s)) (Xs.map a.eval):=by
   intro Xs
   induction Xs with
   | nil=>intro xs h _; injection h with h; subst h; rfl
   | cons X r ih =>
    intro xs h hc;unfold opdL at h;split at h
    ·rename_i x l h1 h2;cases h;simp only [List.all_cons,y7] at hc;refine ⟨_,_,rfl,?_,ih h2 hc.2⟩;have hX:=(R.opd h1).1;have hk:=hc.1;show RepP ι (avA da ι Θ) (avB ι Θ) w (x.get s) (a.eval X);cases hg:x.get s <;> rw [hg] at hX hk <;> first | exact hX | (simp [AV.capOk] at hk; done)
    ·cases h
  have nH:fs=#[]:=Array.eq_empty_of_size_eq_zero kO;refine ⟨rfl,.func (.func f) #[] (Xs.map a.eval),by simp [execOp,ho,Instr.makeFunc,nH],⟨Xs.map a.eval,rfl,?_⟩,trivial⟩;simp_all
 ·cases hr
theorem Rel.turnRow {t n b:Nat} (hb:ι t n=some b) (tc:ι.ob t n=none) {r:List Slot} {new:Array Value} {up:TypeId} (wc:w'.heap[b]?=some (.cells new up (0,0))) (hk:Keep (fun k=>k=b) w w') (ka:q3p ι Θ (avA da ι Θ) w' r new) (jj:B<=b\/F0.r b) (eL:new.size=ι.z b) :
  Rel P O nt B F0 da w0 D (s.setRow t n r) a w' ι Θ:=by
 have oa:∀ b',b'<w.heap.size->b'≠b->w'.heap[b']?=w.heap[b']?:=fun b' h1 h=>hk.block b' h1 h
 have hB:Held (avB ι Θ) (avB ι Θ) w w':=⟨fun b' o u hc hn=>by
  have:b'≠b:=fun e=>hn (.inl (.inl ⟨t,n,e ▸ hb⟩))
  exact ⟨(World.cell?_of_block (w:=w) (a:=⟨b',o,none⟩) (oa b' (q5R hc) this)).trans hc,hn⟩⟩
 have hA:Held (avA da ι Θ) (avA da ι Θ) w w':=⟨fun b' o u hc hn=>by
  have:b'≠b:=fun e=>hn (.inr (.inl (.inl ⟨t,n,e ▸ hb⟩)))
  exact ⟨(World.cell?_of_block (w:=w) (a:=⟨b',o,none⟩) (oa b' (q5R hc) this)).trans hc,hn⟩⟩
 have ft:=R.mine t n b hb;have ic:=hk.size;refine ⟨R.defers,R.size,fun t=>RepS.held (Ix.Le.refl _) hA hB _ _ (R.env t),R.ann,fun t' n' r' hr=>?_,fun t n b h=>?_,R.inj,fun k o h=>?_,R.tinj,R.apart,R.out,R.pin,?_,R.base,fun t' n' S h=>?_,fun t n H h=>(R.obs t n H h).grow ic,fun t=>RepS.held (Ix.Le.refl _) hA hB _ _ (R.gen t),R.gann⟩
 ·simp only [MSt.setRow] at hr;split at hr
  ·rename_i e;simp_all
  ·rename_i e;obtain ⟨h0,b',lb,up,h1,h2,h3,h4⟩:=R.rows t' n' r' hr;have:b'≠b:=fun e'=>e (R.inj _ _ _ _ _ (e' ▸ h1) hb)
   exact ⟨h0,b',lb,up,h1,(oa b' (q0h h2) this).trans h2,h3.held (Ix.Le.refl _) hA (fun _ _ h=>h),h4⟩
 ·obtain ⟨h1,h2,h3⟩:=R.mine t n b h;exact ⟨h1,by omega,h3⟩
 ·obtain ⟨h1,h2,h3,h4,lb,h5,h6⟩:=R.tok k o h;have:o.g≠b:=fun e=>R.apart k o t n h (e ▸ hb)
  grind
 ·refine R.kept.trans hk fun i hi h=>?_
  subst h;rcases ft.1 with h | h
  ·have:=R.base; omega
  ·exact h
 ·obtain ⟨p,H,h1,h2,h3,h4⟩:=R.objs t' n' S h;have zo:∀ b',H b'->b'≠b:=fun b' hH e=>by
   subst e;have:=((R.obs _ _ _ h2).1 _ hH).2.2.1 t n hb;simp_all
  exact ⟨p,H,h1,h2,O.keep h3 (fun b' hH=>oa b' (O.lt h3 hH) (zo b' hH)) ic,h4.keep (fun t n b H h g=>⟨h,H,g⟩) fun x hx=>(oa _ (q0h hx) (zo _ (O.main h3))).trans hx⟩
end
theorem lendRs_rep (R:Rel P O nt B F0 da w0 D s a w ι Θ) {t n p z:Nat} (hp:ι t n=some p) (hz:ι.z p=z) {cl:Cl}:∀ {Xs:List Operand} {xs:List Opd} {vs:List AV},opdL Xs=some xs->q2z s cl t n xs=some vs->RepA (Ix.row p z) (avA da ι Θ) (fun b _=>b=p) w vs (Xs.map a.eval)
 | [],xs,vs,h,hl=>by
  injection h with h;subst h;injection hl with hl;subst hl;rfl
 | X :: Xs,xs,vs,h,hl=>by
  unfold opdL at h;split at h
  ·rename_i x l hx hr;injection h with h;subst h;unfold q2z at hl;split at hl
   ·rename_i v dv hv ff;injection hl with hl;subst hl;refine ⟨_,_,rfl,?_,lendRs_rep R hp hz hr ff⟩;have hX:=(R.opd hx).1;have hB:∀ (b o:Nat),b=p->avB ι Θ b o:=fun b o h=>.inl (.inl ⟨t,n,h ▸ hp⟩)
    unfold q6l at hv;split at hv
    ·rename_i t' n' off hg;split at hv
     ·rename_i e;injection hv with hv;subst hv;rw [hg,e.1,e.2] at hX;obtain ⟨b,hb,hv⟩:=q48.1 hX;rw [hp] at hb;injection hb with hb;subst hb;exact ⟨p,rfl,hv⟩
     ·cases hv
    ·rename_i t' n' sz off len cap hg;split at hv
     ·rename_i e;injection hv with hv;subst hv;rw [hg,e.1,e.2] at hX;obtain ⟨b,hb,h1,c,h2,h3,hv⟩:=q4Y.1 hX;rw [hp] at hb;injection hb with hb;subst hb;exact ⟨p,rfl,h1,c,h2,by rw [hz] at h3; exact h3,hv⟩
     ·rename_i e;rw [hg] at hX;refine lend_rep0 R hB (fun t1 n1 b o uy _ ⟨mQ,off1,len1,cap1,hy⟩ h=>e ?_) hX hv fun t n h=>by cases h
      injection hy with e1 e2;subst h;exact R.inj _ _ _ _ _ (by rw [e1,e2]; exact uy) hp
    ·rename_i f cs hg;split at hv
     ·rename_i hc;injection hv with hv;subst hv;rw [hg,List.isEmpty_iff.1 hc] at hX;exact hX
     ·cases hv
    ·rename_i y h1 h2 h3;exact lend_rep0 R hB (fun t1 n1 b o _ _ ⟨mQ,off1,len1,cap1,hy⟩=>absurd hy (h2 _ _ _ _ _ _)) hX hv fun t n h=>absurd h (h1 _ _ _)
   ·cases hl
  ·cases h
theorem row_ofz {av:Av} {cs:List AV} {us:List Value} (h:RepL av w cs us) {cur:Array Value} (hc:∀ (j:Nat) (u:Value),us[j]?=some u->cur[j]?=some u):q3p ι Θ av w (cs.map fun v=>⟨v,q1C v⟩) cur:=by
 have h0:=row_of (ι:=ι) (Θ:=Θ) h hc;refine ⟨by simpa using h0.1,fun j x hx=>?_⟩;rw [yc] at hx;obtain ⟨v,hv,rfl⟩:=yg.1 hx;obtain ⟨u,h1,h2,h3,_⟩:=h0.2 j ⟨v,.no⟩ (by rw [yc,hv]; rfl);refine ⟨u,h1,h2,h3,?_⟩;unfold q1C;split
 ·rename_i b l hh;simp only at h3;obtain ⟨A,c,hv,_,_,hn,_⟩:=(by simpa [RepC,Rep] using h3:Rep av w (.sl true _) u);obtain ⟨rfl,e1,rfl⟩:=hn rfl;exact ⟨none,0,by rw [hv,e1]⟩
 ·trivial
theorem op_callr (R:Rel P O nt B F0 da w0 D s a w ι Θ) {call:q18} (wa:∀ f args S r,call f args S=some r->q2i P O f args S r) {f:FuncId} {Xs:Array Operand} {ts:Array TypeId} {xs:List Opd} (hx:opdL Xs.toList=some xs) (ho:o.op=.call { callee:=.value (.func f),args:=Xs,argTypes:=ts }) (hd:∀ d,o.dst=some d->d<nt) {cl:Cl} {xe:Slot × Eff} (hr:(K.callr cl f xs).run call s=some xe) {g} {s':MSt} (he:OpC.eff ⟨o.dst,.callr cl f xs,g⟩ s xe=some s')
  {Kn:Act->World->Prop} {Q:Exit->Act->World->Prop} (hK:∀ a' w',RelE P O nt B F0 da w0 (fun t=>D t\/o.dst=some t) s' a' w'->Kn a' w'):o.wp P a w Kn Q:=by
 simp only [K.run] at hr;split at hr
 ·rename_i t n _;split at hr
  ·split at hr
   ·rename_i r vs hm hl;split at hr
    ·rename_i ta;obtain ⟨q,hc,hr⟩:=y8.1 hr;split at hr
     ·rename_i cs hq;split at hr
      ·rename_i aa;cases hr;simp only [OpC.eff] at he;cases he;obtain ⟨q1,q2⟩:=q;simp only at hq;subst hq;obtain ⟨tc,p,cur,ty,hp,ra,ka,jj,kr⟩:=R.rows t n r hm;have la:CallRow P f vs (some (.agg (r.map (·.v)))) (q1,some (.agg cs)):=wa f (.undef :: .undef :: vs) _ _ hc;have ne:∀ x∈r.map (·.v),x.free0=true:=fun x hx=>by
        grind
       have md:(Xs.toList.map a.eval).toArray=Xs.map a.eval:=by rw [<- Array.toList_map,yT]
       have run:(execOp a.eval o).run P w=.ok (.enter f (Xs.map a.eval)) w:=by
        simp only [execOp,ho,resolve,Act.eval,Deferred.ofValue,Sem.run_bind,Sem.run_pure,Result.andThen_ok,invoke];have:=la.1 (#[]++Xs.map a.eval++#[]) w;simp_all
       unfold Oper.wp;rw [run,Oper.upon_enter];have hC:=la.2 (avA da ι Θ) w _ p cur ty (fun b o h=>R.low h) (fun o=>.inr (.inl (.inl ⟨t,n,hp⟩))) ra (by simpa using ka.1) (by simpa using q4r ka.rep ne) (lendRs_rep R hp kr.symm hx hl);rw [md] at hC;refine hC.mono ?_;rintro e w' ⟨v,lb,up,rfl,hv,jn,ic,ec,hk⟩;have jl:q3p ι Θ (avA da ι Θ) w' (cs.map fun v=>⟨v,q1C v⟩) lb:=row_ofz ec fun j u hu=>by
        grind
       have R':=R.turnRow hp tc jn hk jl jj (ic.trans kr);exact hK _ _ ⟨ι,Θ,(R'.putN (x:=⟨_,.no⟩) hd (q8G hv) trivial).more fun _ h=>.inl h⟩
      ·cases hr
     ·cases hr
    ·cases hr
   ·cases hr
  ·cases hr
 ·cases hr
end
end
section
open Go Go.RowKit
section
variable {P:Program} {O:Objs} {nt B:Nat} {F0:Own} {da:Av} {w0:World} {D:Nat->Prop} {s:MSt} {a:Act} {w w':World} {ι:Ix} {Θ:Fam} {o:Oper}
theorem q8U {av:Av} {x:AV} (h:x.scal=true):Rep av w x x.scalV/\x.scalV.oneCell'=true:=by
 cases x <;> first | (simp [AV.scal] at h; done) | exact ⟨rfl,rfl⟩
theorem scals_rep {av:Av}:∀ {cs:List AV},cs.all AV.scal=true->RepL av w cs (cs.map AV.scalV)
 | [],_=>rfl
 | x :: r,h=>by
  simp only [List.all_cons,y7] at h;exact ⟨_,_,rfl,(q8U h.1).1,(q8U (av:=av) (w:=w) h.1).2,scals_rep h.2⟩
theorem q8O {av:Av} {x:AV} (h:x.flat=true):Rep av w x x.flatV:=by
 cases x with
 | agg cs=>exact ⟨_,rfl,by simpa using scals_rep (av:=av) (w:=w) h⟩
 | int k n=>exact (q8U (x:=.int k n) rfl).1
 | bool b=>exact (q8U (x:=.bool b) rfl).1
 | str b=>exact (q8U (x:=.str b) rfl).1
 | _=>simp [AV.flat,AV.scal] at h
theorem flat_S {av avb:Av} {x:AV} (h:x.flat=true):RepS ι av avb w x x.flatV:=by
 have h1:=q8O (av:=av) (w:=w) h;cases x with
 | agg cs=>obtain ⟨us,hv,hc⟩:=h1; exact ⟨us,hv,q27 hc⟩
 | _=>first | exact h1 | (simp [AV.flat,AV.scal] at h; done)
theorem qbI {av avb:Av} {x:AV} {v:Value} (hf:x.flat=true) (h:RepS ι av avb w x v):v=x.flatV:=by
 cases x with
 | agg cs =>
  obtain ⟨us,hv,hc⟩:=h;subst hv;have key:∀ {cs:List AV} {us:List Value},cs.all AV.scal=true->q0w ι av w cs us->us=cs.map AV.scalV:=by
   intro cs
   induction cs with
   | nil=>intro us _ h; simpa [q0w] using h
   | cons x r ih =>
    intro us hf h;simp only [q0w] at h;obtain ⟨u,sa,rfl,h0,_,h⟩:=h;simp only [List.all_cons,y7] at hf;rw [yh,ih hf.2 h];congr 1;cases x <;> first | exact h0 | (simp [AV.scal] at hf; done)
  have:=key hf hc;show Value.agg us=.agg (cs.map AV.scalV).toArray;rw [<- this,yT]
 | int k n=>exact h
 | bool b=>exact h
 | str b=>exact h
 | _=>simp [AV.flat,AV.scal] at hf
theorem avC_flat {v:Value} {x:AV} (h:avC v=some x) (hf:x.flat=true):v=x.flatV :=
 qbI (ι:=Ix.none) (av:=fun _ _=>False) (avb:=fun _ _=>False) (w:=default) hf (avC_rep h _ _ _ _)
theorem ba_beq (a b:ByteArray):(a == b)=decide (a=b):=by
 obtain ⟨a⟩:=a;obtain ⟨b⟩:=b;rw [Bool.eq_iff_iff];simp only [decide_eq_true_eq,ByteArray.mk.injEq];exact beq_iff_eq (α:=Array UInt8)
def q45 {κ:Type} [DecidableEq κ] (L:List (κ × Value)) (n:κ) (m:Nat):Option (Nat × Value):=((L.map (·.1)).idxOf? n).bind fun i=>(L[i]?).map fun p=>(m + i,p.2)
theorem q7Q {κ:Type} [DecidableEq κ] (p:κ × Value) (L:List (κ × Value)) (n:κ) (m:Nat):q45 (p :: L) n m=if n=p.1 then some (m,p.2) else q45 L n (m + 1):=by
 unfold q45;simp only [yh,List.idxOf?_cons];by_cases hk:n=p.1
 ·subst hk; simp
 ·have hb:(p.1 == n)=false:=by simpa using fun e:p.1=n=>hk e.symm
  simp only [hb,hk,if_false];cases hi:List.idxOf? n (List.map (fun x=>x.1) L) with
  | none=>simp
  | some i=>simp [Nat.add_assoc,Nat.add_comm 1 i]
theorem findNow_int (k:IntKind) (n:Int):∀ (es:List MapEntry) (L:List (Int × Value)) (m:Nat),es.map (fun e=>(e.key,e.val))=L.map (fun p=>(Value.int k p.1,p.2)) →
   Instr.findNow (.int k) (.int k n) es m=some (q45 L n m)
 | [],[],m,_=>by simp [Instr.findNow,q45]
 | [],_ :: _,_,h=>by simp at h
 | _ :: _,[],_,h=>by simp at h
 | e :: es,p :: L,m,h=>by
  simp only [yh,List.cons.injEq,Prod.mk.injEq] at h;obtain ⟨⟨h1,h2⟩,h3⟩:=h;have ih:=findNow_int k n es L (m + 1) h3;have hs:Instr.sameNow (.int k) (.int k n) e.key=some (n == p.1):=by rw [h1]; simp [Instr.sameNow]
  simp only [Instr.findNow,hs,q7Q];by_cases hk:n=p.1
  ·subst hk; simp [h2]
  ·have ua:(n == p.1)=false:=by simpa using hk
   simp only [ua,ih,hk,if_false]
theorem findNow_str (n:ByteArray):∀ (es:List MapEntry) (L:List (ByteArray × Value)) (m:Nat),es.map (fun e=>(e.key,e.val))=L.map (fun p=>(Value.string p.1,p.2)) →
   Instr.findNow .string (.string n) es m=some (q45 L n m)
 | [],[],m,_=>by simp [Instr.findNow,q45]
 | [],_ :: _,_,h=>by simp at h
 | _ :: _,[],_,h=>by simp at h
 | e :: es,p :: L,m,h=>by
  simp only [yh,List.cons.injEq,Prod.mk.injEq] at h;obtain ⟨⟨h1,h2⟩,h3⟩:=h;have ih:=findNow_str n es L (m + 1) h3;have hs:Instr.sameNow .string (.string n) e.key=some (decide (n=p.1)):=by
   rw [h1];simp only [Instr.sameNow,ba_beq]
  simp only [Instr.findNow,hs,q7Q];by_cases hk:n=p.1
  ·subst hk; simp [h2]
  ·simp only [hk,decide_false,ih,if_false]
theorem law_int {T:TypeId} {k:IntKind} (u:P.underlying T=some (.int k)):qaR P T (fun n:Int=>Value.int k n) where
 check empty n w:=by
  have hq:∀ (d:Nat),(Instr.checkKey empty (d + 1) T (.int k n)).run P w=.ok () w:=fun d=>by simp [Instr.checkKey,run_underlying u]
  exact hq 9999
 find n es L w h:=by
  simp only [Instr.findKey,Sem.run_bind,run_underlying u,Result.andThen_ok,findNow_int k n es L 0 h,q45,yF,Sem.run_pure]
 same n:=by
  have hq:∀ (d:Nat),Instr.sameBits (d + 1) (.int k n) (.int k n)=true:=fun d=>by simp [Instr.sameBits]
  exact hq 9999
theorem law_str {T:TypeId} (u:P.underlying T=some .string):qaR P T Value.string where
 check empty n w:=by
  have hq:∀ (d:Nat),(Instr.checkKey empty (d + 1) T (.string n)).run P w=.ok () w:=fun d=>by simp [Instr.checkKey,run_underlying u]
  exact hq 9999
 find n es L w h:=by
  simp only [Instr.findKey,Sem.run_bind,run_underlying u,Result.andThen_ok,findNow_str n es L 0 h,q45,yF,Sem.run_pure]
 same n:=by
  have hq:∀ (d:Nat),Instr.sameBits (d + 1) (.string n) (.string n)=true:=fun d=>by simp [Instr.sameBits,ba_beq]
  exact hq 9999
structure Keyed (ty:KTy) (κ:Type) [DecidableEq κ] (ke:κ->Value) (kx:κ->AV):Prop where
 val:∀ a,(kx a).flatV=ke a
 eq:∀ a b,qbe (kx a) (kx b)=decide (a=b)
 of:∀ x,q6i ty x=true->∃ a,x=kx a
 flat:∀ a,(kx a).flat=true
section
variable {κ:Type} [DecidableEq κ] {ke:κ->Value} {kx:κ->AV} {ty:KTy}
theorem keyed_get (K:Keyed ty κ ke kx) (n:κ):∀ M:List (κ × AV),q6J (M.map fun p=>[kx p.1,p.2]) (kx n)=getA M n
 | []=>rfl
 | p :: r=>by
  simp only [yh,q6J,getA,K.eq,decide_eq_true_eq,keyed_get K n r];by_cases h:p.1=n
  ·rw [if_pos h,if_pos h.symm]
  ·rw [if_neg h,if_neg fun e=>h e.symm]
theorem keyed_set (K:Keyed ty κ ke kx) (n:κ) (v:AV):∀ M:List (κ × AV),q55 (M.map fun p=>[kx p.1,p.2]) (kx n) v=(setA M n v).map fun p=>[kx p.1,p.2]
 | []=>rfl
 | p :: r=>by
  simp only [yh,q55,setA,K.eq,decide_eq_true_eq,keyed_set K n v r];by_cases h:p.1=n
  ·rw [if_pos h,if_pos h.symm]; rfl
  ·rw [if_neg h,if_neg fun e=>h e.symm]; rfl
theorem getA_val (g:AV->Value) (n:κ):∀ M:List (κ × AV),getA (M.map fun p=>(p.1,g p.2)) n=(getA M n).map g
 | []=>rfl
 | p :: r=>by
  simp only [yh,getA,getA_val g n r];split <;> rfl
theorem setA_val (g:AV->Value) (n:κ) (v:AV):∀ M:List (κ × AV),setA (M.map fun p=>(p.1,g p.2)) n (g v)=(setA M n v).map fun p=>(p.1,g p.2)
 | []=>rfl
 | p :: r=>by
  simp only [yh,setA,setA_val g n v r];split <;> rfl
theorem keyed_dec (K:Keyed ty κ ke kx):∀ L:List (List AV),q76 ty L=true->∃ M:List (κ × AV),L=M.map (fun p=>[kx p.1,p.2])/\∀ p∈M,p.2.flat=true
 | [],_=>⟨[],rfl,fun _ h=>by cases h⟩
 | e :: r,h=>by
  unfold q76 at h;simp only [List.all_cons,y7] at h;obtain ⟨M,hM,hf⟩:=keyed_dec K r h.2;have h1:=h.1;split at h1
  ·rename_i k v;simp only [y7] at h1;obtain ⟨n,rfl⟩:=K.of k h1.1;exact ⟨(n,v) :: M,by rw [hM]; rfl,fun p hp=>by
    rcases yf.1 hp with rfl | hp
    ·exact h1.2
    ·exact hf p hp⟩
  ·cases h1
theorem keyed_ent (K:Keyed ty κ ke kx) (M:List (κ × AV)):(M.map fun p=>[kx p.1,p.2]).map entV=(M.map fun p=>(p.1,p.2.flatV)).map fun p=>(ke p.1,p.2):=by
 rw [y0,y0];apply yl;intro p _;simp [entV,K.val]
end
theorem keyed_int (k:IntKind):Keyed (.some k) Int (fun n=>Value.int k n) (fun n=>.int k n) where
 val _:=rfl
 eq a b:=by simp [qbe]
 of x h:=by
  cases x <;> first | (simp [q6i] at h; done) | (simp only [q6i,decide_eq_true_eq] at h; subst h; exact ⟨_,rfl⟩)
 flat _:=rfl
theorem keyed_str:Keyed .none ByteArray Value.string AV.str where
 val _:=rfl
 eq a b:=by simp [qbe]
 of x h:=by
  cases x <;> first | (simp [q6i] at h; done) | exact ⟨_,rfl⟩
 flat _:=rfl
inductive KV where
 | i (k:IntKind) (n:Int)
 | s (b:ByteArray)
 deriving DecidableEq
def KV.av:KV->AV
 | .i k n=>.int k n
 | .s b=>.str b
def KV.kd:KV->Option IntKind
 | .i k _=>some k
 | .s _=>none
abbrev AKey (l:List (Option IntKind)):={ a:List KV // a.map KV.kd=l }
theorem keyEqs_kv:∀ a b:List KV,keyEqs (a.map KV.av) (b.map KV.av)=decide (a=b)
 | [],[]=>rfl
 | [],b :: r=>by cases b <;> rfl
 | a :: r,[]=>by cases a <;> rfl
 | a :: r,b :: r'=>by
  have ih:=keyEqs_kv r r';cases a <;> cases b <;> simp [KV.av,keyEqs,ih,Bool.decide_and]
theorem keyOks_kv:∀ (l:List (Option IntKind)) (cs:List AV),q82 l cs=true->∃ a:List KV,a.map KV.kd=l/\cs=a.map KV.av
 | [],[],_=>⟨[],rfl,rfl⟩
 | [],_ :: _,h=>by simp [q82] at h
 | k :: r,[],h=>by cases k <;> simp [q82] at h
 | k :: r,c :: cs,h=>by
  cases k with
  | none =>
   cases c <;> simp only [q82] at h <;> first | (cases h; done) | skip
   rename_i b;obtain ⟨a,h1,h2⟩:=keyOks_kv r cs h;exact ⟨.s b :: a,by simp [KV.kd,h1],by simp [KV.av,h2]⟩
  | some k =>
   cases c <;> simp only [q82] at h <;> first | (cases h; done) | skip
   rename_i k' n;simp only [y7,decide_eq_true_eq] at h;obtain ⟨rfl,h⟩:=h;obtain ⟨a,h1,h2⟩:=keyOks_kv r cs h;exact ⟨.i k n :: a,by simp [KV.kd,h1],by simp [KV.av,h2]⟩
theorem kv_scal (a:List KV):(a.map KV.av).all AV.scal=true:=by
 simp only [List.all_map,y4];intro x _;cases x <;> rfl
theorem keyed_agg (l:List (Option IntKind)):Keyed (.agg l) (AKey l) (fun a=>.agg ((a.1.map KV.av).map AV.scalV).toArray) (fun a=>.agg (a.1.map KV.av)) where
 val _:=rfl
 eq a b:=by
  simp only [qbe,keyEqs_kv];by_cases h:a.1=b.1
  ·rw [decide_eq_true h,decide_eq_true (Subtype.ext h)]
  ·rw [decide_eq_false h,decide_eq_false fun e=>h (congrArg Subtype.val e)]
 of x h:=by
  cases x <;> first | (simp [q6i] at h; done) | skip
  rename_i cs;obtain ⟨a,h1,h2⟩:=keyOks_kv l cs h;exact ⟨⟨a,h1⟩,by rw [h2]⟩
 flat a:=kv_scal a.1
theorem eqC_kv:∀ a b:List KV,a.map KV.kd=b.map KV.kd->eqC ((a.map KV.kd).map q7f) (a.map KV.av) (b.map KV.av)=some (decide (a=b))
 | [],[],_=>rfl
 | [],_ :: _,h=>by simp at h
 | _ :: _,[],h=>by simp at h
 | a :: r,b :: r',h=>by
  simp only [yh,List.cons.injEq] at h;have ih:=eqC_kv r r' h.2;cases a <;> cases b <;> simp only [KV.kd,reduceCtorEq,Option.some.injEq,false_and] at h
  ·obtain ⟨rfl,h⟩:=h;rename_i n m;by_cases e:n=m
   ·subst e; simp [KV.kd,KV.av,q7f,eqC,ih,-y0]
   ·simp [KV.kd,KV.av,q7f,eqC,e]
  ·rename_i n m;by_cases e:n=m
   ·subst e; simp [KV.kd,KV.av,q7f,eqC,ih,-y0]
   ·simp [KV.kd,KV.av,q7f,eqC,e]
theorem q9A {t:TypeId} {ks:List Nat} (h:tFlat P t=some ks):q5x P 8 t=some ks/\tAgg P t=some true:=by
 unfold tFlat at h;split at h
 ·cases h
 ·split at h
  ·rename_i jo; exact ⟨h,by simp [tAgg,jo]⟩
  ·rename_i jo; exact ⟨h,by simp [tAgg,jo]⟩
  ·cases h
theorem equal_kv {T:TypeId} {l:List (Option IntKind)} (ht:tFlat P T=some (l.map q7f)) (a b:AKey l) (w:World) :
  (Op.equal T (.agg ((a.1.map KV.av).map AV.scalV).toArray) (.agg ((b.1.map KV.av).map AV.scalV).toArray)).run P w=.ok (decide (a=b)) w:=by
 obtain ⟨hk,hA⟩:=q9A ht;have he:=eqC_kv a.1 b.1 (a.2.trans b.2.symm);rw [a.2] at he;have hd:decide (a.1=b.1)=decide (a=b):=by
  by_cases h:a.1=b.1
  ·rw [decide_eq_true h,decide_eq_true (Subtype.ext h)]
  ·rw [decide_eq_false h,decide_eq_false fun e=>h (congrArg Subtype.val e)]
 rw [hd] at he;have hl:∀ c:AKey l,q0w Ix.none (fun _ _=>False) w (c.1.map KV.av) (((c.1.map KV.av).map AV.scalV).toArray.toList.take (l.map q7f).length):=fun c=>by
  rw [yD (by simp [<- c.2])];exact q27 (scals_rep (kv_scal c.1))
 exact (whole_run (ι:=Ix.none) (av:=fun _ _=>False) (fun t ks h=>kindsT_eq 7 t ks h) 9992 hk hA (hl a) (hl b) he).2
theorem q8p (em:Bool) (w:World):∀ (n:Nat) (t:TypeId) (ks:List Nat),q5x P n t=some ks->∀ (d:Nat) (us:Array Value) (off:Nat),off + ks.length<=us.size->(∃ a,(part t us off).run P w=.ok a w/\(Instr.checkKey em (d + n) t a).run P w=.ok () w)/\(tAgg P t=some true->off=0->(Instr.checkKey em (d + n) t (.agg us)).run P w=.ok () w)
 | 0,_,_,h=>by cases h
 | n + 1,t,ks,hk=>by
  intro d us off wb;have whole:tAgg P t=some true->∀ vs:Array Value,ks.length<=vs.size->q1Z P t=some ks.length/\(Instr.checkKey em (d + (n + 1)) t (.agg vs)).run P w=.ok () w:=by
   intro hA vs uF;unfold q5x at hk;split at hk
   ·rename_i k dd;unfold tAgg at hA;unfold tKind at dd;split at dd <;> first | (cases dd; done) | (rename_i ht _; rw [ht] at hA; injection hA with hA; cases hA) | (rename_i ht; rw [ht] at hA; injection hA with hA; cases hA)
   ·split at hk
    ·rename_i m e ht;obtain ⟨l,hl,hk⟩:=y8.1 hk;split at hk
     ·rename_i hc;injection hk with hk;subst hk;obtain ⟨i,hi⟩:=qaY hc.2.1;refine ⟨hc.2.2,?_⟩;have ic:i.size=l.length:=by
       have:=hc.2.1;simp only [q1Z,hi,yz,Option.some.injEq] at this;exact this
      have ah:(yA m l).flatten.length=m * l.length:=by simp
      rw [show d + (n + 1)=(d + n) + 1 from rfl,Instr.checkKey];simp only [Sem.run_bind,run_underlying ht,Result.andThen_ok];simp only [Std.Legacy.Range.forIn_eq_forIn_range',Std.Legacy.Range.size,Nat.sub_zero,Nat.add_one_sub_one,Nat.div_one];have each:∀ j∈List.range' 0 m,∃ a,(part e vs (j * P.cellsOf e)).run P w=.ok a w/\(Instr.checkKey em (d + n) e a).run P w=.ok () w:=fun j hj=>by
       have dB:j<m:=by simpa using hj
       refine (q8p em w n e l hl d vs (j * P.cellsOf e) ?_).1;rw [hc.1,<- yt];rw [ah] at uF;exact Nat.le_trans (yW _ dB) uF
      generalize List.range' 0 m=is at each
      induction is with
      | nil=>simp
      | cons j is ih =>
       obtain ⟨a,p1,p2⟩:=each j (by simp);simp only [List.forIn_cons,Sem.run_bind,run_sizeOf w hi,Result.andThen_ok,p1,p2,Sem.run_pure];exact ih (fun y hy=>each y (by simp [hy]))
     ·cases hk
    ·rename_i fs ht;split at hk
     ·cases hk
     ·obtain ⟨l,hl,hk⟩:=y8.1 hk;split at hk
      ·rename_i hc;injection hk with hk;subst hk;refine ⟨hc,?_⟩;rw [show d + (n + 1)=(d + n) + 1 from rfl,Instr.checkKey];simp only [Sem.run_bind,run_underlying ht,Result.andThen_ok];rw [<- Array.forIn_toList];have go:∀ (L:List Field) (i:Nat) (l:List Nat),qaq (q5x P n) i L=some l->i + l.length<=vs.size->∀ f∈L,f.name≠"_"/\∃ a,(part f.type vs f.offset).run P w=.ok a w/\(Instr.checkKey em (d + n) f.type a).run P w=.ok () w:=by
        intro L
        induction L with
        | nil=>intro i l _ _ f hf; cases hf
        | cons g L ih =>
         intro i l hl wb f hf;unfold qaq at hl;obtain ⟨l1,h1,hl⟩:=y8.1 hl;split at hl
         ·rename_i hn;obtain ⟨l2,h2,rfl⟩:=yg.1 hl;rw [yp] at wb;rcases yf.1 hf with rfl | hf
          ·exact ⟨hn.1,(q8p em w n _ l1 h1 d vs f.offset (by rw [hn.2]; omega)).1⟩
          ·exact ih (i + l1.length) l2 h2 (by omega) f hf
         ·cases hl
       have each:=go fs.toList 0 l hl (by omega);clear go hl;generalize fs.toList=L at each
       induction L with
       | nil=>simp
       | cons f L ih =>
        obtain ⟨hn,a,p1,p2⟩:=each f (by simp);simp only [List.forIn_cons,Sem.run_bind,hn,ne_eq,not_false_eq_true,if_true,Result.andThen_ok,p1,p2,Sem.run_pure];exact ih (fun y hy=>each y (by simp [hy]))
      ·cases hk
    ·cases hk
  refine ⟨?_,fun hA h0=>(whole hA us (by omega)).2⟩;by_cases hA:tAgg P t=some true
  ·obtain ⟨h1,h2⟩:=whole hA (us.extract off (off + ks.length)) (by simp; omega);exact ⟨_,(qaL hA h1 us off).1,h2⟩
  ·have zc:=hk;unfold q5x at hk;split at hk
   ·rename_i k dd;injection hk with hk;subst hk;simp only [yH,List.length_nil] at wb;have hu:us[off]?=some us[off]:=yZ (by omega);have hp:=(tKind_eq (w:=w) 0 dd hu hu).1;refine ⟨_,hp,?_⟩;unfold tKind at dd;rw [show d + (n + 1)=(d + n) + 1 from rfl];split at dd
    ·rename_i ht _; simp [Instr.checkKey,run_underlying ht]
    ·rename_i ht _; simp [Instr.checkKey,run_underlying ht]
    ·rename_i ht _; simp [Instr.checkKey,run_underlying ht]
    ·cases dd
   ·split at hk
    ·rename_i ht; exact absurd (by simp [tAgg,ht]) hA
    ·rename_i ht; exact absurd (by simp [tAgg,ht]) hA
    ·cases hk
theorem find_kv {T:TypeId} {l:List (Option IntKind)} (ht:tFlat P T=some (l.map q7f)) (a:AKey l) (w:World):∀ (es:List MapEntry) (L:List (AKey l × Value)) (m:Nat),es.map (fun e=>(e.key,e.val))=L.map (fun p=>(Value.agg ((p.1.1.map KV.av).map AV.scalV).toArray,p.2)) →
  (Instr.findAsking T (.agg ((a.1.map KV.av).map AV.scalV).toArray) es m).run P w=.ok (q45 L a m) w
 | [],[],m,_=>by simp [Instr.findAsking,q45]
 | [],_ :: _,_,h=>by simp at h
 | _ :: _,[],_,h=>by simp at h
 | e :: es,p :: L,m,h=>by
  simp only [yh,List.cons.injEq,Prod.mk.injEq] at h;obtain ⟨⟨h1,h2⟩,h3⟩:=h;have ih:=find_kv ht a w es L (m + 1) h3;have he:=equal_kv (P:=P) ht a p.1 w;simp only [Instr.findAsking,Sem.run_bind,h1,he,Result.andThen_ok,q7Q,Sem.run_ite];by_cases hk:a=p.1
  ·simp [hk,h2]
  ·simp [hk,ih,-y0]
theorem law_agg {T:TypeId} {l:List (Option IntKind)} (ht:tFlat P T=some (l.map q7f)):qaR P T (fun a:AKey l=>Value.agg ((a.1.map KV.av).map AV.scalV).toArray) where
 check empty a w:=by
  obtain ⟨hk,hA⟩:=q9A ht;exact (q8p empty w 8 T _ hk 9992 _ 0 (by simp [<- a.2])).2 hA rfl
 find a es L w h:=by
  have hu:∃ desc,P.underlying T=some desc/\∀ x e,Instr.sameNow desc (.agg x) e=none:=by
   obtain ⟨hk,hA⟩:=q9A ht;unfold tAgg at hA;cases hd:P.underlying T with
   | none=>rw [hd] at hA; cases hA
   | some desc =>
    refine ⟨desc,rfl,fun x e=>?_⟩;cases desc <;> rfl
  obtain ⟨desc,hu,hn⟩:=hu;cases es with
  | nil =>
   cases L with
   | nil=>simp [Instr.findKey,run_underlying hu,Instr.findNow]
   | cons=>simp at h
  | cons e es =>
   have:=find_kv ht a w (e :: es) L 0 h;simp only [Instr.findKey,Sem.run_bind,run_underlying hu,Result.andThen_ok,Instr.findNow,hn,this,q45,yF]
 same a:=by
  have hq:∀ l:List KV,(((l.map KV.av).map AV.scalV).zip ((l.map KV.av).map AV.scalV)).all (fun (x,y)=>Instr.sameBits 9999 x y)=true:=by
   intro l
   induction l with
   | nil=>rfl
   | cons c r ih =>
    simp only [yh,List.zip_cons_cons,List.all_cons,ih,Bool.and_true];cases c <;> simp [KV.av,AV.scalV,Instr.sameBits,ba_beq]
  show Instr.sameBits (9999 + 1) _ _=true;simp only [Instr.sameBits,beq_self_eq_true,Bool.true_and];exact hq a.1
theorem zero_run {e:TypeId} {z:AV} (h:((P.info? e).bind (·.zero)).bind avC=some z) (w:World):∃ zv,(zeroValue e).run P w=.ok zv w/\avC zv=some z:=by
 obtain ⟨zv,h1,h2⟩:=y8.1 h;obtain ⟨i,hi,hz⟩:=y8.1 h1;exact ⟨zv,by simp [zeroValue,typeInfo,hi,hz],h2⟩
theorem map_read {κ:Type} [DecidableEq κ] {ke:κ->Value} {kx:κ->AV} {ty:KTy} (R:Rel P O nt B F0 da w0 D s a w ι Θ) (K:Keyed ty κ ke kx) {t n:Nat} {v:Value} (hv:RepS ι (avA da ι Θ) (avB ι Θ) w (.mp t n) v) {L:List (List AV)} (hL:(s.obj t n).bind q7g=some L) (hk:q76 ty L=true) :
  ∃ (b:Nat) (H:Nat->Prop) (M:List (κ × AV)),v=.map (some b)/\ι t n=some b/\ι.ob t n=some H/\(∀ x,H x ↔ x=b)/\L=M.map (fun p=>[kx p.1,p.2])/\(∀ p∈M,p.2.flat=true)/\qb9 ke w b (M.map fun p=>(p.1,p.2.flatV))/\∃ es clock,w.heap[b]?=some (.map es clock)/\Stamps es clock:=by
 obtain ⟨b,hb,rfl⟩:=hv;obtain ⟨S,hS,hm⟩:=y8.1 hL;obtain ⟨p,H,hp,mb,wc,_⟩:=R.objs t n S hS;rw [hb] at hp;injection hp with hp;subst hp;have jv:S=q6m L:=by
  unfold q7g at hm;split at hm
  ·injection hm with hm; subst hm; rfl
  ·cases hm
 subst jv;obtain ⟨hH,es,clock,he,nf,za⟩:=(O.maps L H b w).1 wc;obtain ⟨M,rfl,hf⟩:=keyed_dec K L hk;exact ⟨b,H,M,rfl,hb,mb,hH,rfl,hf,⟨es,clock,he,nf.trans (keyed_ent K M)⟩,es,clock,he,za⟩
theorem getA_flat {κ:Type} [DecidableEq κ]:∀ {M:List (κ × AV)} {n:κ} {x:AV},(∀ p∈M,p.2.flat=true)->getA M n=some x->x.flat=true
 | [],_,_,_,h=>by cases h
 | p :: r,n,x,hf,h=>by
  unfold getA at h;split at h
  ·injection h with h; subst h; exact hf p yk
  ·exact getA_flat (fun q hq=>hf q (yq _ hq)) h
theorem mget_gen {κ:Type} [DecidableEq κ] {ke:κ->Value} {kx:κ->AV} {ty:KTy} (R:Rel P O nt B F0 da w0 D s a w ι Θ) (K:Keyed ty κ ke kx) {T kT eT:TypeId} (KL:qaR P kT ke) (hT:P.underlying T=some (.map kT eT)) {zero:AV} (hz:((P.info? eT).bind (·.zero)).bind avC=some zero) (pL:zero.flat=true)
  {X I:Operand} {y i:Opd} (hx:opd X=some y) (hi:opd I=some i) {ok:Bool} (ho:o.op=.lookup T X I ok) {t n:Nat} (hy:y.get s=.mp t n) {L:List (List AV)} (hL:(s.obj t n).bind q7g=some L) (hk:q76 ty L=true) (bc:q6i ty (i.get s)=true) :
  Val P da a w ι Θ o ⟨if ok then .tup [(q6J L (i.get s)).getD zero,.bool (q6J L (i.get s)).isSome] else (q6J L (i.get s)).getD zero,.no⟩:=by
 have hX:=(R.opd hx).1;have hI:=(R.opd hi).1;rw [hy] at hX;obtain ⟨b,H,M,hv,hb,mb,hH,rfl,hf,wc,_⟩:=map_read R K hX hL hk;obtain ⟨k,jI⟩:=K.of _ bc;rw [jI] at hI ⊢;have cI:(kx k).flat=true:=K.flat k;have pE:a.eval I=ke k:=(qbI cI hI).trans (K.val k);obtain ⟨zv,tL,rJ⟩:=zero_run hz w;have kQ:=avC_flat rJ pL;rw [keyed_get K];have nd:(getA (M.map fun p=>(p.1,p.2.flatV)) k).getD zv=((getA M k).getD zero).flatV:=by
  rw [getA_val,kQ];cases getA M k <;> rfl
 have zi:((getA M k).getD zero).flat=true:=by
  cases hg:getA M k with
  | none=>exact pL
  | some x=>exact getA_flat hf hg
 cases ok with
 | false =>
  have ia:=wc.lookup KL hT tL k;rw [nd] at ia;refine ⟨((getA M k).getD zero).flatV,by simp only [execOp,ho,hv,pE,Sem.run_bind,ia,Result.andThen_ok,Sem.run_pure],?_,trivial⟩;exact flat_S zi
 | true =>
  have ia:=wc.lookup_ok KL hT tL k;rw [nd] at ia;have ml:(getA (M.map fun p=>(p.1,p.2.flatV)) k).isSome=(getA M k).isSome:=by rw [getA_val]; cases getA M k <;> rfl
  rw [ml] at ia;refine ⟨.tuple #[((getA M k).getD zero).flatV,.bool (getA M k).isSome],by simp only [execOp,ho,hv,pE,Sem.run_bind,ia,Result.andThen_ok,Sem.run_pure],?_,trivial⟩;refine ⟨_,rfl,_,_,rfl,?_,_,_,rfl,rfl,rfl⟩;exact q49 (q8O zi)
theorem qb9.updateS {κ:Type} [DecidableEq κ] {P:Program} {T kT eT:TypeId} {ke:κ->Value} {w:World} {m:Nat} {L:List (κ × Value)} (h:qb9 ke w m L) (K:qaR P kT ke) (hT:P.underlying T=some (.map kT eT)) {jG:Array MapEntry} {eG:Nat} (h0:w.heap[m]?=some (.map jG eG)) (za:Stamps jG eG) (k:κ) (v:Value) :
  ∃ es clock,(Instr.mapUpdate T (.map (some m)) (ke k) v).run P w=.ok () { w with heap:=w.heap.setIfInBounds m (.map es clock) }/\es.toList.map (fun e=>(e.key,e.val))=(setA L k v).map (fun p=>(ke p.1,p.2))/\Stamps es clock:=by
 obtain ⟨es,clock,h1,h2⟩:=h;rw [h1] at h0;injection h0 with h0;injection h0 with e1 e2;subst e1;subst e2;obtain ⟨s1,s2⟩:=za;have hg:(getObj m).run P w=.ok (.map es clock) w:=by simp [getObj,Sem.run,h1]
 have hf:=K.find k es.toList L w h2;have hi:=idx_set L k v;have hl:es.toList.length=L.length:=by simpa using congrArg List.length h2
 cases hq:(L.map (·.1)).idxOf? k with
 | none =>
  rw [hq] at hf hi;refine ⟨es.push { key:=ke k,val:=v,born:=clock },clock + 1,?_,by rw [hi]; simp [h2],by simp [s1],fun i h=>?_⟩
  case refine_2 =>
   simp only [Array.size_push] at h;simp only [Array.getElem_push];split
   ·exact s2 _ _
   ·show clock=i;omega
  case refine_1 =>
   simp only [Instr.mapUpdate,Sem.run_bind,run_underlying hT,Result.andThen_ok,hg,K.check,hf,Option.bind_none];simp [setObj,Sem.run,h1]
 | some i =>
  rw [hq] at hf hi;have zf:i<L.length:=by have:=List.idxOf?_eq_some_iff.1 hq; simpa using this.1
  have hk:(L[i]).1=k:=by have:=List.idxOf?_eq_some_iff.1 hq; simpa using this.2.1
  have jg:i<es.size:=by
   have:es.size=L.length:=by simpa using hl
   omega
  have bc:(es[i]).key=ke k:=by
   have:=congrArg (fun l=>(l[i]?).map (·.1)) h2;simp only [yc,Array.getElem?_toList,yZ jg,yz,y5 zf,hk,Option.some.injEq] at this;exact this
  refine ⟨es.modify i fun e=>{ e with key:=ke k,val:=v },clock,?_,?_,by simp [s1],fun j h=>?_⟩
  case refine_3 =>
   simp only [Array.getElem_modify];split <;> exact s2 _ _
  case refine_1 =>
   have hL:L[i]?=some L[i]:=y5 zf;have he:es[i]?=some es[i]:=yZ jg;simp only [Instr.mapUpdate,Sem.run_bind,run_underlying hT,Result.andThen_ok,hg,K.check,hf,V,hL,yz,he,Option.getD_some,bc];simp [Instr.keyThatStays,K.same,setObj,Sem.run,h1]
  case refine_2 =>
   rw [hi];apply List.ext_getElem?;intro j;have hj:=congrArg (fun l=>l[j]?) h2;simp only [yc,Array.getElem?_toList] at hj;simp only [yc,Array.getElem?_toList,Array.getElem?_modify,List.getElem?_set];by_cases fF:i=j
   ·subst fF;simp [yZ jg,zf]
   ·simp only [if_neg fF];exact hj
theorem q8R {κ:Type} [DecidableEq κ] {ke:κ->Value} {kx:κ->AV} {ty:KTy} (R:Rel P O nt B F0 da w0 D s a w ι Θ) (K:Keyed ty κ ke kx) {T kT eT:TypeId} (KL:qaR P kT ke) (hT:P.underlying T=some (.map kT eT))
  {X I Y:Operand} {x i y:Opd} (hx:opd X=some x) (hi:opd I=some i) (iQ:opd Y=some y) (ho:o.op=.mapUpdate T X I Y\/o.op=.insert T X I Y) (hd:∀ d,o.dst=some d->d<nt) {t n:Nat} (kc:x.get s=.mp t n) {L:List (List AV)} (hL:(s.obj t n).bind q7g=some L) (hk:q76 ty L=true) (bc:q6i ty (i.get s)=true) (tF:(y.get s).flat=true) :
  ∃ w',(execOp a.eval o).run P w=.ok .skip w'/\RelE P O nt B F0 da w0 D ((s.setObj t n (q6m (q55 L (i.get s) (y.get s)))).put o.dst ⟨.undef,.no⟩) (a.put o.dst undef) w':=by
 have hX:=(R.opd hx).1;have hI:=(R.opd hi).1;have hY:=qbI tF (R.opd iQ).1;rw [kc] at hX;obtain ⟨b,H,M,hv,hb,mb,hH,rfl,hf,wc,jG,eG,kH,kw⟩:=map_read R K hX hL hk;obtain ⟨k,jI⟩:=K.of _ bc;rw [jI] at hI ⊢;have cI:(kx k).flat=true:=K.flat k;have pE:a.eval I=ke k:=(qbI cI hI).trans (K.val k);have fa:=wc.lt;obtain ⟨es,clock,ia,nf,za⟩:=wc.updateS KL hT kH kw k (y.get s).flatV;rw [setA_val] at nf;have bi:O.at_ (q6m (q55 (M.map fun p=>[kx p.1,p.2]) (kx k) (y.get s))) H b { w with heap:=w.heap.setIfInBounds b (.map es clock) }:=by
  refine (O.maps _ _ _ _).2 ⟨hH,es,clock,by simp [fa],?_,za⟩;rw [keyed_set K,keyed_ent K];exact nf
 have ej:Keep H w { w with heap:=w.heap.setIfInBounds b (.map es clock) }:=⟨rfl,rfl,rfl,by simp,fun j _ hn=>by
  have:j≠b:=fun e=>hn ((hH j).2 e)
  simp only [Array.getElem?_setIfInBounds];rw [if_neg fun e:b=j=>this e.symm]⟩
 obtain ⟨ι',R2,_⟩:=R.turnObj hb mb bi (Tie.no rfl) (fun x hx=>.inl hx) ej;refine ⟨_,by rcases ho with ho | ho <;> simp only [execOp,ho,hv,pE,hY,Sem.run_bind,ia,Result.andThen_ok,Sem.run_pure],ι',Θ,R2.putN (x:=⟨.undef,.no⟩) hd trivial trivial⟩
section
variable (R:Rel P O nt B F0 da w0 D s a w ι Θ)
include R
theorem op_mkm {T:TypeId} (ho:o.op=.makeMap T none) {d:Nat} (ca:o.dst=some d) (hd:d<nt) (hD:¬ D d) :
  ∃ v w',(execOp a.eval o).run P w=.ok (.value v) w'/\RelE P O nt B F0 da w0 (fun t=>D t\/t=d) ((s.setObj d s.next (q6m [])).put (some d) ⟨.mp d s.next,.no⟩) (a.put o.dst v) w':=by
 have ia:(execOp a.eval o).run P w=.ok (.value (.map (some w.heap.size))) (w.alloc (.map #[] 0)):=by
  simp [execOp,ho,Instr.makeMap]
 have hb:Below w.heap.size w (w.alloc (.map #[] 0)):=Below.alloc (Below.refl _ _) (ym _) _;obtain ⟨ι',R2,hι,_⟩:=R.newObj (d:=d) (p:=w.heap.size) (H:=fun b=>b=w.heap.size) (S:=q6m []) hb hD ((O.maps _ _ _ _).2 ⟨fun b=>Iff.rfl,#[],0,new_at rfl,rfl,rfl,fun i h=>absurd h (by simp)⟩) (Tie.no rfl) (fun b h=>Nat.le_of_eq h.symm);rw [ca];exact ⟨_,_,ia,ι',Θ,R2.put (x:=⟨.mp d s.next,.no⟩) hd ⟨_,hι,rfl⟩ trivial⟩
theorem op_rng {T kT eT:TypeId} (hT:P.underlying T=some (.map kT eT)) {X:Operand} {x:Opd} (hx:opd X=some x) (ho:o.op=.range T X) {t n:Nat} (kc:x.get s=.mp t n) {L:List (List AV)} (hL:(s.obj t n).bind q7g=some L) {d:Nat} (ca:o.dst=some d) (hd:d<nt) (hD:¬ D d) :
  ∃ v w',(execOp a.eval o).run P w=.ok (.value v) w'/\RelE P O nt B F0 da w0 (fun t=>D t\/t=d) ((s.setObj d s.next (itAV t n L.length [])).put (some d) ⟨.ptr d s.next 0,.no⟩) (a.put o.dst v) w':=by
 have hX:=(R.opd hx).1;rw [kc] at hX;obtain ⟨b,hb,hv⟩:=hX;obtain ⟨S,hS,hm⟩:=y8.1 hL;obtain ⟨p,H,hp,mb,wc,_⟩:=R.objs t n S hS;rw [hb] at hp;injection hp with hp;subst hp;have jv:S=q6m L:=by
  unfold q7g at hm;split at hm
  ·injection hm with hm; subst hm; rfl
  ·cases hm
 subst jv;obtain ⟨hH,es,clock,he,nf,hc,_⟩:=(O.maps L H b w).1 wc;have ja:es.size=L.length:=by simpa using congrArg List.length nf
 have hg:(getObj b).run P w=.ok (.map es clock) w:=by simp [getObj,Sem.run,he]
 have ia:(execOp a.eval o).run P w=.ok (.value (.pointer (some ⟨w.heap.size,0,none⟩))) (w.alloc (.mapIter (some b) clock #[] clock)):=by
  simp only [execOp,ho,hv,Instr.range,Sem.run_bind,run_underlying hT,Result.andThen_ok,hg,Sem.run_pure,run_newObj_alloc]
 have gk:Below w.heap.size w (w.alloc (.mapIter (some b) clock #[] clock)):=Below.alloc (Below.refl _ _) (ym _) _;obtain ⟨ι',R2,hι,_⟩:=R.newObj (d:=d) (p:=w.heap.size) (H:=fun b=>b=w.heap.size) (S:=itAV t n L.length []) gk hD ((O.iters _ _ _ _ (by rw [itOf_av]; rfl)).2 ⟨fun b=>Iff.rfl,by simp⟩) (fun tm nm N seen e=>by
  rw [itOf_av] at e;injection e with e;injection e with g1 e;injection e with g2 e;injection e with g3 g4;subst g1; subst g2; subst g3; subst g4;exact ⟨b,H,hb,mb,by rw [<- ja,<- hc]; exact new_at rfl⟩) (fun b h=>Nat.le_of_eq h.symm)
 rw [ca];exact ⟨_,_,ia,ι',Θ,R2.put (x:=⟨.ptr d s.next 0,.no⟩) hd ⟨_,hι,rfl⟩ trivial⟩
theorem val_ent {X:Operand} {x:Opd} (hx:opd X=some x) (ho:o.op=.entry X) {t n tm nm N:Nat} {seen:List Nat} (kc:x.get s=.ptr t n 0) (hi:(s.obj t n).bind itOf=some (tm,nm,N,seen)) {L:List (List AV)} (hL:(s.obj tm nm).bind q7g=some L) {i:Nat} (hl:seen.getLast?=some i) (hN:L.length=N) {y v:AV} (pp:L[i]?=some [y,v]) (ah:(y.flat&&v.flat)=true) :
  Val P da a w ι Θ o ⟨.tup [y,v],.no⟩:=by
 have hX:=(R.opd hx).1;rw [kc] at hX;obtain ⟨q,hq,hv⟩:=hX;obtain ⟨S,hS,fk⟩:=y8.1 hi;obtain ⟨p,H,hp,mb,wc,tj⟩:=R.objs t n S hS;rw [hq] at hp;injection hp with hp;subst hp;obtain ⟨m,Hm,hm,jD,ra⟩:=tj tm nm N seen fk;obtain ⟨S2,uG,cq⟩:=y8.1 hL;obtain ⟨p2,H2,bk,ot,sy,_⟩:=R.objs tm nm S2 uG;rw [hm] at bk;injection bk with bk;subst bk;have jv:S2=q6m L:=by
  unfold q7g at cq;split at cq
  ·injection cq with cq; subst cq; rfl
  ·cases cq
 subst jv;obtain ⟨cN,es,clock,he,nf,hc,za⟩:=(O.maps L H2 m w).1 sy;have az:es.size=N:=by rw [<- hN]; simpa using congrArg List.length nf
 have eF:(getObj q).run P w=.ok (.mapIter (some m) N seen.toArray N) w:=by simp [getObj,Sem.run,ra]
 have tu:(getObj m).run P w=.ok (.map es clock) w:=by simp [getObj,Sem.run,he]
 have gj:i<es.size:=by
  have:=(yb.1 pp).1;omega
 have oo:seen.toArray.back?=some i:=by simpa using hl
 have nC:es.find? (fun e=>e.born == i)=some es[i]:=by
  rw [Array.find?_eq_some_iff_getElem];refine ⟨by simp [za i gj],i,gj,rfl,fun j hj=>?_⟩;simp only [za j (by omega),Bool.not_eq_true'];simp;omega
 have zC:es[i].key=y.flatV/\es[i].val=v.flatV:=by
  have:=congrArg (fun l=>l[i]?) nf;simp only [yc,pp,Array.getElem?_toList,yZ gj,yz,Option.some.injEq,entV] at this;exact ⟨congrArg Prod.fst this,congrArg Prod.snd this⟩
 rw [y7] at ah;have jd:(clock != N)=false:=by simp [hc,az]
 refine ⟨.tuple #[y.flatV,v.flatV],?_,?_,trivial⟩
 ·simp only [execOp,ho,hv,Instr.entry,Sem.run_bind,eF,tu,oo,Result.andThen_ok,jd,yn,if_false,nC,zC.1,zC.2,Sem.run_pure]
 ·exact ⟨_,rfl,_,_,rfl,q49 (q8O ah.1),_,_,rfl,q49 (q8O ah.2),rfl⟩
end
theorem avOf_nilP {v:Value} (h:avOf v=some .nilP):v=.pointer none:=by
 unfold avOf at h;split at h <;> first | rfl | (injection h with h; cases h; done) | (cases h; done)
theorem avOf_nil {v:Value} (h:avOf v=some (.sl true [])):v=.slice none 0 0:=by
 unfold avOf at h;split at h <;> first | rfl | (injection h with h; cases h; done) | (cases h; done)
theorem isBld_eq {l:List AV} (h:isBld l=true):l=[.nilP,.sl true []]:=by
 unfold isBld at h;split at h
 ·rfl
 ·cases h
theorem avAll_bld {vs:List Value} (h:q8j vs=some [.nilP,.sl true []]):vs=[.pointer none,.slice none 0 0]:=by
 cases vs with
 | nil=>cases h
 | cons v r =>
  simp only [q8j] at h;split at h
  ·rename_i x l hx hl;injection h with h;injection h with h1 h2;subst h1;subst h2;cases r with
   | nil=>cases hl
   | cons v' r' =>
    simp only [q8j] at hl;split at hl
    ·rename_i x' l' tl rq;injection hl with hl;injection hl with h1 h2;subst h1;subst h2;cases r' with
     | nil=>rw [avOf_nilP hx,avOf_nil tl]
     | cons v'' r'' =>
      simp only [q8j] at rq;split at rq <;> cases rq
    ·cases hl
  ·cases h
section
variable (R:Rel P O nt B F0 da w0 D s a w ι Θ)
include R
theorem op_mkb {T e:TypeId} (sc:bldEl P T=some e) (ho:o.op=.alloc T) {d:Nat} (ca:o.dst=some d) (hd:d<nt) (hD:¬ D d) :
  ∃ v w',(execOp a.eval o).run P w=.ok (.value v) w'/\RelE P O nt B F0 da w0 (fun t=>D t\/t=d) ((s.setObj d s.next (bldAV T e ⟨#[]⟩)).put (some d) ⟨.ptr d s.next 0,.no⟩) (a.put o.dst v) w':=by
 obtain ⟨l,hl,hb⟩:∃ l,q8E P T=some l/\isBld l=true:=by
  unfold bldEl at sc;split at sc
  ·rename_i h; exact yg.1 h
  ·cases sc
 obtain ⟨z,i,hi,so,mP,jk⟩:=q52 hl w;rw [isBld_eq hb] at jk;have rJ:z.cells=#[.pointer none,.slice none 0 0]:=by
  apply Array.ext';exact avAll_bld jk
 have ia:(execOp a.eval o).run P w=.ok (.value (.pointer (some ⟨w.heap.size,0,none⟩))) (w.alloc (.cells #[.pointer none,.slice none 0 0] T)):=by
  simp [execOp,ho,Instr.alloc,newVar,newRow,mP,rJ]
 have hb:Below w.heap.size w (w.alloc (.cells #[.pointer none,.slice none 0 0] T)):=Below.alloc (Below.refl _ _) (ym _) _;obtain ⟨ι',R2,hι,_⟩:=R.newObj (d:=d) (p:=w.heap.size) (H:=fun b=>b=w.heap.size) (S:=bldAV T e ⟨#[]⟩) hb hD ((O.blds _ _ _ _ _ _).2 ⟨.slice none 0 0,.pointer none,new_at rfl,.inl rfl,World.ownsRowF_nil _ _ _ _,by simp [Value.ownBlock],fun b=>by simp [Value.ownBlock]⟩) (Tie.no rfl) (fun b h=>Nat.le_of_eq h.symm);rw [ca];exact ⟨_,_,ia,ι',Θ,R2.put (x:=⟨.ptr d s.next 0,.no⟩) hd ⟨_,hι,rfl⟩ trivial⟩
theorem op_mlen {T:TypeId} {kT eT:TypeId} (hT:P.underlying T=some (.map kT eT)) {X:Operand} {x:Opd} (hx:opd X=some x) (ho:o.op=.call { callee:=.builtin .len,args:=#[X],argTypes:=#[T] }) {t n:Nat} (kc:x.get s=.mp t n) {L:List (List AV)} (hL:(s.obj t n).bind q7g=some L) :
  Val P da a w ι Θ o ⟨.int .i64 L.length,.no⟩:=by
 have hX:=(R.opd hx).1;rw [kc] at hX;obtain ⟨b,hb,hv⟩:=hX;obtain ⟨S,hS,hm⟩:=y8.1 hL;obtain ⟨p,H,hp,mb,wc,_⟩:=R.objs t n S hS;rw [hb] at hp;injection hp with hp;subst hp;have jv:S=q6m L:=by
  unfold q7g at hm;split at hm
  ·injection hm with hm; subst hm; rfl
  ·cases hm
 subst jv;obtain ⟨hH,es,clock,he,nf,_⟩:=(O.maps L H b w).1 wc;have ja:es.size=L.length:=by simpa using congrArg List.length nf
 have hg:(getObj b).run P w=.ok (.map es clock) w:=by simp [getObj,Sem.run,he]
 refine ⟨.int .i64 L.length,?_,by rw [q0E],trivial⟩;simp [execOp,ho,resolve,invoke,builtin,Builtin.len_,run_underlying hT,hv,hg,goInt,ja]
theorem Rel.turnNew {t n p:Nat} {H H':Nat->Prop} {S':AV} (hp:ι t n=some p) (mb:ι.ob t n=some H) (wc:O.at_ S' H' p w') (tj:Tie ι S' p w') (hH:∀ b,H' b->H b\/w.heap.size<=b) (hk:Keep H w w')
  {d g:Nat} (hD:¬ D d) (hg:w.heap.size<=g) (nO:¬ H' g) {cur:Array Value} {ty:TypeId} (sK:w'.heap[g]?=some (.cells cur ty (0,0))) {l:List AV} (hl:l.all AV.scal=true) (je:∀ (j:Nat) (x:AV),l[j]?=some x->cur[j]?=some x.scalV) (kj:l.length<=cur.size) :
  ∃ ι':Ix,Rel P O nt B F0 da w0 (fun j=>D j\/j=d) ((s.setObj t n S').setRow d s.next (l.map (⟨·,.no⟩))) a w' ι' Θ/\ι' d s.next=some g/\ι'.z g=cur.size:=by
 obtain ⟨wn,ot⟩:=R.obs t n H mb;have xv:=q0h sK;have ge:ι d s.next=none:=by
  cases h:ι d s.next with
  | none=>rfl
  | some b =>
   rcases (R.mine _ _ _ h).2.2 with h1 | h1
   ·omega
   ·exact absurd h1.2 hD
 have ee:ι.ob d s.next=none:=by
  cases h:ι.ob d s.next with
  | none=>rfl
  | some b =>
   rcases (R.obs _ _ _ h).2 with h1 | h1
   ·omega
   ·exact absurd h1.2 hD
 have cB:¬ (t=d/\n=s.next):=fun e=>by rw [e.1,e.2,ge] at hp; cases hp
 obtain ⟨ι',hι'⟩:∃ ι':Ix,ι'=⟨fun t' n'=>if t'=d/\n'=s.next then some g else ι t' n',fun t' n'=>if t'=t/\n'=n then some H' else ι.ob t' n',fun b=>if b=g then cur.size else ι.z b⟩:=⟨_,rfl⟩;have hf:∀ t' n' b,ι' t' n'=some b->(t'=d/\n'=s.next/\b=g)\/(¬ (t'=d/\n'=s.next)/\ι t' n'=some b):=fun t' n' b h=>by
  subst hι';have h':(if t'=d/\n'=s.next then some g else ι t' n')=some b:=h;split at h'
  ·rename_i e; injection h' with h'; exact .inl ⟨e.1,e.2,h'.symm⟩
  ·rename_i e; exact .inr ⟨e,h'⟩
 have uh:∀ t' n' H1,ι'.ob t' n'=some H1->(t'=t/\n'=n/\H1=H')\/(¬ (t'=t/\n'=n)/\ι.ob t' n'=some H1):=fun t' n' H1 h=>by
  subst hι';simp only at h;split at h
  ·rename_i e; injection h with h; exact .inl ⟨e.1,e.2,h.symm⟩
  ·rename_i e; exact .inr ⟨e,h⟩
 have nc:∀ t n b,ι t n=some b->ι' t n=some b:=fun t n b h=>by
  subst hι';show (if t=d/\n=s.next then some g else ι t n)=some b;split
  ·rename_i e; rw [e.1,e.2,ge] at h; cases h
  ·exact h
 have tb:ι' d s.next=some g:=by subst hι'; show (if d=d/\s.next=s.next then some g else ι d s.next)=_; rw [if_pos ⟨rfl,rfl⟩]
 have bw:ι'.ob t n=some H':=by subst hι'; simp
 have pt:∀ t' n',¬ (t'=t/\n'=n)->ι'.ob t' n'=ι.ob t' n':=fun t' n' e=>by subst hι'; simp only [if_neg e]
 have rL:ι'.z g=cur.size:=by subst hι'; simp
 have rg:∀ t1 n1 b1 H1,ι t1 n1=some b1->ι.ob t1 n1=some H1->ι' t1 n1=some b1/\∃ H2,ι'.ob t1 n1=some H2:=fun t1 n1 b1 H1 g1 g2=>⟨nc _ _ _ g1,by
  by_cases e:t1=t/\n1=n
  ·exact ⟨H',by rw [e.1,e.2]; exact bw⟩
  ·exact ⟨H1,by rw [pt _ _ e]; exact g2⟩⟩
 have wb:Ix.Le ι ι':=⟨nc,fun t n b h=>by
  have:=(R.mine t n b h).2.1;subst hι';show (if b=g then cur.size else ι.z b)=ι.z b;rw [if_neg (by omega)]⟩
 clear hι';have ic:=hk.size;have ar:=R.lowB;have ri:∀ b o,b<w.heap.size->avB ι' Θ b o->avB ι Θ b o:=fun b o hb h=>h.imp (fun h=>h.imp (fun ⟨t',n',h⟩=>by
  rcases hf _ _ _ h with ⟨_,_,e⟩ | ⟨_,h⟩
  ·omega
  ·exact ⟨t',n',h⟩) fun ⟨t',n',H1,h1,h2⟩=>by
  rcases uh _ _ _ h1 with ⟨e1,e2,e3⟩ | ⟨_,h1⟩
  ·subst e3;rcases hH b h2 with h3 | h3
   ·exact ⟨t,n,H,mb,h3⟩
   ·omega
  ·exact ⟨t',n',H1,h1,h2⟩) id
 have pb:∀ b o u,w.cell? ⟨b,o,none⟩=some u->¬ H b->w'.cell? ⟨b,o,none⟩=some u:=fun b o u hc hn=>(World.cell?_of_block (w:=w) (a:=⟨b,o,none⟩) (hk.block b (q5R hc) hn)).trans hc
 have hB:Held (avB ι Θ) (avB ι' Θ) w w':=⟨fun b o u hc hn=>⟨pb b o u hc fun h=>hn (.inl (.inr ⟨t,n,H,mb,h⟩)),fun h=>hn (ri b o (q5R hc) h)⟩⟩;have hA:Held (avA da ι Θ) (avA da ι' Θ) w w':=⟨fun b o u hc hn=>⟨pb b o u hc fun h=>hn (.inr (.inl (.inr ⟨t,n,H,mb,h⟩))),fun h=>hn (h.imp id (ri b o (q5R hc)))⟩⟩;refine ⟨ι',⟨R.defers,R.size,fun j=>RepS.held wb hA hB _ _ (R.env j),R.ann,fun t' n' r hr=>?_,fun t' n' b h=>?_,fun t1 n1 t2 n2 b h h'=>?_,fun k o h=>?_,R.tinj,fun k o t' n' h h'=>?_,R.out,fun p' h=>⟨nc _ _ _ (R.pin p' h).1,?_⟩,?_,R.base,fun t' n' S1 h=>?_,fun t' n' H1 h=>?_,fun j=>RepS.held wb hA hB _ _ (R.gen j),R.gann⟩,tb,rL⟩
 ·simp only [MSt.setRow] at hr;split at hr
  ·rename_i e;injection hr with hr;subst hr;have iP:ι'.ob t' n'=none:=by
    rw [pt t' n' (fun e'=>cB ⟨e'.1.symm.trans e.1,e'.2.symm.trans e.2⟩),e.1,e.2];exact ee
   refine ⟨iP,g,cur,ty,by rw [e.1,e.2]; exact tb,sK,⟨by simpa using kj,fun j x hx=>?_⟩,by omega,rL.symm⟩;rw [yc] at hx;cases hj:l[j]? with
   | none=>rw [hj] at hx; cases hx
   | some y =>
    rw [hj] at hx;injection hx with hx;subst hx;have hy:=y4.1 hl y (yj hj);have hr:=q8U (av:=avA da ι' Θ) (w:=w') hy;exact ⟨_,je j y hj,hr.2,q6u hr.1,trivial⟩
  ·have ff:s.mem t' n'=some r:=hr;obtain ⟨h0,b,lb,up,h1,h2,h3,h8,h9⟩:=R.rows t' n' r ff;have oa:¬ (t'=t/\n'=n):=fun e=>by rw [e.1,e.2,mb] at h0; cases h0
   have dC:¬ H b:=fun hb=>oa ((wn b hb).2.2.1 t' n' h1)
   exact ⟨by rw [pt _ _ oa]; exact h0,b,lb,up,nc _ _ _ h1,(hk.block b (q0h h2) dC).trans h2,h3.held wb hA (fun _ _ h=>h),h8,h9.trans (wb.z _ _ _ h1).symm⟩
 ·rcases hf _ _ _ h with ⟨e1,e2,e3⟩ | ⟨_,h⟩
  ·subst e3;exact ⟨.inl (by omega),xv,.inr ⟨e2,.inr e1⟩⟩
  ·obtain ⟨h1,h2,h3⟩:=R.mine t' n' b h;exact ⟨h1,by omega,h3.imp id fun ⟨e,d⟩=>⟨e,.inl d⟩⟩
 ·rcases hf _ _ _ h with ⟨e1,e2,e3⟩ | ⟨_,h⟩ <;> rcases hf _ _ _ h' with ⟨f1,f2,f3⟩ | ⟨_,h'⟩
  ·exact ⟨e1.trans f1.symm,e2.trans f2.symm⟩
  ·have:=(R.mine _ _ _ h').2.1; omega
  ·have:=(R.mine _ _ _ h).2.1; omega
  ·exact R.inj _ _ _ _ _ h h'
 ·obtain ⟨h1,h2,h3,h4,lb,h5,h6⟩:=R.tok k o h;exact ⟨h1,h2,h3,h4,lb,(hk.block _ (q0h h5) (R.apob h mb)).trans h5,h6⟩
 ·obtain ⟨_,_,_,_,lb,h5,_⟩:=R.tok k o h;have fa:=q0h h5;rcases hf _ _ _ h' with ⟨_,_,e⟩ | ⟨_,h'⟩
  ·omega
  ·exact R.apart k o t' n' h h'
 ·rcases (R.pin p' h).2 with bA | ⟨H1,h1⟩
  ·exact .inl ⟨bA.1,(wb.z _ _ _ (R.pin p' h).1).trans bA.2⟩
  refine .inr ?_;by_cases e:0=t/\0=n
  ·exact ⟨H',by rw [<- e.1,<- e.2] at bw; exact bw⟩
  ·exact ⟨H1,by rw [pt _ _ e]; exact h1⟩
 ·refine R.kept.trans hk fun i hi h=>?_
  have:=R.base;rcases (wn i h).1 with h1 | h1
  ·omega
  ·exact h1
 ·simp only [MSt.setRow,MSt.setObj] at h;split at h
  ·rename_i e;injection h with h;subst h;exact ⟨p,H',by rw [e.1,e.2]; exact nc _ _ _ hp,by rw [e.1,e.2]; exact bw,wc,tj.keep rg fun x hx=>hx⟩
  ·rename_i e;obtain ⟨p1,H1,h1,h2,h3,h4⟩:=R.objs t' n' S1 h;have zo:∀ b,H1 b->¬ H b:=fun b hb ua=>e ((wn b ua).2.2.2.2 t' n' H1 h2 hb)
   exact ⟨p1,H1,nc _ _ _ h1,by rw [pt _ _ e]; exact h2,O.keep h3 (fun b hb=>hk.block b (O.lt h3 hb) (zo b hb)) ic,h4.keep rg fun x hx=>(hk.block _ (q0h hx) (zo _ (O.main h3))).trans hx⟩
 ·rcases uh _ _ _ h with ⟨e1,e2,e3⟩ | ⟨e,h⟩
  ·subst e1; subst e2; subst e3;refine ⟨fun b hb=>?_,ot.imp id fun ⟨e,d⟩=>⟨e,.inl d⟩⟩;have wE:b≠g:=fun e=>nO (e ▸ hb)
   rcases hH b hb with h1 | h1
   ·obtain ⟨g1,g2,g3,g4,g5⟩:=wn b h1;refine ⟨g1,by omega,fun t1 n1 h2=>?_,g4,fun t1 n1 H2 h2 h3=>?_⟩
    ·rcases hf _ _ _ h2 with ⟨_,_,e⟩ | ⟨_,h2⟩
     ·exact absurd e wE
     ·exact g3 t1 n1 h2
    ·rcases uh _ _ _ h2 with ⟨e1,e2,_⟩ | ⟨_,h2⟩
     ·exact ⟨e1,e2⟩
     ·exact g5 t1 n1 H2 h2 h3
   ·refine ⟨.inl (by omega),O.lt wc hb,fun t1 n1 h2=>?_,fun k o h2 e=>?_,fun t1 n1 H2 h2 h3=>?_⟩
    ·rcases hf _ _ _ h2 with ⟨_,_,e⟩ | ⟨_,h2⟩
     ·exact absurd e wE
     ·have:=(R.mine _ _ _ h2).2.1; omega
    ·obtain ⟨_,_,_,_,lb,h5,_⟩:=R.tok k o h2; have:=q0h h5; omega
    ·rcases uh _ _ _ h2 with ⟨e1,e2,_⟩ | ⟨_,h2⟩
     ·exact ⟨e1,e2⟩
     ·have:=((R.obs _ _ _ h2).1 b h3).2.1; omega
  ·obtain ⟨h1,h2⟩:=R.obs t' n' H1 h;refine ⟨fun b hb=>?_,h2.imp id fun ⟨e,d⟩=>⟨e,.inl d⟩⟩;obtain ⟨g1,g2,g3,g4,g5⟩:=h1 b hb;refine ⟨g1,by omega,fun t1 n1 h2=>?_,g4,fun t1 n1 H2 h2 h3=>?_⟩
   ·rcases hf _ _ _ h2 with ⟨_,_,e'⟩ | ⟨_,h2⟩
    ·omega
    ·exact g3 t1 n1 h2
   ·rcases uh _ _ _ h2 with ⟨e1,e2,e3⟩ | ⟨_,h2⟩
    ·subst e3;rcases hH b h3 with h4 | h4
     ·have:=g5 t n H mb h4;exact absurd ⟨this.1.symm,this.2.symm⟩ e
     ·omega
    ·exact g5 t1 n1 H2 h2 h3
theorem op_callf {call:q18} (wa:∀ f args S r,call f args S=some r->q2i P O f args S r) {f:FuncId} {Xs:Array Operand} {ts:Array TypeId} {xs:List Opd} (hx:opdL Xs.toList=some xs) (ho:o.op=.call { callee:=.value (.func f),args:=Xs,argTypes:=ts }) (hd:∀ d,o.dst=some d->d<nt) (hD:∀ d,o.dst=some d->¬ D d) {cl:Cl} {sz:Nat} (ic:0<sz) {xe:Slot × Eff} (hr:(K.callf cl f sz xs).run call s=some xe) {g} {s':MSt} (he:OpC.eff ⟨o.dst,.callf cl f sz xs,g⟩ s xe=some s')
  {Kn:Act->World->Prop} {Q:Exit->Act->World->Prop} (hK:∀ a' w',RelE P O nt B F0 da w0 (fun t=>D t\/o.dst=some t) s' a' w'->Kn a' w'):o.wp P a w Kn Q:=by
 simp only [K.run] at hr;obtain ⟨vs,hl,hr⟩:=y8.1 hr;have md:(Xs.toList.map a.eval).toArray=Xs.map a.eval:=by rw [<- Array.toList_map,yT]
 have se:∀ b o,avA da ι Θ b o->b<w.heap.size:=fun b o h=>R.low h
 split at hr
 ·rename_i t n eo;obtain ⟨r,hc,hr⟩:=y8.1 hr;split at hr
  ·rename_i l S';split at hr
   ·rename_i aa;obtain ⟨ml,zd,uD,iB⟩:=aa;obtain ⟨S,hS⟩:=Option.isSome_iff_exists.1 ml;rw [hS] at hc;have la:CallOwn P O f vs (some S) (.sl false l,some S'):=q2i.own (q9V hl) (wa f (.undef :: vs) (some S) _ hc);obtain ⟨p,H,hp,mb,wc,_⟩:=R.objs t n S hS;have lc:=q6I (ι':=Ix.one p) (avl:=fun b _=>H b) R (fun b _ h=>⟨t,n,H,mb,h⟩) hx hl fun x hx t' n' h=>by
     have:(t',n')∈q79 s xs:=List.mem_filterMap.2 ⟨x,hx,by rw [h]⟩;rw [eo] at this;have:=yU.1 this;injection this with e1 e2;rw [e1,e2,hp];rfl
    have ia:(execOp a.eval o).run P w=.ok (.enter f (Xs.map a.eval)) w:=by
     simp only [execOp,ho,resolve,Act.eval,Deferred.ofValue,Sem.run_bind,Sem.run_pure,Result.andThen_ok,invoke];have:=la.1 (#[]++Xs.map a.eval++#[]) w;simp only [Array.empty_append,Array.append_empty] at this ⊢;exact this
    unfold Oper.wp;rw [ia,Oper.upon_enter];have hC:=la.2 (avA da ι Θ) w _ p H se (fun b o h=>.inr (.inl (.inr ⟨t,n,H,mb,h⟩))) wc lc;rw [md] at hC;refine hC.mono ?_;rintro e w' ⟨v,H',rfl,hv,bi,hH,hk⟩;split at hr
    ·rename_i lr;injection hr with hr;subst hr;simp only [OpC.eff] at he;injection he with he;subst he;have pg:l=[]:=by simpa using lr
     subst pg;obtain ⟨ι',R',td⟩:=R.turnObj hp mb bi (Tie.no iB) hH hk;have kA:∃ A c,v=.slice A 0 c/\(A=none->c=0):=by
      rcases hv with ⟨_,A,c,h1,h2⟩ | ⟨g,c,cur,ty,h1,_⟩
      ·exact ⟨A,c,h1,h2⟩
      ·exact ⟨_,c,h1,fun h=>by cases h⟩
     obtain ⟨A,c,rfl,hA⟩:=kA;refine hK _ _ ⟨ι',Θ,(R'.putN (x:=⟨.sl false [],.no⟩) hd ?_ trivial).more fun _ h=>.inl h⟩;rw [q2F];simp only [Rep,List.length_nil];exact ⟨A,c,rfl,Nat.zero_le _,(fun x hx=>by cases hx),(fun h=>by cases h),fun _=>⟨hA,fun h=>absurd h (Nat.lt_irrefl 0)⟩⟩
    ·rename_i lr;injection hr with hr;subst hr;cases ca:o.dst with
     | none=>simp [OpC.eff,ca] at he
     | some d =>
      simp only [OpC.eff,ca] at he;injection he with he;subst he;have oa:l≠[]:=fun h=>lr (by simp [h])
      have ab:0<l.length:=List.length_pos_iff.2 oa;rcases hv with ⟨h0,_⟩ | ⟨g,c,cur,ty,rfl,h2,h3,h4,h5,h6,h7⟩
      ·exact absurd h0 oa
      ·have kr:=h6 sz zd ab;have ah:l.flatten.length=l.length * sz:=by
        have zH:∀ q:List (List AV),q13 sz q=true->q.flatten.length=q.length * sz:=fun q=>by
         induction q with
         | nil=>simp
         | cons c r ih =>
          intro h;rw [qan] at h;simp only [y7,decide_eq_true_eq] at h;rw [yB,yp,ih h.2,h.1,yH,yt];omega
        exact zH l zd
       have pP:l.flatten.all AV.scal=true:=by
        rw [List.all_flatten];exact uD
       obtain ⟨ι',R',hι,hz⟩:=R.turnNew (d:=d) (g:=g) hp mb bi (Tie.no iB) hH hk (hD d ca) h2 h3 h4 pP h7 (by rw [ah]; exact Nat.le_trans (yW _ h5) kr);refine hK _ _ ⟨ι',Θ,?_⟩;rw [ca];exact (R'.put (x:=⟨.ref d s.next sz 0 l.length l.length,.no⟩) (hd d ca) ⟨g,hι,ym _,c,h5,by rw [hz,yF]; exact kr,rfl⟩ trivial).more fun t h=>h.imp id fun e=>by rw [e]
   ·cases hr
  ·cases hr
 ·cases hr
end
end
end
section
open Go Go.RowKit
section
variable {P:Program} {O:Objs} {nt B:Nat} {F0:Own} {da:Av} {w0:World} {D:Nat->Prop} {s:MSt} {a:Act} {w w':World} {ι:Ix} {Θ:Fam} {o:Oper}
theorem q1x (R:Rel P O nt B F0 da w0 D s a w ι Θ) {x:Slot} {e:Eff} (hv:e=.none/\Val P da a w ι Θ o x) (hd:∀ d,o.dst=some d->d<nt) {k:K} {g} {s':MSt} (he:OpC.eff ⟨o.dst,k,g⟩ s (x,e)=some s')
  {Kn:Act->World->Prop} {Q:Exit->Act->World->Prop} (hK:∀ a' w',RelE P O nt B F0 da w0 D s' a' w'->Kn a' w'):o.wp P a w Kn Q:=by
 obtain ⟨rfl,v,ia,hS,hA⟩:=hv;simp only [OpC.eff] at he;cases he;unfold Oper.wp;rw [ia,Oper.upon_value];exact hK _ _ ⟨ι,Θ,R.putN hd hS hA⟩
theorem run_wp {s':MSt} (h:∃ v w',(execOp a.eval o).run P w=.ok (.value v) w'/\RelE P O nt B F0 da w0 D s' (a.put o.dst v) w')
  {Kn:Act->World->Prop} {Q:Exit->Act->World->Prop} (hK:∀ a' w',RelE P O nt B F0 da w0 D s' a' w'->Kn a' w'):o.wp P a w Kn Q:=by
 obtain ⟨v,w',ia,hR⟩:=h;unfold Oper.wp;rw [ia,Oper.upon_value];simp_all
theorem q2h {α β:Type} {x:Option α} {f:α->β} {z:β} (h:x.map f=some z):∃ a,x=some a/\f a=z:=by
 simp_all
theorem op_sound (R:Rel P O nt B F0 da w0 D s a w ι Θ) {call:q18} (wa:∀ f args S r,call f args S=some r->q2i P O f args S r) {cl:Cl} {mu:Option Bool} {nest:Bool} {k:K} (hk:compOp P cl mu o.op nest=some k) (tn:mu≠none->o.dst≠none) (hd:∀ d,o.dst=some d->d<nt) (hD:∀ d,o.dst=some d->(isA k||isO k)=true->¬ D d)
  {xe:Slot × Eff} (hr:k.run call s=some xe) {g} {s':MSt} (he:OpC.eff ⟨o.dst,k,g⟩ s xe=some s')
  {Kn:Act->World->Prop} {Q:Exit->Act->World->Prop} (hK:∀ a' w',RelE P O nt B F0 da w0 (fun t=>D t\/o.dst=some t) s' a' w'->Kn a' w'):o.wp P a w Kn Q:=by
 have sd:∀ a' w',RelE P O nt B F0 da w0 D s' a' w'->Kn a' w':=fun a' w' ⟨ι',Θ',h⟩=>hK a' w' ⟨ι',Θ',h.more fun _ h=>.inl h⟩
 have tb:∀ d,o.dst=some d->(∃ v w',(execOp a.eval o).run P w=.ok (.value v) w'/\RelE P O nt B F0 da w0 (fun t=>D t\/t=d) s' (a.put o.dst v) w')->o.wp P a w Kn Q:=fun d ca h =>
  run_wp h fun a' w' ⟨ι',Θ',h⟩=>hK a' w' ⟨ι',Θ',h.more fun t h=>h.imp id fun e=>by rw [ca,e]⟩
 obtain ⟨x,e⟩:=xe;cases db:o.op <;> rw [db] at hk <;> simp only [compOp] at hk
 case move X=>obtain ⟨y,hy,rfl⟩:=q2h hk; simp only [K.run] at hr; injection hr with hr; injection hr with h1 h2; subst h1; subst h2; exact q1x R ⟨rfl,val_mv R hy (.inl db)⟩ hd he sd
 case assign X=>obtain ⟨y,hy,rfl⟩:=q2h hk; simp only [K.run] at hr; injection hr with hr; injection hr with h1 h2; subst h1; subst h2; exact q1x R ⟨rfl,val_mv R hy (.inr db)⟩ hd he sd
 case pick C X Y =>
  split at hk
  ·rename_i c x' y' hc hx hy;cases hk;simp only [K.run] at hr;split at hr
   ·rename_i t ht;injection hr with hr; injection hr with h1 h2; subst h1; subst h2;exact q1x R ⟨rfl,val_pick R hc hx hy db ht⟩ hd he sd
   ·cases hr
  ·cases hk
 case alloc t =>
  split at hk
  case h_2 =>
   obtain ⟨el,sc,rfl⟩:=q2h hk;simp only [K.run] at hr;injection hr with hr; injection hr with h1 h2; subst h1; subst h2;cases ca:o.dst with
   | none=>simp [OpC.eff,ca] at he
   | some d =>
    simp only [OpC.eff,ca] at he;cases he;exact tb d ca (op_mkb R sc db ca (hd d ca) (hD d ca rfl))
  obtain ⟨z,hz,rfl⟩:=q2h hk;cases ca:o.dst with
  | none=>simp [K.run] at hr; obtain ⟨rfl,rfl⟩:=hr; simp [OpC.eff,ca] at he
  | some d=>exact tb d ca (op_alloc R hz db ca (hd d ca) (hD d ca rfl) hr he)
 case box t X =>
  split at hk
  ·rename_i z x' hz hx;cases hk;cases ca:o.dst with
   | none =>
    simp only [K.run] at hr;split at hr
    ·split at hr
     ·injection hr with hr; injection hr with h1 h2; subst h1; subst h2; simp [OpC.eff,ca] at he
     ·cases hr
    ·split at hr
     ·injection hr with hr; injection hr with h1 h2; subst h1; subst h2; simp [OpC.eff,ca] at he
     ·cases hr
   | some d=>exact tb d ca (op_boxE R hx db ca (hd d ca) (hD d ca rfl) hr he)
  ·cases hk
 case build t ps =>
  split at hk
  ·rename_i fs z ys ht hz hy;split at hk
   ·rename_i pl dp;obtain ⟨zs,pm,rfl⟩:=q2h hk;obtain ⟨zv,i,hi,so,_,hl⟩:=q52 hz w;refine q1x R (val_build R hl (pl:=(pl.toArray[·]?)) ?_ hy pm db hr) hd he sd;simp [Program.built,hi,ht,so,dp]
   ·cases hk
  ·rename_i n el z ys ht hz hy;split at hk
   ·rename_i ie jg;obtain ⟨zs,pm,rfl⟩:=q2h hk;obtain ⟨zv,i,hi,so,_,hl⟩:=q52 hz w;refine q1x R (val_build R hl (pl:=fun i=>some (i * ie.size,ie.size)) ?_ hy pm db hr) hd he sd;simp [Program.built,hi,ht,so,jg]
   ·cases hk
  ·cases hk
 case buildSlice t n ps =>
  split at hk
  ·rename_i el ys ht hy;split at hk
   ·rename_i z kk hz hs;split at hk
    ·rename_i hc;cases mu with
     | none =>
      simp only at hk;cases hk;obtain ⟨rfl,v,w',ia,R',hS,hA⟩:=op_bsl R ht hz hs hc.1 hc.2.1 hc.2.2 hy db hr;simp only [OpC.eff] at he;cases he;unfold Oper.wp;rw [ia,Oper.upon_value];exact sd _ _ ⟨ι,Θ,R'.putN hd hS hA⟩
     | some m =>
      simp only at hk;cases hk;cases ca:o.dst with
      | none=>exact absurd ca (tn (by simp))
      | some d=>exact tb d ca (op_bslr R ht hz hs hc.1 hc.2.1 hc.2.2 hy db ca (hd d ca) (hD d ca rfl) hr he)
    ·cases hk
   ·cases hk
  ·cases hk
 case load t X =>
  split at hk
  ·rename_i ag z y hA hz hx;cases hk;exact q1x R (val_load R hA hz hx db hr) hd he sd
  ·cases hk
 case store t X Y =>
  split at hk
  ·rename_i ag z x' y' hA hz hx hy;split at hk
   ·rename_i py;cases hk;obtain ⟨w',ia,hR⟩:=op_store R hz (by simpa using py) hx hy db hd hr he;unfold Oper.wp;rw [ia,Oper.upon_skip];simp_all
   ·cases hk
  ·cases hk
 case nilCheck X=>obtain ⟨y,hy,rfl⟩:=q2h hk; exact q1x R (val_nilchk R hy db hr) hd he sd
 case binOp op t X Y t' =>
  split at hk
  ·rename_i x' y' hx hy;split at hk
   ·cases hk;simp only [K.run] at hr;obtain ⟨v,hv,hr⟩:=q2h hr;injection hr with h1 h2; subst h1; subst h2
    refine q1x R ⟨rfl,val_bin R (fun hb=>?_) hx hy db hv⟩ hd he sd
    grind
   ·split at hk
    ·split at hk
     ·rename_i el ht; injection hk with hk; subst hk; exact q1x R (val_eqn R (neg:=false) (ptr:=false) ⟨el,ht⟩ hx hy db hr) hd he sd
     ·rename_i el ht; injection hk with hk; subst hk; exact q1x R (val_eqn R (neg:=false) (ptr:=true) ⟨el,ht⟩ hx hy db hr) hd he sd
     ·obtain ⟨ks,ht,rfl⟩:=q2h hk; exact q1x R (val_eqa R (neg:=false) ht hx hy db hr) hd he sd
    ·split at hk
     ·rename_i el ht; injection hk with hk; subst hk; exact q1x R (val_eqn R (neg:=true) (ptr:=false) ⟨el,ht⟩ hx hy db hr) hd he sd
     ·rename_i el ht; injection hk with hk; subst hk; exact q1x R (val_eqn R (neg:=true) (ptr:=true) ⟨el,ht⟩ hx hy db hr) hd he sd
     ·obtain ⟨ks,ht,rfl⟩:=q2h hk; exact q1x R (val_eqa R (neg:=true) ht hx hy db hr) hd he sd
    ·cases hk
  ·cases hk
 case unOp op t X =>
  split at hk
  ·obtain ⟨y,hy,rfl⟩:=q2h hk; exact q1x R (val_un R hy db hr) hd he sd
  ·cases hk
 case convert t t' X =>
  split at hk
  ·rename_i j kk x' h1 h2 hx; injection hk with hk; subst hk; exact q1x R (val_conv R (k:=some kk) ⟨⟨j,h1⟩,h2⟩ hx db hr) hd he sd
  ·rename_i x' h1 h2 hx; injection hk with hk; subst hk; exact q1x R (val_conv R (k:=none) ⟨h1,h2⟩ hx db hr) hd he sd
  ·rename_i j x' h1 h2 hx; injection hk with hk; subst hk; exact q1x R (val_rstr R h1 h2 hx db hr) hd he sd
  ·rename_i el x' h1 h2 hx;split at hk
   ·rename_i h3;split at hk
    ·injection hk with hk; subst hk; exact q1x R (val_bstr R h1 h3 h2 hx db hr) hd he sd
    ·cases hk
   ·cases hk
  ·cases hk
 case makeSlice t L C =>
  split at hk
  ·rename_i el l c ht hl hc;split at hk
   ·rename_i z i hz hi;split at hk
    ·rename_i aa;cases hk;cases ca:o.dst with
     | none =>
      simp only [K.run] at hr;split at hr
      ·split at hr
       ·injection hr with hr; injection hr with h1 h2; subst h1; subst h2; simp [OpC.eff,ca] at he
       ·cases hr
      ·cases hr
     | some d=>exact tb d ca (op_mks R ht hi hz aa.1 hl hc db ca (hd d ca) (hD d ca rfl) hr he)
    ·cases hk
   ·cases hk
  ·cases hk
 case slice t X L H M =>
  split at hk
  ·rename_i x' l h m hx hl hh hm;split at hk
   ·rename_i ht;cases hk;cases M with
    | none=>injection hm with hm; subst hm; exact q1x R (val_slc R (str:=true) ht hx hl hh db hr) hd he sd
    | some M=>simp only [opdO] at hm; obtain ⟨m',_,rfl⟩:=q2h hm; simp [K.run] at hr
   ·rename_i el ht;split at hk
    ·rename_i wq;obtain ⟨z,hz,rfl⟩:=q2h hk;rw [y7] at wq;exact q1x R (val_slz R ht hz wq.1 wq.2 hx db hr) hd he sd
    ·obtain ⟨z,hz,rfl⟩:=q2h hk;cases M with
     | none=>injection hm with hm; subst hm; exact q1x R (val_slc R (str:=false) ⟨el,ht,hz⟩ hx hl hh db hr) hd he sd
     | some M=>simp only [opdO] at hm; obtain ⟨m',_,rfl⟩:=q2h hm; simp [K.run] at hr
   ·rename_i n' el ht;cases M with
    | none =>
     injection hm with hm; subst hm;obtain ⟨z,hz,rfl⟩:=q2h hk;exact q1x R (val_aslc R ht hz hx hl hh db hr) hd he sd
    | some M=>simp only [opdO] at hm; obtain ⟨m',_,rfl⟩:=q2h hm; cases hk
   ·cases hk
  ·cases hk
 case fieldAddr t X i =>
  split at hk
  ·rename_i fs x' ht hx;split at hk
   ·rename_i f hf;split at hk
    ·rename_i n hn; injection hk with hk; subst hk; exact q1x R (val_faddr R ht hf hn hx db hr) hd he sd
    ·cases hk
   ·cases hk
  ·cases hk
 case field t X i =>
  split at hk
  ·rename_i fs x' ht hx;split at hk
   ·rename_i f hf;split at hk
    ·rename_i ag z hA hz; injection hk with hk; subst hk; exact q1x R (val_field R ht hf hA hz hx db hr) hd he sd
    ·cases hk
   ·cases hk
  ·cases hk
 case indexAddr t X I =>
  split at hk
  ·rename_i el x' i' ht hx hi;obtain ⟨z,hz,rfl⟩:=q2h hk;exact q1x R (val_iaddr R ht hz hx hi db hr) hd he sd
  ·rename_i n' e x' i' ht hx hi;obtain ⟨z,hz,rfl⟩:=q2h hk;exact q1x R (val_aaddr R ht hz hx hi db hr) hd he sd
  ·cases hk
 case index t X I =>
  split at hk
  ·rename_i x' i' ht hx hi;cases hk;exact q1x R (val_index R ht hx hi db hr) hd he sd
  ·cases hk
 case makeMap t r =>
  split at hk
  ·rename_i kT eT ht;obtain ⟨ty,rb,rfl⟩:=q2h hk;simp only [K.run] at hr;injection hr with hr; injection hr with h1 h2; subst h1; subst h2;cases ca:o.dst with
   | none=>simp [OpC.eff,ca] at he
   | some d =>
    simp only [OpC.eff,ca] at he;cases he;have h:=op_mkm R db ca (hd d ca) (hD d ca rfl);exact tb d ca h
  ·cases hk
 case entry X =>
  obtain ⟨x',hx,rfl⟩:=q2h hk;simp only [K.run] at hr;split at hr
  ·rename_i t' n kc;split at hr
   ·rename_i tm nm N seen hi;split at hr
    ·rename_i L i hL hl;split at hr
     ·rename_i hN;split at hr
      ·rename_i y v pp;split at hr
       ·rename_i ah;injection hr with hr; injection hr with h1 h2; subst h1; subst h2;exact q1x R ⟨rfl,val_ent R hx db kc hi hL hl hN pp ah⟩ hd he sd
       ·cases hr
      ·cases hr
     ·cases hr
    ·cases hr
   ·cases hr
  ·cases hr
 case range t X =>
  split at hk
  ·rename_i kT eT ht;obtain ⟨x',hx,rfl⟩:=q2h hk;simp only [K.run] at hr;split at hr
   ·rename_i t' n kc;split at hr
    ·rename_i L hL;injection hr with hr; injection hr with h1 h2; subst h1; subst h2;cases ca:o.dst with
     | none=>simp [OpC.eff,ca] at he
     | some d =>
      simp only [OpC.eff,ca] at he;cases he;have h:=op_rng R ht hx db kc hL ca (hd d ca) (hD d ca rfl);exact tb d ca h
    ·cases hr
   ·cases hr
  ·cases hk
 case lookup t X I ok =>
  split at hk
  ·rename_i kT eT x' i' ht hx hi;split at hk
   ·rename_i ty z rb hz;cases hk;simp only [K.run] at hr;split at hr
    ·rename_i t' n kc;split at hr
     ·rename_i L hL;split at hr
      ·rename_i aa;injection hr with hr; injection hr with h1 h2; subst h1; subst h2;unfold keyTy at rb;split at rb
       ·rename_i kk sb;cases rb;exact q1x R ⟨rfl,mget_gen R (keyed_int kk) (law_int sb) ht hz aa.2.2 hx hi db kc hL aa.1 aa.2.1⟩ hd he sd
       ·rename_i sb;cases rb;exact q1x R ⟨rfl,mget_gen R keyed_str (law_str sb) ht hz aa.2.2 hx hi db kc hL aa.1 aa.2.1⟩ hd he sd
       ·obtain ⟨l,_,rb⟩:=y8.1 rb;split at rb
        ·rename_i ah;cases rb;exact q1x R ⟨rfl,mget_gen R (keyed_agg l) (law_agg ah.1) ht hz aa.2.2 hx hi db kc hL aa.1 aa.2.1⟩ hd he sd
        ·cases rb
      ·cases hr
     ·cases hr
    ·cases hr
   ·cases hk
  ·cases hk
 case mapUpdate t X I Y =>
  split at hk
  ·rename_i kT eT x' i' y' ht hx hi hy;obtain ⟨ty,rb,rfl⟩:=q2h hk;simp only [K.run] at hr;split at hr
   ·rename_i t' n kc;split at hr
    ·rename_i L hL;split at hr
     ·rename_i aa;injection hr with hr; injection hr with h1 h2; subst h1; subst h2;simp only [OpC.eff] at he;cases he;have key:∃ w',(execOp a.eval o).run P w=.ok .skip w'/\RelE P O nt B F0 da w0 D ((s.setObj t' n (q6m (q55 L (i'.get s) (y'.get s)))).put o.dst ⟨.undef,.no⟩) (a.put o.dst undef) w':=by
       unfold keyTy at rb;split at rb
       ·rename_i kk sb;cases rb;exact q8R R (keyed_int kk) (law_int sb) ht hx hi hy (.inl db) hd kc hL aa.1 aa.2.1 aa.2.2
       ·rename_i sb;cases rb;exact q8R R keyed_str (law_str sb) ht hx hi hy (.inl db) hd kc hL aa.1 aa.2.1 aa.2.2
       ·obtain ⟨l,_,rb⟩:=y8.1 rb;split at rb
        ·rename_i ah;cases rb;exact q8R R (keyed_agg l) (law_agg ah.1) ht hx hi hy (.inl db) hd kc hL aa.1 aa.2.1 aa.2.2
        ·cases rb
      obtain ⟨w',ia,hR⟩:=key;unfold Oper.wp;rw [ia,Oper.upon_skip];simp_all
     ·cases hr
    ·cases hr
   ·cases hr
  ·cases hk
 case insert t X I Y =>
  split at hk
  ·rename_i kT eT x' i' y' ht hx hi hy;obtain ⟨ty,rb,rfl⟩:=q2h hk;simp only [K.run] at hr;split at hr
   ·rename_i t' n kc;split at hr
    ·rename_i L hL;split at hr
     ·rename_i aa;injection hr with hr; injection hr with h1 h2; subst h1; subst h2;simp only [OpC.eff] at he;cases he;have key:∃ w',(execOp a.eval o).run P w=.ok .skip w'/\RelE P O nt B F0 da w0 D ((s.setObj t' n (q6m (q55 L (i'.get s) (y'.get s)))).put o.dst ⟨.undef,.no⟩) (a.put o.dst undef) w':=by
       unfold keyTy at rb;split at rb
       ·rename_i kk sb;cases rb;exact q8R R (keyed_int kk) (law_int sb) ht hx hi hy (.inr db) hd kc hL aa.1 aa.2.1 aa.2.2
       ·rename_i sb;cases rb;exact q8R R keyed_str (law_str sb) ht hx hi hy (.inr db) hd kc hL aa.1 aa.2.1 aa.2.2
       ·obtain ⟨l,_,rb⟩:=y8.1 rb;split at rb
        ·rename_i ah;cases rb;exact q8R R (keyed_agg l) (law_agg ah.1) ht hx hi hy (.inr db) hd kc hL aa.1 aa.2.1 aa.2.2
        ·cases rb
      obtain ⟨w',ia,hR⟩:=key;unfold Oper.wp;rw [ia,Oper.upon_skip];simp_all
     ·cases hr
    ·cases hr
   ·cases hr
  ·cases hk
 case extract X i=>obtain ⟨y,hy,rfl⟩:=q2h hk; exact q1x R (val_ext R hy db hr) hd he sd
 case call c =>
  obtain ⟨callee,xs,ts⟩:=c;cases callee with
  | invoke r m=>cases hk
  | value f =>
   cases f with
   | func f =>
    have plain:(opdL xs.toList).map (.call cl f)=some k->o.wp P a w Kn Q:=fun hk=>by
     obtain ⟨ys,hy,rfl⟩:=q2h hk;exact op_call R wa hy db hd (fun d h=>hD d h rfl) hr he hK
    cases mu with
    | none=>exact plain hk
    | some b =>
     cases b with
     | true =>
      obtain ⟨ys,hy,rfl⟩:=q2h (show (opdL xs.toList).map (.callr cl f)=some k from hk);exact op_callr R wa hy db hd hr he hK
     | false =>
      have zc:(match P.funcs[f]? with
       | some fn=>(match fn.resultTypes.toList with
        | [t]=>(match P.underlying t with
         | some (.slice e)=>(match q1Z P e,opdL xs.toList with
          | some z,some xs=>if 0<z then some (K.callf cl f z xs) else none
          | _,_=>none)
         | _=>none)
        | _=>none)
       | none=>none)=some k:=hk
      clear hk;split at zc
      ·split at zc
       ·split at zc
        ·split at zc
         ·rename_i z ys hz hy;split at zc
          ·rename_i ab;injection zc with zc;subst zc;exact op_callf R wa hy db hd (fun d h=>hD d h rfl) ab hr he hK
          ·cases zc
         ·cases zc
        ·cases zc
       ·cases zc
      ·cases zc
   | tmp tf =>
    obtain ⟨ys,hy,rfl⟩:=q2h hk;exact op_callv R wa hy db hd hr he hK
   | _=>cases hk
  | builtin b =>
  cases b
  case len =>
   simp only at hk;split at hk
   ·rename_i x' t hx jo;have cJ:ts=#[t]:=by have h0:=congrArg List.toArray jo; rwa [yT] at h0
    subst cJ;obtain ⟨X,hX,tl⟩:∃ X,xs=#[X]/\opd X=some x':=by
     obtain ⟨l⟩:=xs
     match l,hx with
     | [X],hx =>
      unfold opdL at hx
      grind
     | [],hx=>simp [opdL] at hx
     | X :: Y :: r,hx =>
      unfold opdL at hx;split at hx
      ·rename_i y l hy hl;injection hx with hx;injection hx with h1 h2;subst h2;unfold opdL at hl
       grind
      ·cases hx
    subst hX;split at hk
    ·rename_i ht; injection hk with hk; subst hk; exact q1x R (val_len R (str:=true) ht tl db hr) hd he sd
    ·rename_i el ht; injection hk with hk; subst hk; exact q1x R (val_len R (str:=false) ⟨el,ht⟩ tl db hr) hd he sd
    ·rename_i kT eT ht;cases hk;simp only [K.run] at hr;split at hr
     ·rename_i t n kc;split at hr
      ·rename_i L hL;injection hr with hr; injection hr with h1 h2; subst h1; subst h2;exact q1x R ⟨rfl,op_mlen R ht tl db kc hL⟩ hd he sd
      ·cases hr
     ·cases hr
    ·cases hk
   ·cases hk
  case max =>
   simp only at hk;split at hk
   ·rename_i X Y fe;have hX:xs=#[X,Y]:=by rw [<- yT (xs:=xs),fe]
    subst hX;split at hk
    ·rename_i x' y' hx hy;injection hk with hk; subst hk;simp only [K.run] at hr;obtain ⟨v,hv,hr⟩:=q2h hr;injection hr with h1 h2; subst h1; subst h2;exact q1x R ⟨rfl,val_mm R (mx:=true) hx hy db hv⟩ hd he sd
    ·cases hk
   ·cases hk
  case min =>
   simp only at hk;split at hk
   ·rename_i X Y fe;have hX:xs=#[X,Y]:=by rw [<- yT (xs:=xs),fe]
    subst hX;split at hk
    ·rename_i x' y' hx hy;injection hk with hk; subst hk;simp only [K.run] at hr;obtain ⟨v,hv,hr⟩:=q2h hr;injection hr with h1 h2; subst h1; subst h2;exact q1x R ⟨rfl,val_mm R (mx:=false) hx hy db hv⟩ hd he sd
    ·cases hk
   ·cases hk
  case append =>
   simp only at hk;split at hk
   ·rename_i x' y' t t' hx jo;split at hk
    ·rename_i iJ;subst iJ;have cJ:ts=#[t,t]:=by have h0:=congrArg List.toArray jo; rwa [yT] at h0
     subst cJ;obtain ⟨X,Y,hX,tl,lu⟩:∃ X Y,xs=#[X,Y]/\opd X=some x'/\opd Y=some y':=by
      obtain ⟨l⟩:=xs;have key:∀ {r:List Operand} {ys:List Opd},opdL r=some ys->r.length=ys.length/\∀ j (h:j<r.length),opd r[j]=ys[j]?:=by
       intro r
       induction r with
       | nil=>intro ys h; injection h with h; subst h; exact ⟨rfl,fun j h=>by simp at h⟩
       | cons X r ih =>
        intro ys h;unfold opdL at h
        grind
      obtain ⟨h1,h2⟩:=key hx
      match l,h1,h2 with
      | [X,Y],_,h2=>exact ⟨X,Y,rfl,h2 0 (by simp),h2 1 (by simp)⟩
     subst hX;split at hk
     ·rename_i el ht;split at hk
      ·rename_i i z hi hz;split at hk
       ·rename_i aa;injection hk with hk;cases mu with
        | some m =>
         cases ca:o.dst with
         | none=>exact absurd ca (tn (by simp))
         | some d =>
          cases m with
          | true =>
           cases nest with
           | true=>simp only [if_true] at hk; subst hk; exact tb d ca (op_appn R ht hi hz aa.1 aa.2 tl lu db ca (hd d ca) (hD d ca rfl) hr he)
           | false=>simp only [yn,if_false] at hk; subst hk; exact tb d ca (op_appm R ht hi hz aa.1 aa.2 tl lu db ca (hd d ca) (hD d ca rfl) hr he)
          | false=>simp only at hk; subst hk; exact tb d ca (op_appf R ht hi hz aa.1 aa.2 tl lu db ca (hd d ca) (hD d ca rfl) hr he)
        | none =>
        simp only at hk;subst hk;cases ca:o.dst with
        | none =>
         have:∃ A,e=.app A 0:=by
          simp only [K.run] at hr
          grind
         obtain ⟨A,rfl⟩:=this;simp [OpC.eff,ca] at he
        | some d=>exact run_wp (op_app R ht hi hz aa.1 aa.2 tl lu db ca (hd d ca) hr he) sd
       ·cases hk
      ·cases hk
     ·cases hk
    ·cases hk
   ·cases hk
  all_goals cases hk
 case makeFunc fn fs Xs =>
  cases fn with
  | func f =>
   simp only at hk;split at hk
   ·rename_i h0;obtain ⟨ys,hy,rfl⟩:=q2h hk;exact q1x R (val_mkf R h0 hy db hr) hd he sd
   ·cases hk
  | _=>cases hk
 all_goals cases hk
end
end
section
section
variable {call:q18} {s s' s1 s2:MSt}
inductive Tr where
 | id
 | row (t n:Nat) (r:List Slot)
 | an (A:An) (d:Nat)
 | obj (t n:Nat) (S:AV)
 | rn (k:Option (Nat × Nat)) (t n:Nat) (r:List Slot)
 | ob2 (t n:Nat) (S:AV) (d m:Nat) (r:List Slot)
def Tr.ap:Tr->MSt->MSt
 | .id,s=>s
 | .row t n r,s=>s.setRow t n r
 | .an A d,s=>(s.stripA A).strip d
 | .obj t n S,s=>s.setObj t n S
 | .rn k t n r,s=>(s.killO k).setRow t n r
 | .ob2 t n S d m r,s=>(s.setObj t n S).setRow d m r
def Tr.f:Tr->An->An
 | .an A d,x=>match A with
  | .own k _=>(x.strip k).strip d
  | _=>x.strip d
 | _,x=>x
theorem Tr.ends (T:Tr):Ends T.f:=by
 cases T with
 | an A d =>
  have h:∀ k j e,(An.own j e).strip k≠.ex:=fun k j e=>by simp only [An.strip]; split <;> simp
  have h':∀ k k' j e,((An.own j e).strip k).strip k'≠.ex:=fun k k' j e=>by
   by_cases hj:j=k
   ·simp [An.strip,hj]
   ·rw [show (An.own j e).strip k=An.own j e from if_neg hj];exact h k' j e
  cases A with
  | own k e=>exact ⟨rfl,rfl,fun j e=>h' k d j e⟩
  | no=>exact ⟨rfl,rfl,fun j e=>h d j e⟩
  | ex=>exact ⟨rfl,rfl,fun j e=>h d j e⟩
 | _=>exact ⟨rfl,rfl,fun _ _ h=>by cases h⟩
theorem Tr.ap_an (A:An) (d:Nat) (s:MSt):(Tr.an A d).ap s=s.mapAn (Tr.an A d).f:=by
 cases A with
 | own k e=>simp [Tr.ap,MSt.stripA,MSt.strip,MSt.mapAn,Slot.strip,Tr.f,Function.comp_def]
 | no=>rfl
 | ex=>rfl
def OpC.runG (call:q18) (o:OpC) (s:MSt):Option (Slot × Eff) :=
 match o.guard with
 | none=>o.op.run call s
 | some (t,want)=>match (s.env t).v with
  | .bool b=>if b=want then o.op.run call s else some (⟨.tup [],.no⟩,.none)
  | .tup []=>some (⟨.tup [],.no⟩,.none)
  | _=>none
def OpC.effT (o:OpC) (next:Nat):Slot × Eff->Option (Tr × Slot)
 | (x,.none)=>some (.id,x)
 | (x,.new r)=>match o.dst with
  | none=>none
  | some d=>some (.row d next r,⟨match x.v with | .ref _ _ sz off l c=>.ref d next sz off l c | _=>.ptr d next 0,.no⟩)
 | (x,.set t n r)=>some (.row t n r,x)
 | (x,.app a _)=>match o.dst with
  | none=>none
  | some d=>some (.an a d,⟨x.v,match x.a with | .own _ e=>.own d e | a=>a⟩)
 | (x,.obj t n S)=>some (.obj t n S,x)
 | (x,.mk S)=>match o.dst with
  | none=>none
  | some d=>some (.obj d next S,⟨x.v.named d next,.no⟩)
 | (x,.ob2 t n S r)=>match o.dst with
  | none=>none
  | some d=>some (.ob2 t n S d next r,⟨match x.v with | .ref _ _ sz off l c=>.ref d next sz off l c | _=>.ptr d next 0,.no⟩)
 | (x,.rn k r)=>match o.dst with
  | none=>none
  | some d=>some (.rn k d next r,⟨match x.v with | .ref _ _ sz off l c=>.ref d next sz off l c | _=>.ptr d next 0,.no⟩)
theorem q9z (o:OpC) (s:MSt):o.step call s=(o.runG call s).bind fun p=>(o.effT s.next p).map fun q=>(q.1.ap s).put o.dst q.2:=by
 have h:∀ p,o.eff s p=(o.effT s.next p).map fun q=>(q.1.ap s).put o.dst q.2:=by
  rintro ⟨x,e⟩;cases e with
  | none=>rfl
  | new r=>simp only [OpC.eff,OpC.effT]; cases o.dst <;> rfl
  | set t n r=>rfl
  | app a k=>simp only [OpC.eff,OpC.effT]; cases o.dst <;> rfl
  | obj t n S=>rfl
  | mk S=>simp only [OpC.eff,OpC.effT]; cases o.dst <;> rfl
  | rn k r=>simp only [OpC.eff,OpC.effT]; cases o.dst <;> rfl
  | ob2 t n S r=>simp only [OpC.eff,OpC.effT]; cases o.dst <;> rfl
 have hf:o.eff s=fun p=>(o.effT s.next p).map fun q=>(q.1.ap s).put o.dst q.2:=funext h
 unfold OpC.step OpC.runG;rw [<- hf];cases o.guard with
 | none=>rfl
 | some p =>
  obtain ⟨t,want⟩:=p;simp only;generalize (s.env t).v=y;cases y with
  | bool b=>simp only; split <;> rfl
  | tup l=>cases l <;> rfl
  | _=>rfl
theorem q9x (k:K) {x:Slot} {e:Eff} (h:k.run call s=some (x,e)):match e with
    | .none=>True
    | .new _=>isA k=true
    | .set t _ _=>isS k=true/\∃ c,k.cl=some c/\c.okPtr t=true
    | .app _ _=>isT k=true
    | .obj _ _ _=>isO k=true/\isR k=false
    | .mk _=>isO k=true/\isR k=false
    | .rn _ _=>isM k=true
    | .ob2 _ _ _ _=>isO k=true/\isR k=false/\isA k=true:=by
  have hn:e=.none->(match e with
    | .none=>True
    | .new _=>isA k=true
    | .set t _ _=>isS k=true/\∃ c,k.cl=some c/\c.okPtr t=true
    | .app _ _=>isT k=true
    | .obj _ _ _=>isO k=true/\isR k=false
    | .mk _=>isO k=true/\isR k=false
    | .rn _ _=>isM k=true
    | .ob2 _ _ _ _=>isO k=true/\isR k=false/\isA k=true):=fun h=>by subst h; trivial
  cases k with
  | callh nt x xs=>cases h
  | nxt x=>cases h
  | ent x =>
    simp only [K.run] at h;split at h
    · split at h
      · split at h
        · split at h
          · split at h
            · split at h
              · injection h with h; injection h with _ h; exact hn h.symm
              · cases h
            · cases h
          · cases h
        · cases h
      · cases h
    · cases h
  | slz x =>
    simp only [K.run] at h;split at h <;> first | (cases h; done) | (injection h with h; injection h with _ h; exact hn h.symm)
  | rng x =>
    simp only [K.run] at h;split at h
    · split at h
      · injection h with h; injection h with _ h; subst h; exact ⟨rfl,rfl⟩
      · cases h
    · cases h
  | alloc z=>simp only [K.run] at h; injection h with h; injection h with _ h; subst h; rfl
  | box z x =>
    simp only [K.run] at h;split at h <;> split at h <;> first | (cases h; done) | (injection h with h; injection h with _ h; subst h; rfl)
  | mks z b zs l c =>
    simp only [K.run] at h;split at h
    · split at h
      · injection h with h; injection h with _ h; subst h; rfl
      · cases h
    · cases h
  | store cl g z x y =>
    simp only [K.run] at h;split at h
    · split at h
      · rename_i t n off _ la
        obtain ⟨r,_,h⟩:=yg.1 h;injection h with _ h;subst h;exact ⟨rfl,cl,rfl,la⟩
      · cases h
    · cases h
  | app cl e z b x y =>
    simp only [K.run] at h;split at h
    · split at h
      · split at h
        · cases h
        · split at h
          · injection h with h; injection h with _ h; subst h; rfl
          · cases h
        · injection h with h; injection h with _ h; subst h; rfl
      · cases h
    · cases h
  | appf cl e z b x y =>
    simp only [K.run] at h;split at h
    · split at h
      · split at h
        · split at h
          · injection h with h; injection h with _ h; exact hn h.symm
          · injection h with h; injection h with _ h; subst h; rfl
        · cases h
      · cases h
    · cases h
  | appm cl e z b x y =>
    simp only [K.run] at h;split at h
    · split at h
      · split at h
        · split at h
          · injection h with h; injection h with _ h; exact hn h.symm
          · injection h with h; injection h with _ h; subst h; rfl
        · cases h
      · cases h
    · split at h
      · split at h
        · injection h with h; injection h with _ h; subst h; rfl
        · cases h
      · cases h
    · cases h
  | appn cl e z b x y =>
    simp only [K.run] at h;split at h
    · split at h
      · split at h
        · injection h with h; injection h with _ h; subst h; rfl
        · cases h
      · cases h
    · split at h
      · split at h
        · injection h with h; injection h with _ h; subst h; rfl
        · cases h
      · cases h
    · cases h
  | bslr sz z n ps =>
    simp only [K.run] at h;split at h
    · injection h with h; injection h with _ h; subst h; rfl
    · cases h
  | bad=>simp only [K.run] at h; cases h
  | mkm=>simp only [K.run] at h; injection h with h; injection h with _ h; subst h; exact ⟨rfl,rfl⟩
  | mkb T e=>simp only [K.run] at h; injection h with h; injection h with _ h; subst h; exact ⟨rfl,rfl⟩
  | mget ok ty z x k =>
    simp only [K.run] at h;split at h
    · split at h
      · split at h
        · injection h with h; injection h with _ h; exact hn h.symm
        · cases h
      · cases h
    · cases h
  | mset ty x k v =>
    simp only [K.run] at h;split at h
    · split at h
      · split at h
        · injection h with h; injection h with _ h; subst h; exact ⟨rfl,rfl⟩
        · cases h
      · cases h
    · cases h
  | mlen x =>
    simp only [K.run] at h;split at h
    · split at h
      · injection h with h; injection h with _ h; exact hn h.symm
      · cases h
    · cases h
  | mv x=>simp only [K.run] at h; injection h with h; injection h with _ h; exact hn h.symm
  | pick c a b =>
    simp only [K.run] at h;split at h
    · injection h with h; injection h with _ h; exact hn h.symm
    · cases h
  | build z ps =>
    simp only [K.run] at h;split at h
    · obtain ⟨r,_,h⟩:=yg.1 h; injection h with _ h; exact hn h.symm
    · cases h
  | bsl z n ps =>
    simp only [K.run] at h;split at h
    · injection h with h; injection h with _ h; exact hn h.symm
    · cases h
  | load cl g z x =>
    simp only [K.run] at h;split at h
    · split at h
      · obtain ⟨r,_,h⟩:=yg.1 h; injection h with _ h; exact hn h.symm
      · cases h
    · split at h
      · cases h
      · obtain ⟨r,_,h⟩:=yg.1 h; injection h with _ h; exact hn h.symm
    · split at h
      · cases h
      · obtain ⟨r,_,h⟩:=yg.1 h; injection h with _ h; exact hn h.symm
    · cases h
  | mm b x y=>simp only [K.run] at h; obtain ⟨r,_,h⟩:=yg.1 h; injection h with _ h; exact hn h.symm
  | bin op b x y=>simp only [K.run] at h; obtain ⟨r,_,h⟩:=yg.1 h; injection h with _ h; exact hn h.symm
  | eqa n ks x y =>
    simp only [K.run] at h;split at h
    · obtain ⟨r,_,h⟩:=yg.1 h; injection h with _ h; exact hn h.symm
    · cases h
  | eqn n p x y =>
    simp only [K.run] at h;split at h <;> first | (cases h; done) | (obtain ⟨r,_,h⟩:=yg.1 h; injection h with _ h; exact hn h.symm)
  | un op x =>
    simp only [K.run] at h;split at h <;> first | (cases h; done) | (injection h with h; injection h with _ h; exact hn h.symm)
  | conv o x =>
    simp only [K.run] at h;split at h <;> first | (cases h; done) | (injection h with h; injection h with _ h; exact hn h.symm)
  | slc st z x lo hi mx =>
    cases mx with
    | some m=>simp [K.run] at h
    | none =>
      simp only [K.run] at h;split at h
      · cases h
      · split at h <;> first
          | (cases h; done)
          | (split at h
             · split at h
               · (try split at h) <;> (injection h with h; injection h with _ h; exact hn h.symm)
               · cases h
             · cases h)
  | faddr o x =>
    simp only [K.run] at h;split at h <;> first | (cases h; done) | (injection h with h; injection h with _ h; exact hn h.symm)
  | field g o z x =>
    simp only [K.run] at h;split at h
    · obtain ⟨r,_,h⟩:=yg.1 h; injection h with _ h; exact hn h.symm
    · cases h
  | aaddr l z x i =>
    simp only [K.run] at h;split at h
    · split at h
      · split at h <;> first | (cases h; done) | (injection h with h; injection h with _ h; exact hn h.symm)
      · cases h
    · cases h
  | iaddr z x i =>
    simp only [K.run] at h;split at h
    · split at h
      · obtain ⟨r,_,h⟩:=y8.1 h; split at h <;> first | (cases h; done) | (injection h with h; injection h with _ h; exact hn h.symm)
      · obtain ⟨r,_,h⟩:=y8.1 h; split at h <;> first | (cases h; done) | (injection h with h; injection h with _ h; exact hn h.symm)
      · split at h <;> first | (cases h; done) | (injection h with h; injection h with _ h; exact hn h.symm)
      · cases h
    · cases h
  | index x i =>
    simp only [K.run] at h;split at h
    · obtain ⟨r,_,h⟩:=yg.1 h; injection h with _ h; exact hn h.symm
    · cases h
  | ext x i =>
    simp only [K.run] at h;split at h
    · obtain ⟨r,_,h⟩:=yg.1 h; injection h with _ h; exact hn h.symm
    · cases h
  | call cl f xs =>
    simp only [K.run] at h;obtain ⟨vs,_,h⟩:=y8.1 h;split at h
    · obtain ⟨r,_,h⟩:=y8.1 h
      split at h
      · split at h <;> first | (cases h; done) | (injection h with h; injection h with _ h; exact hn h.symm)
      · split at h <;> first | (cases h; done) | (injection h with h; injection h with _ h; subst h; exact ⟨rfl,rfl⟩)
    · obtain ⟨r,_,h⟩:=y8.1 h
      split at h
      · cases h
      · split at h <;> first | (cases h; done) | (injection h with h; injection h with _ h; subst h; exact ⟨rfl,rfl⟩)
    · cases h
  | callf cl f z xs =>
    simp only [K.run] at h;obtain ⟨vs,_,h⟩:=y8.1 h;split at h
    · obtain ⟨r,_,h⟩:=y8.1 h
      split at h
      · split at h
        · split at h
          · injection h with h; injection h with _ h; subst h; exact ⟨rfl,rfl⟩
          · injection h with h; injection h with _ h; subst h; exact ⟨rfl,rfl,rfl⟩
        · cases h
      · cases h
    · cases h
  | callr cl f xs =>
    simp only [K.run] at h;split at h
    · split at h
      · rename_i la
        split at h
        · split at h
          · obtain ⟨q,_,h⟩:=y8.1 h
            split at h
            · split at h
              · injection h with h; injection h with _ h; subst h
                exact ⟨rfl,cl,rfl,la⟩
              · cases h
            · cases h
          · cases h
        · cases h
      · cases h
    · cases h
  | rstr x =>
    simp only [K.run] at h;split at h <;> first | (cases h; done) | (injection h with h; injection h with _ h; exact hn h.symm)
  | bstr cl x =>
    simp only [K.run] at h;split at h
    · obtain ⟨r,_,h⟩:=yg.1 h; injection h with _ h; exact hn h.symm
    · cases h
  | aslc cl l z x lo hi =>
    simp only [K.run] at h;split at h
    · split at h
      · split at h
        · split at h <;> (injection h with h; injection h with _ h; exact hn h.symm)
        · cases h
      · cases h
    · cases h
  | mkf f xs =>
    simp only [K.run] at h;split at h
    · injection h with h; injection h with _ h; exact hn h.symm
    · cases h
  | callv cl x xs =>
    simp only [K.run] at h;split at h
    · split at h
      · obtain ⟨r,_,h⟩:=y8.1 h
        split at h
        · split at h <;> first | (cases h; done) | (injection h with h; injection h with _ h; exact hn h.symm)
        · cases h
      · cases h
    · cases h
  | len st x =>
    simp only [K.run] at h;split at h <;> first
      | (cases h; done)
      | (split at h <;> first | (cases h; done) | (injection h with h; injection h with _ h; exact hn h.symm))
  | nilchk x =>
    simp only [K.run] at h;split at h <;> first | (cases h; done) | (injection h with h; injection h with _ h; exact hn h.symm)
def Tr.of (T:Tr) (o:OpC):Prop:=match T with
 | .id=>True
 | .row t _ _=>(isA o.op=true/\o.dst=some t)\/(isS o.op=true/\∃ c,o.op.cl=some c/\c.okPtr t=true)
 | .an _ d=>isT o.op=true/\o.dst=some d
 | .obj _ _ _=>isO o.op=true/\isR o.op=false
 | .rn ..=>isM o.op=true
 | .ob2 _ _ _ d _ _=>(isO o.op=true/\isR o.op=false/\isA o.op=true)/\o.dst=some d
theorem runG_eff (o:OpC) {x:Slot} {e:Eff} (h:o.runG call s=some (x,e)) {n:Nat} {T:Tr} {v:Slot} (ht:o.effT n (x,e)=some (T,v)):T.of o:=by
 have key:o.op.run call s=some (x,e)\/e=.none:=by
  unfold OpC.runG at h;split at h
  ·exact .inl h
  ·split at h
   ·split at h
    ·exact .inl h
    ·injection h with h; injection h with _ h; exact .inr h.symm
   ·injection h with h; injection h with _ h; exact .inr h.symm
   ·cases h
 cases e with
 | none=>simp only [OpC.effT] at ht; injection ht with ht; injection ht with h1 _; subst h1; trivial
 | new r =>
  have:=q9x o.op (key.resolve_right (by simp));simp only [OpC.effT] at ht;split at ht
  ·cases ht
  ·rename_i d hd; injection ht with ht; injection ht with h1 _; subst h1; exact .inl ⟨this,hd⟩
 | set t n r =>
  have:=q9x o.op (key.resolve_right (by simp));simp only [OpC.effT] at ht;injection ht with ht; injection ht with h1 _; subst h1;exact .inr this
 | app a k =>
  have:=q9x o.op (key.resolve_right (by simp));simp only [OpC.effT] at ht;split at ht
  ·cases ht
  ·rename_i d hd; injection ht with ht; injection ht with h1 _; subst h1; exact ⟨this,hd⟩
 | obj t n S =>
  have:=q9x o.op (key.resolve_right (by simp));simp only [OpC.effT] at ht;injection ht with ht; injection ht with h1 _; subst h1;exact this
 | mk S =>
  have:=q9x o.op (key.resolve_right (by simp));simp only [OpC.effT] at ht;split at ht
  ·cases ht
  ·injection ht with ht; injection ht with h1 _; subst h1; exact this
 | rn k r =>
  have:=q9x o.op (key.resolve_right (by simp));simp only [OpC.effT] at ht;split at ht
  ·cases ht
  ·injection ht with ht; injection ht with h1 _; subst h1; exact this
 | ob2 t n S r =>
  have:=q9x o.op (key.resolve_right (by simp));simp only [OpC.effT] at ht;split at ht
  ·cases ht
  ·rename_i d hd; injection ht with ht; injection ht with h1 _; subst h1; exact ⟨this,hd⟩
theorem get_put {o:Opd} {d:Option Nat} {x:Slot} (h:∀ n,o=.t n->d≠some n):o.get (s.put d x)=o.get s/\o.an (s.put d x)=o.an s:=by
 cases d with
 | none=>exact ⟨rfl,rfl⟩
 | some d =>
  cases o with
  | c v=>exact ⟨rfl,by cases v <;> first | rfl | (rename_i b l; cases b <;> rfl)⟩
  | t n =>
   have:n≠d:=fun e=>h n rfl (by rw [e])
   simp [Opd.get,Opd.an,MSt.put,this]
theorem looks_opds {o:OpC} {n:Nat} {x:Opd} (h:x∈o.op.opds) (hx:x=.t n):n∈o.looks:=by
 unfold OpC.looks;refine List.mem_append_left _ (List.mem_filterMap.2 ⟨x,h,?_⟩);rw [hx]
theorem q8M {x y:OpC} (h:x.clear y=true):(∀ n,x.dst=some n->n ∉ y.looks)/\(∀ n,x.dst=some n->y.dst≠some n):=by
 unfold OpC.clear at h;constructor
 ·intro n hn;rw [hn] at h;simp at h;exact h.1
 ·intro n hn;rw [hn] at h;simp at h;exact h.2
theorem qbP {y:OpC} {d:Option Nat} {v:Slot} (h:∀ n,d=some n->n ∉ y.looks):y.runG call (s.put d v)=y.runG call s:=by
 have h1:y.op.run call (s.put d v)=y.op.run call s:=qad _ (fun o ho=>get_put fun n hn hd=>h n hd (looks_opds ho hn)) (fun t n _=>by cases d <;> rfl) (fun _=>by cases d <;> rfl);unfold OpC.runG;rw [h1];cases hg:y.guard with
 | none=>rfl
 | some p =>
  obtain ⟨t,want⟩:=p;have:t∈y.looks:=by unfold OpC.looks; rw [hg]; simp
  have he:((s.put d v).env t)=s.env t:=by
   cases d with
   | none=>rfl
   | some d =>
    have:t≠d:=fun e=>h d rfl (e ▸ this)
    simp [MSt.put,this]
  simp only [he]
def Tr.off (T:Tr) (o:OpC):Prop:=match T with
 | .id=>True
 | .row t _ _=>¬ o.op.reads t
 | .an _ _=>isT o.op=false
 | .obj _ _ _=>isO o.op=false
 | .rn ..=>False
 | .ob2 _ _ _ d _ _=>isO o.op=false/\¬ o.op.reads d
def Tr.act (T:Tr) (p:Slot × Eff):Slot × Eff:=match T with
 | .an _ _=>(p.1.mapAn T.f,p.2.mapAn T.f)
 | _=>p
theorem runG_tr {y:OpC} {T:Tr} (h:T.off y):y.runG call (T.ap s)=(y.runG call s).map T.act:=by
 cases T with
 | rn=>exact absurd h id
 | ob2 t n S d m r =>
  have h1:y.op.run call ((s.setObj t n S).setRow d m r)=y.op.run call s:=qad _ (fun o ho=>by
   cases o with
   | t n=>exact ⟨rfl,rfl⟩
   | c v=>exact ⟨rfl,by cases v <;> first | rfl | (rename_i b l; cases b <;> rfl)⟩) (fun t' n' hr=>by
   simp only [MSt.setRow,MSt.setObj];rw [if_neg];rintro ⟨e,_⟩;exact h.2 (e ▸ hr)) (fun ho=>by
    have h':isO y.op=false:=h.1;rw [h'] at ho; cases ho)
  have:y.runG call ((Tr.ob2 t n S d m r).ap s)=y.runG call s:=by
   unfold OpC.runG Tr.ap;rw [h1];rfl
  have h2:(Tr.act (.ob2 t n S d m r):Slot × Eff->Slot × Eff)=id:=rfl;rw [this,h2,Option.map_id];rfl
 | id =>
  have:(Tr.act .id:Slot × Eff->Slot × Eff)=id:=rfl;rw [this,Option.map_id];rfl
 | row t n r =>
  have h1:y.op.run call (s.setRow t n r)=y.op.run call s:=qad _ (fun o ho=>by
   cases o with
   | t n=>exact ⟨rfl,rfl⟩
   | c v=>exact ⟨rfl,by cases v <;> first | rfl | (rename_i b l; cases b <;> rfl)⟩) (fun t' n' hr=>by
   simp only [MSt.setRow];rw [if_neg];rintro ⟨e,_⟩;exact h (e ▸ hr)) (fun _=>rfl)
  have:y.runG call ((Tr.row t n r).ap s)=y.runG call s:=by
   unfold OpC.runG Tr.ap;rw [h1];rfl
  have h2:(Tr.act (.row t n r):Slot × Eff->Slot × Eff)=id:=rfl;rw [this,h2,Option.map_id];rfl
 | obj t n S =>
  have h1:y.op.run call (s.setObj t n S)=y.op.run call s:=qad _ (fun o ho=>by
   cases o with
   | t n=>exact ⟨rfl,rfl⟩
   | c v=>exact ⟨rfl,by cases v <;> first | rfl | (rename_i b l; cases b <;> rfl)⟩) (fun t' n' hr=>rfl) (fun ho=>by
    have h':isO y.op=false:=h;rw [h'] at ho; cases ho)
  have:y.runG call ((Tr.obj t n S).ap s)=y.runG call s:=by
   unfold OpC.runG Tr.ap;rw [h1];rfl
  have h2:(Tr.act (.obj t n S):Slot × Eff->Slot × Eff)=id:=rfl;rw [this,h2,Option.map_id];rfl
 | an A d =>
  rw [Tr.ap_an];have h1:=run_mapAn (call:=call) (s:=s) (Tr.ends (.an A d)) y.op h;unfold OpC.runG;rw [h1];cases y.guard with
  | none=>rfl
  | some p =>
   obtain ⟨t,want⟩:=p;simp only [MSt.mapAn];generalize (s.env t).v=y;cases y with
   | bool b =>
    simp only;split
    ·rfl
    ·simp [Tr.act,Slot.mapAn,Eff.mapAn,(Tr.ends (.an A d)).no]
   | tup l=>cases l <;> simp [Tr.act,Slot.mapAn,Eff.mapAn,(Tr.ends (.an A d)).no]
   | _=>rfl
theorem okPair_symm {x y:OpC} (h:q5U x y=true):q5U y x=true:=by
 unfold q5U at h ⊢;simp only [y7] at h ⊢;obtain ⟨⟨⟨⟨⟨⟨⟨m1,m2⟩,h1⟩,h0⟩,h2⟩,h3⟩,h4⟩,h5⟩:=h;refine ⟨⟨⟨⟨⟨⟨⟨m2,m1⟩,by rw [Bool.or_comm]; exact h1⟩,by rw [Bool.or_comm (!isO y.op),Bool.and_comm]; exact h0⟩,?_⟩,h4⟩,h3⟩,?_⟩
 ·cases hc:x.op.cl with
  | none=>cases y.op.cl <;> rfl
  | some c =>
   cases hd:y.op.cl with
   | none=>rfl
   | some d =>
    rw [hc,hd] at h2;simp only [Bool.or_eq_true] at h2 ⊢;refine h2.imp (fun h=>by rw [Bool.or_comm]; exact h) fun h=>?_
    cases c <;> cases d <;> first | rfl | exact h | (simp at h ⊢; exact fun e=>h e.symm) | (simp at h)
 ·simp only [Bool.or_eq_true] at h5 ⊢;rcases h5 with (h | h) | h
  ·exact .inl (.inr h)
  ·exact .inl (.inl h)
  ·exact .inr (by simp at h ⊢; exact fun e=>h e.symm)
theorem off_of {T:Tr} {x y:OpC} (h:T.of x) (la:q5U x y=true):T.off y:=by
 unfold q5U at la;simp only [y7] at la;obtain ⟨⟨⟨⟨⟨⟨⟨m1,m2⟩,h1⟩,h0⟩,h2⟩,h3⟩,h4⟩,h5⟩:=la;cases T with
 | id=>trivial
 | rn k t n r =>
  have h':isM x.op=true:=h;rw [h'] at m1;cases m1
 | ob2 t n S d m r =>
  obtain ⟨⟨g1,g2,ha⟩,hd⟩:=h;rw [g1,g2] at h0;refine ⟨by simpa using h0,fun hr=>?_⟩;unfold K.reads at hr;rw [ha,hd] at h3;cases jd:y.op.cl with
  | none=>rw [jd] at hr; exact hr
  | some c =>
   rw [jd] at hr h3;cases c with
   | any=>simp at h3
   | imm=>exact hr
   | root r=>simp at h3; exact h3 hr
   | out L=>simp only [Bool.not_true,Bool.false_or] at h3 hr; rw [h3] at hr; cases hr
 | an A d =>
  have:=h.1;rw [this] at h1;show isT y.op=false;simpa using h1
 | obj t n S =>
  obtain ⟨g1,g2⟩:isO x.op=true/\isR x.op=false:=h;rw [g1,g2] at h0;show isO y.op=false;simpa using h0
 | row t n r =>
  intro hr;unfold K.reads at hr;rcases h with ⟨ha,hd⟩ | ⟨hs,hc⟩
  ·rw [ha,hd] at h3;cases jd:y.op.cl with
   | none=>rw [jd] at hr; exact hr
   | some c =>
    rw [jd] at hr h3;cases c with
    | any=>simp at h3
    | imm=>exact hr
    | root r=>simp at h3; exact h3 hr
    | out L=>simp only [Bool.not_true,Bool.false_or] at h3 hr; rw [h3] at hr; cases hr
  ·cases jd:y.op.cl with
   | none=>rw [jd] at hr; exact hr
   | some c =>
    rw [jd] at hr;obtain ⟨c0,hc,hp⟩:=hc;rw [hc,jd,hs] at h2;cases c0 with
    | imm=>simp [Cl.okPtr] at hp
    | any=>cases c <;> first | exact hr | (simp at h2)
    | root r0 =>
     simp [Cl.okPtr] at hp;subst hp;cases c with
     | imm=>exact hr
     | any=>simp at h2
     | root r=>simp at h2; exact h2 hr
     | out L=>simp at h2 hr; exact hr h2
    | out L0 =>
     simp [Cl.okPtr] at hp;cases c with
     | imm=>exact hr
     | any=>simp at h2
     | root r=>simp at h2 hr; subst hr; exact hp h2
     | out L=>simp at h2
theorem row_ne {t n t' n':Nat} {r r':List Slot} {x y:OpC} (h:(Tr.row t n r).of x) (h':(Tr.row t' n' r').of y) (la:q5U x y=true):t≠t':=by
 unfold q5U at la;simp only [y7] at la;obtain ⟨⟨⟨⟨⟨⟨⟨m1,m2⟩,h1⟩,h0⟩,h2⟩,h3⟩,h4⟩,h5⟩:=la;rintro rfl;rcases h with ⟨ha,hd⟩ | ⟨hs,hc⟩ <;> rcases h' with ⟨ru,gq⟩ | ⟨fi,cf⟩
 ·rw [ha,ru,hd,gq] at h5; simp at h5
 ·rw [ha,hd] at h3;obtain ⟨c,cf,hp⟩:=cf;rw [cf] at h3;cases c <;> simp [Cl.okPtr] at h3 hp <;> first | exact h3 hp.symm | exact hp h3
 ·rw [ru,gq] at h4;obtain ⟨c,hc,hp⟩:=hc;rw [hc] at h4;cases c <;> simp [Cl.okPtr] at h4 hp <;> first | exact h4 hp.symm | exact hp h4
 ·obtain ⟨c,hc,hp⟩:=hc;obtain ⟨c',cf,jF⟩:=cf;rw [hc,cf,hs] at h2;cases c <;> cases c' <;> simp [Cl.okPtr] at h2 hp jF
  ·subst hp; subst jF; exact h2 rfl
  ·subst hp; exact jF h2
  ·subst jF; exact hp h2
def Tr.conj (T:Tr):Tr->Tr
 | .row t n r=>match T with
  | .an A d=>.row t n (r.map (Slot.mapAn (Tr.an A d).f))
  | _=>.row t n r
 | .ob2 t n S d m r=>match T with
  | .an A d'=>.ob2 t n S d m (r.map (Slot.mapAn (Tr.an A d').f))
  | _=>.ob2 t n S d m r
 | T'=>T'
def Tr.actS (T:Tr) (v:Slot):Slot:=match T with
 | .an A d=>v.mapAn (Tr.an A d).f
 | _=>v
theorem effT_act {T:Tr} {o:OpC} {n:Nat} {p:Slot × Eff} {T':Tr} {v:Slot} (h:o.effT n p=some (T',v)) (hT:(∃ A d,T=.an A d)->∀ A d,T'≠.an A d) (hR:∀ k t m r,T'≠.rn k t m r):o.effT n (T.act p)=some (T.conj T',T.actS v):=by
 obtain ⟨x,e⟩:=p;cases T with
 | id=>rw [show Tr.id.act (x,e)=(x,e) from rfl,h]; cases T' <;> rfl
 | row t m r=>rw [show (Tr.row t m r).act (x,e)=(x,e) from rfl,h]; cases T' <;> rfl
 | obj t m S=>rw [show (Tr.obj t m S).act (x,e)=(x,e) from rfl,h]; cases T' <;> rfl
 | rn k t m r=>rw [show (Tr.rn k t m r).act (x,e)=(x,e) from rfl,h]; cases T' <;> rfl
 | ob2 t n S d m r=>rw [show (Tr.ob2 t n S d m r).act (x,e)=(x,e) from rfl,h]; cases T' <;> rfl
 | an A d =>
  cases e with
  | none=>simp only [OpC.effT] at h; injection h with h; injection h with h1 h2; subst h1; subst h2; rfl
  | new r =>
   simp only [OpC.effT] at h;split at h
   ·cases h
   ·rename_i d' hd;injection h with h; injection h with h1 h2; subst h1; subst h2;simp only [Tr.act,OpC.effT,Eff.mapAn,hd,Tr.conj,Tr.actS,Slot.mapAn,(Tr.ends (.an A d)).no]
  | set t m r =>
   simp only [OpC.effT] at h;injection h with h; injection h with h1 h2; subst h1; subst h2;simp only [Tr.act,OpC.effT,Eff.mapAn,Tr.conj,Tr.actS,Slot.mapAn,(Tr.ends (.an A d)).no]
  | app a k =>
   simp only [OpC.effT] at h;split at h
   ·cases h
   ·injection h with h; injection h with h1 h2; subst h1; exact absurd rfl (hT ⟨A,d,rfl⟩ _ _)
  | obj t m S =>
   simp only [OpC.effT] at h;injection h with h; injection h with h1 h2; subst h1; subst h2;rfl
  | mk S =>
   simp only [OpC.effT] at h;split at h
   ·cases h
   ·rename_i d' hd;injection h with h; injection h with h1 h2; subst h1; subst h2;simp only [Tr.act,OpC.effT,Eff.mapAn,hd,Tr.conj,Tr.actS,Slot.mapAn,(Tr.ends (.an A d)).no]
  | rn k r =>
   simp only [OpC.effT] at h;split at h
   ·cases h
   ·injection h with h; injection h with h1 h2; exact absurd h1.symm (hR _ _ _ _)
  | ob2 t n S r =>
   simp only [OpC.effT] at h;split at h
   ·cases h
   ·rename_i d' hd;injection h with h; injection h with h1 h2; subst h1; subst h2;simp only [Tr.act,OpC.effT,Eff.mapAn,hd,Tr.conj,Tr.actS,Slot.mapAn,(Tr.ends (.an A d)).no]
theorem q1I {d d':Option Nat} (h:∀ n,d=some n->d'≠some n) (v v':Slot):(s.put d v).put d' v'=(s.put d' v').put d v:=by
 cases d with
 | none=>rfl
 | some d =>
  cases d' with
  | none=>rfl
  | some d' =>
   have:d≠d':=fun e=>h d rfl (by rw [e])
   simp only [MSt.put];congr 1;funext t;by_cases h1:t=d'
   ·by_cases h2:t=d
    ·exact absurd (h2.symm.trans h1) this
    ·rw [h1]; simp only [if_true]; rw [if_neg (fun e=>this e.symm)]
   ·simp [h1]
theorem q5A (f:An->An) (d:Option Nat) (v:Slot):(s.put d v).mapAn f=(s.mapAn f).put d (v.mapAn f):=by
 cases d with
 | none=>rfl
 | some d =>
  simp only [MSt.put,MSt.mapAn];congr 1;funext t;by_cases h:t=d <;> simp [h,Slot.mapAn]
theorem q78 (f:An->An) (t n:Nat) (r:List Slot):(s.setRow t n r).mapAn f=(s.mapAn f).setRow t n (r.map (Slot.mapAn f)):=by
 simp only [MSt.setRow,MSt.mapAn];congr 1;funext t' n';by_cases h:t'=t/\n'=n
 ·simp only [h,and_self,if_true,yz]; rfl
 ·simp [h]
theorem q1A (d:Option Nat) (v:Slot) (t n:Nat) (r:List Slot):(s.put d v).setRow t n r=(s.setRow t n r).put d v:=by cases d <;> rfl
theorem q9y {t n t' n':Nat} (h:t≠t') (r r':List Slot):(s.setRow t n r).setRow t' n' r'=(s.setRow t' n' r').setRow t n r:=by
 simp only [MSt.setRow];congr 1;funext a b;by_cases h1:a=t'
 ·have:¬ (a=t/\b=n):=fun e=>h (e.1.symm.trans h1)
  simp [this]
 ·have:¬ (a=t'/\b=n'):=fun e=>h1 e.1
  simp [this]
theorem q2n (d:Option Nat) (v:Slot) (t n:Nat) (S:AV):(s.put d v).setObj t n S=(s.setObj t n S).put d v:=by cases d <;> rfl
theorem q77 (f:An->An) (t n:Nat) (S:AV):(s.setObj t n S).mapAn f=(s.mapAn f).setObj t n S:=rfl
theorem qae (t n:Nat) (r:List Slot) (t' n':Nat) (S:AV):(s.setRow t n r).setObj t' n' S=(s.setObj t' n' S).setRow t n r:=rfl
theorem T_row_of {t n:Nat} {S:AV} {d m:Nat} {r:List Slot} {o:OpC} (h:(Tr.ob2 t n S d m r).of o):(Tr.row d m r).of o:=.inl ⟨h.1.2.2,h.2⟩
theorem next_tr (T:Tr) (s:MSt) (d:Option Nat) (v:Slot):((T.ap s).put d v).next=s.next:=by
 have:(T.ap s).next=s.next:=by
  cases T with
  | an A d=>rw [Tr.ap_an]; rfl
  | rn k t n r=>cases k <;> rfl
  | _=>rfl
 cases d <;> exact this
theorem commute0 {x y:OpC} (uk:q7q x y=true) (la:q5U x y=true) (h1:x.step call s=some s1) (h2:y.step call s1=some s2):∃ nq,y.step call s=some nq/\x.step call nq=some s2:=by
 unfold q7q at uk;simp only [y7] at uk;obtain ⟨a1,a2⟩:=q8M uk.1;obtain ⟨a3,a4⟩:=q8M uk.2;rw [q9z] at h1 h2;obtain ⟨p,hp,h1⟩:=y8.1 h1;obtain ⟨⟨Tx,vx⟩,hx,h1⟩:=yg.1 h1;obtain ⟨q,hq,h2⟩:=y8.1 h2;obtain ⟨⟨Ty,vy⟩,hy,h2⟩:=yg.1 h2;simp only at h1 h2;subst h1;have ofx:Tx.of x:=runG_eff x (x:=p.1) (e:=p.2) hp hx;have offy:=off_of ofx la;rw [qbP a1,runG_tr offy] at hq;obtain ⟨q0,pD,rfl⟩:=yg.1 hq;rw [next_tr] at hy
 -- y in the first state
 have ai:∃ Ty0 xJ,y.effT s.next q0=some (Ty0,xJ):=by
  obtain ⟨u,e⟩:=q0;cases e with
  | none=>exact ⟨_,_,rfl⟩
  | new r =>
   cases hd:y.dst with
   | none =>
    exfalso;cases Tx <;> simp [Tr.act,OpC.effT,Eff.mapAn,hd] at hy
   | some d=>exact ⟨.row d s.next r,_,by simp only [OpC.effT,hd]; rfl⟩
  | set t n r=>exact ⟨_,_,rfl⟩
  | obj t n S=>exact ⟨_,_,rfl⟩
  | mk S =>
   cases hd:y.dst with
   | none =>
    exfalso;cases Tx <;> simp [Tr.act,OpC.effT,Eff.mapAn,hd] at hy
   | some d=>exact ⟨.obj d s.next S,_,by simp only [OpC.effT,hd]; rfl⟩
  | app a k =>
   cases hd:y.dst with
   | none =>
    exfalso;cases Tx <;> simp [Tr.act,OpC.effT,Eff.mapAn,hd] at hy
   | some d=>exact ⟨.an a d,_,by simp only [OpC.effT,hd]; rfl⟩
  | rn k r =>
   cases hd:y.dst with
   | none =>
    exfalso;cases Tx <;> simp [Tr.act,OpC.effT,Eff.mapAn,hd] at hy
   | some d=>exact ⟨.rn k d s.next r,_,by simp only [OpC.effT,hd]; rfl⟩
  | ob2 t n S r =>
   cases hd:y.dst with
   | none =>
    exfalso;cases Tx <;> simp [Tr.act,OpC.effT,Eff.mapAn,hd] at hy
   | some d=>exact ⟨.ob2 t n S d s.next r,_,by simp only [OpC.effT,hd]; rfl⟩
 obtain ⟨Ty0,xJ,ai⟩:=ai;have ofy:Ty0.of y:=runG_eff y (x:=q0.1) (e:=q0.2) pD ai;have offx:=off_of ofy (okPair_symm la);have notT:∀ A d A' d',Tx=.an A d->Ty0=.an A' d'->False:=fun A d A' d' e e'=>by
  subst e; subst e';have:=ofy.1;rw [show isT y.op=false from offy] at this;cases this
 have noM:∀ {T:Tr} {o:OpC},T.of o->isM o.op=false->∀ k t m r,T≠.rn k t m r:=fun h hm k t m r e=>by
  subst e;have h':isM _=true:=h;rw [hm] at h';cases h'
 have lN:isM x.op=false:=by unfold q5U at la; simp only [y7] at la; simpa using la.1.1.1.1.1.1.1
 have mN:isM y.op=false:=by unfold q5U at la; simp only [y7] at la; simpa using la.1.1.1.1.1.1.2
 have nx:=noM ofx lN;have ny:=noM ofy mN;have cQ:=effT_act (T:=Tx) ai (hR:=ny) (fun ⟨A,d,e⟩ A' d' e'=>notT A d A' d' e e');rw [cQ] at hy;injection hy with hy;injection hy with e1 e2;subst e1; subst e2;have mJ:=effT_act (T:=Ty0) hx (hR:=nx) (fun ⟨A,d,e⟩ A' d' e'=>notT A' d' A d e' e);refine ⟨(Ty0.ap s).put y.dst xJ,by rw [q9z,pD,V,ai]; rfl,?_⟩;rw [q9z,qbP a3,runG_tr offx,hp];simp only [yz,V,next_tr,mJ];rw [<- h2];congr 1;have notO:∀ t n S t' n' S',Tx=.obj t n S->Ty0=.obj t' n' S'->False:=fun t n S t' n' S' e e'=>by
  subst e; subst e';have h1:isO y.op=true:=ofy.1;rw [show isO y.op=false from offy] at h1;cases h1
 cases Tx with
 | rn=>exact absurd rfl (nx _ _ _ _)
 | id =>
  cases Ty0 with
  | rn=>exact absurd rfl (ny _ _ _ _)
  | ob2 t n S d m r=>simp only [Tr.ap,Tr.conj,Tr.actS]; rw [q2n,q1A]; exact (q1I a2 _ _).symm
  | id=>exact (q1I a2 _ _).symm
  | row t n r=>simp only [Tr.ap,Tr.conj,Tr.actS]; rw [q1A]; exact (q1I a2 _ _).symm
  | an A d =>
   simp only [Tr.conj,Tr.actS,Tr.ap_an,q5A];exact (q1I a2 _ _).symm
  | obj t n S=>simp only [Tr.ap,Tr.conj,Tr.actS]; rw [q2n]; exact (q1I a2 _ _).symm
 | row t n r =>
  cases Ty0 with
  | rn=>exact absurd rfl (ny _ _ _ _)
  | ob2 t' n' S d m r' =>
   have oa:=row_ne (x:=x) (y:=y) ofx (T_row_of ofy) la;simp only [Tr.ap,Tr.conj,Tr.actS];rw [q1A,q2n,q1A,qae,q9y oa];exact (q1I a2 _ _).symm
  | id=>simp only [Tr.ap,Tr.conj,Tr.actS]; rw [q1A]; exact (q1I a2 _ _).symm
  | row t' n' r' =>
   simp only [Tr.ap,Tr.conj,Tr.actS];rw [q1A,q1A,q9y (row_ne ofx ofy la)];exact (q1I a2 _ _).symm
  | an A d =>
   simp only [Tr.conj,Tr.actS,Tr.ap_an,q5A];simp only [Tr.ap,q78,q1A];exact (q1I a2 _ _).symm
  | obj t' n' S =>
   simp only [Tr.ap,Tr.conj,Tr.actS];rw [q2n,q1A];exact (q1I a2 _ _).symm
 | an A d =>
  cases Ty0 with
  | rn=>exact absurd rfl (ny _ _ _ _)
  | ob2 t' n' S d' m r' =>
   simp only [Tr.conj,Tr.actS,Tr.ap_an,q5A];simp only [Tr.ap,q78,q77,q2n,q1A];exact (q1I a2 _ _).symm
  | id =>
   simp only [Tr.conj,Tr.actS,Tr.ap_an,q5A];exact (q1I a2 _ _).symm
  | row t' n' r' =>
   simp only [Tr.conj,Tr.actS,Tr.ap_an,q5A];simp only [Tr.ap,q78,q1A];exact (q1I a2 _ _).symm
  | an A' d'=>exact (notT A d A' d' rfl rfl).elim
  | obj t' n' S =>
   simp only [Tr.conj,Tr.actS,Tr.ap_an,q5A];simp only [Tr.ap,q77,q2n];exact (q1I a2 _ _).symm
 | obj t n S =>
  cases Ty0 with
  | rn=>exact absurd rfl (ny _ _ _ _)
  | ob2 t' n' S' d m r'=>exact absurd ofy.1.1 (by rw [show isO y.op=false from offy]; decide)
  | id=>simp only [Tr.ap,Tr.conj,Tr.actS]; rw [q2n]; exact (q1I a2 _ _).symm
  | row t' n' r' =>
   simp only [Tr.ap,Tr.conj,Tr.actS];rw [q1A,q2n];exact (q1I a2 _ _).symm
  | an A d =>
   simp only [Tr.conj,Tr.actS,Tr.ap_an,q5A];simp only [Tr.ap,q77,q2n];exact (q1I a2 _ _).symm
  | obj t' n' S'=>exact (notO t n S t' n' S' rfl rfl).elim
 | ob2 t n S d m r =>
  have mL:isO y.op=false:=offy.1;cases Ty0 with
  | rn=>exact absurd rfl (ny _ _ _ _)
  | id=>simp only [Tr.ap,Tr.conj,Tr.actS]; rw [q2n,q1A]; exact (q1I a2 _ _).symm
  | row t' n' r' =>
   have oa:=row_ne (x:=x) (y:=y) (T_row_of ofx) ofy la;simp only [Tr.ap,Tr.conj,Tr.actS];rw [q1A,q2n,q1A,<- qae,q9y oa];exact (q1I a2 _ _).symm
  | an A d' =>
   simp only [Tr.conj,Tr.actS,Tr.ap_an,q5A];simp only [Tr.ap,q78,q77,q2n,q1A];exact (q1I a2 _ _).symm
  | obj t' n' S'=>exact absurd ofy.1 (by rw [mL]; decide)
  | ob2 t' n' S' d' m' r'=>exact absurd ofy.1.1 (by rw [mL]; decide)
def Tr.kl (T:Tr) (w:Slot):Slot:=match T with
 | .rn (some p) _ _ _=>w.kill p.1 p.2
 | _=>w
theorem isN_eff {k:K} (hk:isN k=true) {v:Slot} {e:Eff} (h:k.run call s=some (v,e)):e=.none\/(∃ r,e=.new r)\/∃ q r,e=.rn q r:=by
 cases k with
 | appm cl e' z b x y =>
  simp only [K.run] at h;split at h
  ·split at h
   ·split at h
    ·split at h
     ·injection h with h; injection h with _ h; exact .inl h.symm
     ·injection h with h; injection h with _ h; exact .inr (.inl ⟨_,h.symm⟩)
    ·cases h
   ·cases h
  ·split at h
   ·split at h
    ·injection h with h; injection h with _ h; exact .inr (.inr ⟨_,_,h.symm⟩)
    ·cases h
   ·cases h
  ·cases h
 | appn cl e' z b x y =>
  simp only [K.run] at h;split at h
  ·split at h
   ·split at h
    ·injection h with h; injection h with _ h; exact .inr (.inl ⟨_,h.symm⟩)
    ·cases h
   ·cases h
  ·split at h
   ·split at h
    ·injection h with h; injection h with _ h; exact .inr (.inr ⟨_,_,h.symm⟩)
    ·cases h
   ·cases h
  ·cases h
 | _=>cases hk
theorem isN_tr {x:OpC} (hk:isN x.op=true) {p:Slot × Eff} (hp:x.runG call s=some p) {n:Nat} {T:Tr} {v:Slot} (ht:x.effT n p=some (T,v)):T=.id\/(∃ t m r,T=.row t m r)\/∃ q t m r,T=.rn q t m r:=by
 have he:p.2=.none\/(∃ r,p.2=.new r)\/∃ q r,p.2=.rn q r:=by
  unfold OpC.runG at hp;split at hp
  ·exact isN_eff hk (v:=p.1) (e:=p.2) hp
  ·split at hp
   ·split at hp
    ·exact isN_eff hk (v:=p.1) (e:=p.2) hp
    ·injection hp with hp; subst hp; exact .inl rfl
   ·injection hp with hp; subst hp; exact .inl rfl
   ·cases hp
 obtain ⟨v0,e⟩:=p;rcases he with he | ⟨r,he⟩ | ⟨q,r,he⟩
 ·simp only at he; subst he; injection ht with ht; injection ht with h1 _; exact .inl h1.symm
 ·simp only at he;subst he;simp only [OpC.effT] at ht;split at ht
  ·cases ht
  ·injection ht with ht; injection ht with h1 _; exact .inr (.inl ⟨_,_,_,h1.symm⟩)
 ·simp only at he;subst he;simp only [OpC.effT] at ht;split at ht
  ·cases ht
  ·injection ht with ht; injection ht with h1 _; exact .inr (.inr ⟨_,_,_,_,h1.symm⟩)
theorem isN_put {T:Tr} (h:T=.id\/(∃ t m r,T=.row t m r)\/∃ q t m r,T=.rn q t m r) (s:MSt) (d:Nat) (w:Slot):T.ap (s.put (some d) w)=(T.ap s).put (some d) (T.kl w)/\∀ z,(T.ap s).env z=T.kl (s.env z):=by
 rcases h with rfl | ⟨t,m,r,rfl⟩ | ⟨q,t,m,r,rfl⟩
 ·exact ⟨rfl,fun _=>rfl⟩
 ·exact ⟨rfl,fun _=>rfl⟩
 ·cases q with
  | none=>exact ⟨rfl,fun _=>rfl⟩
  | some p =>
   refine ⟨?_,fun _=>rfl⟩;simp only [Tr.ap,MSt.killO,MSt.kill,MSt.put,MSt.setRow,Tr.kl];congr 1;funext j;by_cases hj:j=d <;> simp [hj]
theorem isMv_eq {y:OpC} (h:isMv y=true):∃ d z,y=⟨d,.mv (.t z),none⟩:=by
 obtain ⟨d,k,g⟩:=y;unfold isMv at h;simp only at h;split at h
 ·exact ⟨_,_,rfl⟩
 ·cases h
theorem commuteN {x y:OpC} (uk:q7q x y=true) (hx:isN x.op=true) (hy:isMv y=true):(∀ s s1 s2,x.step call s=some s1->y.step call s1=some s2->∃ nq,y.step call s=some nq/\x.step call nq=some s2)/\∀ s s1 s2,y.step call s=some s1->x.step call s1=some s2->∃ nq,x.step call s=some nq/\y.step call nq=some s2:=by
 obtain ⟨d,z,rfl⟩:=isMv_eq hy;unfold q7q at uk;simp only [y7] at uk;obtain ⟨a1,a2⟩:=q8M uk.1;obtain ⟨a3,a4⟩:=q8M uk.2;have hz:∀ n,x.dst=some n->n≠z:=fun n hn e=>a1 n hn (by subst e; simp [OpC.looks,K.opds])
 have wF:∀ s:MSt,(⟨d,.mv (.t z),none⟩:OpC).step call s=some (s.put d ⟨(s.env z).v,(s.env z).a⟩):=fun _=>rfl
 have key:∀ (s:MSt) (p:Slot × Eff) (T:Tr) (v:Slot),x.runG call s=some p->x.effT s.next p=some (T,v)->(T.ap (s.put d (s.env z))).put x.dst v=((T.ap s).put x.dst v).put d ((((T.ap s).put x.dst v).env z))/\x.step call (s.put d (s.env z))=some ((T.ap (s.put d (s.env z))).put x.dst v):=fun s p T v hp hT=>by
  have hk:=isN_tr hx hp hT;constructor
  ·have he:((T.ap s).put x.dst v).env z=T.kl (s.env z):=by
    cases hd:x.dst with
    | none=>exact (isN_put hk s 0 v).2 z
    | some n =>
     simp only [MSt.put];rw [if_neg (fun e=>hz n hd e.symm)];exact (isN_put hk s 0 v).2 z
   rw [he];cases d with
   | none=>rfl
   | some d =>
    rw [(isN_put hk s d _).1];exact (q1I (fun n hn e=>a4 n hn e) _ _)
  ·rw [q9z,qbP (fun n hn=>a3 n hn),hp];have hn:(s.put d (s.env z)).next=s.next:=by cases d <;> rfl
   simp only [V,hn,hT,yz]
 refine ⟨fun s s1 s2 h1 h2=>?_,fun s s1 s2 h1 h2=>?_⟩
 ·rw [q9z] at h1;obtain ⟨p,hp,h1⟩:=y8.1 h1;obtain ⟨⟨T,v⟩,hT,h1⟩:=yg.1 h1;simp only at h1;rw [wF] at h2;injection h2 with h2;refine ⟨_,wF s,?_⟩;obtain ⟨k1,k2⟩:=key s p T v hp hT;have lQ:x.step call (s.put d ⟨(s.env z).v,(s.env z).a⟩)=some ((T.ap (s.put d (s.env z))).put x.dst v):=k2;rw [lQ,k1,<- h2,<- h1]
 ·rw [wF] at h1;injection h1 with h1;subst h1;have di:x.step call (s.put d (s.env z))=some s2:=h2;rw [q9z,qbP (fun n hn=>a3 n hn)] at di;obtain ⟨p,hp,di⟩:=y8.1 di;obtain ⟨⟨T,v⟩,hT,di⟩:=yg.1 di;have hn:(s.put d (s.env z)).next=s.next:=by cases d <;> rfl
  rw [hn] at hT;obtain ⟨k1,_⟩:=key s p T v hp hT;refine ⟨(T.ap s).put x.dst v,by rw [q9z,hp]; simp only [V,hT,yz],?_⟩;rw [wF,<- di];simp only;rw [k1]
theorem apartC_symm {x y:OpC} (h:q7q x y=true):q7q y x=true:=by
 unfold q7q at h ⊢;rw [Bool.and_comm];exact h
theorem commute {x y:OpC} (uk:q7q x y=true) (la:qa2 x y=true) (h1:x.step call s=some s1) (h2:y.step call s1=some s2):∃ nq,y.step call s=some nq/\x.step call nq=some s2:=by
 unfold qa2 at la;simp only [Bool.or_eq_true,y7] at la;rcases la with h | ⟨h,h'⟩ | ⟨h,h'⟩
 ·exact commute0 uk h h1 h2
 ·exact (commuteN (apartC_symm uk) h' h).2 s s1 s2 h1 h2
 ·exact (commuteN uk h' h).1 s s1 s2 h1 h2
end
end
section
open Go Go.RowKit
section
variable {P:Program} {O:Objs} {nt B:Nat} {F0:Own} {da:Av} {w0:World} {s s':MSt} {a:Act} {w w':World} {ι:Ix} {Θ:Fam} {call:q18} {lh:LH} {Q:Exit->Act->World->Prop}
def gsh (nt:Nat) (a:Act) (g:Nat->Value):Nat->Value:=fun t=>if t<nt then a.tmps.getD t undef else g (t - nt)
def Own.wait (F0:Own) (nt:Nat) (a:Act):Own:=⟨F0.b,F0.p,F0.r,F0.z,gsh nt a F0.g⟩
def MSt.bare (s:MSt):MSt:={ s with env:=fun _=>⟨.undef,.no⟩ }
def RelG (P:Program) (O:Objs) (B:Nat) (F0:Own) (da:Av) (w0:World) (s:MSt) (w:World) (ι:Ix) (Θ:Fam):Prop:=Rel P O 0 B F0 da w0 (fun _=>False) s.bare ⟨#[],[]⟩ w ι Θ
def q6P (ι:Ix) (Θ:Fam) (av avb:Av) (w:World):List Slot->List Value->Prop
 | [],us=>us=[]
 | x :: r,us=>∃ u sa,us=u :: sa/\RepS ι av avb w x.v u/\AnOk Θ x.a u/\q6P ι Θ av avb w r sa
theorem qaU {av avb:Av}:∀ {xs ys:List Slot} {us vs:List Value},q6P ι Θ av avb w xs us->q6P ι Θ av avb w ys vs->q6P ι Θ av avb w (xs++ys) (us++vs)
 | [],_,_,_,h,h'=>by simp only [q6P] at h; subst h; exact h'
 | x :: r,_,_,_,h,h'=>by
  simp only [q6P] at h;obtain ⟨u,sa,rfl,h0,h1,h⟩:=h;exact ⟨u,sa++_,rfl,h0,h1,qaU h h'⟩
def HpOk (P:Program) (O:Objs) (hp:HpT):Prop:=∀ f xs s k r,hp f xs s k=some r->(∀ vs w,(callFunc f vs).run P w=.ok (.enter f vs) w) ∧
 ∀ (B:Nat) (F0:Own) (da:Av) (w0 w:World) (ι:Ix) (Θ:Fam) (us:List Value) (E:Ending->World->Prop),RelG P O B F0 da w0 s w ι Θ->q6P ι Θ (avA da ι Θ) (avB ι Θ) w xs us →
  (∀ y s' w' ι' Θ' v,RelG P O B F0 da w0 s' w' ι' Θ'->RepS ι' (avA da ι' Θ') (avB ι' Θ') w' y.v v->AnOk Θ' y.a v->k y s'=some r->E (.returned v) w')->Calls P f us.toArray w E
theorem Rel.wait {D:Nat->Prop} (R:Rel P O nt B F0 da w0 D s a w ι Θ):RelG P O B (F0.wait nt a) da w0 (s.enter nt) w ι Θ :=
 ⟨rfl,rfl,fun _=>trivial,fun _=>trivial,R.rows,fun t n b h=>let ⟨h1,h2,h3⟩:=R.mine t n b h; ⟨h1,h2,.inl (by simp only [MSt.bare,MSt.enter]; rcases h3 with h | h <;> omega)⟩,R.inj,R.tok,R.tinj,R.apart,R.out,R.pin,R.kept,R.base,R.objs,fun t n H h=>let ⟨h1,h2⟩:=R.obs t n H h; ⟨h1,.inl (by simp only [MSt.bare,MSt.enter]; rcases h2 with h | h <;> omega)⟩,fun t=>by
  simp only [MSt.bare,MSt.enter,Own.wait,gsh];split
  ·exact R.env t
  ·exact R.gen _,fun t=>by
  simp only [MSt.bare,MSt.enter,Own.wait,gsh];split
  ·exact R.ann t
  ·exact R.gann _⟩
theorem Rel.resume {D D':Nat->Prop} {s':MSt} {ι':Ix} {Θ':Fam} (R:Rel P O nt B F0 da w0 D s a w ι Θ) (R':RelG P O B (F0.wait nt a) da w0 s' w' ι' Θ'):Rel P O nt B F0 da w0 D' (s'.leave nt) a w' ι' Θ' :=
 ⟨R.defers,R.size,fun t=>by
  have:=R'.gen t;simp only [MSt.bare,Own.wait,gsh] at this;simp only [MSt.leave];split
  ·rename_i h; rw [if_pos h] at this; exact this
  ·trivial,fun t=>by
  have:=R'.gann t;simp only [MSt.bare,Own.wait,gsh] at this;simp only [MSt.leave];split
  ·rename_i h; rw [if_pos h] at this; exact this
  ·trivial,R'.rows,fun t n b h=>let ⟨h1,h2,h3⟩:=R'.mine t n b h; ⟨h1,h2,h3.imp id fun h=>h.2.elim⟩,R'.inj,R'.tok,R'.tinj,R'.apart,R'.out,R'.pin,R'.kept,R'.base,R'.objs,fun t n H h=>let ⟨h1,h2⟩:=R'.obs t n H h; ⟨h1,h2.imp id fun h=>h.2.elim⟩,fun t=>by
  have:=R'.gen (t + nt);simp only [MSt.bare,Own.wait,gsh] at this;rw [if_neg (by omega),Nat.add_sub_cancel] at this;exact this,fun t=>by
  have:=R'.gann (t + nt);simp only [MSt.bare,Own.wait,gsh] at this;rw [if_neg (by omega),Nat.add_sub_cancel] at this;exact this⟩
theorem qaV {D:Nat->Prop} (R:Rel P O nt B F0 da w0 D s a w ι Θ):∀ {Xs:List Operand} {xs:List Opd},opdL Xs=some xs->q6P ι Θ (avA da ι Θ) (avB ι Θ) w (q9E s xs) (Xs.map a.eval)
 | [],xs,h=>by injection h with h; subst h; rfl
 | X :: Xs,xs,h=>by
  unfold opdL at h;split at h
  ·rename_i x l hx hl;injection h with h;subst h;exact ⟨_,_,rfl,(R.opd hx).1,(R.opd hx).2,qaV R hl⟩
  ·cases h
theorem caps_rep {av avb:Av}:∀ {cs:List AV} {us:List Value},q6v ι av avb w cs us->q6P ι Θ av avb w (cs.map (⟨·,.no⟩)) us
 | [],_,h=>h
 | x :: r,_,h=>by
  simp only [q6v] at h;obtain ⟨u,sa,rfl,h0,h⟩:=h;refine ⟨u,sa,rfl,?_,trivial,caps_rep h⟩;cases x with
  | bp cs=>exact h0
  | int k n=>exact q24 (x:=.int k n) h0
  | bool b=>exact q24 (x:=.bool b) h0
  | str b=>exact q24 (x:=.str b) h0
  | nilP=>exact q24 (x:=.nilP) h0
  | ptr t n o=>exact q24 (x:=.ptr t n o) h0
  | ip cs=>exact q24 (x:=.ip cs) h0
  | sl n l=>exact q24 (x:=.sl n l) h0
  | bl l=>exact q24 (x:=.bl l) h0
  | ref a b c d e f=>exact q24 (x:=.ref a b c d e f) h0
  | mp t n=>exact q24 (x:=.mp t n) h0
  | fn f cs=>exact q24 (x:=.fn f cs) h0
  | agg cs=>exact q24 (x:=.agg cs) h0
  | tup cs=>exact q24 (x:=.tup cs) h0
  | undef=>trivial
theorem op_callh {D:Nat->Prop} (R:Rel P O nt B F0 da w0 D s a w ι Θ) {lh:LH} (ug:HpOk P O lh.h) {o:Oper} {hs:Nat->Bool} {uJ:Nat} {x:Opd} {xs:List Opd} (hk:compH nt hs o.op=some (.callh uJ x xs)) (hd:∀ d,o.dst=some d->d<nt) {k:MSt->Option RV} {r:RV} (hr:qbd lh o.dst uJ x xs s k=some r)
  {Kn:Act->World->Prop} {Q:Exit->Act->World->Prop} (hK:∀ s' a' w',RelE P O nt B F0 da w0 (fun t=>D t\/o.dst=some t) s' a' w'->k s'=some r->Kn a' w'):o.wp P a w Kn Q:=by
 have go:∀ {f:FuncId} {Xs:Array Operand} {cs:List AV} {us:List Value},uJ=nt->opdL Xs.toList=some xs->q6v ι (avA da ι Θ) (avB ι Θ) w cs us->lh.h f (q9E s xs++cs.map (⟨·,.no⟩)) (s.enter nt) (fun y s'=>k ((s'.leave nt).put o.dst y))=some r->((∀ vs w,(callFunc f vs).run P w=.ok (.enter f vs) w)->(execOp a.eval o).run P w=.ok (.enter f (Xs.map a.eval++us.toArray)) w)->o.wp P a w Kn Q:=fun {f Xs cs us} hn hx kj hh run=>by
  obtain ⟨h1,h2⟩:=ug _ _ _ _ _ hh;unfold Oper.wp;rw [run h1,Oper.upon_enter];have md:(Xs.toList.map a.eval++us).toArray=Xs.map a.eval++us.toArray:=by
   apply Array.ext';simp
  rw [<- md];refine h2 B (F0.wait nt a) da w0 w ι Θ _ _ R.wait (qaU (qaV R hx) (caps_rep kj)) fun y s' w' ι' Θ' v R' hv ha oj=>?_
  exact hK _ _ _ ⟨ι',Θ',((R.resume (D':=D) R').putN hd hv ha).more fun _ h=>.inl h⟩ oj
 unfold compH at hk;split at hk
 ·rename_i f Xs ts ho;split at hk
  ·obtain ⟨l,hl,hk⟩:=yg.1 hk;injection hk with hn hx fe;subst hx;subst fe;simp only [qbd,Opd.get] at hr;refine go (cs:=[]) (us:=[]) hn.symm hl rfl (by rw [hn]; exact hr) fun fd=>?_
   simp only [execOp,ho,resolve,Act.eval,Deferred.ofValue,Sem.run_bind,Sem.run_pure,Result.andThen_ok,invoke];have:=fd (#[]++Xs.map a.eval++#[]) w;simp only [Array.empty_append,Array.append_empty] at this ⊢;exact this
  ·cases hk
 ·rename_i tf Xs ts ho;split at hk
  ·obtain ⟨l,hl,hk⟩:=yg.1 hk;injection hk with hn hx fe;subst hx;subst fe;simp only [qbd,Opd.get] at hr;split at hr
   ·rename_i f cs pq;have hF:=R.env tf;rw [pq] at hF;obtain ⟨us,bd,kj⟩:=hF;refine go (cs:=cs) (us:=us.toList) hn.symm hl kj (by rw [hn]; exact hr) fun fd=>?_
    have bz:a.eval (.tmp tf)=.func (.func f) #[] us:=bd;simp only [execOp,ho,resolve,bz,Deferred.ofValue,Sem.run_bind,Sem.run_pure,Result.andThen_ok,invoke];have:=fd (#[]++Xs.map a.eval++us) w;simp only [Array.empty_append] at this ⊢;exact this
   ·cases hr
  ·cases hk
 ·obtain ⟨_,_,h⟩:=yg.1 hk; cases h
 ·cases hk
theorem qb3 {f:Nat->Option RV} {z:Option RV} {r:RV} (l:List Nat) (h:pickAll f z l=some r):(l=[]->z=some r)/\∀ i∈l,f i=some r:=by
 match l,h with
 | [],h=>exact ⟨fun _=>h,fun i hi=>absurd hi (by simp)⟩
 | [a],h=>exact ⟨fun e=>(by cases e),fun i hi=>(by rw [yU.1 hi]; exact h)⟩
 | a :: b :: l,h =>
  have h':(open Classical in if ∀ x∈b :: l,f x=f a then f a else none)=some r:=h;split at h'
  ·rename_i hc;refine ⟨fun e=>(by cases e),fun i hi=>?_⟩;rcases yf.1 hi with hi | hi
   ·rw [hi]; exact h'
   ·exact (hc i hi).trans h'
  ·cases h'
theorem qaM {f:Nat->Option RV} {z:Option RV} {r:RV} (l:List Nat) (h0:l=[]->z=some r) (h:∀ i∈l,f i=some r):pickAll f z l=some r:=by
 match l,h0,h with
 | [],h0,_=>exact h0 rfl
 | [a],_,h=>exact h a yk
 | a :: b :: l,_,h =>
  show (open Classical in if ∀ x∈b :: l,f x=f a then f a else none)=some r;rw [if_pos fun x hx=>(h x (yq _ hx)).trans (h a yk).symm];exact h a yk
theorem op_nxt {D:Nat->Prop} (R:Rel P O nt B F0 da w0 D s a w ι Θ) {o:Oper} {X:Operand} {x:Opd} (hx:opd X=some x) (ho:o.op=.next X false) (hd:∀ d,o.dst=some d->d<nt) {k:MSt->Option RV} {r:RV} (hr:nstep o.dst x s k=some r)
  {Kn:Act->World->Prop} {Q:Exit->Act->World->Prop} (hK:∀ s' a' w',RelE P O nt B F0 da w0 (fun t=>D t\/o.dst=some t) s' a' w'->k s'=some r->Kn a' w'):o.wp P a w Kn Q:=by
 unfold nstep at hr;split at hr
 case h_2=>cases hr
 rename_i t n kc;split at hr
 case h_2=>cases hr
 rename_i tm nm N seen hi;split at hr
 case h_2=>cases hr
 rename_i L hL;split at hr
 case isFalse=>cases hr
 rename_i hN;have hX:=(R.opd hx).1;rw [kc] at hX;obtain ⟨q,hq,hv⟩:=hX;obtain ⟨S,hS,fk⟩:=y8.1 hi;obtain ⟨p,H,hp,mb,wc,tj⟩:=R.objs t n S hS;rw [hq] at hp;injection hp with hp;subst hp;obtain ⟨m,Hm,hm,jD,ra⟩:=tj tm nm N seen fk;obtain ⟨hH,fa⟩:=(O.iters S H q w (by rw [fk]; rfl)).1 wc;obtain ⟨S2,uG,cq⟩:=y8.1 hL;obtain ⟨p2,H2,bk,ot,sy,_⟩:=R.objs tm nm S2 uG;rw [hm] at bk;injection bk with bk;subst bk;have jv:S2=q6m L:=by
  unfold q7g at cq;split at cq
  ·injection cq with cq; subst cq; rfl
  ·cases cq
 subst jv;obtain ⟨cN,es,clock,he,nf,hc,za⟩:=(O.maps L H2 m w).1 sy;have az:es.size=N:=by rw [<- hN]; simpa using congrArg List.length nf
 obtain ⟨h1,h2⟩:=qb3 _ hr;have eF:(getObj q).run P w=.ok (.mapIter (some m) N seen.toArray N) w:=by simp [getObj,Sem.run,ra]
 have tu:(getObj m).run P w=.ok (.map es clock) w:=by simp [getObj,Sem.run,he]
 have ss:∀ i (hi:i<es.size),(es[i]∈es.filter (fun e=>!seen.toArray.contains e.born) ↔ (!seen.contains i)=true):=fun i hi=>by
  rw [Array.mem_filter,za i hi];simp
 have rx:(!seen.toArray.isEmpty&&!es.isEmpty&&es.all (fun x=>decide (x.born>=N)))=false:=by
  cases lr:es.isEmpty with
  | true=>simp
  | false =>
   have h0:0<es.size:=by
    rcases yI es.size with h0 | h0
    ·simp [Array.isEmpty,h0] at lr
    ·exact h0
   have:es.all (fun x=>decide (x.born>=N))=false:=by
    rw [Bool.eq_false_iff];intro ta;rw [Array.all_eq_true] at ta;have:=ta 0 h0;rw [za 0 h0] at this;simp at this;omega
   simp [this]
 have na:∀ x∈es.filter (fun e=>!seen.toArray.contains e.born),x.born<N:=fun x hx=>by
  have tl:x∈es:=(Array.mem_filter.1 hx).1;obtain ⟨i,ac,rfl⟩:=Array.mem_iff_getElem.1 tl;rw [za i ac];omega
 generalize rG:es.filter (fun e=>!seen.toArray.contains e.born)=Lf at na ss;have e1:Lf.filter (fun x=>decide (x.born<N))=Lf:=Array.filter_eq_self.2 fun x hx=>by simpa using na x hx
 have e2:Lf.filter (fun x=>decide (x.born>=N))=#[]:=by
  rw [Array.filter_eq_empty_iff];intro x hx;have:=na x hx;simp;omega
 unfold Oper.wp;by_cases h0:Lf.size=0
 ·have hz:Lf=#[]:=Array.eq_empty_of_size_eq_zero h0;have kt:(List.range N).filter (fun i=>!seen.contains i)=[]:=by
   refine List.eq_nil_iff_forall_not_mem.2 fun i ac=>?_
   have ga:i<es.size:=by have:=(List.mem_filter.1 ac).1; rw [az]; exact List.mem_range.1 this
   have:=(ss i ga).2 (List.mem_filter.1 ac).2;rw [hz] at this;simp at this
  have ia:(execOp a.eval o).run P w=.ok (.value (.tuple #[.bool false])) w:=by
   simp only [execOp,ho,hv,Instr.next,Sem.run_bind,eF,tu,Result.andThen_ok,rx,yn,if_false,rG,e1,e2,hz,Array.append_empty];simp [choose,Sem.run,Question.forced]
  rw [ia,Oper.upon_value];exact hK _ _ _ ⟨ι,Θ,(R.putN hd (x:=⟨.tup [.bool false],.no⟩) ⟨_,rfl,_,_,rfl,rfl,rfl⟩ trivial).more fun _ h=>.inl h⟩ (h1 kt)
 ·have oa:Lf.isEmpty=false:=by simp [Array.isEmpty,h0]
  obtain ⟨j,w1,hj,om,bH⟩:∃ (j:Nat) (w1:World),j<Lf.size/\(w1=w\/w1=w.drew)/\(choose (Question.mapNext Lf.size)).run P w=.ok j w1:=by
   by_cases hf:Lf.size<=1
   ·exact ⟨0,w,by omega,.inl rfl,by simp [choose,Sem.run,Question.forced,hf]⟩
   ·exact ⟨_,w.drew,Nat.mod_lt _ (by omega),.inr rfl,by
     simp only [choose,Sem.run,Question.forced,decide_eq_true_eq,hf,if_false,Question.cut];rfl⟩
  have dB:Lf[j]∈Lf:=by simp
  have uO:Lf[j]∈es:=by
   have:∀ x,x∈Lf->x∈es:=fun x hx=>by rw [<- rG] at hx; exact (Array.mem_filter.1 hx).1
   exact this _ dB
  obtain ⟨i,gj,kz⟩:=Array.mem_iff_getElem.1 uO;have ac:i∈(List.range N).filter fun i=>!seen.contains i:=List.mem_filter.2 ⟨List.mem_range.2 (by rw [<- az]; exact gj),(ss i gj).1 (by rw [kz]; exact dB)⟩
  have aC:Lf[j].born=i:=by rw [<- kz]; exact za i gj
  have hk:=h2 i ac;split at hk
  case h_2=>cases hk
  rename_i y v pp;split at hk
  case isFalse=>cases hk
  rename_i ah;rw [y7] at ah;have zC:Lf[j].key=y.flatV/\Lf[j].val=v.flatV:=by
   have:=congrArg (fun l=>l[i]?) nf;simp only [yc,pp,Array.getElem?_toList,yZ gj,yz,Option.some.injEq,entV] at this;rw [<- kz];exact ⟨congrArg Prod.fst this,congrArg Prod.snd this⟩
  have iu:w1.heap=w.heap:=by rcases om with rfl | rfl <;> rfl
  have wI:w1.heap[q]?=some (.mapIter (some m) N seen.toArray N):=by rw [iu]; exact ra
  have xt:(setObj q (.mapIter (some m) N (seen.toArray.push i) clock)).run P w1=.ok () { w1 with heap:=w1.heap.setIfInBounds q (.mapIter (some m) N (seen.toArray.push i) clock) }:=by
   simp [setObj,Sem.run,wI]
  have ia:(execOp a.eval o).run P w=.ok (.value (.tuple #[.bool true,y.flatV,v.flatV])) { w1 with heap:=w1.heap.setIfInBounds q (.mapIter (some m) N (seen.toArray.push i) clock) }:=by
   simp only [execOp,ho,hv,Instr.next,Sem.run_bind,eF,tu,Result.andThen_ok,rx,yn,if_false,rG,e1,e2,oa,Array.append_empty,Array.empty_append,Array.size_map,bH,Array.getElem?_map,yZ hj,yz,aC,xt,Sem.run_pure,zC.1,zC.2]
  rw [ia,Oper.upon_value];have R1:Rel P O nt B F0 da w0 D s a w1 ι Θ:=R.grow (fun b _=>by rw [iu]) (by rw [iu]; exact ym _) (by rcases om with rfl | rfl; exact R.kept; exact R.kept.drew);have bi:O.at_ (itAV tm nm N (seen++[i])) H q { w1 with heap:=w1.heap.setIfInBounds q (.mapIter (some m) N (seen.toArray.push i) clock) }:=(O.iters _ _ _ _ (by rw [itOf_av]; rfl)).2 ⟨hH,by simp; rw [iu]; exact fa⟩;have ej:Keep H w1 { w1 with heap:=w1.heap.setIfInBounds q (.mapIter (some m) N (seen.toArray.push i) clock) }:=⟨rfl,rfl,rfl,by simp,fun j' _ hn=>by
   have:j'≠q:=fun e=>hn ((hH j').2 e)
   simp only [Array.getElem?_setIfInBounds];rw [if_neg fun e:q=j'=>this e.symm]⟩
  have zD:Tie ι (itAV tm nm N (seen++[i])) q { w1 with heap:=w1.heap.setIfInBounds q (.mapIter (some m) N (seen.toArray.push i) clock) }:=fun tm' nm' N' seen' e=>by
   rw [itOf_av] at e;injection e with e;injection e with g1 e;injection e with g2 e;injection e with g3 g4;subst g1; subst g2; subst g3; subst g4;refine ⟨m,Hm,hm,jD,?_⟩;have kI:q<w1.heap.size:=by rw [iu]; exact fa
   simp [kI,hc,az]
  obtain ⟨ι',R2,_⟩:=R1.turnObj hq mb bi zD (fun b hb=>.inl hb) ej;refine hK _ _ _ ⟨ι',Θ,(R2.putN hd (x:=⟨.tup [.bool true,y,v],.no⟩) ?_ trivial).more fun _ h=>.inl h⟩ hk;exact ⟨_,rfl,_,_,rfl,rfl,_,_,rfl,q49 (q8O ah.1),_,_,rfl,q49 (q8O ah.2),rfl⟩
structure OpOk (P:Program) (nt:Nat) (ops:Array Oper) (o:Oper) (c:OpC):Prop where
 dst:c.dst=o.dst
 op:(isH c.op=false/\∃ cl mu b q,compB P cl mu b q o.op=some c.op/\(mu≠none->o.dst≠none))\/∃ hs,compH nt hs o.op=some c.op
 lt:∀ d,o.dst=some d->d<nt
 guard:match o.guard with
  | none=>c.guard=none
  | some (g,want)=>∃ t,(ops[g]?).bind (·.dst)=some t/\c.guard=some (t,want)
theorem compOps_get {boxes:List Nat} {all:List Oper} {draw:Bool}:∀ {ops:List Oper} {cs:List OpC},compOps P boxes nt all draw ops=some cs->cs.length=ops.length/\∀ (i:Nat) (o:Oper),ops[i]?=some o->∃ c,cs[i]?=some c/\OpOk P nt all.toArray o c
 | [],cs,h=>by injection h with h; subst h; exact ⟨rfl,fun i o ho=>by simp at ho⟩
 | o :: r,cs,h=>by
  unfold compOps at h;split at h
  ·rename_i k l hk hl;split at h
   ·rename_i fa;have ga:∀ d,o.dst=some d->d<nt:=fun d hd=>by rw [hd] at fa; simpa [dstOk] using fa
    obtain ⟨h1,h2⟩:=compOps_get hl;have fin:∀ c,cs=c :: l->OpOk P nt all.toArray o c->cs.length=(o :: r).length/\∀ (i:Nat) (o':Oper),(o :: r)[i]?=some o'->∃ c,cs[i]?=some c/\OpOk P nt all.toArray o' c:=fun c e hc=>by
     subst e;refine ⟨by simp [h1],fun i o' ho=>?_⟩;cases i with
     | zero=>simp at ho; subst ho; exact ⟨c,rfl,hc⟩
     | succ i=>simpa using h2 i o' (by simpa using ho)
    have tn:(match o.dst with | some d=>if boxes.contains (nt + 1 + (2 * d + 1)) then some true else if boxes.contains (nt + 1 + 2 * d) then some false else none | none=>none)≠none->o.dst≠none:=fun h e=>by rw [e] at h; exact h rfl
    have db:(isH k=false/\∃ cl mu b q,compB P cl mu b q o.op=some k/\(mu≠none->o.dst≠none))\/∃ hs,compH nt hs o.op=some k:=by
     split at hk
     ·rename_i k' zc;injection hk with hk;exact .inr ⟨_,hk ▸ zc⟩
     ·obtain ⟨h1,h2⟩:=Option.filter_eq_some_iff.1 hk;exact .inl ⟨by simpa using h2,_,_,_,_,h1,tn⟩
    cases hg:o.guard with
    | none =>
     simp only [hg] at h;injection h with h;exact fin _ h.symm ⟨rfl,db,ga,by rw [hg]⟩
    | some p =>
     obtain ⟨g,want⟩:=p;simp only [hg] at h;split at h
     ·rename_i t ht;injection h with h;exact fin _ h.symm ⟨rfl,db,ga,by rw [hg]; exact ⟨t,by simpa using ht,rfl⟩⟩
     ·cases h
   ·cases h
  ·cases h
section
variable {D:Nat->Prop} (R:RelE P O nt B F0 da w0 D s a w) (wa:∀ f args S r,call f args S=some r->q2i P O f args S r)
include D R wa
theorem step_sound {ops:Array Oper} {i:Nat} {o:Oper} {c:OpC} (ho:ops[i]?=some o) (ok:OpOk P nt ops o c) (hD:∀ d,o.dst=some d->(isA c.op||isO c.op)=true->¬ D d) (db:∃ cl mu b q,compB P cl mu b q o.op=some c.op/\(mu≠none->o.dst≠none)) (hs:c.step call s=some s')
  {Kn:Act->World->Prop} (hK:∀ a' w',RelE P O nt B F0 da w0 (fun t=>D t\/o.dst=some t) s' a' w'->Kn a' w'):wpOp P ops Q i Kn a w:=by
 obtain ⟨ι,Θ,R⟩:=R;obtain ⟨cl,mu,b,q,db,tn⟩:=db;obtain ⟨cd,cop,cg⟩:=c;have ca:cd=o.dst:=ok.dst;subst ca;have main:cop.run call s≠none->(cop.run call s).bind (OpC.eff ⟨o.dst,cop,cg⟩ s)=some s'->o.wp P a w Kn Q:=fun _ h=>by
  obtain ⟨xe,hx,he⟩:=y8.1 h;unfold compB at db;split at db
  ·rename_i k hk;injection db with db;subst db;exact op_sound R wa hk tn ok.lt hD hx he hK
  ·split at db
   ·injection db with db;subst db;cases hx
   ·cases db
 have main':(cop.run call s).bind (OpC.eff ⟨o.dst,cop,cg⟩ s)=some s'->o.wp P a w Kn Q:=fun h=>main (fun e=>by rw [e] at h; cases h) h
 unfold wpOp;simp only [ho];have nw:RepS ι (avA da ι Θ) (avB ι Θ) w (.tup []) undef:=⟨#[],rfl,rfl⟩;have hg:=ok.guard;cases dq:o.guard with
 | none =>
  rw [dq] at hg;simp only at hg;subst hg;have:Region.wanted o (yielded ops a.tmps)=true:=by simp [Region.wanted,dq]
  rw [if_pos this];exact .inl (main' hs)
 | some p =>
  obtain ⟨g,want⟩:=p;rw [dq] at hg;obtain ⟨t,ht,hg⟩:=hg;simp only at hg;subst hg;unfold OpC.step at hs;simp only at hs;split at hs
  ·rename_i b hb;have hr:=R.env t;rw [hb,q0W] at hr;have hy:yielded ops a.tmps g=some b:=by
    unfold yielded;rw [ht];simp only [V];rw [yY] at hr;cases hh:a.tmps[t]? with
    | none=>rw [hh] at hr; simp [undef] at hr
    | some v=>rw [hh] at hr; simp only [Option.getD_some] at hr; subst hr; rfl
   have hw:Region.wanted o (yielded ops a.tmps)=(b == want):=by
    simp only [Region.wanted,dq,hy];cases b <;> cases want <;> rfl
   rw [hw];split at hs
   ·rename_i e;subst e;rw [if_pos (by simp)];exact .inl (main' hs)
   ·rename_i e;injection hs with hs;subst hs;rw [if_neg (by simpa using e)];exact hK _ _ ⟨ι,Θ,(R.putN ok.lt (x:=⟨.tup [],.no⟩) nw trivial).more fun _ h=>.inl h⟩
  ·rename_i hb;have hr:=R.env t;rw [hb] at hr;obtain ⟨us,hv,rd⟩:=hr;have hy:yielded ops a.tmps g=none:=by
    unfold yielded;rw [ht];simp only [V];rw [yY] at hv;cases hh:a.tmps[t]? with
    | none=>rfl
    | some v=>rw [hh] at hv; simp only [Option.getD_some] at hv; subst hv; rfl
   have hw:Region.wanted o (yielded ops a.tmps)=false:=by
    simp only [Region.wanted,dq,hy];cases want <;> rfl
   rw [hw];injection hs with hs;subst hs;rw [if_neg (by decide)];exact hK _ _ ⟨ι,Θ,(R.putN ok.lt (x:=⟨.tup [],.no⟩) nw trivial).more fun _ h=>.inl h⟩
  ·cases hs
theorem stepK_sound (ug:HpOk P O lh.h) {ops:Array Oper} {i:Nat} {o:Oper} {c:OpC} (ho:ops[i]?=some o) (ok:OpOk P nt ops o c) (hD:∀ d,o.dst=some d->(isA c.op||isO c.op)=true->¬ D d) {k:MSt->Option RV} {r:RV} (hs:c.stepK call lh s k=some r)
  {Kn:Act->World->Prop} (hK:∀ s' a' w',RelE P O nt B F0 da w0 (fun t=>D t\/o.dst=some t) s' a' w'->k s'=some r->Kn a' w'):wpOp P ops Q i Kn a w:=by
 rcases ok.op with ⟨hH,db⟩ | ⟨fi,db⟩
 ·have hb:(c.step call s).bind k=some r:=by
   unfold OpC.stepK at hs;split at hs
   ·rename_i h; rw [h] at hH; cases hH
   ·rename_i h; rw [h] at hH; cases hH
   ·exact hs
  obtain ⟨s1,h1,h2⟩:=y8.1 hb;exact step_sound R wa ho ok hD db h1 fun a' w' R'=>hK s1 a' w' R' h2
 ·obtain ⟨cd,cop,cg⟩:=c;have ca:cd=o.dst:=ok.dst;subst ca;simp only at db;obtain ⟨ι,Θ,R⟩:=R;obtain ⟨st,za,main'⟩:∃ st,OpC.stepK call lh ⟨o.dst,cop,cg⟩ s k=q5Y s o.dst cg st k/\(st=some r->o.wp P a w Kn Q):=by
   have mi:=db;unfold compH at mi;split at mi
   ·split at mi
    ·obtain ⟨_,_,h⟩:=yg.1 mi; subst h; exact ⟨_,rfl,fun h=>op_callh R ug db ok.lt h hK⟩
    ·cases mi
   ·split at mi
    ·obtain ⟨_,_,h⟩:=yg.1 mi; subst h; exact ⟨_,rfl,fun h=>op_callh R ug db ok.lt h hK⟩
    ·cases mi
   ·rename_i X kP;obtain ⟨x,hx,h⟩:=yg.1 mi;subst h;exact ⟨_,rfl,fun h=>op_nxt R hx kP ok.lt h hK⟩
   ·cases mi
  rw [za] at hs;unfold wpOp;simp only [ho];have nw:RepS ι (avA da ι Θ) (avB ι Θ) w (.tup []) undef:=⟨#[],rfl,rfl⟩;have hg:=ok.guard;cases dq:o.guard with
  | none =>
   rw [dq] at hg;simp only at hg;subst hg;have:Region.wanted o (yielded ops a.tmps)=true:=by simp [Region.wanted,dq]
   rw [if_pos this];exact .inl (main' hs)
  | some p =>
   obtain ⟨g,want⟩:=p;rw [dq] at hg;obtain ⟨t,ht,hg⟩:=hg;simp only at hg;subst hg;unfold q5Y at hs;simp only at hs;split at hs
   ·rename_i b hb;have hr:=R.env t;rw [hb,q0W] at hr;have hy:yielded ops a.tmps g=some b:=by
     unfold yielded;rw [ht];simp only [V];rw [yY] at hr;cases hh:a.tmps[t]? with
     | none=>rw [hh] at hr; simp [undef] at hr
     | some v=>rw [hh] at hr; simp only [Option.getD_some] at hr; subst hr; rfl
    have hw:Region.wanted o (yielded ops a.tmps)=(b == want):=by
     simp only [Region.wanted,dq,hy];cases b <;> cases want <;> rfl
    rw [hw];split at hs
    ·rename_i e;subst e;rw [if_pos (by simp)];exact .inl (main' hs)
    ·rename_i e;rw [if_neg (by simpa using e)];exact hK _ _ _ ⟨ι,Θ,(R.putN ok.lt (x:=⟨.tup [],.no⟩) nw trivial).more fun _ h=>.inl h⟩ hs
   ·rename_i hb;have hr:=R.env t;rw [hb] at hr;obtain ⟨us,hv,rd⟩:=hr;have hy:yielded ops a.tmps g=none:=by
     unfold yielded;rw [ht];simp only [V];rw [yY] at hv;cases hh:a.tmps[t]? with
     | none=>rfl
     | some v=>rw [hh] at hv; simp only [Option.getD_some] at hv; subst hv; rfl
    have hw:Region.wanted o (yielded ops a.tmps)=false:=by
     simp only [Region.wanted,dq,hy];cases want <;> rfl
    rw [hw];rw [if_neg (by decide)];exact hK _ _ _ ⟨ι,Θ,(R.putN ok.lt (x:=⟨.tup [],.no⟩) nw trivial).more fun _ h=>.inl h⟩ hs
   ·cases hs
end
theorem RelE.next {D:Nat->Prop} (R:RelE P O nt B F0 da w0 D s a w):RelE P O nt B F0 da w0 (fun _=>False) { s with next:=s.next + 1 } a w:=by
 obtain ⟨ι,Θ,R⟩:=R;exact ⟨ι,Θ,R.defers,R.size,R.env,R.ann,R.rows,fun t n b h=>let ⟨h1,h2,h3⟩:=R.mine t n b h; ⟨h1,h2,.inl (by rcases h3 with h | h <;> simp only <;> omega)⟩,R.inj,R.tok,R.tinj,R.apart,R.out,R.pin,R.kept,R.base,R.objs,fun t n H h=>let ⟨h1,h2⟩:=R.obs t n H h; ⟨h1,.inl (by rcases h2 with h | h <;> simp only <;> omega)⟩,R.gen,R.gann⟩
theorem fresh_spec {cs:List OpC} (h:freshOk cs=true) {i j:Nat} {x y:OpC} (hx:cs[i]?=some x) (hy:cs[j]?=some y) (oa:i≠j) (hA:(isA y.op||isO y.op)=true) (ml:y.dst.isSome=true):x.dst≠y.dst:=by
 have hj:=(yb.1 hy).1;have hi:=(yb.1 hx).1;have h1:=y4.1 h j (List.mem_range.2 hj);rw [hy] at h1;simp only [hA,ml,Bool.true_and,Bool.not_true,Bool.false_or] at h1;have h2:=y4.1 h1 i (List.mem_range.2 hi);rw [hx] at h2;simp only [Bool.or_eq_true] at h2;rcases h2 with h2 | h2
 ·exact absurd (by simpa using h2) oa
 ·simpa using h2
theorem ops_sound {ops:Array Oper} {cs:List OpC} (wa:∀ f args S r,call f args S=some r->q2i P O f args S r) (ug:HpOk P O lh.h) (la:∀ (i:Nat) (o:Oper),ops[i]?=some o->∃ c,cs[i]?=some c/\OpOk P nt ops o c) (ja:cs.length=ops.size) (hf:freshOk cs=true) {k:MSt->Option RV} {r:RV} :
  ∀ (n i:Nat) (s:MSt) (a:Act) (w:World),i + n=ops.size->RelE P O nt B F0 da w0 (fun t=>∃ j c,j<i/\cs[j]?=some c/\c.dst=some t) s a w->q4q call lh (cs.drop i) s k=some r →
   (∀ s' a' w',RelE P O nt B F0 da w0 (fun _=>True) s' a' w'->k s'=some r->Q .normal a' w')->wpOps P ops Q (List.range' i n) a w
 | 0,i,s,a,w,hi,R,hr,hQ=>by
  have:cs.drop i=[]:=ye (by omega);rw [this] at hr;obtain ⟨ι,Θ,R⟩:=R;exact hQ s a w ⟨ι,Θ,R.more fun _ _=>trivial⟩ hr
 | n + 1,i,s,a,w,hi,R,hr,hQ=>by
  have fa:i<ops.size:=by omega
  obtain ⟨c,hc,ok⟩:=la i ops[i] (yZ fa);have jd:i<cs.length:=by omega
  have eO:cs[i]=c:=(yb.1 hc).2;rw [y9 jd,eO] at hr;unfold q4q at hr;rw [List.range'_succ,wpOps_cons];refine stepK_sound R wa ug (yZ fa) ok (fun d hd hA ⟨j,c',hj,cf,gq⟩=>?_) hr fun s' a' w' R' hk=>?_
  ·exact fresh_spec hf cf hc (by omega) hA (by rw [ok.dst,hd]; rfl) (by rw [gq,ok.dst,hd])
  ·refine ops_sound wa ug la ja hf n (i + 1) s' a' w' (by omega) ?_ hk hQ;obtain ⟨ι,Θ,R'⟩:=R';refine ⟨ι,Θ,R'.more fun t ht=>?_⟩;rcases ht with ⟨j,c',hj,cf,gq⟩ | ht
   ·exact ⟨j,c',by omega,cf,gq⟩
   ·exact ⟨i,c,by omega,hc,by rw [ok.dst,ht]⟩
end
end
section
open Go Go.RowKit
section
variable {P:Program} {O:Objs} {nt B:Nat} {F0:Own} {da:Av} {w0:World} {s s':MSt} {a:Act} {w w':World} {call:q18} {lh:LH} {Q:Exit->Act->World->Prop}
noncomputable def q7A (call:q18) (lh:LH) (cs:List OpC):List Nat->MSt->(MSt->Option RV)->Option RV
 | [],s,k=>k s
 | i :: r,s,k=>match cs[i]? with
  | some c=>c.stepK call lh s fun s=>q7A call lh cs r s k
  | none=>none
theorem runOps_idx (cs:List OpC) (k:MSt->Option RV):∀ (n i:Nat) (s:MSt),i + n=cs.length->q4q call lh (cs.drop i) s k=q7A call lh cs (List.range' i n) s k
 | 0,i,s,h=>by rw [ye (by omega)]; rfl
 | n + 1,i,s,h=>by
  have fa:i<cs.length:=by omega
  rw [y9 fa,List.range'_succ];unfold q4q q7A;rw [y5 fa];simp only;congr 1;funext s1;exact runOps_idx cs k n (i + 1) s1 (by omega)
theorem q4j {c:OpC} (h:isH c.op=false) (s:MSt) (k:MSt->Option RV):c.stepK call lh s k=(c.step call s).bind k:=by
 unfold OpC.stepK;split
 ·rename_i e; rw [e] at h; cases h
 ·rename_i e; rw [e] at h; cases h
 ·rfl
theorem isM_H {k:K} (h:isM k=false):isH k=false:=by
 cases k <;> first | rfl | cases h
theorem pair_H {x y:OpC} (h:qa2 x y=true):isH x.op=false/\isH y.op=false:=by
 have hN:∀ {k:K},isN k=true->isH k=false:=fun {k} h=>by cases k <;> first | rfl | cases h
 have hV:∀ {o:OpC},isMv o=true->isH o.op=false:=fun h=>by obtain ⟨d,z,rfl⟩:=isMv_eq h; rfl
 unfold qa2 at h;simp only [Bool.or_eq_true,y7] at h;rcases h with h | ⟨h,h'⟩ | ⟨h,h'⟩
 ·unfold q5U at h;simp only [y7] at h;exact ⟨isM_H (by simpa using h.1.1.1.1.1.1.1),isM_H (by simpa using h.1.1.1.1.1.1.2)⟩
 ·exact ⟨hV h,hN h'⟩
 ·exact ⟨hN h',hV h⟩
theorem bubble0 {cs:List OpC} {i:Nat} {c:OpC} (hc:cs[i]?=some c) (hH:isH c.op=false) {L2:List Nat} {k:MSt->Option RV} {r:RV}:∀ {L1:List Nat} {s:MSt},(∀ r∈L1,∃ cr,cs[r]?=some cr/\q7q cr c=true/\qa2 cr c=true)->q7A call lh cs (L1++i :: L2) s k=some r →
  ∃ s1,c.step call s=some s1/\q7A call lh cs (L1++L2) s1 k=some r
 | [],s,_,h=>by
  simp only [List.nil_append,q7A,hc,q4j hH] at h;obtain ⟨s1,h1,h2⟩:=y8.1 h;exact ⟨s1,h1,h2⟩
 | q :: L1,s,hL,h=>by
  obtain ⟨cr,hr,ha,ho⟩:=hL q (yk);simp only [List.cons_append,q7A,hr,q4j (pair_H ho).1] at h;obtain ⟨s1,h1,h2⟩:=y8.1 h;obtain ⟨s2,h3,h4⟩:=bubble0 hc hH (fun q hq=>hL q (yq _ hq)) h2;obtain ⟨nq,h5,h6⟩:=commute ha ho h1 h3;refine ⟨nq,h5,?_⟩;simp only [List.cons_append,q7A,hr,q4j (pair_H ho).1,h6,V];exact h4
theorem bubble {cs:List OpC} {i:Nat} {c:OpC} (hc:cs[i]?=some c) {L2:List Nat} {k:MSt->Option RV} {r:RV} {L1:List Nat} {s:MSt} (hL:∀ r∈L1,∃ cr,cs[r]?=some cr/\q7q cr c=true/\qa2 cr c=true) (h:q7A call lh cs (L1++i :: L2) s k=some r) :
  c.stepK call lh s (fun s1=>q7A call lh cs (L1++L2) s1 k)=some r:=by
 cases L1 with
 | nil=>simpa only [List.nil_append,q7A,hc] using h
 | cons q L1 =>
  obtain ⟨cr,hr,ha,ho⟩:=hL q (yk);have hH:=(pair_H ho).2;obtain ⟨s1,h1,h2⟩:=bubble0 hc hH hL h;rw [q4j hH,h1,V];exact h2
theorem mem_edges {o:Oper} {e:Nat}:e∈q7e o ↔ ∃ d∈o.after,Region.binds .any d=true/\d.on=e:=by
 unfold q7e;rw [List.mem_filterMap];constructor
 ·rintro ⟨d,hd,h⟩;split at h
  ·rename_i hb; injection h with h; exact ⟨d,by simpa using hd,hb,h⟩
  ·cases h
 ·rintro ⟨d,hd,hb,rfl⟩;exact ⟨d,by simpa using hd,by rw [if_pos hb]⟩
theorem bf_spec {ops:List Oper} {bf:List Nat} (h:bfOk ops bf=true) {i:Nat} {o:Oper} (ho:ops[i]?=some o):(∀ e∈q7e o,e<i)/\∀ r,r<i->(bf.getD i 0).testBit r=true->∃ e∈q7e o,e=r\/(r<e/\(bf.getD e 0).testBit r=true):=by
 have hi:=(yb.1 ho).1;have h1:=y4.1 h i (List.mem_range.2 hi);rw [ho] at h1;simp only [y7] at h1;refine ⟨fun e he=>by simpa using y4.1 h1.1 e he,fun r hr hb=>?_⟩;have h2:=y4.1 h1.2 r (List.mem_range.2 hr);simp only [hb,Bool.not_true,Bool.false_or,List.any_eq_true,Bool.or_eq_true,beq_iff_eq,y7,decide_eq_true_eq] at h2;exact h2
theorem bf_listed {ops:List Oper} {bf:List Nat} (h:bfOk ops bf=true) {L:List Nat} (jd:∀ (j:Nat) (o:Oper),ops[j]?=some o->j ∉ L->∀ e∈q7e o,e ∉ L):∀ (n i:Nat) (o:Oper),i<n->ops[i]?=some o->(∀ e∈q7e o,e ∉ L)->∀ r,r<i->(bf.getD i 0).testBit r=true->r ∉ L
 | 0,i,o,hn,_,_,_,_,_=>by omega
 | n + 1,i,o,hn,ho,gF,r,hr,hb=>by
  obtain ⟨h1,h2⟩:=bf_spec h ho;obtain ⟨e,he,jP⟩:=h2 r hr hb;rcases jP with rfl | ⟨eh,zN⟩
  ·exact gF _ he
  ·have hei:=h1 e he;have fa:i<ops.length:=(yb.1 ho).1;have kB:ops[e]?=some ops[e]:=y5 (by omega);exact bf_listed h jd n e _ (by omega) kB (jd e _ kB (gF e he)) r eh zN
theorem draw_pair {ops:List Oper} {cs:List OpC} (h:drawOk ops cs=true) {i j:Nat} (hj:j<ops.length) (fF:i<j) (hb:((qal ops).getD j 0).testBit i=false):∃ x y,cs[i]?=some x/\cs[j]?=some y/\q7q x y=true/\qa2 x y=true:=by
 unfold drawOk at h;simp only [y7] at h;have h1:=y4.1 h.2 j (List.mem_range.2 hj);have h2:=y4.1 h1 i (List.mem_range.2 fF);rw [hb,Bool.false_or] at h2;split at h2
 ·rename_i x y hx hy;simp only [y7] at h2;exact ⟨x,y,hx,hy,h2.1,h2.2⟩
 ·cases h2
theorem any_sound {ops:Array Oper} {cs:List OpC} (wa:∀ f args S r,call f args S=some r->q2i P O f args S r) (ug:HpOk P O lh.h) (la:∀ (i:Nat) (o:Oper),ops[i]?=some o->∃ c,cs[i]?=some c/\OpOk P nt ops o c) (ja:cs.length=ops.size) (hf:freshOk cs=true) (iC:drawOk ops.toList cs=true) {k:MSt->Option RV} {r:RV}
  (hQ:∀ s' a' w',RelE P O nt B F0 da w0 (fun _=>True) s' a' w'->k s'=some r->Q .normal a' w') :
  ∀ (fuel:Nat) (L:List Nat) (listed:Array Bool) (s:MSt) (a:Act) (w:World),L.length=fuel->(∀ i,i<ops.size->(listed.getD i true=false ↔ i∈L))->listed.size=ops.size->L.Pairwise (·<·)->(∀ i∈L,i<ops.size) →
   (∀ (j:Nat) (o:Oper),ops.toList[j]?=some o->j ∉ L->∀ e∈q7e o,e ∉ L)->RelE P O nt B F0 da w0 (fun t=>∃ j c,j ∉ L/\cs[j]?=some c/\c.dst=some t) s a w->q7A call lh cs L s k=some r->wpAny P .any ops Q fuel listed a w
 | 0,L,listed,s,a,w,hl,hlist,ic,_,_,_,R,hr=>by
  have:L=[]:=yN hl;subst this;refine ⟨?_,?_⟩
  ·refine List.eq_nil_iff_forall_not_mem.2 fun i hi=>?_
   obtain ⟨nw,o,ho,_⟩:=mem_ready.1 hi;have ac:=(Array.getElem?_eq_some_iff.1 ho).1;have:=(hlist i ac).1 nw;cases this
  ·obtain ⟨ι,Θ,R⟩:=R;exact hQ s a w ⟨ι,Θ,R.more fun _ _=>trivial⟩ hr
 | fuel + 1,L,listed,s,a,w,hl,hlist,ic,hsort,wd,jd,R,hr=>by
  have mK:bfOk ops.toList (qal ops.toList)=true:=by
   unfold drawOk at iC;simp only [y7] at iC;exact iC.1
  refine ⟨fun kt=>?_,fun i hi=>?_⟩
  ·exfalso;cases L with
   | nil=>simp at hl
   | cons i0 L0 =>
    have bh:=wd i0 (yk);have ho:ops.toList[i0]?=some ops[i0]:=by simp [bh]
    have na:i0∈Region.ready .any ops listed:=by
     refine mem_ready.2 ⟨(hlist i0 bh).2 (yk),ops[i0],yZ bh,fun e he hb=>?_⟩;have fa:=(bf_spec mK ho).1 e.on (mem_edges.2 ⟨e,he,hb,rfl⟩);have rI:e.on ∉ i0 :: L0:=fun hm=>by
      rcases yf.1 hm with h | h
      ·omega
      ·have:=(List.pairwise_cons.1 hsort).1 _ h; omega
     have h1:listed.getD e.on true≠false:=fun h=>rI ((hlist e.on (by omega)).1 h)
     have hs:e.on<listed.size:=by omega
     simp only [yY,yZ hs,Option.getD_some] at h1 ⊢;simpa using h1
    rw [kt] at na;cases na
  ·obtain ⟨nw,o,ho,gF⟩:=mem_ready.1 hi;have ac:=(Array.getElem?_eq_some_iff.1 ho).1;have wH:=(hlist i ac).1 nw;have hol:ops.toList[i]?=some o:=by simpa using ho
   have jC:∀ e∈q7e o,e ∉ L:=fun e he=>by
    obtain ⟨d,hd,hb,rfl⟩:=mem_edges.1 he;have h1:=gF d hd hb;intro hm;have fa:=wd _ hm;have h2:=(hlist _ fa).2 hm;have hs:d.on<listed.size:=by omega
    simp only [yY,yZ hs,Option.getD_some] at h1 h2;rw [h1] at h2;cases h2
   obtain ⟨L1,L2,rfl⟩:=List.append_of_mem wH;obtain ⟨c,hc,ok⟩:=la i o ho;have mg:=List.pairwise_append.1 hsort;have gC:∀ r∈L1,∃ cr,cs[r]?=some cr/\q7q cr c=true/\qa2 cr c=true:=fun r hr=>by
    have tt:r<i:=mg.2.2 r hr i (yk);have dH:((qal ops.toList).getD i 0).testBit r=false:=by
     cases hb:((qal ops.toList).getD i 0).testBit r with
     | false=>rfl
     | true=>exact absurd (List.mem_append_left _ hr) (bf_listed mK jd (i + 1) i o (by omega) hol jC r tt hb)
    obtain ⟨x,y,hx,hy,h1,h2⟩:=draw_pair iC (by simpa using ac) tt dH;rw [hc] at hy;injection hy with hy;subst hy;exact ⟨x,hx,h1,h2⟩
   have h1:=bubble hc gC hr;have cB:i ∉ L1++L2:=fun hm=>by
    rcases yu.1 hm with h | h
    ·have:=mg.2.2 i h i (yk); omega
    ·have:=(List.pairwise_cons.1 mg.2.1).1 i h; omega
   have nc:∀ j,j ∉ L1++i :: L2 ↔ (j ∉ L1++L2/\j≠i):=fun j=>by
    simp only [yu,yf,not_or];exact ⟨fun ⟨h1,h2,h3⟩=>⟨⟨h1,h3⟩,h2⟩,fun ⟨⟨h1,h3⟩,h2⟩=>⟨h1,h2,h3⟩⟩
   refine stepK_sound R wa ug ho ok (fun d hd hA ⟨j,c',hj,cf,gq⟩=>?_) h1 fun s1 a' w' R' h2=>?_
   ·have:j≠i:=((nc j).1 hj).2;exact fresh_spec hf cf hc this hA (by rw [ok.dst,hd]; rfl) (by rw [gq,ok.dst,hd])
   ·refine any_sound wa ug la ja hf iC hQ fuel (L1++L2) (listed.setIfInBounds i true) s1 a' w' (by simp at hl ⊢; omega) (fun j hj=>?_) (by simpa using ic) ?_ (fun j hj=>wd j ?_) (fun j o' iD hj e he hm=>?_) ?_ h2
    ·have wO:j<listed.size:=by omega
     by_cases e:i=j
     ·subst e;simp only [yY,Array.getElem?_setIfInBounds,if_true,wO,Option.getD_some];exact ⟨fun h=>by simp at h,fun h=>absurd h cB⟩
     ·simp only [yY,Array.getElem?_setIfInBounds,if_neg e];have:=hlist j hj;simp only [yY] at this;rw [this];simp only [yu,yf];exact ⟨fun h=>by rcases h with h | h | h; exact .inl h; exact absurd h.symm e; exact .inr h,fun h=>by rcases h with h | h; exact .inl h; exact .inr (.inr h)⟩
    ·exact List.pairwise_append.2 ⟨mg.1,(List.pairwise_cons.1 mg.2.1).2,fun x hx y hy=>mg.2.2 x hx y (yq _ hy)⟩
    ·rcases yu.1 hj with h | h
     ·exact List.mem_append_left _ h
     ·exact List.mem_append_right _ (yq _ h)
    ·have ld:e∈L1++i :: L2:=by
      rcases yu.1 hm with h | h
      ·exact List.mem_append_left _ h
      ·exact List.mem_append_right _ (yq _ h)
     by_cases e':j=i
     ·subst e';rw [hol] at iD;injection iD with iD;subst iD;exact jC e he ld
     ·exact jd j o' iD ((nc j).2 ⟨hj,e'⟩) e he ld
    ·obtain ⟨ι,Θ,R'⟩:=R';refine ⟨ι,Θ,R'.more fun t ht=>?_⟩;rcases ht with ⟨j,c',hj,cf,gq⟩ | ht
     ·exact ⟨j,c',((nc j).1 hj).1,cf,gq⟩
     ·exact ⟨i,c,cB,hc,by rw [ok.dst,ht]⟩
theorem region_sound (hm:P.follows .mixedOrders=true) (wa:∀ f args S r,call f args S=some r->q2i P O f args S r) (ug:HpOk P O lh.h) {boxes:List Nat} {id:Nat} {ops:Array Oper} {draw:Bool} {cs:List OpC} (hc:compOps P boxes nt ops.toList draw ops.toList=some cs) (hf:freshOk cs=true) (hd:draw=true->drawOk ops.toList cs=true)
  (R:RelE P O nt B F0 da w0 (fun _=>False) s a w) {k:MSt->Option RV} {r:RV} (hr:q4q call lh cs s k=some r) (hQ:∀ s' a' w',RelE P O nt B F0 da w0 (fun _=>False) { s' with next:=s'.next + 1 } a' w'->k s'=some r->Q .normal a' w'):(Code.region id ops draw).wp P Q a w:=by
 obtain ⟨ja,ii⟩:=compOps_get hc;have et:cs.length=ops.size:=by simpa using ja
 have la:∀ (i:Nat) (o:Oper),ops[i]?=some o->∃ c,cs[i]?=some c/\OpOk P nt ops o c:=fun i o ho=>by
  have:=ii i o (by simpa using ho);rw [yT] at this;exact this
 have jK:∀ s' a' w',RelE P O nt B F0 da w0 (fun _=>True) s' a' w'->k s'=some r->Q .normal a' w':=fun s' a' w' h hk=>hQ s' a' w' h.next hk
 cases draw with
 | false =>
  refine wp_region ?_;rw [List.range_eq_range'];refine ops_sound wa ug la et hf ops.size 0 s a w (by omega) ?_ (by simpa using hr) jK;obtain ⟨ι,Θ,R⟩:=R;exact ⟨ι,Θ,R.more fun _ h=>h.elim⟩
 | true =>
  refine wp_region_any hm ?_;have ia:q7A call lh cs (List.range' 0 ops.size) s k=some r:=by
   rw [<- et,<- runOps_idx cs k cs.length 0 s (by omega)];simpa using hr
  refine any_sound wa ug la et hf (hd rfl) jK ops.size (List.range' 0 ops.size) _ s a _ (by simp) (fun i hi=>?_) (by simp) List.pairwise_lt_range' (fun i hi=>?_) (fun j o ho hj=>?_) ?_ ia
  ·simp [hi]
  ·simpa using hi
  ·have:=(yb.1 ho).1;exact absurd (by simpa using this) (by simpa using hj)
  ·obtain ⟨ι,Θ,R⟩:=R;exact ⟨ι,Θ,(R.grow (w':=w.drew) (fun _ _=>rfl) (ym _) R.kept.drew).more fun _ h=>h.elim⟩
end
end
section
open Go Go.RowKit
section
variable {P:Program} {O:Objs} {nt B:Nat} {F0:Own} {da:Av} {w0:World} {s s':MSt} {a:Act} {w w':World} {call:q18} {lp:LH}
def exOf:Ex->Exit
 | .nrm=>.normal
 | .exit id=>.exit id
 | .ret=>.ret
def LpOk (P:Program) (O:Objs) (N:Nat) (lp:LpT):Prop :=
 ∀ (boxes:List Nat) (nt B:Nat) (F0:Own) (da:Av) (w0:World) (code:Code) (b:C) (s:MSt) (k:Ex->MSt->Option RV) (r:RV) (a:Act) (w:World) (Q:Exit->Act->World->Prop),comp P boxes nt code=some b->lp b s k=some r->RelE P O nt B F0 da w0 (fun _=>False) s a w →
  (∀ e s' a' w',RelE P O nt B F0 da w0 (fun _=>False) s' a' w'->k e s'=some r->Q (exOf e) a' w')->Code.rounds P code Q N a w
theorem q3c (hm:P.follows .mixedOrders=true) (wa:∀ f args S r,call f args S=some r->q2i P O f args S r) {N:Nat} (mh:LpOk P O N lp.l) (ug:HpOk P O lp.h) {boxes:List Nat} :
  ∀ (code:Code) (c:C) (s:MSt) (k:Ex->MSt->Option RV) (r:RV) (a:Act) (w:World) (Q:Exit->Act->World->Prop),comp P boxes nt code=some c->c.run call lp s k=some r->RelE P O nt B F0 da w0 (fun _=>False) s a w →
   (∀ e s' a' w',RelE P O nt B F0 da w0 (fun _=>False) s' a' w'->k e s'=some r->Q (exOf e) a' w')->code.wp P Q a w
 | .skip,c,s,k,r,a,w,Q,hc,hr,R,hk=>by
  injection hc with hc;subst hc;exact wp_skip (hk .nrm s a w R hr)
 | .seq x y,c,s,k,r,a,w,Q,hc,hr,R,hk=>by
  unfold comp at hc;split at hc
  ·rename_i cx cy hx hy;injection hc with hc;subst hc;refine wp_seq (q3c hm wa mh ug x cx s _ r a w _ hx hr R fun e s' a' w' R' he=>?_);cases e with
   | nrm=>exact q3c hm wa mh ug y cy s' k r a' w' Q hy he R' hk
   | exit id=>exact hk _ _ _ _ R' he
   | ret=>exact hk _ _ _ _ R' he
  ·cases hc
 | .region id ops draw,c,s,k,r,a,w,Q,hc,hr,R,hk=>by
  unfold comp at hc;split at hc
  ·rename_i cs kj;split at hc
   ·rename_i la;injection hc with hc;subst hc;simp only [y7,Bool.or_eq_true] at la;simp only [C.run] at hr;exact region_sound hm wa ug kj la.1 (fun h=>by rcases la.2 with h' | h'; rw [h] at h'; cases h'; exact h') R hr fun s' a' w' R' zc=>hk .nrm _ _ _ R' zc
   ·cases hc
  ·cases hc
 | .cond x t e,c,s,k,r,a,w,Q,hc,hr,R,hk=>by
  unfold comp at hc;split at hc
  ·rename_i cx ct ce hx ht he;injection hc with hc;subst hc;simp only [C.run] at hr;split at hr
   ·rename_i b hb;have hv:a.eval x=.bool b:=by
     obtain ⟨ι,Θ,R⟩:=R;have:=(R.opd hx).1
     rwa [hb,q0W] at this
    cases b with
    | true=>exact wp_cond_true hv (q3c hm wa mh ug t ct s k r a w Q ht (by simpa using hr) R hk)
    | false=>exact wp_cond_false hv (q3c hm wa mh ug e ce s k r a w Q he (by simpa using hr) R hk)
   ·cases hr
  ·cases hc
 | .block id b,c,s,k,r,a,w,Q,hc,hr,R,hk=>by
  unfold comp at hc;obtain ⟨cb,hb,rfl⟩:=yg.1 hc;refine wp_block (q3c hm wa mh ug b cb s _ r a w _ hb hr R fun e s' a' w' R' he=>?_);cases e with
  | nrm=>exact hk _ _ _ _ R' he
  | ret=>exact hk _ _ _ _ R' he
  | exit j =>
   simp only at he;show Exit.inBlock id Q (.exit j) a' w';unfold Exit.inBlock;split at he
   ·rename_i e; simp only [e,if_true]; exact hk _ _ _ _ R' he
   ·rename_i e; simp only [e,if_false]; exact hk _ _ _ _ R' he
 | .loop b,c,s,k,r,a,w,Q,hc,hr,R,hk=>by
  unfold comp at hc;obtain ⟨cb,hb,rfl⟩:=yg.1 hc;exact wp_loop_rounds N (mh boxes nt B F0 da w0 b cb s k r a w Q hb hr R hk)
 | .exit id,c,s,k,r,a,w,Q,hc,hr,R,hk=>by
  injection hc with hc;subst hc;exact wp_exit (hk (.exit id) s a w R hr)
 | .ret,c,s,k,r,a,w,Q,hc,hr,R,hk=>by
  injection hc with hc;subst hc;exact wp_ret (hk .ret s a w R hr)
 | .scope b,c,s,k,r,a,w,Q,hc,hr,R,hk=>by
  unfold comp at hc;refine wp_scope_straight (q3c hm wa mh ug b c s k r a w _ hc hr R fun e s' a' w' R' he=>?_);have:=hk _ _ _ _ R' he;cases e <;> exact this
 | .rangeFunc ..,_,_,_,_,_,_,_,hc,_,_,_=>by cases hc
 | .label _,_,_,_,_,_,_,_,hc,_,_,_=>by cases hc
 | .goto _,_,_,_,_,_,_,_,hc,_,_,_=>by cases hc
 | .refuse _,_,_,_,_,_,_,_,hc,_,_,_=>by cases hc
theorem rep_of_S {ι:Ix} {av:Av} {x:AV} {v:Value} (h:RepS ι av (fun _ _=>False) w x v) (hx:x.free=true):Rep av w x v:=by
  cases x <;> first
    | exact h
    | (simp [AV.free,AV.free0] at hx; done)
    | (obtain ⟨us,hv,hc⟩:=h
       exact ⟨us,hv,q4r hc fun y hy=>y4.1 hx y hy⟩)
theorem RepT_length {av:Av}:∀ {xs:List AV} {us:List Value},RepT av w xs us->us.length=xs.length
 | [],_,h=>by simp only [RepT] at h; subst h; rfl
 | x :: r,_,h=>by
  simp only [RepT] at h;obtain ⟨u,sa,rfl,_,h⟩:=h;simp [RepT_length h]
theorem qaT {p:Nat} {av:Av}:∀ {xs:List AV} {us:List Value},q94 p av w xs us->us.length=xs.length
 | [],_,h=>by simp only [q94] at h; subst h; rfl
 | x :: r,_,h=>by
  simp only [q94] at h;obtain ⟨u,sa,rfl,_,h⟩:=h;simp [qaT h]
def qak (ι:Ix) (av avb:Av) (w:World):List AV->List Value->Prop
 | [],us=>us=[]
 | x :: r,us=>∃ u sa,us=u :: sa/\RepS ι av avb w x u/\qak ι av avb w r sa
theorem RepS.toRep {ι:Ix} {av eb avb:Av} {x:AV} {v:Value} (h:RepS ι av avb w x v) (hx:x.free=true) (td:∀ b o,eb b o->av b o):Rep eb w x v :=
 Rep.held (Held.less td) _ _ (rep_of_S (free_rep (ι':=ι) h hx) hx)
theorem qak.toT {ι:Ix} {av eb avb:Av} (td:∀ b o,eb b o->av b o):∀ {xs:List AV} {us:List Value},qak ι av avb w xs us->(∀ v∈xs,v.free=true)->RepT eb w xs us
 | [],_,h,_=>h
 | x :: r,_,h,hf=>by
  simp only [qak] at h;obtain ⟨u,sa,rfl,h0,h⟩:=h;exact ⟨u,sa,rfl,h0.toRep (hf x yk) td,h.toT td fun v hv=>hf v (yq _ hv)⟩
theorem unname_ptr {t n:Nat} {x:AV} (h:(q7c t n x).isObj=true):x=.ptr t n 0:=by
 cases x with
 | ptr t' n' o =>
  simp only [q7c] at h;split at h
  ·rename_i e; obtain ⟨rfl,rfl,rfl⟩:=e; rfl
  ·cases h
 | _=>cases h
theorem unname_free {t n:Nat} {x:AV} (h:(q7c t n x).free=true):q7c t n x=x:=by
 cases x with
 | ptr t' n' o =>
  simp only [q7c] at h;split at h <;> cases h
 | _=>rfl
theorem qak.toO {ι:Ix} {av eb avb:Av} {t n p:Nat} (hp:ι t n=some p) (td:∀ b o,eb b o->av b o):∀ {xs:List AV} {us:List Value},qak ι av avb w xs us->(∀ v∈xs,((q7c t n v).free||(q7c t n v).isObj)=true)->q94 p eb w (xs.map (q7c t n)) us
 | [],_,h,_=>h
 | x :: r,_,h,hf=>by
  simp only [qak] at h;obtain ⟨u,sa,rfl,h0,h⟩:=h;refine ⟨u,sa,rfl,?_,h.toO hp td fun v hv=>hf v (yq _ hv)⟩;have h1:=hf x yk;unfold RepO;split
  ·rename_i ho;have:=unname_ptr ho;subst this;obtain ⟨b,hb,hv⟩:=h0;rw [hp] at hb;injection hb with hb;rw [hv,hb]
  ·rename_i ho;have su:(q7c t n x).free=true:=by
    rcases Bool.or_eq_true_iff.1 h1 with h | h
    ·exact h
    ·exact absurd h ho
   have aj:=unname_free su;rw [aj] at su ⊢;exact h0.toRep su td
def avF (s:MSt) (av:Av) (ι:Ix):Av:=fun b o=>av b o/\¬ ∃ t n r,s.mem t n=some r/\ι t n=some b
theorem RepC.frz1 {D:Nat->Prop} {ι:Ix} {Θ:Fam} (R:Rel P O nt B F0 da w0 D s a w ι Θ) {x:AV} {u:Value} (h:RepC ι (avA da ι Θ) w x u):RepC ι (avF s (avA da ι Θ) ι) w (x.frz1 s) u:=by
 have less:Held (avA da ι Θ) (avF s (avA da ι Θ) ι) w w:=Held.less fun b o h=>h.1
 have same:=RepC.held (Ix.Le.refl ι) less x u h;cases x with
 | ref t n sz off len c =>
  simp only [AV.frz1];split
  ·rename_i l hl;obtain ⟨r,hm,hl⟩:=y8.1 hl;obtain ⟨b,hb,wb,cc,xf,hz,hv⟩:=h;obtain ⟨tc,b',cur,ty,ua,ra,ka,_⟩:=R.rows t n r hm;rw [hb] at ua;injection ua with ua;subst ua;obtain ⟨h1,h2,us,hL,rd⟩:=q6N ka ra hl;subst h1;show Rep _ w (.sl false l) u;simp only [Rep];refine ⟨_,cc,hv,Nat.le_trans wb xf,fun x hx y hy=>(h2 x hx).trans (h2 y hy).symm,(fun h=>by cases h),fun _=>⟨fun h=>(by cases h),fun _=>⟨b,off,rfl,?_⟩⟩⟩;rw [q3q];exact q6T (RepL.held less _ _ hL) fun j u hj=>⟨rd j u hj,fun h=>h.2 ⟨t,n,r,hm,hb⟩⟩
  ·exact same
 | _=>exact same
theorem q0w.frz1 {D:Nat->Prop} {ι:Ix} {Θ:Fam} (R:Rel P O nt B F0 da w0 D s a w ι Θ):∀ {xs:List AV} {us:List Value},q0w ι (avA da ι Θ) w xs us->q0w ι (avF s (avA da ι Θ) ι) w (xs.map (AV.frz1 s)) us
 | [],_,h=>h
 | x :: r,_,h=>by
  simp only [q0w] at h;obtain ⟨u,sa,rfl,h0,h1,h⟩:=h;exact ⟨u,sa,rfl,h0.frz1 R,h1,h.frz1 R⟩
theorem RepC.frz {D:Nat->Prop} {ι:Ix} {Θ:Fam} (R:Rel P O nt B F0 da w0 D s a w ι Θ) {x:AV} {u:Value} (h:RepC ι (avA da ι Θ) w x u):RepC ι (avF s (avA da ι Θ) ι) w (x.frz0 s) u:=by
 have less:Held (avA da ι Θ) (avF s (avA da ι Θ) ι) w w:=Held.less fun b o h=>h.1
 have same:=RepC.held (Ix.Le.refl ι) less x u h;cases x with
 | ref t n sz off len c =>
  simp only [AV.frz0];split
  ·rename_i l hl;obtain ⟨r,hm,hl⟩:=y8.1 hl;obtain ⟨b,hb,wb,cc,xf,hz,hv⟩:=h;obtain ⟨tc,b',cur,ty,ua,ra,ka,_⟩:=R.rows t n r hm;rw [hb] at ua;injection ua with ua;subst ua;obtain ⟨h1,h2,us,hL,rd⟩:=q6N ka ra hl;subst h1;show Rep _ w (.sl false l) u;simp only [Rep];refine ⟨_,cc,hv,Nat.le_trans wb xf,fun x hx y hy=>(h2 x hx).trans (h2 y hy).symm,(fun h=>by cases h),fun _=>⟨fun h=>(by cases h),fun _=>⟨b,off,rfl,?_⟩⟩⟩;rw [q3q];exact q6T (RepL.held less _ _ hL) fun j u hj=>⟨rd j u hj,fun h=>h.2 ⟨t,n,r,hm,hb⟩⟩
  ·split
   ·rename_i l hl;obtain ⟨r,hm,hl⟩:=y8.1 hl;obtain ⟨l0,pg,hl⟩:=y8.1 hl;split at hl
    ·rename_i ne;injection hl with hl;subst hl;obtain ⟨b,hb,wb,cc,xf,hz,hv⟩:=h;obtain ⟨tc,b',cur,ty,ua,ra,ka,_⟩:=R.rows t n r hm;rw [hb] at ua;injection ua with ua;subst ua;obtain ⟨h1,h2,us,hL,rd⟩:=q9w ka ra pg;subst h1;have gC:=q0w.frz1 R hL;rw [List.map_flatten] at gC;have jN:=q4r gC fun x hx=>y4.1 ne x hx
     show Rep _ w (.sl false _) u;simp only [Rep];refine ⟨_,cc,by rw [yo]; exact hv,by rw [yo]; exact Nat.le_trans wb xf,fun x hx y hy=>?_,(fun h=>by cases h),fun _=>⟨fun h=>(by cases h),fun _=>⟨b,off,rfl,?_⟩⟩⟩
     ·obtain ⟨x',tl,rfl⟩:=yw.1 hx;obtain ⟨y',lu,rfl⟩:=yw.1 hy;rw [yo,yo,h2 x' tl,h2 y' lu]
     ·rw [q3q];exact q6T jN fun j u hj=>⟨rd j u hj,fun h=>h.2 ⟨t,n,r,hm,hb⟩⟩
    ·cases hl
   ·exact same
 | _=>exact same
theorem q0w.frz {D:Nat->Prop} {ι:Ix} {Θ:Fam} (R:Rel P O nt B F0 da w0 D s a w ι Θ):∀ {xs:List AV} {us:List Value},q0w ι (avA da ι Θ) w xs us->q0w ι (avF s (avA da ι Θ) ι) w (xs.map (AV.frz0 s)) us
 | [],_,h=>h
 | x :: r,_,h=>by
  simp only [q0w] at h;obtain ⟨u,sa,rfl,h0,h1,h⟩:=h;exact ⟨u,sa,rfl,h0.frz R,h1,h.frz R⟩
theorem RepS.frz {D:Nat->Prop} {ι:Ix} {Θ:Fam} (R:Rel P O nt B F0 da w0 D s a w ι Θ) {x:AV} {u:Value} (h:RepS ι (avA da ι Θ) (avB ι Θ) w x u):RepS ι (avF s (avA da ι Θ) ι) (avB ι Θ) w (x.frz s) u:=by
 have less:Held (avA da ι Θ) (avF s (avA da ι Θ) ι) w w:=Held.less fun b o h=>h.1
 have same:=RepS.held (Ix.Le.refl ι) less (Held.refl _ _) x u h;cases x with
 | agg cs=>obtain ⟨us,hv,hc⟩:=h; exact ⟨us,hv,hc.frz R⟩
 | ref t n sz off len c =>
  have:=RepC.frz R (x:=.ref t n sz off len c) h;show RepS _ _ _ w (AV.frz0 s (.ref t n sz off len c)) u;generalize hy:AV.frz0 s (.ref t n sz off len c)=y at this ⊢;simp only [AV.frz0] at hy;split at hy
  ·subst hy; exact this
  ·split at hy <;> (subst hy; exact this)
 | _=>exact same
theorem qak.frz {D:Nat->Prop} {ι:Ix} {Θ:Fam} (R:Rel P O nt B F0 da w0 D s a w ι Θ):∀ {xs:List AV} {us:List Value},qak ι (avA da ι Θ) (avB ι Θ) w xs us->qak ι (avF s (avA da ι Θ) ι) (avB ι Θ) w (xs.map (AV.frz s)) us
 | [],_,h=>h
 | x :: r,_,h=>by
  simp only [qak] at h;obtain ⟨u,sa,rfl,h0,h⟩:=h;exact ⟨u,sa,rfl,h0.frz R,h.frz R⟩
def packV (us:List Value):Value:=if h:us.toArray.size=1 then us.toArray[0] else .tuple us.toArray
theorem pack_rep {av:Av}:∀ {xs:List AV} {us:List Value},RepT av w xs us->Rep av w (pack xs) (packV us)
 | [],us,h=>by simp only [RepT] at h; subst h; exact ⟨#[],rfl,rfl⟩
 | [x],us,h=>by
  simp only [RepT] at h;obtain ⟨u,sa,rfl,h0,rfl⟩:=h;exact h0
 | x :: y :: r,us,h=>by
  have hl:=RepT_length h;have:¬ us.toArray.size=1:=by simp; simp at hl; omega
  unfold packV;rw [dif_neg this];exact ⟨_,rfl,h⟩
theorem pack_repN {p:Nat} {av:Av}:∀ {xs:List AV} {us:List Value},q94 p av w xs us->(∀ v∈xs,(v.free||v.isObj)=true)->RepN p av w (pack xs) (packV us)
 | [],us,h,_=>by simp only [q94] at h; subst h; exact ⟨#[],rfl,rfl⟩
 | [x],us,h,hf=>by
  simp only [q94] at h;obtain ⟨u,sa,rfl,h0,rfl⟩:=h;have:=hf x yk;cases x with
  | tup vs=>cases this
  | _=>exact h0
 | x :: y :: r,us,h,_=>by
  have hl:=qaT h;have:¬ us.toArray.size=1:=by simp; simp at hl; omega
  unfold packV;rw [dif_neg this];exact ⟨_,rfl,h⟩
def qac (tmps:Array Value):ResultVar->Sem Value
 | .tmp t=>pure (tmps.getD t undef)
 | .cell b t=>do loadVar t (<- asAddr (tmps.getD b undef))
theorem res_run {D:Nat->Prop} {ι:Ix} {Θ:Fam} (R:Rel P O nt B F0 da w0 D s a w ι Θ):∀ {rs:List ResultVar} {cs:List ResC} {vs:List AV},q7N P rs=some cs->resC s cs=some vs →
  ∃ us,(rs.mapM (qac a.tmps)).run P w=Result.ok us w/\qak ι (avA da ι Θ) (avB ι Θ) w vs us
 | [],cs,vs,h,hr=>by
  injection h with h;subst h;injection hr with hr;subst hr;exact ⟨[],by simp,rfl⟩
 | .tmp t :: rs,cs,vs,h,hr=>by
  unfold q7N at h;obtain ⟨l,hl,rfl⟩:=yg.1 h;simp only [resC] at hr;obtain ⟨dv,hv,rfl⟩:=yg.1 hr;obtain ⟨us,hu,hT⟩:=res_run R hl hv;refine ⟨a.tmps.getD t undef :: us,by rw [List.mapM_cons]; simp only [qac,Sem.run_bind,Sem.run_pure,Result.andThen_ok,hu],_,us,rfl,R.env t,hT⟩
 | .cell b t :: rs,cs,vs,h,hr=>by
  unfold q7N at h;split at h
  ·rename_i ag z l hA hz hl;injection h with h;subst h;simp only [resC] at hr;split at hr
   ·rename_i t' n off hb;cases hm:s.mem t' n with
    | none=>rw [hm] at hr; cases hr
    | some row =>
     rw [hm,V] at hr;obtain ⟨x,hx,hr⟩:=y8.1 hr;obtain ⟨dv,hv,rfl⟩:=yg.1 hr;obtain ⟨us,hu,hT⟩:=res_run R hl hv;have hv:=R.env b;rw [hb,q48] at hv;obtain ⟨bb,fH,hv⟩:=hv;obtain ⟨il,b',cur,ty,ua,ra,ka,_⟩:=R.rows t' n row hm;rw [fH] at ua;injection ua with ua;subst ua;have pb:∀ (j:Nat) (u:Value),((cur.toList.take row.length).drop off)[j]?=some u->w.cell? ⟨bb,off + j,none⟩=some u:=fun j u hu=>by
      rw [cell_of_row w bb (off + j) cur ty (0,0) ra];rw [yQ,yR] at hu;split at hu
      ·simpa using hu
      ·cases hu
     have ec:=q3a off ka.rep;have hi:q5T ag z ((row.map (·.v)).drop off)=some x.v:=by
      cases ag with
      | true =>
       simp only [q0Y,if_true] at hx;split at hx
       ·rename_i wb;injection hx with hx;subst hx;simp only [q5T,if_true,List.length_drop,yo];rw [if_pos (by omega)];simp [List.map_take,List.map_drop]
       ·cases hx
      | false =>
       simp only [q0Y,yn,if_false] at hx;simp [q5T,yQ,hx]
     obtain ⟨u,ia,hS,_⟩:=q9W (P:=P) (avb:=avB ι Θ) hA hz ec pb hi;refine ⟨u :: us,by rw [List.mapM_cons]; simp only [qac,Sem.run_bind,hv,asAddr,Sem.run_pure,Result.andThen_ok,ia,hu],_,us,rfl,hS,hT⟩
   ·cases hr
  ·cases h
structure FnOk (P:Program) (f:FuncId) (c:FnC):Prop where
 enter:∀ xs w,(callFunc f xs).run P w=.ok (.enter f xs) w
 fn:∃ fn,P.funcs[f]?=some fn/\compF P c.mu fn=some c
theorem RepA_length {ι:Ix} {av avl:Av}:∀ {xs:List AV} {us:List Value},RepA ι av avl w xs us->us.length=xs.length
 | [],_,h=>by simp only [RepA] at h; subst h; rfl
 | x :: r,_,h=>by
  simp only [RepA] at h;obtain ⟨u,sa,rfl,_,h⟩:=h;simp [RepA_length h]
theorem RepA_get {ι:Ix} {av avl:Av}:∀ {xs:List AV} {us:List Value} (_:RepA ι av avl w xs us) (t:Nat),RepS ι av avl w (xs.getD t .undef) (us.getD t undef)
 | [],_,_,_=>by simp [RepS]
 | x :: r,_,h,t=>by
  simp only [RepA] at h;obtain ⟨u,sa,rfl,h0,h⟩:=h;cases t with
  | zero=>simpa using h0
  | succ t=>simpa using RepA_get h t
section
variable {vs:List Value} {args:List AV}
include vs args
theorem init_size {ι:Ix} {av avl:Av} {np:Nat} (h:RepA ι av avl w args vs) (hl:args.length=np) (hn:np<=nt):(vs.toArray++Array.replicate (nt - vs.toArray.size) undef).size=nt:=by
 have:=RepA_length h;simp;omega
theorem init_env {ι ι':Ix} {av eb avb avl:Av} {S0:Option AV} (h:RepA ι av avl w args vs) (hι:Ix.Le ι ι') (hA:Held av eb w w) (hB:Held avl avb w w) (t:Nat) :
  RepS ι' eb avb w ((MSt.init args S0).env t).v ((vs.toArray++Array.replicate (nt - vs.toArray.size) undef).getD t undef):=by
 have h1:=RepS.held hι hA hB _ _ (RepA_get h t);have h2:(vs.toArray++Array.replicate (nt - vs.toArray.size) undef).getD t undef=vs.getD t undef:=by
  simp only [yY,List.getD_eq_getElem?_getD,Array.getElem?_append,List.size_toArray,List.getElem?_toArray];split
  ·rfl
  ·rename_i te;rw [yL (by omega)];simp only [Array.getElem?_replicate];split <;> rfl
 rw [h2];exact h1
theorem init_none {av:Av} {np:Nat} (h:RepA Ix.none av (fun _ _=>False) w args vs) (td:∀ b o,av b o->b<w.heap.size) (hl:args.length=np) (hn:np<=nt) :
  RelE P O nt w.heap.size ⟨fun _=>False,none,fun _=>False,0,fun _=>undef⟩ av w (fun _=>False) (MSt.init args none) { tmps:=vs.toArray++Array.replicate (nt - vs.toArray.size) undef,defers:=[] } w:=by
 have ou:∀ b o,avB Ix.none (fun _=>none) b o->False:=fun b o h=>by rcases h with (⟨t,n,h⟩ | ⟨t,n,H,h,_⟩) | ⟨k,ow,h,_⟩ <;> cases h
 have hA:Held av (avA av Ix.none (fun _=>none)) w w:=Held.less fun b o h=>h.resolve_right (ou b o)
 have hB:Held (fun _ _=>False) (avB Ix.none (fun _=>none)) w w:=Held.less fun b o h=>ou b o h
 exact ⟨Ix.none,fun _=>none,rfl,init_size h hl hn,fun t=>init_env h (Ix.Le.refl _) hA hB t,fun t=>trivial,fun t n r h=>(by cases h),fun t n b h=>(by cases h),fun _ _ _ _ _ h=>(by cases h),fun _ _ h=>(by cases h),fun _ _ _ _ h=>(by cases h),fun _ _ _ _ h=>(by cases h),td,fun _ h=>(by cases h),Keep.refl _ _,rfl,fun t n S h=>(by simp [MSt.init] at h),fun t n H h=>(by cases h),fun _=>trivial,fun _=>trivial⟩
theorem init_some {av:Av} {np p:Nat} {H:Nat->Prop} {S:AV} (h:RepA (Ix.one p) av (fun b _=>H b) w args vs) (td:∀ b o,av b o->b<w.heap.size) (hH:∀ b o,H b->av b o) (wc:O.at_ S H p w) (iB:noIt S=true) (hl:args.length=np) (hn:np<=nt) :
  RelE P O nt w.heap.size ⟨H,some p,fun _=>False,0,fun _=>undef⟩ av w (fun _=>False) (MSt.init args (some S)) { tmps:=vs.toArray++Array.replicate (nt - vs.toArray.size) undef,defers:=[] } w:=by
 obtain ⟨ι,hι⟩:∃ ι:Ix,ι=⟨fun t n=>if t=0/\n=0 then some p else none,fun t n=>if t=0/\n=0 then some H else none,fun _=>0⟩:=⟨_,rfl⟩;have hf:∀ t n b,ι t n=some b->t=0/\n=0/\b=p:=fun t n b h=>by
  subst hι;have h':(if t=0/\n=0 then some p else none)=some b:=h;split at h'
  ·rename_i e; injection h' with h'; exact ⟨e.1,e.2,h'.symm⟩
  ·cases h'
 have ho:∀ t n H1,ι.ob t n=some H1->t=0/\n=0/\H1=H:=fun t n b h=>by
  subst hι;simp only at h;split at h
  ·rename_i e; injection h with h'; exact ⟨e.1,e.2,h'.symm⟩
  ·cases h
 have h0:ι 0 0=some p:=by subst hι; rfl
 have h1:ι.ob 0 0=some H:=by subst hι; rfl
 have nc:∀ t n b,Ix.one p t n=some b->ι t n=some b:=fun t n b h=>by subst hι; exact h
 have wb:Ix.Le (Ix.one p) ι:=⟨nc,fun _ _ _ _=>by subst hι; rfl⟩;clear hι;have lF:=O.main wc;have ou:∀ b o,avB ι (fun _=>none) b o->H b:=fun b o h=>by
  rcases h with (⟨t,n,h⟩ | ⟨t,n,H1,h,hb⟩) | ⟨k,ow,h,_⟩
  ·rw [(hf _ _ _ h).2.2]; exact lF
  ·rw [(ho _ _ _ h).2.2] at hb; exact hb
  ·cases h
 have hA:Held av (avA av ι (fun _=>none)) w w:=Held.less fun b o h=>h.elim id fun h=>hH b o (ou b o h)
 refine ⟨ι,fun _=>none,rfl,init_size h hl hn,fun t=>?_,fun t=>trivial,fun t n r h=>(by cases h),fun t n b h=>?_,fun t n t' n' b h h'=>?_,fun _ _ h=>(by cases h),fun _ _ _ _ h=>(by cases h),fun _ _ _ _ h=>(by cases h),td,fun q h=>?_,Keep.refl _ _,rfl,fun t n S1 h=>?_,fun t n H1 h=>?_,fun _=>trivial,fun _=>trivial⟩
 ·exact init_env h wb hA (Held.less fun b o h=>ou b o h) t
 ·obtain ⟨rfl,rfl,rfl⟩:=hf _ _ _ h;exact ⟨.inr lF,O.lt wc lF,.inl (by simp [MSt.init])⟩
 ·obtain ⟨rfl,rfl,_⟩:=hf _ _ _ h;obtain ⟨rfl,rfl,_⟩:=hf _ _ _ h';exact ⟨rfl,rfl⟩
 ·injection h with h;subst h;exact ⟨h0,.inr ⟨H,h1⟩⟩
 ·simp only [MSt.init] at h;split at h
  ·rename_i e;injection h with h;subst h;exact ⟨p,H,by rw [e.1,e.2]; exact h0,by rw [e.1,e.2]; exact h1,wc,Tie.no iB⟩
  ·cases h
 ·obtain ⟨rfl,rfl,rfl⟩:=ho _ _ _ h;refine ⟨fun b hb=>⟨.inr hb,O.lt wc hb,fun t' n' h=>?_,fun _ _ h=>(by cases h),fun t' n' H' h _=>?_⟩,.inl (by simp [MSt.init])⟩
  ·obtain ⟨rfl,rfl,_⟩:=hf _ _ _ h; exact ⟨rfl,rfl⟩
  ·obtain ⟨rfl,rfl,_⟩:=ho _ _ _ h; exact ⟨rfl,rfl⟩
end
theorem init_row {vs:List Value} {args cs:List AV} {av:Av} {np p:Nat} {cur:Array Value} {ty:TypeId} (h:RepA (Ix.row p cur.size) av (fun b _=>b=p) w args vs) (td:∀ b o,av b o->b<w.heap.size) (uk:∀ o,av p o) (ra:w.heap[p]?=some (.cells cur ty (0,0))) (kj:cs.length<=cur.size) (ec:RepL av w cs (cur.toList.take cs.length)) (hl:args.length=np) (hn:np<=nt) :
  RelE P O nt w.heap.size ⟨fun b=>b=p,some p,fun b=>b=p,cur.size,fun _=>undef⟩ av w (fun _=>False) (MSt.initR args cs) { tmps:=vs.toArray++Array.replicate (nt - vs.toArray.size) undef,defers:=[] } w:=by
 have hf:∀ t n b,(Ix.row p cur.size) t n=some b->t=0/\n=0/\b=p:=fun t n b h=>by
  have h':(if t=0/\n=0 then some p else none)=some b:=h;split at h'
  ·rename_i e; injection h' with h'; exact ⟨e.1,e.2,h'.symm⟩
  ·cases h'
 have ou:∀ b o,avB (Ix.row p cur.size) (fun _=>none) b o->b=p:=fun b o h=>by
  rcases h with (⟨t,n,h⟩ | ⟨t,n,H1,h,hb⟩) | ⟨k,ow,h,_⟩
  ·exact (hf _ _ _ h).2.2
  ·cases h
  ·cases h
 have hA:Held av (avA av (Ix.row p cur.size) (fun _=>none)) w w:=Held.less fun b o h=>h.elim id fun h=>ou b o h ▸ uk o
 refine ⟨Ix.row p cur.size,fun _=>none,rfl,init_size h hl hn,fun t=>?_,fun t=>trivial,fun t n r h=>?_,fun t n b h=>?_,fun t n t' n' b h h'=>?_,fun _ _ h=>(by cases h),fun _ _ _ _ h=>(by cases h),fun _ _ _ _ h=>(by cases h),td,fun q h=>?_,Keep.refl _ _,rfl,fun t n S1 h=>(by cases h),fun t n H1 h=>(by cases h),fun _=>trivial,fun _=>trivial⟩
 ·exact init_env (S0:=none) h (Ix.Le.refl _) hA (Held.less fun b o h=>ou b o h) t
 ·simp only [MSt.initR] at h;split at h
  ·rename_i e;injection h with h;subst h;refine ⟨rfl,p,cur,ty,by rw [e.1,e.2]; rfl,ra,row_ofz (RepL.held hA _ _ ec) fun j u hu=>?_,.inr rfl,rfl⟩;have hj:j<cs.length:=by
    have:=(yb.1 hu).1;rw [yC] at this;omega
   rw [List.getElem?_take_of_lt hj] at hu;simpa using hu
  ·cases h
 ·obtain ⟨rfl,rfl,rfl⟩:=hf _ _ _ h;exact ⟨.inr rfl,q0h ra,.inl (by simp [MSt.initR])⟩
 ·obtain ⟨rfl,rfl,_⟩:=hf _ _ _ h;obtain ⟨rfl,rfl,_⟩:=hf _ _ _ h';exact ⟨rfl,rfl⟩
 ·injection h with h;subst h;exact ⟨rfl,.inl ⟨rfl,rfl⟩⟩
theorem Rel.drop0 {D:Nat->Prop} {ι:Ix} {Θ:Fam} (R:Rel P O nt B F0 da w0 D s a w ι Θ):Rel P O nt B F0 da w0 D s.drop0 a w ι Θ :=
 ⟨R.defers,R.size,R.env,R.ann,fun t n r h=>by
  simp only [MSt.drop0] at h;split at h
  ·cases h
  ·exact R.rows t n r h,R.mine,R.inj,R.tok,R.tinj,R.apart,R.out,R.pin,R.kept,R.base,R.objs,R.obs,R.gen,R.gann⟩
theorem row_sound (hm:P.follows .mixedOrders=true) {call:q18} {lp:LH} {N:Nat} (wa:∀ f args S r,call f args S=some r->q2i P O f args S r) (mh:LpOk P O N lp.l) (ug:HpOk P O lp.h) {f:FuncId} {fn:Func} {c:FnC} (fd:∀ xs w,(callFunc f xs).run P w=.ok (.enter f xs) w) (pq:P.funcs[f]?=some fn) (de:compF P c.mu fn=some c) {rest cs:List AV} {r:RV} (ja:rest.length=c.np)
  (h:c.code.run call lp (MSt.initR rest cs) (finR c cs.length)=some r):CallRow P f rest (some (.agg cs)) r:=by
 unfold compF at de;split at de
 ·cases de
 ·rename_i code wk;split at de
  ·rename_i cc rr xf jA;split at de
   ·rename_i aa;injection de with de;obtain ⟨mu,tn⟩:∃ mu,mu=c.mu:=⟨_,rfl⟩;rw [<- tn] at de xf;clear tn;subst de;have mt:fn.params.size + fn.nfree<=fn.ntmps:=aa;refine ⟨fd,?_⟩;obtain ⟨r1,r2⟩:=r
    match r2,h with
    | some (.agg bv),h =>
     intro av w vs p cur ty td uk ra wb ec lc;refine calls_of_wp pq wk ?_;refine q3c hm wa mh ug code cc _ _ _ _ w _ xf h (init_row lc td uk ra wb ec ja mt) fun e s' a' w' R' he=>?_
     have zk:e=.nrm\/e=.ret:=by
      cases e with
      | nrm=>exact .inl rfl
      | ret=>exact .inr rfl
      | exit id=>cases he
     have tg:∃ xs,resC s' rr=some xs/\q7u cs.length s' (xs.map (AV.frz s'.drop0))=some (r1,some (.agg bv)):=by
      rcases zk with rfl | rfl <;> exact y8.1 he
     obtain ⟨xs,fe,bd⟩:=tg;obtain ⟨ι,Θ,R'⟩:=R';obtain ⟨us,rd,fC⟩:=res_run R' jA fe;have nd:(results fn a'.tmps).run P w'=.ok (packV us) w':=by
      have he:results fn a'.tmps=(do let vs <- fn.results.mapM (qac a'.tmps); pure (if h:vs.size=1 then vs[0] else .tuple vs)):=rfl;rw [he,Array.mapM_eq_mapM_toList];simp only [Sem.run_bind,Sem.run_map,rd,Result.andThen_ok,Sem.run_pure];rfl
     have hs:=fC.frz R'.drop0;unfold q7u at bd;split at bd
     ·rename_i ta;obtain ⟨row,ut,bd⟩:=y8.1 bd;split at bd
      ·rename_i aa;injection bd with bd;injection bd with hfv1 hfv2;injection hfv2 with hfv2;injection hfv2 with hfv2;subst hfv1;subst hfv2;obtain ⟨tc,b,lb,up,hb,jn,ka,_,hz⟩:=R'.rows 0 0 row ut;obtain ⟨mD,lP⟩:=R'.pin p rfl;rw [mD] at hb;injection hb with hb;subst hb;have nL:ι.z p=cur.size:=by
        rcases lP with ⟨_,h⟩ | ⟨H,h⟩
        ·exact h
        ·rw [h] at tc; cases tc
       have nc:∀ b o,av b o->avF s'.drop0 (avA av ι Θ) ι b o:=fun b o h=>⟨.inl h,fun ⟨t,n,r,hm,hb⟩=>by
        simp only [MSt.drop0] at hm;split at hm
        ·cases hm
        ·rename_i hn;obtain ⟨_,b',_,_,ua,_,_,jj,_⟩:=R'.rows t n r hm;rw [hb] at ua;injection ua with ua;subst ua;rcases jj with jj | jj
         ·have:=td _ _ h; omega
         ·have:b=p:=jj;subst this;exact hn (R'.inj _ _ _ _ _ hb mD)⟩
       have post:a'.defers=[]/\∃ v,(results fn a'.tmps).run P w'=.ok v w'/\∃ v' cur'' ty'',Ending.returned v=.returned v'/\Rep av w' (pack (xs.map (AV.frz s'.drop0))) v'/\w'.heap[p]?=some (.cells cur'' ty'' (0,0))/\cur''.size=cur.size/\RepL av w' (row.map fun x=>AV.frz0 s'.drop0 x.v) (cur''.toList.take (row.map fun x=>AV.frz0 s'.drop0 x.v).length)/\Keep (fun b=>b=p) w w':=by
        refine ⟨R'.defers,_,nd,_,lb,up,rfl,pack_rep (hs.toT nc fun v hv=>y4.1 ta v hv),jn,hz.trans nL,?_,R'.kept⟩;have h1:=ka.rep.frz R'.drop0;rw [y0] at h1;have h2:=q4r h1 fun x hx=>y4.1 aa.1 x hx
        rw [yo];exact RepL.held (Held.less nc) _ _ h2
       rcases zk with rfl | rfl <;> exact post
      ·cases bd
     ·cases bd
    | none,h=>trivial
    | some (.int ..),h=>trivial
    | some (.bool _),h=>trivial
    | some (.str _),h=>trivial
    | some .nilP,h=>trivial
    | some (.ptr ..),h=>trivial
    | some (.ip _),h=>trivial
    | some (.bp _),h=>trivial
    | some (.sl ..),h=>trivial
    | some (.bl _),h=>trivial
    | some (.ref ..),h=>trivial
    | some (.mp ..),h=>trivial
    | some (.fn ..),h=>trivial
    | some (.tup _),h=>trivial
    | some .undef,h=>trivial
   ·cases de
  ·cases de
theorem resS_run {D:Nat->Prop} {ι:Ix} {Θ:Fam} (R:Rel P O nt B F0 da w0 D s a w ι Θ):∀ {rs:List ResultVar} {cs:List ResC} {vs:List Slot},q7N P rs=some cs->resS s cs=some vs →
  ∃ us,(rs.mapM (qac a.tmps)).run P w=Result.ok us w/\q6P ι Θ (avA da ι Θ) (avB ι Θ) w vs us
 | [],cs,vs,h,hr=>by
  injection h with h;subst h;injection hr with hr;subst hr;exact ⟨[],by simp,rfl⟩
 | .tmp t :: rs,cs,vs,h,hr=>by
  unfold q7N at h;obtain ⟨l,hl,rfl⟩:=yg.1 h;simp only [resS] at hr;obtain ⟨dv,hv,rfl⟩:=yg.1 hr;obtain ⟨us,hu,hT⟩:=resS_run R hl hv;refine ⟨a.tmps.getD t undef :: us,by rw [List.mapM_cons]; simp only [qac,Sem.run_bind,Sem.run_pure,Result.andThen_ok,hu],_,us,rfl,R.env t,R.ann t,hT⟩
 | .cell b t :: rs,cs,vs,h,hr=>by
  unfold q7N at h;split at h
  ·rename_i ag z l hA hz hl;injection h with h;subst h;simp only [resS] at hr;split at hr
   ·rename_i t' n off hb;cases hm:s.mem t' n with
    | none=>rw [hm] at hr; cases hr
    | some row =>
     rw [hm,V] at hr;obtain ⟨x,hx,hr⟩:=y8.1 hr;obtain ⟨dv,hv,rfl⟩:=yg.1 hr;obtain ⟨us,hu,hT⟩:=resS_run R hl hv;have hv:=R.env b;rw [hb,q48] at hv;obtain ⟨bb,fH,hv⟩:=hv;obtain ⟨il,b',cur,ty,ua,ra,ka,_⟩:=R.rows t' n row hm;rw [fH] at ua;injection ua with ua;subst ua;have pb:∀ (j:Nat) (u:Value),((cur.toList.take row.length).drop off)[j]?=some u->w.cell? ⟨bb,off + j,none⟩=some u:=fun j u hu=>by
      rw [cell_of_row w bb (off + j) cur ty (0,0) ra];rw [yQ,yR] at hu;split at hu
      ·simpa using hu
      ·cases hu
     have ec:=q3a off ka.rep;have hi:q5T ag z ((row.map (·.v)).drop off)=some x.v:=by
      cases ag with
      | true =>
       simp only [q0Y,if_true] at hx;split at hx
       ·rename_i wb;injection hx with hx;subst hx;simp only [q5T,if_true,List.length_drop,yo];rw [if_pos (by omega)];simp [List.map_take,List.map_drop]
       ·cases hx
      | false =>
       simp only [q0Y,yn,if_false] at hx;simp [q5T,yQ,hx]
     obtain ⟨u,ia,hS,_⟩:=q9W (P:=P) (avb:=avB ι Θ) hA hz ec pb hi;refine ⟨u :: us,by rw [List.mapM_cons]; simp only [qac,Sem.run_bind,hv,asAddr,Sem.run_pure,Result.andThen_ok,ia,hu],u,us,rfl,hS,trivial,hT⟩
   ·cases hr
  ·cases h
theorem q8h {ι:Ix} {Θ:Fam} {av avb:Av}:∀ {xs:List Slot} {us:List Value},q6P ι Θ av avb w xs us->us.length=xs.length
 | [],_,h=>by simp only [q6P] at h; subst h; rfl
 | x :: r,_,h=>by
  simp only [q6P] at h;obtain ⟨u,sa,rfl,_,_,h⟩:=h;simp [q8h h]
theorem RepSs_get {ι:Ix} {Θ:Fam} {av avb:Av}:∀ {xs:List Slot} {us:List Value} (_:q6P ι Θ av avb w xs us) (t:Nat),RepS ι av avb w (xs.getD t ⟨.undef,.no⟩).v (us.getD t undef)/\AnOk Θ (xs.getD t ⟨.undef,.no⟩).a (us.getD t undef)
 | [],_,_,_=>by simp [RepS,AnOk]
 | x :: r,_,h,t=>by
  simp only [q6P] at h;obtain ⟨u,sa,rfl,h0,h1,h⟩:=h;cases t with
  | zero=>simpa using ⟨h0,h1⟩
  | succ t=>simpa using RepSs_get h t
theorem RepU_ofS {ι:Ix} {av avb:Av} {x:AV} {v:Value} (h:RepS ι av avb w x v) (hx:x.tupOk=true):RepU ι av w x v:=by
 cases x <;> first
  | exact h
  | (cases hx; done)
theorem RepCT_ofSs {ι:Ix} {Θ:Fam} {av avb:Av}:∀ {xs:List Slot} {us:List Value},q6P ι Θ av avb w xs us->xs.all (fun x=>x.v.tupOk)=true->q62 ι av w (xs.map (·.v)) us
 | [],_,h,_=>h
 | x :: r,_,h,hf=>by
  simp only [q6P] at h;obtain ⟨u,sa,rfl,h0,_,h⟩:=h;simp only [List.all_cons,y7] at hf;exact ⟨u,sa,rfl,RepU_ofS h0 hf.1,RepCT_ofSs h hf.2⟩
theorem packS_rep {ι:Ix} {Θ:Fam} {av avb:Av}:∀ {xs:List Slot} {us:List Value} {y:Slot},q6P ι Θ av avb w xs us->packS xs=some y->RepS ι av avb w y.v (packV us)/\AnOk Θ y.a (packV us)
 | [],us,y,h,hp=>by
  simp only [q6P] at h;subst h;injection hp with hp;subst hp;exact ⟨⟨#[],rfl,rfl⟩,trivial⟩
 | [x],us,y,h,hp=>by
  simp only [q6P] at h;obtain ⟨u,sa,rfl,h0,h1,rfl⟩:=h;injection hp with hp;subst hp;exact ⟨h0,h1⟩
 | x :: z :: r,us,y,h,hp=>by
  have hl:=q8h h;have:¬ us.toArray.size=1:=by simp; simp at hl; omega
  unfold packV;rw [dif_neg this];unfold packS at hp;split at hp
  ·rename_i e; cases e
  ·split at hp
   ·rename_i ta;injection hp with hp;subst hp;exact ⟨⟨_,rfl,RepCT_ofSs h ta⟩,trivial⟩
   ·cases hp
theorem initH_rel {B:Nat} {F0:Own} {da:Av} {w0 w:World} {ι:Ix} {Θ:Fam} {xs:List Slot} {us:List Value} (R:RelG P O B F0 da w0 s w ι Θ) (h:q6P ι Θ (avA da ι Θ) (avB ι Θ) w xs us) {np:Nat} (hl:xs.length=np) (hn:np<=nt) :
  Rel P O nt B F0 da w0 (fun _=>False) (s.initH xs) { tmps:=us.toArray++Array.replicate (nt - us.toArray.size) undef,defers:=[] } w ι Θ:=by
 have hg:∀ t,(us.toArray++Array.replicate (nt - us.toArray.size) undef).getD t undef=us.getD t undef:=fun t=>by
  simp only [yY,List.getD_eq_getElem?_getD,Array.getElem?_append,List.size_toArray,List.getElem?_toArray];split
  ·rfl
  ·rename_i te;rw [yL (by omega)];simp only [Array.getElem?_replicate];split <;> rfl
 have ic:(us.toArray++Array.replicate (nt - us.toArray.size) undef).size=nt:=by
  have:=q8h h;simp;omega
 exact ⟨rfl,ic,fun t=>by simp only [MSt.initH]; rw [hg]; exact (RepSs_get h t).1,fun t=>by simp only [MSt.initH]; rw [hg]; exact (RepSs_get h t).2,R.rows,R.mine,R.inj,R.tok,R.tinj,R.apart,R.out,R.pin,R.kept,R.base,R.objs,R.obs,R.gen,R.gann⟩
theorem Rel.bare {D:Nat->Prop} {ι:Ix} {Θ:Fam} (R:Rel P O nt B F0 da w0 (fun _=>False) s a w ι Θ):RelG P O B F0 da w0 s w ι Θ :=
 ⟨rfl,rfl,fun _=>trivial,fun _=>trivial,R.rows,R.mine,R.inj,R.tok,R.tinj,R.apart,R.out,R.pin,R.kept,R.base,R.objs,R.obs,R.gen,R.gann⟩
theorem heap_sound (hm:P.follows .mixedOrders=true) {call:q18} {lp:LH} {N:Nat} (wa:∀ f args S r,call f args S=some r->q2i P O f args S r) (mh:LpOk P O N lp.l) (ug:HpOk P O lp.h) {f:FuncId} {fn:Func} {c:FnC} (fd:∀ xs w,(callFunc f xs).run P w=.ok (.enter f xs) w) (pq:P.funcs[f]?=some fn) (de:compF P c.mu fn=some c) {xs:List Slot} {k:Slot->MSt->Option RV} {r:RV} (ja:xs.length=c.np)
  (h:c.code.run call lp (s.initH xs) (finH c k)=some r):(∀ vs w,(callFunc f vs).run P w=.ok (.enter f vs) w) ∧
 ∀ (B:Nat) (F0:Own) (da:Av) (w0 w:World) (ι:Ix) (Θ:Fam) (us:List Value) (E:Ending->World->Prop),RelG P O B F0 da w0 s w ι Θ->q6P ι Θ (avA da ι Θ) (avB ι Θ) w xs us →
  (∀ y s' w' ι' Θ' v,RelG P O B F0 da w0 s' w' ι' Θ'->RepS ι' (avA da ι' Θ') (avB ι' Θ') w' y.v v->AnOk Θ' y.a v->k y s'=some r->E (.returned v) w')->Calls P f us.toArray w E:=by
 unfold compF at de;split at de
 ·cases de
 ·rename_i code wk;split at de
  ·rename_i cc rr xf jA;split at de
   ·rename_i aa;injection de with de;obtain ⟨mu,tn⟩:∃ mu,mu=c.mu:=⟨_,rfl⟩;rw [<- tn] at de xf;clear tn;subst de;have mt:fn.params.size + fn.nfree<=fn.ntmps:=aa;refine ⟨fd,fun B F0 da w0 w ι Θ us E R fe hE=>?_⟩;refine calls_of_wp pq wk ?_;refine q3c hm wa mh ug code cc _ _ _ _ w _ xf h ⟨ι,Θ,initH_rel R fe ja mt⟩ fun e s' a' w' R' he=>?_
    have zk:e=.nrm\/e=.ret:=by
     cases e with
     | nrm=>exact .inl rfl
     | ret=>exact .inr rfl
     | exit id=>cases he
    have tg:∃ y,(resS s' rr).bind packS=some y/\k y s'=some r:=by
     rcases zk with rfl | rfl <;> exact y8.1 he
    obtain ⟨y,hy,hk⟩:=tg;obtain ⟨l,hl,hp⟩:=y8.1 hy;obtain ⟨ι',Θ',R'⟩:=R';obtain ⟨vs,uF,fC⟩:=resS_run R' jA hl;have nd:(results fn a'.tmps).run P w'=.ok (packV vs) w':=by
     have he:results fn a'.tmps=(do let vs <- fn.results.mapM (qac a'.tmps); pure (if h:vs.size=1 then vs[0] else .tuple vs)):=rfl;rw [he,Array.mapM_eq_mapM_toList];simp only [Sem.run_bind,Sem.run_map,uF,Result.andThen_ok,Sem.run_pure];rfl
    obtain ⟨df,oh⟩:=packS_rep fC hp;have post:a'.defers=[]/\∃ v,(results fn a'.tmps).run P w'=.ok v w'/\E (.returned v) w':=⟨R'.defers,_,nd,hE y s' w' ι' Θ' _ (Rel.bare (D:=fun _=>False) R') df oh hk⟩;rcases zk with rfl | rfl <;> exact post
   ·cases de
  ·cases de
theorem markR_some {args rest:List AV} (h:markR args=some rest):args=.undef :: .undef :: rest:=by
 unfold markR at h;split at h
 ·injection h with h; subst h; rfl
 ·cases h
theorem call_sound (hm:P.follows .mixedOrders=true) {T:Nat->Option FnC} {ext:q18} (hT:∀ f c,T f=some c->FnOk P f c) (mr:∀ f args S r,ext f args S=some r->q2i P O f args S r) :
  ∀ N,(∀ f args S r,q38 T ext N f args S=some r->q2i P O f args S r)/\LpOk P O N (lpN T ext N)/\HpOk P O (hpN T ext N)
 | 0=>by
  refine ⟨fun f args S r h=>?_,fun _ _ _ _ _ _ _ _ _ _ _ _ _ _ _ h _ _=>(by cases h),fun _ _ _ _ _ h=>(by cases h)⟩;unfold q38 at h;split at h
  ·exact mr f args S r h
  ·cases h
 | N + 1=>by
  obtain ⟨rp,ul,tp⟩:=call_sound hm hT mr N;refine ⟨fun f args S0 r h=>?_,fun boxes nt B F0 da w0 code b s k r a w Q hc h R hk=>?_,fun f xs s k r h=>?_⟩
  ·unfold q38 at h;split at h
   ·exact mr f args S0 r h
   ·rename_i c wG;obtain ⟨fd,fn,pq,de⟩:=hT f c wG;cases lI:markR args with
    | some rest =>
     rw [lI] at h
     match S0,h with
     | some (.agg cs),h =>
      simp only at h;split at h
      ·rename_i hl;rw [markR_some lI];exact row_sound (lp:=⟨lpN T ext N,hpN T ext N⟩) hm rp ul tp fd pq de hl.1 h
      ·cases h
     | none,h=>cases h
     | some (.int ..),h=>cases h
     | some (.bool _),h=>cases h
     | some (.str _),h=>cases h
     | some .nilP,h=>cases h
     | some (.ptr ..),h=>cases h
     | some (.ip _),h=>cases h
     | some (.bp _),h=>cases h
     | some (.sl ..),h=>cases h
     | some (.bl _),h=>cases h
     | some (.ref ..),h=>cases h
     | some (.mp ..),h=>cases h
     | some (.fn ..),h=>cases h
     | some (.tup _),h=>cases h
     | some .undef,h=>cases h
    | none =>
    rw [lI] at h;simp only at h;split at h
    ·rename_i bB;obtain ⟨ja,aD,cD⟩:=bB;unfold compF at de;split at de
     ·cases de
     ·rename_i code wk;split at de
      ·rename_i cc rr xf jA;split at de
       ·rename_i aa;injection de with de;obtain ⟨mu,tn⟩:∃ mu,mu=c.mu:=⟨_,rfl⟩;rw [<- tn] at de xf;clear tn;subst de;have mt:fn.params.size + fn.nfree<=fn.ntmps:=aa;have ending:∀ {F0:Own} {av:Av} {w:World} {vs:List Value} {E:Ending->World->Prop},
          RelE P O fn.ntmps w.heap.size F0 av w (fun _=>False) (MSt.init args S0) { tmps:=vs.toArray++Array.replicate (fn.ntmps - vs.toArray.size) undef,defers:=[] } w →
          (∀ (s':MSt) (a':Act) (w':World) (ι:Ix) (Θ:Fam) (us:List Value) (xs:List AV),Rel P O fn.ntmps w.heap.size F0 av w (fun _=>False) s' a' w' ι Θ->qak ι (avF s' (avA av ι Θ) ι) (avB ι Θ) w' xs us->finV S0 s' xs=some r->E (.returned (packV us)) w')->Calls P f vs.toArray w E:=fun {F0 av w vs E} R hE=>by
         refine calls_of_wp pq wk ?_;refine q3c (lp:=⟨lpN T ext N,hpN T ext N⟩) hm rp ul tp code cc _ _ r _ w _ xf h R fun e s' a' w' R' he=>?_
         have zk:e=.nrm\/e=.ret:=by
          cases e with
          | nrm=>exact .inl rfl
          | ret=>exact .inr rfl
          | exit id=>cases he
         have tg:∃ xs,resC s' rr=some xs/\finV S0 s' (xs.map (AV.frz s'))=some r:=by
          rcases zk with rfl | rfl <;> exact y8.1 he
         obtain ⟨xs,fe,bd⟩:=tg;obtain ⟨ι,Θ,R'⟩:=R';obtain ⟨us,rd,fC⟩:=res_run R' jA fe;have nd:(results fn a'.tmps).run P w'=.ok (packV us) w':=by
          have he:results fn a'.tmps=(do let vs <- fn.results.mapM (qac a'.tmps); pure (if h:vs.size=1 then vs[0] else .tuple vs)):=rfl;rw [he,Array.mapM_eq_mapM_toList];simp only [Sem.run_bind,Sem.run_map,rd,Result.andThen_ok,Sem.run_pure];rfl
         have post:a'.defers=[]/\∃ v,(results fn a'.tmps).run P w'=.ok v w'/\E (.returned v) w':=⟨R'.defers,_,nd,hE s' a' w' ι Θ us _ R' (fC.frz R') bd⟩;rcases zk with rfl | rfl <;> exact post
        refine (q2i.of aD).2 ⟨fd,?_⟩;obtain ⟨r1,r2⟩:=r;cases S0 with
        | none =>
         cases r2 with
         | none =>
          intro av w vs td lc;refine ending (init_none lc td ja mt) fun s' a' w' ι Θ us xs R' hs bd=>?_
          refine ⟨_,rfl,?_,R'.kept.below⟩;simp only [finV] at bd;split at bd
          ·rename_i ta;injection bd with bd;injection bd with bd;subst bd;exact pack_rep (hs.toT (fun b o h=>⟨.inl h,fun ⟨t,n,r,hm,hb⟩=>by
            obtain ⟨_,b',cur,ty,ua,_,_,jj,_⟩:=R'.rows t n r hm;rw [hb] at ua;injection ua with ua;subst ua;have:=td _ _ h;have:=jj.elim id False.elim;omega⟩) fun v hv=>y4.1 ta v hv)
          ·split at bd
           ·split at bd
            ·split at bd <;> cases bd
            ·cases bd
           ·cases bd
         | some S' =>
          intro av w vs td lc;refine ending (init_none lc td ja mt) fun s' a' w' ι Θ us xs R' hs bd=>?_
          simp only [finV] at bd;split at bd
          ·cases bd
          ·split at bd
           ·rename_i t n _;split at bd
            ·rename_i S hS;split at bd
             ·rename_i ta;injection bd with bd;injection bd with hfv1 hfv2;injection hfv2 with hfv2;subst hfv1;subst hfv2;obtain ⟨p,H,hp,mb,wc,_⟩:=R'.objs t n S hS;refine ⟨_,p,H,rfl,?_,wc,fun b hb=>(((R'.obs t n H mb).1 b hb).1).elim id False.elim,R'.kept.below⟩;have dc:∀ v∈xs,((q7c t n v).free||(q7c t n v).isObj)=true:=fun v hv=>y4.1 ta _ (yX hv)
              refine pack_repN (hs.toO hp (fun b o h=>?_) dc) fun v hv=>y4.1 ta v hv
              refine ⟨?_,fun ⟨t',n',r,hm,hb⟩=>?_⟩
              ·rcases h with h | h
               ·exact .inl h
               ·exact .inr (.inl (.inr ⟨t,n,H,mb,h⟩))
              ·obtain ⟨tc,b',cur,ty,ua,_,_,jj,_⟩:=R'.rows t' n' r hm;rw [hb] at ua;injection ua with ua;subst ua;rcases h with h | h
               ·have:=td _ _ h;have:=jj.elim id False.elim;omega
               ·have e:=((R'.obs t n H mb).1 b h).2.2.1 t' n' hb;rw [e.1,e.2,mb] at tc;cases tc
             ·cases bd
            ·cases bd
           ·cases bd
        | some S =>
         cases r2 with
         | none =>
          trivial
         | some S' =>
          intro av w vs p H td hH wc lc;have iB:noIt S=true:=cD;refine ending (init_some lc td hH wc iB ja mt) fun s' a' w' ι Θ us xs R' hs bd=>?_
          simp only [finV] at bd;split at bd
          ·rename_i ta;obtain ⟨S1,sN,bd⟩:=yg.1 bd;injection bd with hfv1 hfv2;injection hfv2 with hfv2;subst hfv1;subst hfv2;obtain ⟨p',H',hp,mb,bi,_⟩:=R'.objs 0 0 S1 sN;have mD:=(R'.pin p rfl).1;rw [mD] at hp;injection hp with hp;subst hp;refine ⟨_,H',rfl,pack_rep (hs.toT (fun b o h=>?_) fun v hv=>y4.1 ta v hv),bi,fun b hb=>(((R'.obs 0 0 H' mb).1 b hb).1).symm,R'.kept⟩;refine ⟨?_,fun ⟨t',n',r,hm,hb⟩=>?_⟩
           ·rcases h with h | h
            ·exact .inl h
            ·exact .inr (.inl (.inr ⟨0,0,H',mb,h⟩))
           ·obtain ⟨tc,b',cur,ty,ua,_,_,jj,_⟩:=R'.rows t' n' r hm;rw [hb] at ua;injection ua with ua;subst ua;rcases h with h | h
            ·have:=td _ _ h;have:=jj.elim id False.elim;omega
            ·have e:=((R'.obs 0 0 H' mb).1 b h).2.2.1 t' n' hb;rw [e.1,e.2,mb] at tc;cases tc
          ·cases bd
       ·cases de
      ·cases de
    ·cases h
  ·unfold lpN at h;rw [rounds_succ];refine q3c (lp:=⟨lpN T ext N,hpN T ext N⟩) hm rp ul tp code b s _ r a w _ hc h R fun e s' a' w' R' he=>?_
   cases e with
   | nrm=>exact ul boxes nt B F0 da w0 code b s' k r a' w' Q hc he R' hk
   | exit id=>exact hk _ _ _ _ R' he
   | ret=>exact hk _ _ _ _ R' he
  ·unfold hpN at h;split at h
   ·cases h
   ·rename_i c wG;obtain ⟨fd,fn,pq,de⟩:=hT f c wG;split at h
    ·rename_i ja;exact heap_sound (lp:=⟨lpN T ext N,hpN T ext N⟩) hm rp ul tp fd pq de ja h
    ·cases h
end
end
end Go.Proofs.YtbnlmgncbgaepaaGreat
