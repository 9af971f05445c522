/- Part of the proof: the machine, the code of functions, and what it computes. -/
import Derived.Test.YtbnlmgncbgaepaaGreatSa
import Derived.Laws.BytesString
import Derived.OrdersHeld
set_option linter.unusedSimpArgs false
set_option linter.unusedVariables false
set_option linter.unusedSectionVars false
set_option maxRecDepth 100000
set_option maxHeartbeats 8000000
open Option renaming bind_some → y0, bind_eq_some_iff → y9, map_eq_some_iff → yh, map_some → yt
open List renaming map_map → y4, all_eq_true → y6, getElem?_eq_getElem → y7, drop_eq_getElem_cons → yc, getElem?_eq_some_iff → ye, getElem?_map → yf, drop_eq_nil_of_le → yg, mem_cons → yj, map_cons → yk, mem_cons_self → yl, map_nil → yn, mem_of_getElem? → yo, mem_cons_of_mem → yp, map_congr_left → yq, length_append → yu, length_map → yx, mem_map → yz, mem_append → yA, length_take → yD, replicate → yF, flatten_cons → yG, length_cons → yK, getElem?_append_left → yM, take_of_length_le → yO, eq_nil_of_length_eq_zero → yP, getElem?_append_right → yQ, size_toArray → yS, getElem?_take → yT, getElem?_drop → yU
open Bool renaming and_eq_true → yb, false_eq_true → yr
open Nat renaming le_refl → ym, zero_add → yy, succ_mul → yB, eq_zero_or_pos → yE, le_trans → yH, mul_le_mul_right → yW
open Array renaming length_toList → yL, toArray_toList → yV, getD_eq_getD_getElem? → yY, getElem?_eq_getElem → yZ
namespace Go.Proofs.YtbnlmgncbgaepaaGreat
open Go
section
open Go Go.RowKit
section
variable {P:Program} {O:Objs} {nt B:Nat} {F0:Own} {av0:Av} {w0:World} {D:Nat->Prop} {s:MSt} {a:Act} {w w':World} {ι:Ix} {Θ:Fam} {o:Oper}
def An.twice (A:An) (d:Nat) (x:An):An:=match A with
 | .own k _=>(x.strip k).strip d
 | _=>x.strip d
theorem twice_eq (A:An) (d:Nat):(s.stripA A).strip d=s.mapAn (A.twice d):=by
 cases A with
 | own k e=>simp [MSt.stripA,MSt.strip,MSt.mapAn,Slot.strip,An.twice,Function.comp_def]
 | no=>rfl
 | ex=>rfl
def Fam.less (Θ:Fam) (A:An) (d:Nat):Fam:=fun j=>match A with
 | .own k _=>if j=d\/j=k then none else Θ j
 | _=>if j=d then none else Θ j
theorem q1r {A:An} {d j:Nat} {o:Ow} (h:Θ.less A d j=some o):Θ j=some o/\j≠d/\∀ k e,A=.own k e->j≠k:=by
 unfold Fam.less at h;cases A with
 | own k e =>
  simp only at h;split at h
  ·cases h
  ·rename_i hn; exact ⟨h,fun e=>hn (.inl e),fun k' e' he=>by injection he with h1; subst h1; exact fun e=>hn (.inr e)⟩
 | no =>
  simp only at h;split at h
  ·cases h
  ·rename_i hn; exact ⟨h,hn,fun k' e' he=>by cases he⟩
 | ex =>
  simp only at h;split at h
  ·cases h
  ·rename_i hn; exact ⟨h,hn,fun k' e' he=>by cases he⟩
theorem less_d {A:An} {d:Nat}:Θ.less A d d=none:=by
 unfold Fam.less;cases A <;> simp
theorem less_an {A:An} {d:Nat} {Θ':Fam} (hΘ:∀ j o,Θ.less A d j=some o->Θ' j=some o) (x:An) (v:Value) (h:AnOk Θ x v):AnOk Θ' (A.twice d x) v:=by
 have h1:∀ k,x.strip k=.no\/(x.strip k=x/\∀ j e,x=.own j e->j≠k):=fun k=>by
  cases x with
  | no=>exact .inl rfl
  | ex=>exact .inr ⟨rfl,fun _ _ h=>by cases h⟩
  | own j e =>
   simp only [An.strip];split
   ·exact .inl rfl
   ·rename_i hn; exact .inr ⟨rfl,fun j' e' h=>by injection h with h; subst h; exact hn⟩
 have key:A.twice d x=.no\/(A.twice d x=x/\(∀ j e,x=.own j e->j≠d)/\∀ k e',A=.own k e'->∀ j e,x=.own j e->j≠k):=by
  cases A with
  | own k e' =>
   simp only [An.twice];rcases h1 k with h2 | ⟨h2,h3⟩
   ·rw [h2]; exact .inl rfl
   ·rw [h2];rcases h1 d with h4 | ⟨h4,h5⟩
    ·exact .inl h4
    ·exact .inr ⟨h4,h5,fun k' e'' he=>by injection he with he; subst he; exact h3⟩
  | no=>rcases h1 d with h4 | ⟨h4,h5⟩; exact .inl h4; exact .inr ⟨h4,h5,fun _ _ he=>by cases he⟩
  | ex=>rcases h1 d with h4 | ⟨h4,h5⟩; exact .inl h4; exact .inr ⟨h4,h5,fun _ _ he=>by cases he⟩
 rcases key with h2 | ⟨h2,h3,h4⟩
 ·rw [h2]; trivial
 ·rw [h2];cases x with
  | no=>trivial
  | ex=>exact h
  | own j e =>
   refine h.imp id fun ⟨ow,h5,h6⟩=>⟨ow,hΘ _ _ ?_,h6⟩
   unfold Fam.less;cases A with
   | own k e'=>simp only; rw [if_neg]; exact h5; rintro (e1 | e1); exact h3 _ _ rfl e1; exact h4 _ _ rfl _ _ rfl e1
   | no=>simp only; rw [if_neg (h3 _ _ rfl)]; exact h5
   | ex=>simp only; rw [if_neg (h3 _ _ rfl)]; exact h5
theorem Rel.apob (R:Rel P O nt B F0 av0 w0 D s a w ι Θ) {k:Nat} {o:Ow} {t n:Nat} {H:Nat->Prop} (h:Θ k=some o) (hH:ι.ob t n=some H):¬ H o.g:=fun hb=>((R.obs t n H hH).1 _ hb).2.2.2.1 k o h rfl
theorem Rel.less (R:Rel P O nt B F0 av0 w0 D s a w ι Θ) (A:An) (d:Nat):Rel P O nt B F0 av0 w0 D (s.mapAn (A.twice d)) a w ι (Θ.less A d) :=
 R.fam _ _ (fun _ _ h=>h.imp id fun ⟨k,ow,h1,h2⟩=>⟨k,ow,(q1r h1).1,h2⟩) (less_an fun _ _ h=>h) (fun k o h=>R.tok k o (q1r h).1) (fun k k' o o' h h'=>R.tinj k k' o o' (q1r h).1 (q1r h').1) (fun k o t n h=>R.apart k o t n (q1r h).1) (fun _ _ _ _ _ h=>R.apob (q1r h).1)
theorem q4v {av:Av}:∀ {xs ys:List AV} {us vs:List Value},RepL av w xs us->RepL av w ys vs->RepL av w (xs++ys) (us++vs)
 | [],_,_,_,h,h'=>by simp only [RepL] at h; subst h; exact h'
 | x :: r,_,_,_,h,h'=>by
  simp only [RepL] at h;obtain ⟨u,us',rfl,h0,h1,h⟩:=h;exact ⟨u,us'++_,rfl,h0,h1,q4v h h'⟩
theorem RepL_one {av:Av}:∀ {xs:List AV} {us:List Value},RepL av w xs us->∀ u∈us,u.oneCell'=true
 | [],_,h,u,hu=>by simp only [RepL] at h; subst h; cases hu
 | x :: r,_,h,u,hu=>by
  simp only [RepL] at h;obtain ⟨v,us',rfl,h0,h1,h⟩:=h;rcases yj.1 hu with rfl | hu
  ·exact h1
  ·exact RepL_one h u hu
theorem op_app (R:Rel P O nt B F0 av0 w0 D s a w ι Θ) {t e:TypeId} {i:TypeInfo} {z:List AV} (ht:P.underlying t=some (.slice e)) (hi:P.info? e=some i) (hz:q7V P e=some z) (hsz:z.length=i.size) (hpos:0<i.size) {X Y:Operand} {x y:Opd} (hx:opd X=some x) (hy:opd Y=some y)
  (ho:o.op=.call { callee:=.builtin .append,args:=#[X,Y],argTypes:=#[t,t] }) {d:Nat} (hdst:o.dst=some d) (hd:d<nt) {cl:Cl} {call} {xe:Slot × Eff} (hr:(K.app cl e i.size i.bytes x y).run call s=some xe) {g} {s':MSt} (he:OpC.eff ⟨o.dst,.app cl e i.size i.bytes x y,g⟩ s xe=some s') :
  ∃ v w',(execOp a.eval o).run P w=.ok (.value v) w'/\RelE P O nt B F0 av0 w0 D s' (a.put o.dst v) w':=by
 obtain ⟨zv,i',hi',hiz,hzrun,hl⟩:=q3l hz w;rw [hi] at hi';injection hi' with hi';subst hi';have hzs:zv.cells.size=i.size:=by
  have:=q2E hl;simp only [yL] at this;omega
 have hX:=R.opd hx;have hY:=(R.opd hy).1;have hexec:∀ v w',(Builtin.append_ #[t,t] o.type #[a.eval X,a.eval Y]).run P w=.ok v w'->(execOp a.eval o).run P w=.ok (.value v) w':=fun v w' h=>by
  simp only [execOp,ho,resolve,invoke,builtin,Sem.run_bind,Sem.run_pure,Result.andThen_ok,List.map_toArray,yk,yn,h]
 simp only [K.run] at hr;split at hr
 ·rename_i b l m hxv hel;split at hr
  ·rename_i hcond;obtain ⟨hroom,hall⟩:=hcond;obtain ⟨hbytes,hcap⟩:=q0l.1 hroom;have hall':∀ c∈l++m,c.length=i.size:=fun c hc=>by simpa using y6.1 hall c hc
   have hm':∀ c∈m,c.length=i.size:=fun c hc=>hall' c (List.mem_append_right _ hc)
   have hl':∀ c∈l,c.length=i.size:=fun c hc=>hall' c (List.mem_append_left _ hc)
   obtain ⟨news,hnews,hsl⟩:=q6e R hY hel hpos hm';rw [hxv] at hX;have hXs:=hX.1;rw [q2u] at hXs;obtain ⟨xs,hxs,hxsl⟩:=q6e (cl:=cl) R hX.1 (m:=l) rfl hpos hl';simp only [Rep] at hXs;obtain ⟨A,c,hv,hlc,hu,hn,hs⟩:=hXs;have hxlen:xs.length=l.length * i.size:=hxsl.1;have hxcell:∀ a',A=some a'->∀ j u,xs[j]?=some u->w.cell? (a'.add j)=some u:=fun a' ha j u hj=>by
    obtain ⟨_,A2,c2,hv2,_,h2⟩:=hxsl;rw [hv] at hv2;injection hv2 with e1 e2 e3;subst e1;have hp:0<l.length:=by
     rcases yE l.length with h | h
     ·rw [h] at hxlen; have:=(ye.1 hj).1; omega
     ·exact h
    obtain ⟨b',off,hA,_,_,hcl⟩:=h2 hp;rw [ha] at hA;injection hA with hA;subst hA;rw [Addr.add_lit];exact hcl j u hj
   have hmlen:news.length=m.length * i.size:=hsl.1;have hone:∀ u∈news,u.oneCell'=true:=RepL_one hnews;have han:∃ A0,anN b (x.an s)=A0/\(A0=.ex\/∃ k,A0=.own k e)/\xe=(⟨.sl (b&&m.isEmpty) (l++m),.own 0 e⟩,.app A0 0):=by
    cases hA0:anN b (x.an s) with
    | no=>rw [hA0] at hr; cases hr
    | ex=>rw [hA0] at hr; injection hr with hr; exact ⟨_,rfl,.inl rfl,hr.symm⟩
    | own k e' =>
     rw [hA0] at hr;simp only at hr;split at hr
     ·rename_i hee; subst hee; injection hr with hr; exact ⟨_,rfl,.inr ⟨k,rfl⟩,hr.symm⟩
     ·cases hr
   obtain ⟨A0,hA0,hAk,rfl⟩:=han;simp only [OpC.eff,hdst] at he;injection he with he;subst he;rw [twice_eq,hdst];have hXa:AnOk Θ A0 (a.eval X):=by
    rw [<- hA0];cases b with
    | false=>exact hX.2
    | true =>
     obtain ⟨h1,h2,h3⟩:=hn rfl;exact ⟨none,0,by rw [hv,h1,h2,h3]⟩
   -- what is read of the old elements and the new ones behind
   have hrep:RepL (avA av0 ι Θ) w (l++m).flatten (xs++news):=by rw [List.flatten_append]; exact q4v hxs hnews
   have huni:∀ c∈l++m,∀ c'∈l++m,c.length=c'.length:=fun c hc c' hc'=>(hall' c hc).trans (hall' c' hc').symm
   -- a new block
   have grow:c<l.length + m.length->∃ v w',(execOp a.eval o).run P w=.ok (.value v) w'/\RelE P O nt B F0 av0 w0 D ((s.mapAn (A0.twice d)).put (some d) ⟨.sl (b&&m.isEmpty) (l++m),.own d e⟩) (a.put (some d) v) w':=fun hlt=>by
    have hrun:=q6U (P:=P) (w:=w) ht hi hiz o.type hxlen (fun hA=>by
     cases b with
     | true=>have:=hn rfl; exact ⟨this.2.1,this.2.2⟩
     | false =>
      obtain ⟨h1,h2⟩:=hs rfl;refine ⟨?_,h1 hA⟩;rcases yE l.length with h0 | h0
      ·exact h0
      ·obtain ⟨_,_,ha,_⟩:=h2 h0; rw [hA] at ha; cases ha) hxcell hsl hlt hlc hcap hbytes
    rw [<- hv] at hrun;have hge:=grownCap_ge w (l.length + m.length) c e;have hcm:grownCap w (l.length + m.length) c e<=maxLen:=grownCap_le_maxLen w (l.length + m.length) c e (by unfold maxLen; omega);have hsize:(xs.toArray++news.toArray++Builtin.zeroCells zv.cells (grownCap w (l.length + m.length) c e - (l.length + m.length))).size=grownCap w (l.length + m.length) c e * i.size:=by
     simp only [Array.size_append,yS,size_zeroCells,hzs,hxlen,hmlen,<- Nat.add_mul];congr 1;omega
    have R1:=(R.less A0 d).fresh (d:=d) less_d hsize hpos hge hcm (e:=e) (by simp [q1T,hi]);refine ⟨_,_,hexec _ _ hrun,ι,_,R1.put hd ?_ (.inr ⟨_,if_pos rfl,rfl,rfl⟩)⟩;have hb:(b&&m.isEmpty)=false:=by
     cases b with
     | false=>rfl
     | true =>
      have:=(hn rfl);have:m≠[]:=fun h=>by subst h; simp at hlt; omega
      simpa using this
    show RepS _ _ _ _ (.sl (b&&m.isEmpty) (l++m)) _;rw [hb,q2u];simp only [Rep,yu];refine ⟨_,_,rfl,hge,huni,(fun h=>by cases h),fun _=>⟨fun h=>(by cases h),fun _=>⟨w.heap.size,0,rfl,?_⟩⟩⟩;rw [q39];have hheld:Held (avA av0 ι Θ) (avA av0 ι (fun j=>if j=d then some ⟨w.heap.size,l.length + m.length,grownCap w (l.length + m.length) c e,i.size,e⟩ else Θ.less A0 d j)) w (grewW w xs news zv e (l.length + m.length) c):=Held.grown (fun b hb=>Below.heap_alloc w.drew _ b hb) fun b' o' hb' h=>h.imp id fun h=>h.imp id fun ⟨k,ow,h1,h2,h3⟩=>by
     by_cases ek:k=d
     ·simp only [if_pos ek] at h1; injection h1 with h1; subst h1; simp only at h2; omega
     ·simp only [if_neg ek] at h1; exact ⟨k,ow,(q1r h1).1,h2,h3⟩
    refine q63 (RepL.held hheld _ _ hrep) fun j u hj=>⟨?_,fun h=>?_⟩
    ·rw [yy];rw [cell_of_row _ w.heap.size j _ e (0,0) (new_at (w:=w.drew) rfl)];have hjl:=(ye.1 hj).1;rw [Array.getElem?_append_left (by simp only [Array.size_append,yS]; simpa using hjl)];simpa using hj
    ·rw [yy] at h;have hjl:=(ye.1 hj).1;rw [yu,hxlen,hmlen,<- Nat.add_mul] at hjl;rcases h with h | (⟨t',n',h⟩ | ⟨t',n',H,h,hb'⟩) | ⟨k,ow,h1,h2,h3⟩
     ·have:=R.out _ _ h; have:=R.lowB; omega
     ·have:=(R.mine _ _ _ h).2.1; omega
     ·have:=((R.obs _ _ _ h).1 _ hb').2.1; omega
     ·by_cases ek:k=d
      ·simp only [if_pos ek] at h1; injection h1 with h1; subst h1; simp only at h3; omega
      ·simp only [if_neg ek] at h1;obtain ⟨_,_,_,_,cur',h5,_⟩:=R.tok _ _ (q1r h1).1;have:=q0b h5;omega
   -- nothing new
   have same:m=[]->exV (a.eval X)->∃ v w',(execOp a.eval o).run P w=.ok (.value v) w'/\RelE P O nt B F0 av0 w0 D ((s.mapAn (A0.twice d)).put (some d) ⟨.sl (b&&m.isEmpty) (l++m),.own d e⟩) (a.put (some d) v) w':=fun hm0 hex=>by
    subst hm0;have hrun:=append_zero (P:=P) (w:=w) ht hi o.type (A:=A) hlc hsl;rw [<- hv] at hrun;have R1:=R.less A0 d;refine ⟨_,_,hexec _ _ hrun,ι,_,R1.put hd ?_ (.inl hex)⟩;have hb:(b&&List.isEmpty ([]:List (List AV)))=b:=by simp
    show RepS _ _ _ _ (.sl (b&&List.isEmpty []) (l++[])) _;rw [hb,List.append_nil];have hless:Held (avA av0 ι Θ) (avA av0 ι (Θ.less A0 d)) w w:=Held.less fun b o h=>h.imp id fun h=>h.imp id fun ⟨k,ow,h1,h2⟩=>⟨k,ow,(q1r h1).1,h2⟩
    have hlessB:Held (avB ι Θ) (avB ι (Θ.less A0 d)) w w:=Held.less fun b o h=>h.imp id fun ⟨k,ow,h1,h2⟩=>⟨k,ow,(q1r h1).1,h2⟩
    exact RepS.held (Ix.Le.refl _) hless hlessB _ _ hX.1
   have exact:exV (a.eval X)->∃ v w',(execOp a.eval o).run P w=.ok (.value v) w'/\RelE P O nt B F0 av0 w0 D ((s.mapAn (A0.twice d)).put (some d) ⟨.sl (b&&m.isEmpty) (l++m),.own d e⟩) (a.put (some d) v) w':=fun hex=>by
    obtain ⟨A',n',hex'⟩:=hex;rw [hv] at hex';injection hex' with e1 e2 e3;rcases yE m.length with h0 | h0
    ·exact same (yP h0) ⟨A',n',by rw [hv,e1,e2,e3]⟩
    ·exact grow (by omega)
   rcases hAk with rfl | ⟨k,rfl⟩
   ·exact exact hXa
   ·rcases hXa with hXa | ⟨ow,hk,hoe,hXa⟩
    ·exact exact hXa
    ·rw [hv] at hXa;injection hXa with e1 e2 e3;obtain ⟨hgB,hosz,honc,hocm,cur,hcur,hcsz⟩:=R.tok k ow hk;rw [hoe] at hcur;have hosz':ow.sz=i.size:=by
      have:=hcsz.2;rw [hoe] at this;simp [q1T,hi] at this;exact this.symm
     rcases Nat.lt_or_ge c (l.length + m.length) with hlt | hge
     ·exact grow hlt
     ·subst e1;have hrun:=append_room (P:=P) (w:=w) ht hi o.type hcur (by rw [hcsz.1,hosz']) hiz hsl hone (n:=l.length) (m:=m.length) (c:=ow.c) (by omega);have hfit:l.length * i.size + news.length<=cur.toList.length:=by
       have hcl:cur.toList.length=ow.c * i.size:=by rw [yL,hcsz.1,hosz']
       rw [hmlen,<- Nat.add_mul,hcl];exact yW _ (by omega)
      obtain ⟨new,hnew⟩:∃ new,new=(cur.toList.take (l.length * i.size)++news++cur.toList.drop (l.length * i.size + news.length)).toArray:=⟨_,rfl⟩;rw [<- hnew] at hrun;have hnl:new.size=cur.size:=by
       rw [hnew];simp only [yS,yu,yD,List.length_drop];simp only [yL] at hfit ⊢;omega
      have hn0:ow.n * ow.sz=l.length * i.size:=by rw [<- e2,hosz']
      have htk:(cur.toList.take (l.length * i.size)).length=l.length * i.size:=by rw [yD]; omega
      have hnew1:∀ j,j<l.length * i.size->new[j]?=cur[j]?:=fun j hj=>by
       rw [hnew,List.getElem?_toArray,List.append_assoc,yM (by omega),yT,if_pos hj];simp
      have hxs':∀ j u,(xs++news)[j]?=some u->new[j]?=some u:=fun j u hj=>by
       rcases Nat.lt_or_ge j (l.length * i.size) with hjl | hjl
       ·rw [hnew1 j hjl];rw [yM (by omega)] at hj;have:=hxcell _ rfl j u hj;rw [Addr.add_lit,yy,cell_of_row w ow.g j cur e (0,0) hcur] at this;exact this
       ·rw [yQ (by omega),hxlen] at hj;have hjn:=(ye.1 hj).1;rw [hnew,List.getElem?_toArray,List.append_assoc,yQ (by omega),htk,yM hjn];exact hj
      have R1:=R.spare (new:=new) hk (by rw [hoe]; exact hcur) hnl (fun j hj=>hnew1 j (by omega));have hcur1:(w.setRow ow.g new).heap[ow.g]?=some (.cells new e (0,0)):=setRow_heap w ow.g cur new e (0,0) hcur;have hav:∀ b o,avB ι (fun j=>if j=d then some ⟨ow.g,l.length + m.length,ow.c,i.size,e⟩ else Θ.less (.own k e) d j) b o->avB ι Θ b o:=fun b o h=>h.imp id fun ⟨k',ow',h1,h2,h3⟩=>by
       by_cases ek:k'=d
       ·simp only [if_pos ek] at h1;injection h1 with h1;subst h1;refine ⟨k,ow,hk,h2,?_⟩;simp only [Nat.add_mul] at h3;omega
       ·simp only [if_neg ek] at h1; exact ⟨k',ow',(q1r h1).1,h2,h3⟩
      have R2:=R1.fam (fun j=>if j=d then some ⟨ow.g,l.length + m.length,ow.c,i.size,e⟩ else Θ.less (.own k e) d j) ((An.own k e).twice d) hav
       (less_an fun j o' h=>by have:=(q1r h).2.1; simp only [if_neg this]; exact h)
       (fun k' o' h=>by
        by_cases ek:k'=d
        ·simp only [if_pos ek] at h;injection h with h;subst h;exact ⟨hgB,hpos,by simp only; omega,hocm,new,hcur1,by rw [hnl,hcsz.1,hosz'],by simp [q1T,hi]⟩
        ·simp only [if_neg ek] at h;exact R1.tok k' o' (q1r h).1)
       (fun k' k'' o' o'' h h' hg=>by
        by_cases e1:k'=d <;> by_cases e2:k''=d
        ·rw [e1,e2]
        ·simp only [if_pos e1] at h; simp only [if_neg e2] at h';injection h with h; subst h;exact absurd (R.tinj _ _ _ _ hk (q1r h').1 hg).symm ((q1r h').2.2 k e rfl)
        ·simp only [if_neg e1] at h; simp only [if_pos e2] at h';injection h' with h'; subst h';exact absurd (R.tinj _ _ _ _ (q1r h).1 hk hg) ((q1r h).2.2 k e rfl)
        ·simp only [if_neg e1] at h; simp only [if_neg e2] at h';exact R.tinj _ _ _ _ (q1r h).1 (q1r h').1 hg)
       (fun k' o' t' n' h=>by
        by_cases ek:k'=d
        ·simp only [if_pos ek] at h;injection h with h;subst h;exact R.apart k ow t' n' hk
        ·simp only [if_neg ek] at h;exact R.apart k' o' t' n' (q1r h).1)
       (fun k' o' t' n' H h hH=>by
        by_cases ek:k'=d
        ·simp only [if_pos ek] at h;injection h with h;subst h;show ¬ H ow.g;exact R.apob hk hH
        ·simp only [if_neg ek] at h;exact R.apob (q1r h).1 hH)
      have hv':a.eval X=.slice (some ⟨ow.g,0,none⟩) l.length ow.c:=by rw [hv,e3]
      rw [<- hv'] at hrun;refine ⟨_,_,hexec _ _ hrun,ι,_,R2.put hd ?_ (.inr ⟨_,if_pos rfl,rfl,rfl⟩)⟩;show RepS _ _ _ _ (.sl (b&&m.isEmpty) (l++m)) _;have hb:b=false:=by
       cases b with
       | false=>rfl
       | true=>have:=(hn rfl).1; cases this
      rw [hb,Bool.false_and,q2u];simp only [Rep,yu];refine ⟨_,_,rfl,by omega,huni,(fun h=>by cases h),fun _=>⟨fun h=>(by cases h),fun _=>⟨ow.g,0,rfl,?_⟩⟩⟩;rw [q39];have hheld:Held (avA av0 ι Θ) (avA av0 ι (fun j=>if j=d then some ⟨ow.g,l.length + m.length,ow.c,i.size,e⟩ else Θ.less (.own k e) d j)) w (w.setRow ow.g new):=⟨fun b' o' u hc hna=>by
       refine ⟨?_,fun h=>hna (h.imp id (hav b' o'))⟩;by_cases hb':b'=ow.g
       ·subst hb';rw [cell_of_row _ ow.g o' new e (0,0) hcur1];have:o'<l.length * i.size:=by
         rcases Nat.lt_or_ge o' (l.length * i.size) with h | h
         ·exact h
         ·exact absurd (.inr (.inr ⟨k,ow,hk,rfl,by omega⟩)) hna
        rw [hnew1 o' this,<- cell_of_row w ow.g o' cur e (0,0) hcur];exact hc
       ·exact (World.cell?_of_block (w:=w) (a:=⟨b',o',none⟩) (setRow_other w ow.g b' new hb')).trans hc⟩
      refine q63 (RepL.held hheld _ _ hrep) fun j u hj=>⟨?_,fun h=>?_⟩
      ·rw [yy,cell_of_row _ ow.g j new e (0,0) hcur1];exact hxs' j u hj
      ·rw [yy] at h;have hjl:=(ye.1 hj).1;rw [yu,hxlen,hmlen,<- Nat.add_mul] at hjl;rcases h with h | (⟨t',n',h⟩ | ⟨t',n',H,h,hb'⟩) | ⟨k',ow',h1,h2,h3⟩
       ·have:=R.out _ _ h; omega
       ·exact R.apart k ow t' n' hk h
       ·exact R.apob hk h hb'
       ·by_cases ek:k'=d
        ·simp only [if_pos ek] at h1; injection h1 with h1; subst h1; simp only at h3; omega
        ·simp only [if_neg ek] at h1;exact absurd (R.tinj _ _ _ _ (q1r h1).1 hk h2) ((q1r h1).2.2 k e rfl)
  ·cases hr
 ·cases hr
def Ix.del (ι:Ix) (t n:Nat):Ix:=⟨fun t' n'=>if t'=t/\n'=n then .none else ι t' n',ι.ob,ι.z⟩
theorem Ix.del_some {ι:Ix} {t n t' n' b:Nat} (h:(ι.del t n) t' n'=some b):ι t' n'=some b/\¬ (t'=t/\n'=n):=by
 have h':(if t'=t/\n'=n then Option.none else ι t' n')=Option.some b:=h;split at h'
 ·cases h'
 ·rename_i hn; exact ⟨h',hn⟩
theorem Ix.del_lk (ι:Ix) (t n:Nat):Ix.Lk t n ι (ι.del t n):=⟨fun t' n' b hn h=>by
 show (if t'=t/\n'=n then Option.none else ι t' n')=Option.some b;rw [if_neg hn]; exact h,fun _ _ _ _=>rfl⟩
theorem q2Q.kill {t n:Nat} {ι':Ix} {av av':Av} {r:List Slot} {cur:Array Value} (h:q2Q ι Θ av w r cur) (hι:Ix.Lk t n ι ι') (hh:Held av av' w w):q2Q ι' Θ av' w (r.map (Slot.kill t n)) cur:=by
 refine ⟨by simpa using h.1,fun j x hx=>?_⟩;rw [yf] at hx;cases hj:r[j]? with
 | none=>rw [hj] at hx; cases hx
 | some y =>
  rw [hj] at hx;injection hx with hx;subst hx;obtain ⟨u,hu,h1,hr,ha⟩:=h.2 j y hj;refine ⟨u,hu,h1,?_,ha⟩;have hk:=RepC.kill hι hh y.v u hr;show RepC ι' av' w (y.v.kill t n) u;cases hy:y.v with
  | agg cs=>rw [hy] at hr; obtain ⟨us,rfl,_⟩:=hr; simp [Value.oneCell'] at h1
  | tup cs=>rw [hy] at hr; obtain ⟨us,rfl,_⟩:=hr; simp [Value.oneCell'] at h1
  | _=>rw [hy] at hk; exact hk
theorem Rel.kill (R:Rel P O nt B F0 av0 w0 D s a w ι Θ) {t n:Nat} (hn0:t≠0) {r:List Slot} (hm:s.mem t n=some r):Rel P O nt B F0 av0 w0 D (s.kill t n) a w (ι.del t n) Θ:=by
 have hno:=(R.rows t n r hm).1;have hlk:=Ix.del_lk ι t n;have hBx:∀ b o,avB (ι.del t n) Θ b o->avB ι Θ b o:=fun b o h=>h.imp (fun h=>h.imp (fun ⟨t',n',h⟩=>⟨t',n',(Ix.del_some h).1⟩) id) id
 have hB:Held (avB ι Θ) (avB (ι.del t n) Θ) w w:=Held.less hBx;have hA:Held (avA av0 ι Θ) (avA av0 (ι.del t n) Θ) w w:=Held.less fun b o h=>h.imp id (hBx b o)
 refine ⟨R.defers,R.size,fun j=>RepS.kill hlk hA hB _ _ (R.env j),R.ann,fun t' n' r' hr=>?_,fun t' n' b h=>R.mine t' n' b (Ix.del_some h).1,fun t1 n1 t2 n2 b h h'=>R.inj t1 n1 t2 n2 b (Ix.del_some h).1 (Ix.del_some h').1,R.tok,R.tinj,fun k o t' n' h h'=>R.apart k o t' n' h (Ix.del_some h').1,R.out,fun p h=>?_,R.kept,R.base,fun t' n' S h=>?_,fun t' n' H h=>?_,fun j=>RepS.kill hlk hA hB _ _ (R.gen j),R.gann⟩
 ·simp only [MSt.kill] at hr;split at hr
  ·cases hr
  ·rename_i hn;cases hm':s.mem t' n' with
   | none=>rw [hm'] at hr; cases hr
   | some r0 =>
    rw [hm'] at hr;injection hr with hr;subst hr;obtain ⟨h0,b,cur,ty,h1,h2,h3,h4⟩:=R.rows t' n' r0 hm';exact ⟨h0,b,cur,ty,hlk.f _ _ _ hn h1,h2,h3.kill hlk hA,h4⟩
 ·obtain ⟨h1,h2⟩:=R.pin p h;exact ⟨hlk.f _ _ _ (fun e=>hn0 e.1.symm) h1,h2.imp (fun g=>⟨g.1,(hlk.z _ _ _ h1).trans g.2⟩) id⟩
 ·obtain ⟨p,H,h1,h2,h3,h4⟩:=R.objs t' n' S h;have hkn:∀ t1 n1 b1 H1,ι t1 n1=some b1->ι.ob t1 n1=some H1->(ι.del t n) t1 n1=some b1:=fun t1 n1 b1 H1 g1 g2=>hlk.f _ _ _ (fun e=>by rw [<- e.1,<- e.2,g2] at hno; cases hno) g1
  exact ⟨p,H,hkn _ _ _ _ h1 h2,h2,h3,h4.keep (fun t1 n1 b1 H1 g1 g2=>⟨hkn _ _ _ _ g1 g2,H1,g2⟩) fun x hx=>hx⟩
 ·obtain ⟨h1,h2⟩:=R.obs t' n' H h;refine ⟨fun b hb=>?_,h2⟩;obtain ⟨g1,g2,g3,g4,g5⟩:=h1 b hb;exact ⟨g1,g2,fun t2 n2 h=>g3 t2 n2 (Ix.del_some h).1,g4,g5⟩
theorem Rel.ren (R:Rel P O nt B F0 av0 w0 D s a w ι Θ) {t n:Nat} (hn0:t≠0) {r:List Slot} (hm:s.mem t n=some r) (hfree:r.map (Slot.kill t n)=r) {d:Nat} (hd:d<nt) (hD:¬ D d) {x:AV} {v:Value}
  (hx:∀ ι':Ix,ι' d s.next=ι t n->(∀ b,ι'.z b=ι.z b)->RepS ι' (avA av0 ι' Θ) (avB ι' Θ) w x v) :
  ∃ ι',Rel P O nt B F0 av0 w0 (fun j=>D j\/j=d) (((s.kill t n).setRow d s.next r).put (some d) ⟨x,.no⟩) (a.put (some d) v) w ι' Θ:=by
 obtain ⟨hno,b0,cur0,ty0,hb0,hheap0,hrow0,hB0,hz0⟩:=R.rows t n r hm;have hfresh:ι d s.next=none:=by
  cases h:ι d s.next with
  | none=>rfl
  | some b =>
   rcases (R.mine _ _ _ h).2.2 with h1 | h1
   ·omega
   ·exact absurd h1.2 hD
 have hfresh':ι.ob d s.next=none:=by
  cases h:ι.ob d s.next with
  | none=>rfl
  | some b =>
   rcases (R.obs _ _ _ h).2 with h1 | h1
   ·omega
   ·exact absurd h1.2 hD
 have hne:¬ (t=d/\n=s.next):=fun e=>by rw [e.1,e.2,hfresh] at hb0; cases hb0
 obtain ⟨ι',hι'⟩:∃ ι':Ix,ι'=⟨fun t' n'=>if t'=d/\n'=s.next then some b0 else (ι.del t n) t' n',ι.ob,ι.z⟩:=⟨_,rfl⟩;have hnew:ι' d s.next=some b0:=by subst hι'; show (if d=d/\s.next=s.next then some b0 else _)=_; rw [if_pos ⟨rfl,rfl⟩]
 have hold:∀ t' n' b,ι' t' n'=some b->(t'=d/\n'=s.next/\b=b0)\/(ι t' n'=some b/\¬ (t'=t/\n'=n)/\¬ (t'=d/\n'=s.next)):=fun t' n' b h=>by
  subst hι';have h':(if t'=d/\n'=s.next then some b0 else (ι.del t n) t' n')=some b:=h;split at h'
  ·rename_i e; injection h' with h'; exact .inl ⟨e.1,e.2,h'.symm⟩
  ·rename_i e; exact .inr ⟨(Ix.del_some h').1,(Ix.del_some h').2,e⟩
 have hob:ι'.ob=ι.ob:=by subst hι'; rfl
 have hlk:Ix.Lk t n ι ι':=⟨fun t' n' b hn h=>by
  subst hι';show (if t'=d/\n'=s.next then some b0 else (ι.del t n) t' n')=some b;rw [if_neg (fun e=>by rw [e.1,e.2,hfresh] at h; cases h)];exact (Ix.del_lk ι t n).f _ _ _ hn h,fun _ _ _ _=>by subst hι'; rfl⟩
 have hzz:∀ b,ι'.z b=ι.z b:=fun b=>by subst hι'; rfl
 clear hι';have hBx:∀ b o,avB ι' Θ b o->avB ι Θ b o:=fun b o h=>h.imp (fun h=>h.imp (fun ⟨t',n',h⟩=>by
  rcases hold _ _ _ h with ⟨_,_,e⟩ | ⟨h,_⟩
  ·exact ⟨t,n,e ▸ hb0⟩
  ·exact ⟨t',n',h⟩) (fun ⟨t',n',H,h,hb⟩=>⟨t',n',H,hob ▸ h,hb⟩)) id
 have hB:Held (avB ι Θ) (avB ι' Θ) w w:=Held.less hBx;have hA:Held (avA av0 ι Θ) (avA av0 ι' Θ) w w:=Held.less fun b o h=>h.imp id (hBx b o)
 refine ⟨ι',Rel.put (s:=(s.kill t n).setRow d s.next r) ⟨R.defers,R.size,fun j=>RepS.kill hlk hA hB _ _ (R.env j),R.ann,fun t' n' r' hr=>?_,fun t' n' b h=>?_,fun t1 n1 t2 n2 b h h'=>?_,R.tok,R.tinj,fun k o t' n' h h'=>?_,R.out,fun p h=>?_,R.kept,R.base,fun t' n' S h=>?_,fun t' n' H h=>?_,fun j=>RepS.kill hlk hA hB _ _ (R.gen j),R.gann⟩ hd (hx _ (hnew.trans hb0.symm) hzz) trivial⟩
 ·simp only [MSt.setRow] at hr;split at hr
  ·rename_i e;injection hr with hr;subst hr;refine ⟨by rw [hob,e.1,e.2]; exact hfresh',b0,cur0,ty0,by rw [e.1,e.2]; exact hnew,hheap0,?_,hB0,hz0.trans (hzz _).symm⟩;have:=hrow0.kill hlk hA;rw [hfree] at this;exact this
  ·simp only [MSt.kill] at hr;split at hr
   ·cases hr
   ·rename_i hn;cases hm':s.mem t' n' with
    | none=>rw [hm'] at hr; cases hr
    | some r0 =>
     rw [hm'] at hr;injection hr with hr;subst hr;obtain ⟨h0,b,cur,ty,h1,h2,h3,h4,h5⟩:=R.rows t' n' r0 hm';exact ⟨hob ▸ h0,b,cur,ty,hlk.f _ _ _ hn h1,h2,h3.kill hlk hA,h4,h5.trans (hzz _).symm⟩
 ·rcases hold _ _ _ h with ⟨e1,e2,e3⟩ | ⟨h,_⟩
  ·subst e1; subst e3;obtain ⟨h1,h2,_⟩:=R.mine t n b hb0;exact ⟨h1,h2,.inr ⟨e2,.inr rfl⟩⟩
  ·obtain ⟨h1,h2,h3⟩:=R.mine t' n' b h;exact ⟨h1,h2,h3.imp id fun ⟨e,d⟩=>⟨e,.inl d⟩⟩
 ·rcases hold _ _ _ h with ⟨e1,e2,e3⟩ | ⟨h,hn,_⟩ <;> rcases hold _ _ _ h' with ⟨f1,f2,f3⟩ | ⟨h',hn',_⟩
  ·exact ⟨e1.trans f1.symm,e2.trans f2.symm⟩
  ·subst e3; exact absurd (R.inj _ _ _ _ _ h' hb0) hn'
  ·subst f3; exact absurd (R.inj _ _ _ _ _ h hb0) hn
  ·exact R.inj _ _ _ _ _ h h'
 ·rcases hold _ _ _ h' with ⟨e1,e2,e3⟩ | ⟨h',_⟩
  ·exact R.apart k o t n h (e3 ▸ hb0)
  ·exact R.apart k o t' n' h h'
 ·obtain ⟨h1,h2⟩:=R.pin p h;exact ⟨hlk.f _ _ _ (fun e=>hn0 e.1.symm) h1,h2.imp (fun g=>⟨g.1,(hlk.z _ _ _ h1).trans g.2⟩) fun g=>hob ▸ g⟩
 ·obtain ⟨p,H,h1,h2,h3,h4⟩:=R.objs t' n' S h;have hkn:∀ t1 n1 b1 H1,ι t1 n1=some b1->ι.ob t1 n1=some H1->ι' t1 n1=some b1:=fun t1 n1 b1 H1 g1 g2=>hlk.f _ _ _ (fun e=>by rw [<- e.1,<- e.2,g2] at hno; cases hno) g1
  exact ⟨p,H,hkn _ _ _ _ h1 h2,hob ▸ h2,h3,h4.keep (fun t1 n1 b1 H1 g1 g2=>⟨hkn _ _ _ _ g1 g2,H1,hob ▸ g2⟩) fun x hx=>hx⟩
 ·rw [hob] at h;obtain ⟨h1,h2⟩:=R.obs t' n' H h;refine ⟨fun b hb=>?_,h2.imp id fun ⟨e,d⟩=>⟨e,.inl d⟩⟩;obtain ⟨g1,g2,g3,g4,g5⟩:=h1 b hb;refine ⟨g1,g2,fun t2 n2 h'=>?_,g4,hob ▸ g5⟩;rcases hold _ _ _ h' with ⟨e1,e2,e3⟩ | ⟨h',_⟩
  ·exfalso;have e:=g3 t n (e3 ▸ hb0);rw [<- e.1,<- e.2] at h;rw [hno] at h;cases h
  ·exact g3 t2 n2 h'
theorem row_of {av:Av} {cs:List AV} {us:List Value} (h:RepL av w cs us) {cur:Array Value} (hc:∀ (j:Nat) (u:Value),us[j]?=some u->cur[j]?=some u):q2Q ι Θ av w (cs.map (⟨·,.no⟩)) cur:=by
 have hlen:=q1i (q1U (ι:=ι) h);constructor
 ·rw [yx];rcases yE cs.length with h0 | h0
  ·omega
  ·have:=hc (cs.length - 1) us[cs.length - 1] (y7 (by omega));have:=(Array.getElem?_eq_some_iff.1 this).1;omega
 ·intro j x hx;rw [yf] at hx;cases hj:cs[j]? with
  | none=>rw [hj] at hx; cases hx
  | some y =>
   rw [hj] at hx;injection hx with hx;subst hx;obtain ⟨u,hu,h1,hr⟩:=q5D (q1U (ι:=ι) h) hj;exact ⟨u,hc j u hu,h1,hr,trivial⟩
theorem RepL_free {av:Av}:∀ {xs:List AV} {us:List Value},RepL av w xs us->∀ (t n:Nat),(xs.map (⟨·,.no⟩)).map (Slot.kill t n)=xs.map (⟨·,.no⟩)
 | [],_,_,_,_=>rfl
 | x :: r,_,h,t,n=>by
  simp only [RepL] at h;obtain ⟨u,us',rfl,h0,h1,h⟩:=h;simp only [yk,RepL_free h t n];congr 1;show (⟨x.kill t n,.no⟩:Slot)=⟨x,.no⟩;congr 1;cases x <;> first | rfl | (simp [Rep] at h0; done) | (simp only [Rep] at h0; obtain ⟨us,rfl,_⟩:=h0; simp [Value.oneCell'] at h1; done)
theorem Rel.drew (R:Rel P O nt B F0 av0 w0 D s a w ι Θ):Rel P O nt B F0 av0 w0 D s a w.drew ι Θ:=R.grow (w':=w.drew) (fun _ _=>rfl) (ym _) R.kept.drew
theorem setRow_kill (s:MSt) (t n:Nat) (r:List Slot):(s.setRow t n r).kill t n=s.kill t n:=by
 simp only [MSt.setRow,MSt.kill];congr 1;funext t' n';by_cases h:t'=t/\n'=n <;> simp [h]
theorem op_appf (R:Rel P O nt B F0 av0 w0 D s a w ι Θ) {t e:TypeId} {i:TypeInfo} {z:List AV} (ht:P.underlying t=some (.slice e)) (hi:P.info? e=some i) (hz:q7V P e=some z) (hsz:z.length=i.size) (hpos:0<i.size) {X Y:Operand} {x y:Opd} (hx:opd X=some x) (hy:opd Y=some y)
  (ho:o.op=.call { callee:=.builtin .append,args:=#[X,Y],argTypes:=#[t,t] }) {d:Nat} (hdst:o.dst=some d) (hd:d<nt) (hD:¬ D d) {cl:Cl} {call} {xe:Slot × Eff} (hr:(K.appf cl e i.size i.bytes x y).run call s=some xe) {g} {s':MSt} (he:OpC.eff ⟨o.dst,.appf cl e i.size i.bytes x y,g⟩ s xe=some s') :
  ∃ v w',(execOp a.eval o).run P w=.ok (.value v) w'/\RelE P O nt B F0 av0 w0 (fun t=>D t\/t=d) s' (a.put o.dst v) w':=by
 obtain ⟨zv,i',hi',hiz,hzrun,hl⟩:=q3l hz w;rw [hi] at hi';injection hi' with hi';subst hi';have hzs:zv.cells.size=i.size:=by
  have:=q2E hl;simp only [yL] at this;omega
 have hX:=R.opd hx;have hY:=(R.opd hy).1;have hexec:∀ v w',(Builtin.append_ #[t,t] o.type #[a.eval X,a.eval Y]).run P w=.ok v w'->(execOp a.eval o).run P w=.ok (.value v) w':=fun v w' h=>by
  simp only [execOp,ho,resolve,invoke,builtin,Sem.run_bind,Sem.run_pure,Result.andThen_ok,List.map_toArray,yk,yn,h]
 -- a new block for l++m
 have grow:∀ {s1:MSt} {ι1:Ix} {l m:List (List AV)} {xs news:List Value} {A:Option Addr} {ln c:Nat},Rel P O nt B F0 av0 w0 D s1 a w.drew ι1 Θ->a.eval X=.slice A ln c->xs.length=ln * i.size->(A=none->ln=0/\c=0)->(∀ a',A=some a'->∀ j u,xs[j]?=some u->w.cell? (a'.add j)=some u) →
   l.length=ln->Sl (fun _=>False) w i.size (a.eval Y) m.length news->c<ln + m.length->ln<=c->RepL (avA av0 ι1 Θ) w.drew (l++m).flatten (xs++news)->q10 i.bytes (ln + m.length)=true →
   ∃ v w',(execOp a.eval o).run P w=.ok (.value v) w'/\RelE P O nt B F0 av0 w0 (fun t=>D t\/t=d) ((s1.setRow d s1.next ((l++m).flatten.map (⟨·,.no⟩))).put (some d) ⟨.ref d s1.next i.size 0 (ln + m.length) (ln + m.length),.no⟩) (a.put (some d) v) w':=by
  intro s1 ι1 l m xs news A ln c R1 hv hxs hA hxc hll hsl hlt hlc hrep hroom;obtain ⟨hbytes,hcap⟩:=q0l.1 hroom;have hrun:=q6U (P:=P) (w:=w) ht hi hiz o.type hxs hA hxc hsl hlt hlc hcap hbytes;rw [<- hv] at hrun;have hge:=grownCap_ge w (ln + m.length) c e;have hnl:news.length=m.length * i.size:=hsl.1;have hrow:q2Q ι1 Θ (avA av0 ι1 Θ) w.drew ((l++m).flatten.map (⟨·,.no⟩)) (xs.toArray++news.toArray++Builtin.zeroCells zv.cells (grownCap w (ln + m.length) c e - (ln + m.length))):=row_of hrep fun j u hj=>by
   have hjl:=(ye.1 hj).1;rw [Array.getElem?_append_left (by simp only [Array.size_append,yS]; simpa using hjl)];simpa using hj
  obtain ⟨ι',h⟩:=R1.new hd hD e hrow (x:=.ref d s1.next i.size 0 (ln + m.length) (ln + m.length)) (v:=.slice (some ⟨w.heap.size,0,none⟩) (ln + m.length) (grownCap w (ln + m.length) c e)) (fun ι' h hz=>⟨_,h,ym _,_,hge,by
   rw [show ι'.z w.drew.heap.size=_ from hz,yy];simp only [Array.size_append,yS,size_zeroCells,hzs,hxs,hnl,<- Nat.add_mul];exact yW _ (by omega),rfl⟩)
  exact ⟨_,_,hexec _ _ hrun,ι',Θ,h⟩
 have drewHeld:Held (avA av0 ι Θ) (avA av0 ι Θ) w w.drew:=Held.grown (fun _ _=>rfl) fun _ _ _ h=>h
 simp only [K.run] at hr;split at hr
 ·rename_i b l m hxv hel;split at hr
  ·rename_i hcond;obtain ⟨hroom,hall⟩:=hcond;have hall':∀ c∈l++m,c.length=i.size:=fun c hc=>by simpa using y6.1 hall c hc
   have hm':∀ c∈m,c.length=i.size:=fun c hc=>hall' c (List.mem_append_right _ hc)
   have hl':∀ c∈l,c.length=i.size:=fun c hc=>hall' c (List.mem_append_left _ hc)
   obtain ⟨news,hnews,hsl⟩:=q6e R hY hel hpos hm';rw [hxv] at hX;have hXs:=hX.1;rw [q2u] at hXs;obtain ⟨xs,hxs,hxsl⟩:=q6e (cl:=cl) R hX.1 (m:=l) rfl hpos hl';simp only [Rep] at hXs;obtain ⟨A,c,hv,hlc,hu,hn,hs⟩:=hXs;have hxlen:xs.length=l.length * i.size:=hxsl.1;have hxcell:∀ a',A=some a'->∀ j u,xs[j]?=some u->w.cell? (a'.add j)=some u:=fun a' ha j u hj=>by
    obtain ⟨_,A2,c2,hv2,_,h2⟩:=hxsl;rw [hv] at hv2;injection hv2 with e1 e2 e3;subst e1;have hp:0<l.length:=by
     rcases yE l.length with h | h
     ·rw [h] at hxlen; have:=(ye.1 hj).1; omega
     ·exact h
    obtain ⟨b',off,hA,_,_,hcl⟩:=h2 hp;rw [ha] at hA;injection hA with hA;subst hA;rw [Addr.add_lit];exact hcl j u hj
   split at hr
   ·rename_i hA0;have hXe:exV (a.eval X):=by
     cases b with
     | false=>have h2:=hX.2; rw [show x.an s=.ex from hA0] at h2; exact h2
     | true =>
      obtain ⟨h1,h2,h3⟩:=hn rfl;exact ⟨none,0,by rw [hv,h1,h2,h3]⟩
    obtain ⟨A',n',hex⟩:=hXe;rw [hv] at hex;injection hex with e1 e2 e3;split at hr
    ·rename_i hme;injection hr with hr;subst hr;have hm0:m=[]:=by simpa using hme
     subst hm0;simp only [OpC.eff] at he;injection he with he;subst he;have hrun:=append_zero (P:=P) (w:=w) ht hi o.type (A:=A) hlc hsl;rw [<- hv] at hrun;exact ⟨_,_,hexec _ _ hrun,ι,Θ,(R.putN (d:=o.dst) (x:=⟨.sl b l,.ex⟩) (fun t h=>by rw [hdst] at h; injection h with h; omega) hX.1 ⟨A,n',by rw [hv,e2,e3]⟩).more fun _ h=>.inl h⟩
    ·rename_i hme;injection hr with hr;subst hr;have hm0:0<m.length:=by
      cases m with
      | nil=>simp at hme
      | cons=>simp
     simp only [OpC.eff,hdst] at he;injection he with he;subst he;rw [hdst];exact grow R.drew hv hxlen (fun hA=>by
      cases b with
      | true=>have:=hn rfl; exact ⟨this.2.1,this.2.2⟩
      | false =>
       obtain ⟨h1,h2⟩:=hs rfl;refine ⟨?_,h1 hA⟩;rcases yE l.length with h0 | h0
       ·exact h0
       ·obtain ⟨_,_,ha,_⟩:=h2 h0; rw [hA] at ha; cases ha) hxcell rfl hsl (by omega) hlc (by rw [List.flatten_append]; exact q4v (RepL.held drewHeld _ _ hxs) (RepL.held drewHeld _ _ hnews)) hroom
   ·cases hr
  ·cases hr
 ·cases hr
theorem op_appm (R:Rel P O nt B F0 av0 w0 D s a w ι Θ) {t e:TypeId} {i:TypeInfo} {z:List AV} (ht:P.underlying t=some (.slice e)) (hi:P.info? e=some i) (hz:q7V P e=some z) (hsz:z.length=i.size) (hpos:0<i.size) {X Y:Operand} {x y:Opd} (hx:opd X=some x) (hy:opd Y=some y)
  (ho:o.op=.call { callee:=.builtin .append,args:=#[X,Y],argTypes:=#[t,t] }) {d:Nat} (hdst:o.dst=some d) (hd:d<nt) (hD:¬ D d) {cl:Cl} {call} {xe:Slot × Eff} (hr:(K.appm cl e i.size i.bytes x y).run call s=some xe) {g} {s':MSt} (he:OpC.eff ⟨o.dst,.appm cl e i.size i.bytes x y,g⟩ s xe=some s') :
  ∃ v w',(execOp a.eval o).run P w=.ok (.value v) w'/\RelE P O nt B F0 av0 w0 (fun t=>D t\/t=d) s' (a.put o.dst v) w':=by
 obtain ⟨zv,i',hi',hiz,hzrun,hl⟩:=q3l hz w;rw [hi] at hi';injection hi' with hi';subst hi';have hzs:zv.cells.size=i.size:=by
  have:=q2E hl;simp only [yL] at this;omega
 have hX:=R.opd hx;have hY:=(R.opd hy).1;have hexec:∀ v w',(Builtin.append_ #[t,t] o.type #[a.eval X,a.eval Y]).run P w=.ok v w'->(execOp a.eval o).run P w=.ok (.value v) w':=fun v w' h=>by
  simp only [execOp,ho,resolve,invoke,builtin,Sem.run_bind,Sem.run_pure,Result.andThen_ok,List.map_toArray,yk,yn,h]
 -- a new block for l++m
 have grow:∀ {s1:MSt} {ι1:Ix} {l m:List (List AV)} {xs news:List Value} {A:Option Addr} {ln c:Nat},Rel P O nt B F0 av0 w0 D s1 a w.drew ι1 Θ->a.eval X=.slice A ln c->xs.length=ln * i.size->(A=none->ln=0/\c=0)->(∀ a',A=some a'->∀ j u,xs[j]?=some u->w.cell? (a'.add j)=some u) →
   l.length=ln->Sl (fun _=>False) w i.size (a.eval Y) m.length news->c<ln + m.length->ln<=c->RepL (avA av0 ι1 Θ) w.drew (l++m).flatten (xs++news)->q10 i.bytes (ln + m.length)=true →
   ∃ v w',(execOp a.eval o).run P w=.ok (.value v) w'/\RelE P O nt B F0 av0 w0 (fun t=>D t\/t=d) ((s1.setRow d s1.next ((l++m).flatten.map (⟨·,.no⟩))).put (some d) ⟨.ref d s1.next i.size 0 (ln + m.length) (ln + m.length),.no⟩) (a.put (some d) v) w':=by
  intro s1 ι1 l m xs news A ln c R1 hv hxs hA hxc hll hsl hlt hlc hrep hroom;obtain ⟨hbytes,hcap⟩:=q0l.1 hroom;have hrun:=q6U (P:=P) (w:=w) ht hi hiz o.type hxs hA hxc hsl hlt hlc hcap hbytes;rw [<- hv] at hrun;have hge:=grownCap_ge w (ln + m.length) c e;have hnl:news.length=m.length * i.size:=hsl.1;have hrow:q2Q ι1 Θ (avA av0 ι1 Θ) w.drew ((l++m).flatten.map (⟨·,.no⟩)) (xs.toArray++news.toArray++Builtin.zeroCells zv.cells (grownCap w (ln + m.length) c e - (ln + m.length))):=row_of hrep fun j u hj=>by
   have hjl:=(ye.1 hj).1;rw [Array.getElem?_append_left (by simp only [Array.size_append,yS]; simpa using hjl)];simpa using hj
  obtain ⟨ι',h⟩:=R1.new hd hD e hrow (x:=.ref d s1.next i.size 0 (ln + m.length) (ln + m.length)) (v:=.slice (some ⟨w.heap.size,0,none⟩) (ln + m.length) (grownCap w (ln + m.length) c e)) (fun ι' h hz=>⟨_,h,ym _,_,hge,by
   rw [show ι'.z w.drew.heap.size=_ from hz,yy];simp only [Array.size_append,yS,size_zeroCells,hzs,hxs,hnl,<- Nat.add_mul];exact yW _ (by omega),rfl⟩)
  exact ⟨_,_,hexec _ _ hrun,ι',Θ,h⟩
 have drewHeld:Held (avA av0 ι Θ) (avA av0 ι Θ) w w.drew:=Held.grown (fun _ _=>rfl) fun _ _ _ h=>h
 simp only [K.run] at hr;split at hr
 ·rename_i b l m hxv hel;exact op_appf R ht hi hz hsz hpos hx hy ho hdst hd hD (cl:=cl) (call:=call) (xe:=xe) (by simp only [K.run,hxv,hel]; exact hr) (g:=g) he
 ·rename_i t' n sz off ln cp m hxv hel;split at hr
  ·rename_i l hll;split at hr
   ·rename_i hcond;obtain ⟨rfl,rfl,hroom,hall,hn0⟩:=hcond;injection hr with hr;subst hr;have hm':∀ c∈m,c.length=i.size:=fun c hc=>by simpa using y6.1 hall c hc
    obtain ⟨news,hnews,hsl⟩:=q6e R hY hel hpos hm';rw [hxv] at hX;obtain ⟨b,hb,hle,cc,hcc,hzb,hv⟩:=q3P.1 hX.1;simp only [AV.elems] at hll;split at hll
    ·cases hm:s.mem t' n with
     | none=>rw [hm] at hll; cases hll
     | some r =>
      rw [hm,y0] at hll;obtain ⟨hno,b',cur,ty,hb',hheap,hrow,hBb,hcz⟩:=R.rows t' n r hm;rw [hb] at hb';injection hb' with hb';subst hb';obtain ⟨hln,hl',xs,hxs,hxcell⟩:=q5V hrow hheap hll;simp only [yy] at hxcell hzb;have hflen:∀ {q:List (List AV)},(∀ c∈q,c.length=i.size)->q.flatten.length=q.length * i.size:=fun {q} hq=>by
       induction q with
       | nil=>simp
       | cons c r ih=>rw [yG,yu,hq c (by simp),ih (fun c hc=>hq c (by simp [hc])),yK,yB]; omega
      have hxlen:xs.length=ln * i.size:=by
       have:=q1i (q1U (ι:=ι) hxs);rw [this,hflen hl',hln]
      have hmlen:news.length=m.length * i.size:=hsl.1;have hrep:RepL (avA av0 ι Θ) w (l++m).flatten (xs++news):=by rw [List.flatten_append]; exact q4v hxs hnews
      simp only [OpC.eff,hdst,MSt.killO] at he;injection he with he;subst he;rw [hdst];rcases Nat.lt_or_ge cc (ln + m.length) with hlt | hge
      ·have hlk:Held (avA av0 ι Θ) (avA av0 (ι.del t' n) Θ) w w.drew:=Held.grown (fun _ _=>rfl) fun b o _ h=>h.imp id fun h=>h.imp (fun h=>h.imp (fun ⟨t',n',h⟩=>⟨t',n',(Ix.del_some h).1⟩) id) id
       exact grow (R.drew.kill hn0 hm) hv hxlen (fun h=>by cases h) (fun a' ha j u hj=>by
        injection ha with ha;subst ha;rw [Addr.add_lit,yy];exact hxcell j u hj) hln hsl hlt (yH hle hcc) (RepL.held hlk _ _ hrep) hroom
      ·obtain ⟨new,hnew⟩:∃ new,new=(cur.toList.take (ln * i.size)++news++cur.toList.drop (ln * i.size + news.length)).toArray:=⟨_,rfl⟩;have hfit:ln * i.size + news.length<=cur.size:=by
        rw [hmlen,<- Nat.add_mul,hcz];exact yH (yW _ hge) hzb
       have hrun:(Builtin.append_ #[t,t] o.type #[a.eval X,a.eval Y]).run P w=.ok (.slice (some ⟨b,0,none⟩) (ln + m.length) cc) (w.setRow b new):=by
        rw [hv,hnew];obtain ⟨hl0,A,c',hsv,hc,hcell⟩:=hsl;rw [hsv];cases A with
        | none =>
         have hm0:m.length=0:=by
          rcases yE m.length with h | h
          ·exact h
          ·obtain ⟨b,off,hA,_⟩:=hcell h; cases hA
         have hnn:news=[]:=yP (by rw [hmlen,hm0,Nat.zero_mul]);subst hnn;rw [hm0] at hge ⊢;have hself:w.setRow b (cur.toList.take (ln * i.size)++[]++cur.toList.drop (ln * i.size + ([]:List Value).length)).toArray=w:=by
          simp only [List.append_nil,List.length_nil,Nat.add_zero,List.take_append_drop,yV];exact setRow_self w b cur ty (0,0) hheap
         rw [hself];simp only [Nat.add_zero] at hge;simp [Builtin.append_,run_underlying ht,sizeOf,typeInfo,hi,Builtin.lenOf,Builtin.firstCells,hge,storeCells]
        | some a' =>
         have hnews':∀ (j:Nat) (u:Value),news[j]?=some u->w.cell? (a'.add j)=some u:=fun j u hu=>by
          have hm0:0<m.length:=by
           rcases yE m.length with h | h
           ·rw [h] at hmlen; have:=(ye.1 hu).1; omega
           ·exact h
          obtain ⟨b,off,hA,_,_,hcl⟩:=hcell hm0;injection hA with hA;subst hA;rw [Addr.add_lit];exact hcl j u hu
         have hld:=run_loadCells_list (P:=P) w a' news hnews';rw [hmlen] at hld;have hst:=run_storeCells_at P b (ln * i.size) ty news 0 cur w hheap (by simpa using hfit) (RepL_one hnews);simp only [Nat.add_zero] at hst;simp [Builtin.append_,run_underlying ht,sizeOf,typeInfo,hi,Builtin.lenOf,Builtin.firstCells,hge,hld,Addr.add_lit,hst]
       have hns:new.size=cur.size:=by
        rw [hnew];simp only [yS,yu,yD,List.length_drop,yL];omega
       have hrow':q2Q ι Θ (avA av0 ι Θ) w ((l++m).flatten.map (⟨·,.no⟩)) new:=row_of hrep fun j u hj=>by
        have htk:(cur.toList.take (ln * i.size)).length=ln * i.size:=by rw [yD,yL]; omega
        rw [hnew,List.getElem?_toArray,List.append_assoc];rcases Nat.lt_or_ge j (ln * i.size) with h | h
        ·rw [yM (by omega)] at hj;have:=hxcell j u hj;rw [cell_of_row w b j cur ty (0,0) hheap] at this;rw [yM (by omega),yT,if_pos h];simpa using this
        ·rw [yQ (by omega),hxlen] at hj;have hjn:=(ye.1 hj).1;rw [yQ (by omega),htk,yM hjn];exact hj
       have R1:=R.set hb hno hheap hrow' hBb (hns.trans hcz);have R2:=R1.ren (t:=t') (n:=n) hn0 (d:=d) (r:=(l++m).flatten.map (⟨·,.no⟩)) (by simp [MSt.setRow]) (RepL_free hrep _ _) hd hD (x:=.ref d s.next i.size 0 (ln + m.length) (ln + m.length)) (v:=.slice (some ⟨b,0,none⟩) (ln + m.length) cc) (fun ι' h1 h2=>⟨b,h1.trans hb,ym _,cc,hge,by rw [h2,yy]; exact hzb,rfl⟩);rw [setRow_kill] at R2;obtain ⟨ι',R2⟩:=R2;exact ⟨_,_,hexec _ _ hrun,ι',Θ,R2⟩
    ·cases hll
   ·cases hr
  ·cases hr
 ·cases hr
theorem row_ofC {av:Av} {cs:List AV} {us:List Value} (h:q0v ι av w cs us) {cur:Array Value} (hc:∀ (j:Nat) (u:Value),us[j]?=some u->cur[j]?=some u):q2Q ι Θ av w (cs.map (⟨·,.no⟩)) cur:=by
 have hlen:=q1i h;constructor
 ·rw [yx];rcases yE cs.length with h0 | h0
  ·omega
  ·have:=hc (cs.length - 1) us[cs.length - 1] (y7 (by omega));have:=(Array.getElem?_eq_some_iff.1 this).1;omega
 ·intro j x hx;rw [yf] at hx;cases hj:cs[j]? with
  | none=>rw [hj] at hx; cases hx
  | some y =>
   rw [hj] at hx;injection hx with hx;subst hx;obtain ⟨u,hu,h1,hr⟩:=q5D h hj;exact ⟨u,hc j u hu,h1,hr,trivial⟩
theorem RepCL_one {av:Av}:∀ {xs:List AV} {us:List Value},q0v ι av w xs us->∀ u∈us,u.oneCell'=true
 | [],us,h,u,hu=>by simp only [q0v] at h; subst h; cases hu
 | x :: r,us,h,u,hu=>by
  simp only [q0v] at h;obtain ⟨u',us',rfl,_,h1,h⟩:=h;rcases yj.1 hu with rfl | hu
  ·exact h1
  ·exact RepCL_one h u hu
theorem qam {t n:Nat} {v:AV} (h:v.noName t n=true):v.kill0 t n=v/\v.kill t n=v:=by
  cases v <;> first
    | exact ⟨rfl,rfl⟩
    | (simp only [AV.noName,Bool.not_eq_true',Bool.and_eq_false_imp,decide_eq_true_eq,decide_eq_false_iff_not] at h
       have h':¬ (_=t/\_=n):=fun e=>h e.1 e.2
       exact ⟨by simp only [AV.kill0,if_neg h'],by simp only [AV.kill,AV.kill0,if_neg h']⟩)
    | cases h
theorem noName_kill {t n:Nat} {l:List AV} (h:l.all (AV.noName t n)=true):l.map (AV.kill0 t n)=l:=by
 have:l.map (AV.kill0 t n)=l.map id:=yq fun x hx=>(qam (y6.1 h x hx)).1
 rwa [List.map_id] at this
theorem noName_free {t n:Nat} {l:List AV} (h:l.all (AV.noName t n)=true):(l.map (⟨·,.no⟩)).map (Slot.kill t n)=l.map (⟨·,.no⟩):=by
 rw [y4];apply yq;intro x hx;show (⟨x.kill t n,.no⟩:Slot)=⟨x,.no⟩;rw [(qam (y6.1 h x hx)).2]
theorem op_appn (R:Rel P O nt B F0 av0 w0 D s a w ι Θ) {t e:TypeId} {i:TypeInfo} {z:List AV} (ht:P.underlying t=some (.slice e)) (hi:P.info? e=some i) (hz:q7V P e=some z) (hsz:z.length=i.size) (hpos:0<i.size) {X Y:Operand} {x y:Opd} (hx:opd X=some x) (hy:opd Y=some y)
  (ho:o.op=.call { callee:=.builtin .append,args:=#[X,Y],argTypes:=#[t,t] }) {d:Nat} (hdst:o.dst=some d) (hd:d<nt) (hD:¬ D d) {cl:Cl} {call} {xe:Slot × Eff} (hr:(K.appn cl e i.size i.bytes x y).run call s=some xe) {g} {s':MSt} (he:OpC.eff ⟨o.dst,.appn cl e i.size i.bytes x y,g⟩ s xe=some s') :
  ∃ v w',(execOp a.eval o).run P w=.ok (.value v) w'/\RelE P O nt B F0 av0 w0 (fun t=>D t\/t=d) s' (a.put o.dst v) w':=by
 obtain ⟨zv,i',hi',hiz,hzrun,hl⟩:=q3l hz w;rw [hi] at hi';injection hi' with hi';subst hi';have hzs:zv.cells.size=i.size:=by
  have:=q2E hl;simp only [yL] at this;omega
 have hX:=R.opd hx;have hY:=(R.opd hy).1;have hexec:∀ v w',(Builtin.append_ #[t,t] o.type #[a.eval X,a.eval Y]).run P w=.ok v w'->(execOp a.eval o).run P w=.ok (.value v) w':=fun v w' h=>by
  simp only [execOp,ho,resolve,invoke,builtin,Sem.run_bind,Sem.run_pure,Result.andThen_ok,List.map_toArray,yk,yn,h]
 -- a new block for l++m
 have grow:∀ {s1:MSt} {ι1:Ix} {l m:List (List AV)} {xs news:List Value} {A:Option Addr} {ln c:Nat},Rel P O nt B F0 av0 w0 D s1 a w.drew ι1 Θ->a.eval X=.slice A ln c->xs.length=ln * i.size->(A=none->ln=0/\c=0)->(∀ a',A=some a'->∀ j u,xs[j]?=some u->w.cell? (a'.add j)=some u) →
   l.length=ln->Sl (fun _=>False) w i.size (a.eval Y) m.length news->c<ln + m.length->ln<=c->q0v ι1 (avA av0 ι1 Θ) w.drew (l++m).flatten (xs++news)->q10 i.bytes (ln + m.length)=true →
   ∃ v w',(execOp a.eval o).run P w=.ok (.value v) w'/\RelE P O nt B F0 av0 w0 (fun t=>D t\/t=d) ((s1.setRow d s1.next ((l++m).flatten.map (⟨·,.no⟩))).put (some d) ⟨.ref d s1.next i.size 0 (ln + m.length) (ln + m.length),.no⟩) (a.put (some d) v) w':=by
  intro s1 ι1 l m xs news A ln c R1 hv hxs hA hxc hll hsl hlt hlc hrep hroom;obtain ⟨hbytes,hcap⟩:=q0l.1 hroom;have hrun:=q6U (P:=P) (w:=w) ht hi hiz o.type hxs hA hxc hsl hlt hlc hcap hbytes;rw [<- hv] at hrun;have hge:=grownCap_ge w (ln + m.length) c e;have hnl:news.length=m.length * i.size:=hsl.1;have hrow:q2Q ι1 Θ (avA av0 ι1 Θ) w.drew ((l++m).flatten.map (⟨·,.no⟩)) (xs.toArray++news.toArray++Builtin.zeroCells zv.cells (grownCap w (ln + m.length) c e - (ln + m.length))):=row_ofC hrep fun j u hj=>by
   have hjl:=(ye.1 hj).1;rw [Array.getElem?_append_left (by simp only [Array.size_append,yS]; simpa using hjl)];simpa using hj
  obtain ⟨ι',h⟩:=R1.new hd hD e hrow (x:=.ref d s1.next i.size 0 (ln + m.length) (ln + m.length)) (v:=.slice (some ⟨w.heap.size,0,none⟩) (ln + m.length) (grownCap w (ln + m.length) c e)) (fun ι' h hz=>⟨_,h,ym _,_,hge,by
   rw [show ι'.z w.drew.heap.size=_ from hz,yy];simp only [Array.size_append,yS,size_zeroCells,hzs,hxs,hnl,<- Nat.add_mul];exact yW _ (by omega),rfl⟩)
  exact ⟨_,_,hexec _ _ hrun,ι',Θ,h⟩
 have drewHeld:Held (avA av0 ι Θ) (avA av0 ι Θ) w w.drew:=Held.grown (fun _ _=>rfl) fun _ _ _ h=>h
 simp only [K.run] at hr;split at hr
 ·rename_i b l m hxv hel;split at hr
  ·rename_i hcond;obtain ⟨hroom,hall,hm0⟩:=hcond;have hall':∀ c∈l++m,c.length=i.size:=fun c hc=>by simpa using y6.1 hall c hc
   have hm':∀ c∈m,c.length=i.size:=fun c hc=>hall' c (List.mem_append_right _ hc)
   have hl':∀ c∈l,c.length=i.size:=fun c hc=>hall' c (List.mem_append_left _ hc)
   obtain ⟨news,hnews,hsl⟩:=raws_sl R hY hel hpos hm';rw [hxv] at hX;have hXs:=hX.1;rw [q2u] at hXs;obtain ⟨xs,hxs,hxsl⟩:=q6e (cl:=cl) R hX.1 (m:=l) rfl hpos hl';simp only [Rep] at hXs;obtain ⟨A,c,hv,hlc,hu,hn,hs⟩:=hXs;have hxlen:xs.length=l.length * i.size:=hxsl.1;have hxcell:∀ a',A=some a'->∀ j u,xs[j]?=some u->w.cell? (a'.add j)=some u:=fun a' ha j u hj=>by
    obtain ⟨_,A2,c2,hv2,_,h2⟩:=hxsl;rw [hv] at hv2;injection hv2 with e1 e2 e3;subst e1;have hp:0<l.length:=by
     rcases yE l.length with h | h
     ·rw [h] at hxlen; have:=(ye.1 hj).1; omega
     ·exact h
    obtain ⟨b',off,hA,_,_,hcl⟩:=h2 hp;rw [ha] at hA;injection hA with hA;subst hA;rw [Addr.add_lit];exact hcl j u hj
   split at hr
   ·rename_i hA0;have hXe:exV (a.eval X):=by
     cases b with
     | false=>have h2:=hX.2; rw [show x.an s=.ex from hA0] at h2; exact h2
     | true =>
      obtain ⟨h1,h2,h3⟩:=hn rfl;exact ⟨none,0,by rw [hv,h1,h2,h3]⟩
    obtain ⟨A',n',hex⟩:=hXe;rw [hv] at hex;injection hex with e1 e2 e3;injection hr with hr;subst hr;simp only [OpC.eff,hdst] at he;injection he with he;subst he;rw [hdst];exact grow R.drew hv hxlen (fun hA=>by
     cases b with
     | true=>have:=hn rfl; exact ⟨this.2.1,this.2.2⟩
     | false =>
      obtain ⟨h1,h2⟩:=hs rfl;refine ⟨?_,h1 hA⟩;rcases yE l.length with h0 | h0
      ·exact h0
      ·obtain ⟨_,_,ha,_⟩:=h2 h0; rw [hA] at ha; cases ha) hxcell rfl hsl (by omega) hlc (by rw [List.flatten_append]; exact q3Y (q1U (RepL.held drewHeld _ _ hxs)) (q0v.held (Ix.Le.refl _) drewHeld _ _ hnews)) hroom
   ·cases hr
  ·cases hr
 ·rename_i t' n sz off ln cp m hxv hel;split at hr
  ·rename_i l hll;split at hr
   ·rename_i hcond;obtain ⟨rfl,rfl,hroom,hall,hn0,hnn⟩:=hcond;injection hr with hr;subst hr;have hm':∀ c∈m,c.length=i.size:=fun c hc=>by simpa using y6.1 hall c hc
    obtain ⟨news,hnews,hsl⟩:=raws_sl R hY hel hpos hm';rw [hxv] at hX;obtain ⟨b,hb,hle,cc,hcc,hzb,hv⟩:=q3P.1 hX.1;simp only [AV.raws] at hll;split at hll
    ·cases hm:s.mem t' n with
     | none=>rw [hm] at hll; cases hll
     | some r =>
      rw [hm,y0] at hll;obtain ⟨hno,b',cur,ty,hb',hheap,hrow,hBb,hcz⟩:=R.rows t' n r hm;rw [hb] at hb';injection hb' with hb';subst hb';obtain ⟨hln,hl',xs,hxs,hxcell⟩:=q8K hrow hheap hll;simp only [yy] at hxcell hzb;have hflen:∀ {q:List (List AV)},(∀ c∈q,c.length=i.size)->q.flatten.length=q.length * i.size:=fun {q} hq=>by
       induction q with
       | nil=>simp
       | cons c r ih=>rw [yG,yu,hq c (by simp),ih (fun c hc=>hq c (by simp [hc])),yK,yB]; omega
      have hxlen:xs.length=ln * i.size:=by
       have:=q1i hxs;rw [this,hflen hl',hln]
      have hmlen:news.length=m.length * i.size:=hsl.1;have hrep:q0v ι (avA av0 ι Θ) w (l++m).flatten (xs++news):=by rw [List.flatten_append]; exact q3Y hxs hnews
      have hkill:(l++m).flatten.map (AV.kill0 t' n)=(l++m).flatten:=noName_kill hnn;simp only [OpC.eff,hdst,MSt.killO] at he;injection he with he;subst he;rw [hdst];rcases Nat.lt_or_ge cc (ln + m.length) with hlt | hge
      ·have hlk:Held (avA av0 ι Θ) (avA av0 (ι.del t' n) Θ) w w.drew:=Held.grown (fun _ _=>rfl) fun b o _ h=>h.imp id fun h=>h.imp (fun h=>h.imp (fun ⟨t',n',h⟩=>⟨t',n',(Ix.del_some h).1⟩) id) id
       exact grow (R.drew.kill hn0 hm) hv hxlen (fun h=>by cases h) (fun a' ha j u hj=>by
        injection ha with ha;subst ha;rw [Addr.add_lit,yy];exact hxcell j u hj) hln hsl hlt (yH hle hcc) (by have:=q0v.kill (Ix.del_lk ι t' n) hlk _ _ hrep; rwa [hkill] at this) hroom
      ·obtain ⟨new,hnew⟩:∃ new,new=(cur.toList.take (ln * i.size)++news++cur.toList.drop (ln * i.size + news.length)).toArray:=⟨_,rfl⟩;have hfit:ln * i.size + news.length<=cur.size:=by
        rw [hmlen,<- Nat.add_mul,hcz];exact yH (yW _ hge) hzb
       have hrun:(Builtin.append_ #[t,t] o.type #[a.eval X,a.eval Y]).run P w=.ok (.slice (some ⟨b,0,none⟩) (ln + m.length) cc) (w.setRow b new):=by
        rw [hv,hnew];obtain ⟨hl0,A,c',hsv,hc,hcell⟩:=hsl;rw [hsv];cases A with
        | none =>
         have hm0:m.length=0:=by
          rcases yE m.length with h | h
          ·exact h
          ·obtain ⟨b,off,hA,_⟩:=hcell h; cases hA
         have hnn:news=[]:=yP (by rw [hmlen,hm0,Nat.zero_mul]);subst hnn;rw [hm0] at hge ⊢;have hself:w.setRow b (cur.toList.take (ln * i.size)++[]++cur.toList.drop (ln * i.size + ([]:List Value).length)).toArray=w:=by
          simp only [List.append_nil,List.length_nil,Nat.add_zero,List.take_append_drop,yV];exact setRow_self w b cur ty (0,0) hheap
         rw [hself];simp only [Nat.add_zero] at hge;simp [Builtin.append_,run_underlying ht,sizeOf,typeInfo,hi,Builtin.lenOf,Builtin.firstCells,hge,storeCells]
        | some a' =>
         have hnews':∀ (j:Nat) (u:Value),news[j]?=some u->w.cell? (a'.add j)=some u:=fun j u hu=>by
          have hm0:0<m.length:=by
           rcases yE m.length with h | h
           ·rw [h] at hmlen; have:=(ye.1 hu).1; omega
           ·exact h
          obtain ⟨b,off,hA,_,_,hcl⟩:=hcell hm0;injection hA with hA;subst hA;rw [Addr.add_lit];exact hcl j u hu
         have hld:=run_loadCells_list (P:=P) w a' news hnews';rw [hmlen] at hld;have hst:=run_storeCells_at P b (ln * i.size) ty news 0 cur w hheap (by simpa using hfit) (RepCL_one hnews);simp only [Nat.add_zero] at hst;simp [Builtin.append_,run_underlying ht,sizeOf,typeInfo,hi,Builtin.lenOf,Builtin.firstCells,hge,hld,Addr.add_lit,hst]
       have hns:new.size=cur.size:=by
        rw [hnew];simp only [yS,yu,yD,List.length_drop,yL];omega
       have hrow':q2Q ι Θ (avA av0 ι Θ) w ((l++m).flatten.map (⟨·,.no⟩)) new:=row_ofC hrep fun j u hj=>by
        have htk:(cur.toList.take (ln * i.size)).length=ln * i.size:=by rw [yD,yL]; omega
        rw [hnew,List.getElem?_toArray,List.append_assoc];rcases Nat.lt_or_ge j (ln * i.size) with h | h
        ·rw [yM (by omega)] at hj;have:=hxcell j u hj;rw [cell_of_row w b j cur ty (0,0) hheap] at this;rw [yM (by omega),yT,if_pos h];simpa using this
        ·rw [yQ (by omega),hxlen] at hj;have hjn:=(ye.1 hj).1;rw [yQ (by omega),htk,yM hjn];exact hj
       have R1:=R.set hb hno hheap hrow' hBb (hns.trans hcz);have R2:=R1.ren (t:=t') (n:=n) hn0 (d:=d) (r:=(l++m).flatten.map (⟨·,.no⟩)) (by simp [MSt.setRow]) (noName_free hnn) hd hD (x:=.ref d s.next i.size 0 (ln + m.length) (ln + m.length)) (v:=.slice (some ⟨b,0,none⟩) (ln + m.length) cc) (fun ι' h1 h2=>⟨b,h1.trans hb,ym _,cc,hge,by rw [h2,yy]; exact hzb,rfl⟩);rw [setRow_kill] at R2;obtain ⟨ι',R2⟩:=R2;exact ⟨_,_,hexec _ _ hrun,ι',Θ,R2⟩
    ·cases hll
   ·cases hr
  ·cases hr
 ·cases hr
theorem op_bslr (R:Rel P O nt B F0 av0 w0 D s a w ι Θ) {t e:TypeId} {n z:Nat} {zero:List AV} (ht:P.underlying t=some (.slice e)) (hz:q7V P e=some zero) (hs:q1T P e=some z) (hsz:zero.length=z) (hpos:0<z) (hmax:n * z<=16777216) {ps:Array (Nat × Operand)} {ys:List (Nat × Opd)} (hy:opds ps.toList=some ys) (ho:o.op=.buildSlice t n ps)
  {d:Nat} (hdst:o.dst=some d) (hd:d<nt) (hD:¬ D d) {call} {xe:Slot × Eff} (hr:(K.bslr z zero n ys).run call s=some xe) {g} {s':MSt} (he:OpC.eff ⟨o.dst,.bslr z zero n ys,g⟩ s xe=some s') :
  ∃ v w',(execOp a.eval o).run P w=.ok (.value v) w'/\RelE P O nt B F0 av0 w0 (fun t=>D t\/t=d) s' (a.put o.dst v) w':=by
 obtain ⟨zv,i',hi',hiz,hzrun,hl⟩:=q3l hz w;have hisz:i'.size=z:=by simp [q1T,hi'] at hs; exact hs
 have hzs:zv.cells.size=z:=by
  have:=q2E hl;simp only [yL] at this;omega
 simp only [K.run] at hr;split at hr
 ·rename_i hcond;obtain ⟨hrange,hall,_,_⟩:=hcond;injection hr with hr; subst hr;simp only [OpC.eff,hdst] at he;injection he with he;subst he;have hall':∀ p∈ys,(p.2.get s).whole=true/\(p.2.get s).cells.length=zero.length:=fun p hp=>by
   have:=y6.1 hall p hp;simpa using this
  have hn:ys.length=n:=by
   have:=congrArg List.length hrange;simpa using this
  have hfill:=fill_flat (s:=s) z ys 0 [] (yF n zero).flatten (by rw [hrange,List.range_eq_range',hn]) (by simp) (by simp [hn,hsz]) (fun p hp=>by rw [(hall' p hp).2,hsz]);rw [List.nil_append,List.nil_append] at hfill;have hp:=q9Z z ys;have hmade:((Array.range (n * z)).map (((if n * z=0 then (#[]:Array Value) else zv.cells)[· % (if n * z=0 then (#[]:Array Value) else zv.cells).size]!))).toList=(yF n zv.cells.toList).flatten:=by
   rcases yE n with h0 | h0
   ·subst h0; simp
   ·have:¬ n * z=0:=by have:=Nat.mul_pos h0 hpos; omega
    simp only [if_neg this];rw [<- hzs];exact range_mod zv.cells n
  obtain ⟨us',h1,h2⟩:=qb0 (pl:=fun i=>some (i * z,z)) (ι:=ι) (av:=avA av0 ι Θ) (avb:=avB ι Θ) (w:=w) (s:=s) (a:=a) rfl (fun X y h=>(R.opd h).1) hy hp (fun p hp=>by
   obtain ⟨q,hq,rfl⟩:=yz.1 hp;exact (hall' q hq).1) (by rw [y4]; exact hfill) (us:=(Array.range (n * z)).map (((if n * z=0 then (#[]:Array Value) else zv.cells)[· % (if n * z=0 then (#[]:Array Value) else zv.cells).size]!))) (by
    rw [hmade];exact range_rep _ _ (q5G hl _ _) n)
  have hrun:(execOp a.eval o).run P w=.ok (.value (.slice (some ⟨w.heap.size,0,none⟩) n n)) (w.alloc (.cells us' e)):=by
   have h3:Instr.fill (fun i=>some (i * z,z)) ((Array.range (n * z)).map (((if n * z=0 then (#[]:Array Value) else zv.cells)[· % (if n * z=0 then (#[]:Array Value) else zv.cells).size]!))) (ps.map fun (i,x)=>(i,a.eval x)).toList=some us':=by
    rw [Array.toList_map];exact h1
   have hle:¬ (n * z > 2 ^ 24):=by omega
   by_cases h0:n * z=0
   ·simp only [if_pos h0] at h3;simp only [execOp,ho,Instr.buildSlice,Sem.run_bind,run_underlying ht,Result.andThen_ok,q1m hs,if_neg hle,if_pos h0,Sem.run_pure,h3,newRow,run_newObj_alloc]
   ·simp only [if_neg h0] at h3;simp only [execOp,ho,Instr.buildSlice,Sem.run_bind,run_underlying ht,Result.andThen_ok,q1m hs,if_neg hle,if_neg h0,Sem.run_pure,hzrun,h3,newRow,run_newObj_alloc]
  refine ⟨_,_,hrun,?_⟩;rw [hdst];have hlen:=q1i h2;have hfl:(ys.map fun p=>(p.2.get s).cells).flatten.length=n * z:=by
   rw [<- hn];clear hfill h2 hlen h1 hrange hall hp hy hmax hmade hn
   induction ys with
   | nil=>simp
   | cons p r ih=>rw [yk,yG,yu,(hall' p (by simp)).2,ih (fun q hq=>hall' q (by simp [hq])),hsz,yK,yB]; omega
  have hus:us'.size=n * z:=by
   rw [hfl,yL] at hlen;exact hlen
  have hrow:q2Q ι Θ (avA av0 ι Θ) w (q0g (ys.map fun p=>(p.2.get s).cells)) us':=row_ofC h2 fun j u hj=>by simpa using hj
  obtain ⟨ι',h⟩:=R.new hd hD e hrow (x:=.ref d s.next z 0 n n) (v:=.slice (some ⟨w.heap.size,0,none⟩) n n) (fun ι' h hz=>⟨_,h,ym _,_,ym _,by
   rw [show ι'.z w.heap.size=_ from hz,yy,hus];exact ym _,rfl⟩)
  exact ⟨ι',Θ,h⟩
 ·cases hr
end
end
section
open Go Go.RowKit
section
variable {P:Program} {O:Objs} {nt B:Nat} {F0:Own} {av0:Av} {w0:World} {D:Nat->Prop} {s:MSt} {a:Act} {w w':World} {ι:Ix} {Θ:Fam} {o:Oper}
def RepA (ι:Ix) (av avl:Av) (w:World):List AV->List Value->Prop
 | [],us=>us=[]
 | x :: r,us=>∃ u us',us=u :: us'/\RepS ι av avl w x u/\RepA ι av avl w r us'
def Ix.one (p:Nat):Ix:=⟨fun t n=>if t=0/\n=0 then some p else .none,fun _ _=>.none,fun _=>0⟩
def RepO (p:Nat) (av:Av) (w:World) (x:AV) (v:Value):Prop:=if x.isObj then v=.pointer (some ⟨p,0,none⟩) else Rep av w x v
def q8p (p:Nat) (av:Av) (w:World):List AV->List Value->Prop
 | [],us=>us=[]
 | x :: r,us=>∃ u us',us=u :: us'/\RepO p av w x u/\q8p p av w r us'
def RepN (p:Nat) (av:Av) (w:World):AV->Value->Prop
 | .tup vs,v=>∃ us,v=.tuple us/\q8p p av w vs us.toList
 | x,v=>RepO p av w x v
def OwnV (base:Nat) (H:Nat->Prop) (w:World) (l:List (List AV)) (v:Value):Prop :=
 (l=[]/\∃ A c,v=.slice A 0 c/\(A=none->c=0))\/∃ g c cur ty,v=.slice (some ⟨g,0,none⟩) l.length c/\base<=g/\¬ H g/\w.heap[g]?=some (.cells cur ty (0,0))/\l.length<=c/\(∀ sz,q1f sz l=true->0<l.length->c * sz<=cur.size)/\∀ (j:Nat) (x:AV),l.flatten[j]?=some x->cur[j]?=some x.scalV
def CallOwn (P:Program) (O:Objs) (f:FuncId) (args:List AV) (S0:Option AV) (r:RV):Prop :=
 (∀ xs w,(callFunc f xs).run P w=.ok (.enter f xs) w) ∧
 match S0,r with
 | some S,(.sl false l,some S')=>∀ (av:Av) (w:World) (vs:List Value) (p:Nat) (H:Nat->Prop),(∀ b o,av b o->b<w.heap.size)->(∀ b o,H b->av b o)->O.at_ S H p w->RepA (Ix.one p) av (fun b _=>H b) w args vs →
  Calls P f vs.toArray w fun e w'=>∃ v H',e=.returned v/\OwnV w.heap.size H' w' l v/\O.at_ S' H' p w'/\(∀ b,H' b->H b\/w.heap.size<=b)/\Keep H w w'
 | _,_=>True
def CallOk0 (P:Program) (O:Objs) (f:FuncId) (args:List AV) (S0:Option AV) (r:RV):Prop :=
 (∀ xs w,(callFunc f xs).run P w=.ok (.enter f xs) w) ∧
 match S0,r.2 with
 | none,none=>∀ (av:Av) (w:World) (vs:List Value),(∀ b o,av b o->b<w.heap.size)->RepA Ix.none av (fun _ _=>False) w args vs →
  Calls P f vs.toArray w fun e w'=>∃ v,e=.returned v/\Rep av w' r.1 v/\Below w.heap.size w w'
 | some S,some S'=>∀ (av:Av) (w:World) (vs:List Value) (p:Nat) (H:Nat->Prop),(∀ b o,av b o->b<w.heap.size)->(∀ b o,H b->av b o)->O.at_ S H p w->RepA (Ix.one p) av (fun b _=>H b) w args vs →
  Calls P f vs.toArray w fun e w'=>∃ v H',e=.returned v/\Rep (fun b o=>av b o\/H' b) w' r.1 v/\O.at_ S' H' p w'/\(∀ b,H' b->H b\/w.heap.size<=b)/\Keep H w w'
 | none,some S'=>∀ (av:Av) (w:World) (vs:List Value),(∀ b o,av b o->b<w.heap.size)->RepA Ix.none av (fun _ _=>False) w args vs →
  Calls P f vs.toArray w fun e w'=>∃ v p H',e=.returned v/\RepN p (fun b o=>av b o\/H' b) w' r.1 v/\O.at_ S' H' p w'/\(∀ b,H' b->w.heap.size<=b)/\Below w.heap.size w w'
 | some _,none=>True
def Ix.row (p z:Nat):Ix:=⟨fun t n=>if t=0/\n=0 then some p else .none,fun _ _=>.none,fun _=>z⟩
def CallRow (P:Program) (f:FuncId) (args:List AV) (S0:Option AV) (r:RV):Prop :=
 (∀ xs w,(callFunc f xs).run P w=.ok (.enter f xs) w) ∧
 match S0,r with
 | some (.agg cs),(r1,some (.agg cs'))=>∀ (av:Av) (w:World) (vs:List Value) (p:Nat) (cur:Array Value) (ty:TypeId),(∀ b o,av b o->b<w.heap.size)->(∀ o,av p o)->w.heap[p]?=some (.cells cur ty (0,0))->cs.length<=cur.size->RepL av w cs (cur.toList.take cs.length)->RepA (Ix.row p cur.size) av (fun b _=>b=p) w args vs →
  Calls P f vs.toArray w fun e w'=>∃ v cur' ty',e=.returned v/\Rep av w' r1 v/\w'.heap[p]?=some (.cells cur' ty' (0,0))/\cur'.size=cur.size/\RepL av w' cs' (cur'.toList.take cs'.length)/\Keep (fun b=>b=p) w w'
 | _,_=>True
def q1Y (P:Program) (O:Objs) (f:FuncId) (args:List AV) (S0:Option AV) (r:RV):Prop:=match args with
 | .undef :: .undef :: rest=>CallRow P f rest S0 r
 | .undef :: rest=>CallOwn P O f rest S0 r
 | _=>CallOk0 P O f args S0 r
theorem q1Y.of {P:Program} {O:Objs} {f:FuncId} {args:List AV} {S0:Option AV} {r:RV} (hm:q6H args=false):q1Y P O f args S0 r ↔ CallOk0 P O f args S0 r:=by
 unfold q1Y;split
 ·cases hm
 ·cases hm
 ·exact Iff.rfl
theorem q1Y.own {P:Program} {O:Objs} {f:FuncId} {args:List AV} {S0:Option AV} {r:RV} (hm:q6H args=false) (h:q1Y P O f (.undef :: args) S0 r):CallOwn P O f args S0 r:=by
 cases args with
 | nil=>exact h
 | cons x r=>cases x <;> first | exact h | (simp [q6H] at hm; done)
theorem free_rep {ι':Ix} {av avb avl:Av} {x:AV} {v:Value} (h:RepS ι av avb w x v) (hx:x.free=true):RepS ι' av avl w x v:=by
  cases x <;> first
    | exact h
    | (simp [AV.free,AV.free0] at hx; done)
    | (obtain ⟨us,hv,hc⟩:=h
       exact ⟨us,hv,q1U (q40 hc fun y hy=>y6.1 hx y hy)⟩)
theorem CellsB_mk {av avb:Av}:∀ {cs:List AV} {us:List Value} {b off:Nat},RepL av w cs us->(∀ (j:Nat) (u:Value),us[j]?=some u->w.cell? ⟨b,off + j,none⟩=some u/\¬ avb b (off + j))->q1E av avb w cs b off
 | [],_,_,_,_,_=>by simp [q1E]
 | x :: r,_,b,off,h,hj=>by
  simp only [RepL] at h;obtain ⟨u,us',rfl,h0,h1,h⟩:=h;simp only [q1E];have h2:=hj 0 u rfl;refine ⟨⟨u,h2.1,h0,h1⟩,h2.2,CellsB_mk h fun j v hv=>?_⟩;have:=hj (j + 1) v (by simpa using hv);rw [show off + 1 + j=off + (j + 1) from by omega];exact this
theorem lend_rep0 (R:Rel P O nt B F0 av0 w0 D s a w ι Θ) {avl:Av} {cl:Cl} {y x:AV} (hB:∀ b o,avl b o->avB ι Θ b o) (hsep:∀ t n b o,ι t n=some b->ι.ob t n=none->(∃ sz off len cap,y=.ref t n sz off len cap)->¬ avl b o) {v:Value} {ι':Ix} (hY:RepS ι (avA av0 ι Θ) (avB ι Θ) w y v) (h:lend s cl y=some x) (hob:∀ t n,y=.ptr t n 0->ι' 0 0=ι t n):RepS ι' (avA av0 ι Θ) avl w x v:=by
 unfold lend at h;split at h
 ·rename_i t n sz off len cap;split at h
  ·cases hm:s.mem t n with
   | none=>rw [hm] at h; cases h
   | some r =>
    rw [hm,y0] at h;cases hr:q3u r sz off len with
    | none=>rw [hr] at h; cases h
    | some m =>
     rw [hr] at h;injection h with h;subst h;obtain ⟨b,hb,hle,cc,hcc,_,hv⟩:=q3P.1 hY;obtain ⟨hno,b',cur,ty,hb',hheap,hrow,_⟩:=R.rows t n r hm;rw [hb] at hb';injection hb' with hb';subst hb';obtain ⟨h1,h2,us,hl,hus⟩:=q5V hrow hheap hr;subst h1;exact ⟨_,cc,hv,yH hle hcc,fun c hc c' hc'=>(h2 c hc).trans (h2 c' hc').symm,fun _=>⟨b,off,rfl,q5B.2 (CellsB_mk hl fun j u hj=>⟨hus j u hj,hsep t n b _ hb hno ⟨_,_,_,_,rfl⟩⟩)⟩⟩
  ·cases h
 ·injection h with h;subst h;obtain ⟨a',c,hv,hc,hu,hs⟩:=hY;refine ⟨a',c,hv,hc,hu,fun h0=>?_⟩;obtain ⟨b,off,ha,hr⟩:=hs h0;exact ⟨b,off,ha,q8q.held (Held.refl _ _) (Held.less hB) _ _ _ hr⟩
 ·injection h with h;subst h;obtain ⟨b,off,hv,hc⟩:=hY;exact ⟨b,off,hv,q1E.held (Held.refl _ _) (Held.less hB) _ _ _ hc⟩
 ·rename_i t n off;split at h
  ·rename_i hc;injection h with h;subst h;obtain ⟨h0,_,_⟩:=hc;subst h0;obtain ⟨b,hb,hv⟩:=q38.1 hY;exact ⟨b,(hob t n rfl).trans hb,hv⟩
  ·cases h
 ·split at h
  ·rename_i hf;injection h with h;subst h;exact free_rep hY hf
  ·cases h
theorem lend_rep (R:Rel P O nt B F0 av0 w0 D s a w ι Θ) {avl:Av} (havl:∀ b o,avl b o->∃ t n H,ι.ob t n=some H/\H b) {cl:Cl} {y x:AV} {v:Value} {ι':Ix} (hY:RepS ι (avA av0 ι Θ) (avB ι Θ) w y v) (h:lend s cl y=some x) (hob:∀ t n,y=.ptr t n 0->ι' 0 0=ι t n):RepS ι' (avA av0 ι Θ) avl w x v :=
 lend_rep0 R (fun b o h=>.inl (.inr (havl b o h))) (fun t n b o hb hno _ h=>by
  obtain ⟨t',n',H,ho,hH⟩:=havl _ _ h;obtain ⟨e1,e2⟩:=((R.obs _ _ _ ho).1 _ hH).2.2.1 _ _ hb;rw [e1,e2,ho] at hno;cases hno) hY h hob
theorem lendP_rep (R:Rel P O nt B F0 av0 w0 D s a w ι Θ) {avl:Av} (havl:∀ b o,avl b o->∃ t n H,ι.ob t n=some H/\H b) {cl:Cl} {y x:AV} {v:Value} {ι':Ix} (hY:RepP ι (avA av0 ι Θ) (avB ι Θ) w y v) (h:lendP s cl y=some x):RepP ι' (avA av0 ι Θ) avl w x v:=by
 have hB:∀ b o,avl b o->avB ι Θ b o:=fun b o h=>.inl (.inr (havl b o h))
 unfold lendP at h;split at h
 ·rename_i t n off;split at h
  ·split at h
   ·rename_i r hm;split at h
    ·rename_i hall;injection h with h;subst h;obtain ⟨b,hb,hv⟩:=hY;obtain ⟨hno,b',cur,ty,hb',hheap,hrow,_⟩:=R.rows t n r hm;rw [hb] at hb';injection hb' with hb';subst hb';have hrep:=q2X off hrow.rep;rw [<- List.map_drop] at hrep;have hfree:∀ x∈(r.drop off).map (·.v),x.free0=true:=fun x hx=>by
      obtain ⟨y,hy,rfl⟩:=yz.1 hx;exact y6.1 hall y hy
     refine ⟨b,off,hv,CellsB_mk (q40 hrep hfree) fun j u hu=>⟨?_,fun h=>?_⟩⟩
     ·rw [yU] at hu;have hj:off + j<r.length:=by
       have:=(ye.1 hu).1;rw [yD] at this;omega
      rw [List.getElem?_take_of_lt hj] at hu;simp only [World.cell?,hheap];simpa using hu
     ·obtain ⟨t',n',H,ho,hH⟩:=havl _ _ h;obtain ⟨e1,e2⟩:=((R.obs _ _ _ ho).1 _ hH).2.2.1 _ _ hb;rw [e1,e2,ho] at hno;cases hno
    ·cases h
   ·cases h
  ·cases h
 ·injection h with h;subst h;obtain ⟨b,off,hv,hc⟩:=hY;exact ⟨b,off,hv,q1E.held (Held.refl _ _) (Held.less hB) _ _ _ hc⟩
 ·injection h with h;subst h;exact hY
 ·cases h
theorem q9B (R:Rel P O nt B F0 av0 w0 D s a w ι Θ) {avl:Av} (havl:∀ b o,avl b o->∃ t n H,ι.ob t n=some H/\H b) {cl:Cl} {ι':Ix}:∀ {ys xs:List AV} {us:List Value},q5F ι (avA av0 ι Θ) (avB ι Θ) w ys us->q2v s cl ys=some xs->q5F ι' (avA av0 ι Θ) avl w xs us
 | [],xs,us,hY,h=>by
  injection h with h;subst h;exact hY
 | y :: r,xs,us,hY,h=>by
  obtain ⟨u,us',rfl,h0,hY⟩:=hY;unfold q2v at h;split at h
  ·rename_i v vs hv hr;injection h with h;subst h;exact ⟨u,us',rfl,lendP_rep R havl h0 hv,q9B R havl hY hr⟩
  ·cases h
theorem lendF_rep (R:Rel P O nt B F0 av0 w0 D s a w ι Θ) {avl:Av} (havl:∀ b o,avl b o->∃ t n H,ι.ob t n=some H/\H b) {cl:Cl} {y x:AV} {v:Value} {ι':Ix} (hY:RepS ι (avA av0 ι Θ) (avB ι Θ) w y v) (h:q4V s cl y=some x) (hob:∀ t n,y=.ptr t n 0->ι' 0 0=ι t n):RepS ι' (avA av0 ι Θ) avl w x v:=by
 unfold q4V at h;split at h
 ·rename_i f cs;obtain ⟨ws,hw,h⟩:=yh.1 h;subst h;obtain ⟨us,hv,hc⟩:=hY;exact ⟨us,hv,q9B R havl hc hw⟩
 ·exact lend_rep R havl hY h hob
theorem RepA_ofPL {ι':Ix} {av avl:Av}:∀ {xs:List AV} {us:List Value},(∀ x∈xs,x.capOk=true)->q5F ι' av avl w xs us->RepA ι' av avl w xs us
 | [],_,_,h=>h
 | x :: r,_,hc,h=>by
  obtain ⟨u,us',rfl,h0,h⟩:=h;refine ⟨u,us',rfl,?_,RepA_ofPL (fun y hy=>hc y (yp _ hy)) h⟩;have:=hc x (yl);cases x <;> first | (simp [AV.capOk] at this; done) | exact h0
theorem RepA_append {ι':Ix} {av avl:Av}:∀ {xs ys:List AV} {us vs:List Value},RepA ι' av avl w xs us->RepA ι' av avl w ys vs->RepA ι' av avl w (xs++ys) (us++vs)
 | [],_,_,_,h,h'=>by cases h; exact h'
 | x :: r,_,_,_,h,h'=>by
  obtain ⟨u,us',rfl,h0,h⟩:=h;exact ⟨u,us'++_,rfl,h0,RepA_append h h'⟩
theorem lendPs_ok {cl:Cl}:∀ {ys xs:List AV},q2v s cl ys=some xs->∀ x∈xs,x.capOk=true
 | [],xs,h=>by injection h with h; subst h; intro x hx; cases hx
 | y :: r,xs,h=>by
  unfold q2v at h;split at h
  ·rename_i v vs hv hr;injection h with h;subst h;intro x hx;rcases yj.1 hx with rfl | hx
   ·unfold lendP at hv;split at hv
    ·split at hv
     ·split at hv
      ·split at hv
       ·injection hv with hv; subst hv; rfl
       ·cases hv
      ·cases hv
     ·cases hv
    ·injection hv with hv; subst hv; rfl
    ·injection hv with hv; subst hv; rfl
    ·cases hv
   ·exact lendPs_ok hr x hx
  ·cases h
theorem q5O (R:Rel P O nt B F0 av0 w0 D s a w ι Θ) {avl:Av} (havl:∀ b o,avl b o->∃ t n H,ι.ob t n=some H/\H b) {cl:Cl} {ι':Ix}:∀ {Xs:List Operand} {xs:List Opd} {vs:List AV},opdL Xs=some xs->q2M s cl xs=some vs->(∀ x∈xs,∀ t n,x.get s=.ptr t n 0->ι' 0 0=ι t n)->RepA ι' (avA av0 ι Θ) avl w vs (Xs.map a.eval)
 | [],xs,vs,h,hl,_=>by
  injection h with h;subst h;injection hl with hl;subst hl;rfl
 | X :: Xs,xs,vs,h,hl,hob=>by
  unfold opdL at h;split at h
  ·rename_i x l hx hr;injection h with h;subst h;unfold q2M at hl;split at hl
   ·rename_i v vs' hv hr';injection hl with hl;subst hl;exact ⟨_,_,rfl,lendF_rep R havl (R.opd hx).1 hv (hob x (yl)),q5O R havl hr hr' fun y hy=>hob y (yp _ hy)⟩
   ·cases hl
  ·cases h
theorem named_rep {p d n:Nat} {ι':Ix} {av avb:Av} {x:AV} {v:Value} (h:RepN p av w x v) (hp:ι' d n=some p) (hx:x.backN=true):RepS ι' av avb w (x.named d n) v:=by
 have one:∀ {x:AV} {u:Value},RepO p av w x u->RepC ι' av w (if x.isObj then .ptr d n 0 else x) u:=fun {x u} h=>by
  unfold RepO at h;split at h
  ·rename_i ho; rw [if_pos ho]; exact ⟨p,hp,h⟩
  ·rename_i ho; rw [if_neg ho]; exact q5E h
 have oneU:∀ {x:AV} {u:Value},RepO p av w x u->RepU ι' av w (if x.isObj then .ptr d n 0 else x) u:=fun {x u} h=>by
  unfold RepO at h;split at h
  ·rename_i ho; rw [if_pos ho]; exact ⟨p,hp,h⟩
  ·rename_i ho; rw [if_neg ho]; exact q3R h
 have all:∀ {xs:List AV} {us:List Value},q8p p av w xs us->q5i ι' av w (xs.map fun v=>if v.isObj then .ptr d n 0 else v) us:=by
  intro xs
  induction xs with
  | nil=>intro us h; simpa [q8p,q5i] using h
  | cons x r ih =>
   intro us h;simp only [q8p] at h;obtain ⟨u,us',rfl,h0,h⟩:=h;exact ⟨u,us',rfl,oneU h0,ih h⟩
 cases x with
 | tup vs =>
  obtain ⟨us,hv,hc⟩:=h;exact ⟨us,hv,all hc⟩
 | ptr t' n' off =>
  have h1:=one (x:=.ptr t' n' off) h;have h2:(AV.ptr t' n' off).isObj=true:=hx;simp only [h2,if_true] at h1;show RepS ι' av avb w (if (AV.ptr t' n' off).isObj then .ptr d n 0 else .ptr t' n' off) v;rw [if_pos h2];exact h1
 | _=>simp [AV.backN,AV.isObj] at hx
theorem RepO.held {p:Nat} {av av':Av} {w w':World} (h:Held av av' w w') {x:AV} {v:Value} (hr:RepO p av w x v):RepO p av' w' x v:=by
 unfold RepO at hr ⊢;split at hr
 ·rename_i ho; rw [if_pos ho]; exact hr
 ·rename_i ho; rw [if_neg ho]; exact Rep.held h _ _ hr
theorem RepN.held {p:Nat} {av av':Av} {w w':World} (h:Held av av' w w') {x:AV} {v:Value} (hr:RepN p av w x v):RepN p av' w' x v:=by
 have all:∀ {xs:List AV} {us:List Value},q8p p av w xs us->q8p p av' w' xs us:=by
  intro xs
  induction xs with
  | nil=>intro us h; exact h
  | cons x r ih =>
   intro us h';simp only [q8p] at h' ⊢;obtain ⟨u,us',rfl,h0,h'⟩:=h';exact ⟨u,us',rfl,RepO.held h h0,ih h'⟩
 cases x <;> first | exact RepO.held h hr | (obtain ⟨us,hv,hc⟩:=hr; exact ⟨us,hv,all hc⟩)
theorem Rel.turnObj (R:Rel P O nt B F0 av0 w0 D s a w ι Θ) {t n p:Nat} {H H':Nat->Prop} {S':AV} (hp:ι t n=some p) (hob:ι.ob t n=some H) (hat:O.at_ S' H' p w') (htie:Tie ι S' p w') (hH:∀ b,H' b->H b\/w.heap.size<=b) (hk:Keep H w w') :
  ∃ ι':Ix,Rel P O nt B F0 av0 w0 D (s.setObj t n S') a w' ι' Θ/\Held (fun b o=>avA av0 ι Θ b o\/H' b) (avA av0 ι' Θ) w' w':=by
 obtain ⟨hob1,hob2⟩:=R.obs t n H hob;have hobq:∀ t' n' H1,(if t'=t/\n'=n then some H' else ι.ob t' n')=some H1->(t'=t/\n'=n/\H1=H')\/(¬ (t'=t/\n'=n)/\ι.ob t' n'=some H1):=fun t' n' H1 h=>by
  split at h
  ·rename_i e; injection h with h; exact .inl ⟨e.1,e.2,h.symm⟩
  ·rename_i e; exact .inr ⟨e,h⟩
 have hBx:∀ b o,b<w.heap.size->avB ⟨ι.f,fun t' n'=>if t'=t/\n'=n then some H' else ι.ob t' n',ι.z⟩ Θ b o->avB ι Θ b o:=fun b o hb h=>h.imp (fun h=>h.imp id fun ⟨t',n',H1,h1,h2⟩=>by
  rcases hobq _ _ _ h1 with ⟨e1,e2,e3⟩ | ⟨_,h1⟩
  ·subst e3;rcases hH b h2 with h3 | h3
   ·exact ⟨t,n,H,hob,h3⟩
   ·omega
  ·exact ⟨t',n',H1,h1,h2⟩) id
 have hties:∀ t1 n1 b1 H1,ι t1 n1=some b1->ι.ob t1 n1=some H1->(⟨ι.f,fun t' n'=>if t'=t/\n'=n then some H' else ι.ob t' n',ι.z⟩:Ix) t1 n1=some b1/\∃ H2,(⟨ι.f,fun t' n'=>if t'=t/\n'=n then some H' else ι.ob t' n',ι.z⟩:Ix).ob t1 n1=some H2:=fun t1 n1 b1 H1 g1 g2=>⟨g1,by
  by_cases e:t1=t/\n1=n
  ·exact ⟨H',by simp only [if_pos e]⟩
  ·exact ⟨H1,by simp only [if_neg e]; exact g2⟩⟩
 have hcell:∀ b o u,w.cell? ⟨b,o,none⟩=some u->¬ H b->w'.cell? ⟨b,o,none⟩=some u:=fun b o u hc hn=>(World.cell?_of_block (w:=w) (a:=⟨b,o,none⟩) (hk.block b (q56 hc) hn)).trans hc
 have hB:Held (avB ι Θ) (avB ⟨ι.f,fun t' n'=>if t'=t/\n'=n then some H' else ι.ob t' n',ι.z⟩ Θ) w w':=⟨fun b o u hc hn=>⟨hcell b o u hc fun h=>hn (.inl (.inr ⟨t,n,H,hob,h⟩)),fun h=>hn (hBx b o (q56 hc) h)⟩⟩;have hA:Held (avA av0 ι Θ) (avA av0 ⟨ι.f,fun t' n'=>if t'=t/\n'=n then some H' else ι.ob t' n',ι.z⟩ Θ) w w':=⟨fun b o u hc hn=>⟨hcell b o u hc fun h=>hn (.inr (.inl (.inr ⟨t,n,H,hob,h⟩))),fun h=>hn (h.imp id (hBx b o (q56 hc)))⟩⟩;have hBle:=R.lowB;have hsz:=hk.size;have henv:∀ t1,RepS ⟨ι.f,fun t' n'=>if t'=t/\n'=n then some H' else ι.ob t' n',ι.z⟩ (avA av0 ⟨ι.f,fun t' n'=>if t'=t/\n'=n then some H' else ι.ob t' n',ι.z⟩ Θ) (avB ⟨ι.f,fun t' n'=>if t'=t/\n'=n then some H' else ι.ob t' n',ι.z⟩ Θ) w' (s.env t1).v (a.tmps.getD t1 undef):=fun t1=>RepS.held (ι:=ι) (ι':=⟨ι.f,fun t' n'=>if t'=t/\n'=n then some H' else ι.ob t' n',ι.z⟩) ⟨fun _ _ _ h=>h,fun _ _ _ _=>rfl⟩ hA hB _ _ (R.env t1)
 have hgen:∀ t1,RepS ⟨ι.f,fun t' n'=>if t'=t/\n'=n then some H' else ι.ob t' n',ι.z⟩ (avA av0 ⟨ι.f,fun t' n'=>if t'=t/\n'=n then some H' else ι.ob t' n',ι.z⟩ Θ) (avB ⟨ι.f,fun t' n'=>if t'=t/\n'=n then some H' else ι.ob t' n',ι.z⟩ Θ) w' (s.gh t1).v (F0.g t1):=fun t1=>RepS.held (ι:=ι) (ι':=⟨ι.f,fun t' n'=>if t'=t/\n'=n then some H' else ι.ob t' n',ι.z⟩) ⟨fun _ _ _ h=>h,fun _ _ _ _=>rfl⟩ hA hB _ _ (R.gen t1)
 refine ⟨⟨ι.f,fun t' n'=>if t'=t/\n'=n then some H' else ι.ob t' n',ι.z⟩,⟨R.defers,R.size,henv,R.ann,fun t' n' r hr=>?_,fun t' n' b h=>?_,R.inj,fun k o h=>?_,R.tinj,R.apart,R.out,(fun p' h=>⟨(R.pin p' h).1,by
  rcases (R.pin p' h).2 with hr0 | ⟨H1,h1⟩
  ·exact .inl hr0
  refine .inr ?_;show ∃ H2,(if 0=t/\0=n then some H' else ι.ob 0 0)=some H2;split
  ·exact ⟨_,rfl⟩
  ·exact ⟨H1,h1⟩⟩),?_,R.base,fun t' n' S1 h=>?_,fun t' n' H1 h=>?_,hgen,R.gann⟩,?_⟩
 ·obtain ⟨h0,b,cur,ty,h1,h2,h3,h8⟩:=R.rows t' n' r hr;have hne:¬ (t'=t/\n'=n):=fun e=>by rw [e.1,e.2,hob] at h0; cases h0
  have hbn:¬ H b:=fun hb=>hne ((hob1 b hb).2.2.1 t' n' h1)
  exact ⟨by simp only [if_neg hne]; exact h0,b,cur,ty,h1,(hk.block b (q0b h2) hbn).trans h2,h3.held ⟨fun _ _ _ h=>h,fun _ _ _ _=>rfl⟩ hA (fun _ _ h=>h),h8⟩
 ·obtain ⟨h1,h2,h3⟩:=R.mine t' n' b h;exact ⟨h1,by omega,h3⟩
 ·obtain ⟨h1,h2,h3,h4,cur',h5,h6⟩:=R.tok k o h;exact ⟨h1,h2,h3,h4,cur',(hk.block _ (q0b h5) (R.apob h hob)).trans h5,h6⟩
 ·refine R.kept.trans hk fun i hi h=>?_
  have:=R.base;rcases (hob1 i h).1 with h1 | h1
  ·omega
  ·exact h1
 ·simp only [MSt.setObj] at h;split at h
  ·rename_i e;injection h with h;subst h;exact ⟨p,H',by rw [e.1,e.2]; exact hp,by simp only [if_pos e],hat,htie.keep hties fun x hx=>hx⟩
  ·rename_i e;obtain ⟨p1,H1,h1,h2,h3,h4⟩:=R.objs t' n' S1 h;have hnb:∀ b,H1 b->¬ H b:=fun b hb hb'=>e ((hob1 b hb').2.2.2.2 t' n' H1 h2 hb)
   exact ⟨p1,H1,h1,by simp only [if_neg e]; exact h2,O.keep h3 (fun b hb=>hk.block b (O.lt h3 hb) (hnb b hb)) hsz,h4.keep hties fun x hx=>(hk.block _ (q0b hx) (hnb _ (O.main h3))).trans hx⟩
 ·rcases hobq _ _ _ h with ⟨e1,e2,e3⟩ | ⟨e,h⟩
  ·subst e1; subst e2; subst e3;refine ⟨fun b hb=>?_,hob2⟩;rcases hH b hb with h1 | h1
   ·obtain ⟨g1,g2,g3,g4,g5⟩:=hob1 b h1;refine ⟨g1,by omega,g3,g4,fun t1 n1 H2 h2 h3=>?_⟩;rcases hobq _ _ _ h2 with ⟨e1,e2,_⟩ | ⟨_,h2⟩
    ·exact ⟨e1,e2⟩
    ·exact g5 t1 n1 H2 h2 h3
   ·refine ⟨.inl (by omega),O.lt hat hb,fun t1 n1 h2=>?_,fun k o h2 e=>?_,fun t1 n1 H2 h2 h3=>?_⟩
    ·have:=(R.mine _ _ _ h2).2.1; omega
    ·obtain ⟨_,_,_,_,cur',h5,_⟩:=R.tok k o h2; have:=q0b h5; omega
    ·rcases hobq _ _ _ h2 with ⟨e1,e2,_⟩ | ⟨_,h2⟩
     ·exact ⟨e1,e2⟩
     ·have:=((R.obs _ _ _ h2).1 b h3).2.1; omega
  ·obtain ⟨h1,h2⟩:=R.obs t' n' H1 h;refine ⟨fun b hb=>?_,h2⟩;obtain ⟨g1,g2,g3,g4,g5⟩:=h1 b hb;refine ⟨g1,by omega,g3,g4,fun t1 n1 H2 h2 h3=>?_⟩;rcases hobq _ _ _ h2 with ⟨e1,e2,e3⟩ | ⟨_,h2⟩
   ·subst e3;rcases hH b h3 with h4 | h4
    ·have:=g5 t n H hob h4;exact absurd ⟨this.1.symm,this.2.symm⟩ e
    ·omega
   ·exact g5 t1 n1 H2 h2 h3
 ·refine Held.less fun b o h=>?_
  rcases h with h | h | h
  ·exact .inl (.inl h)
  ·rcases h with h | ⟨t1,n1,H2,h2,h3⟩
   ·exact .inl (.inr (.inl (.inl h)))
   ·rcases hobq _ _ _ h2 with ⟨_,_,e3⟩ | ⟨_,h2⟩
    ·subst e3; exact .inr h3
    ·exact .inl (.inr (.inl (.inr ⟨t1,n1,H2,h2,h3⟩)))
  ·exact .inl (.inr (.inr h))
theorem Rel.newObj (R:Rel P O nt B F0 av0 w0 D s a w ι Θ) {d p:Nat} {H:Nat->Prop} {S:AV} (hb:Below w.heap.size w w') (hD:¬ D d) (hat:O.at_ S H p w') (htie:Tie ι S p w') (hH:∀ b,H b->w.heap.size<=b) :
  ∃ ι':Ix,Rel P O nt B F0 av0 w0 (fun t=>D t\/t=d) (s.setObj d s.next S) a w' ι' Θ/\ι' d s.next=some p/\Held (fun b o=>avA av0 ι Θ b o\/H b) (avA av0 ι' Θ) w' w':=by
 have hBle:=R.lowB;have hsz:=hb.size;have hpH:=hH p (O.main hat);have hfresh:ι d s.next=none:=by
  cases h:ι d s.next with
  | none=>rfl
  | some b =>
   rcases (R.mine _ _ _ h).2.2 with h1 | h1
   ·omega
   ·exact absurd h1.2 hD
 have hfresh':ι.ob d s.next=none:=by
  cases h:ι.ob d s.next with
  | none=>rfl
  | some b =>
   rcases (R.obs _ _ _ h).2 with h1 | h1
   ·omega
   ·exact absurd h1.2 hD
 have hmemn:s.mem d s.next=none:=by
  cases h:s.mem d s.next with
  | none=>rfl
  | some r=>obtain ⟨_,b,cur,ty,h1,_⟩:=R.rows _ _ _ h; rw [hfresh] at h1; cases h1
 obtain ⟨ι',hι'⟩:∃ ι':Ix,ι'=⟨fun t' n'=>if t'=d/\n'=s.next then some p else ι t' n',fun t' n'=>if t'=d/\n'=s.next then some H else ι.ob t' n',ι.z⟩:=⟨_,rfl⟩;have hf:∀ t' n' b,ι' t' n'=some b->(t'=d/\n'=s.next/\b=p)\/(¬ (t'=d/\n'=s.next)/\ι t' n'=some b):=fun t' n' b h=>by
  subst hι';have h':(if t'=d/\n'=s.next then some p else ι t' n')=some b:=h;split at h'
  ·rename_i e; injection h' with h'; exact .inl ⟨e.1,e.2,h'.symm⟩
  ·rename_i e; exact .inr ⟨e,h'⟩
 have ho:∀ t' n' H1,ι'.ob t' n'=some H1->(t'=d/\n'=s.next/\H1=H)\/(¬ (t'=d/\n'=s.next)/\ι.ob t' n'=some H1):=fun t' n' H1 h=>by
  subst hι';simp only at h;split at h
  ·rename_i e; injection h with h; exact .inl ⟨e.1,e.2,h.symm⟩
  ·rename_i e; exact .inr ⟨e,h⟩
 have hsub:∀ t n b,ι t n=some b->ι' t n=some b:=fun t n b h=>by
  subst hι';show (if t=d/\n=s.next then some p else ι t n)=some b;split
  ·rename_i e; rw [e.1,e.2,hfresh] at h; cases h
  ·exact h
 have hsubo:∀ t n H1,¬ (t=d/\n=s.next)->ι.ob t n=H1->ι'.ob t n=H1:=fun t n H1 e h=>by
  subst hι';simp only [if_neg e];exact h
 have hnew:ι' d s.next=some p:=by
  subst hι';show (if d=d/\s.next=s.next then some p else ι d s.next)=some p;rw [if_pos ⟨rfl,rfl⟩]
 have hnewo:ι'.ob d s.next=some H:=by subst hι'; simp
 have hties:∀ t1 n1 b1 H1,ι t1 n1=some b1->ι.ob t1 n1=some H1->ι' t1 n1=some b1/\∃ H2,ι'.ob t1 n1=some H2:=fun t1 n1 b1 H1 g1 g2=>⟨hsub _ _ _ g1,H1,hsubo _ _ _ (fun e=>by rw [e.1,e.2,hfresh'] at g2; cases g2) g2⟩
 have hzz:∀ b,ι'.z b=ι.z b:=fun b=>by subst hι'; rfl
 have hle:Ix.Le ι ι':=⟨hsub,fun _ _ _ _=>hzz _⟩;clear hι';have hBx:∀ b o,b<w.heap.size->avB ι' Θ b o->avB ι Θ b o:=fun b o hbl h=>h.imp (fun h=>by
  rcases h with ⟨t',n',h⟩ | ⟨t',n',H1,h,h2⟩
  ·rcases hf _ _ _ h with ⟨_,_,e⟩ | ⟨_,h⟩
   ·omega
   ·exact .inl ⟨t',n',h⟩
  ·rcases ho _ _ _ h with ⟨_,_,e⟩ | ⟨_,h⟩
   ·subst e; have:=hH b h2; omega
   ·exact .inr ⟨t',n',H1,h,h2⟩) id
 have hB:Held (avB ι Θ) (avB ι' Θ) w w':=Held.grown (fun b hb'=>hb.block b hb') hBx;have hA:Held (avA av0 ι Θ) (avA av0 ι' Θ) w w':=Held.grown (fun b hb'=>hb.block b hb') fun b o hbl h=>h.imp id (hBx b o hbl)
 refine ⟨ι',⟨R.defers,R.size,fun t=>RepS.held hle hA hB _ _ (R.env t),R.ann,fun t' n' r hr=>?_,fun t' n' b h=>?_,fun t n t' n' b h h'=>?_,fun k o h=>?_,R.tinj,fun k o t n h h'=>?_,R.out,fun p h=>⟨hsub _ _ _ (R.pin p h).1,by
  rcases (R.pin p h).2 with hr0 | ⟨H1,h1⟩
  ·exact .inl ⟨hr0.1,(hle.z _ _ _ (R.pin p h).1).trans hr0.2⟩
  refine .inr ?_;by_cases e:0=d/\0=s.next
  ·exact ⟨H,by rw [<- e.1,<- e.2] at hnewo; exact hnewo⟩
  ·exact ⟨H1,hsubo _ _ _ e h1⟩⟩,R.kept.trans_below hb,R.base,fun t' n' S1 h=>?_,fun t' n' H1 h=>?_,fun t=>RepS.held hle hA hB _ _ (R.gen t),R.gann⟩,hnew,?_⟩
 ·obtain ⟨h0,b,cur,ty,h1,h2,h3,h8,h9⟩:=R.rows t' n' r hr;have hne:¬ (t'=d/\n'=s.next):=fun e=>by
   have hr':s.mem t' n'=some r:=hr;rw [e.1,e.2,hmemn] at hr'; cases hr'
  exact ⟨hsubo _ _ _ hne h0,b,cur,ty,hsub _ _ _ h1,(hb.block b (q0b h2)).trans h2,h3.held hle hA (fun _ _ h=>h),h8,h9.trans (hzz _).symm⟩
 ·rcases hf _ _ _ h with ⟨e1,e2,e⟩ | ⟨_,h⟩
  ·subst e;exact ⟨.inl (by omega),O.lt hat (O.main hat),.inr ⟨e2,.inr e1⟩⟩
  ·obtain ⟨h1,h2,h3⟩:=R.mine t' n' b h;exact ⟨h1,by omega,h3.imp id fun ⟨e,d⟩=>⟨e,.inl d⟩⟩
 ·rcases hf _ _ _ h with ⟨e1,e2,e⟩ | ⟨_,h⟩ <;> rcases hf _ _ _ h' with ⟨g1,g2,g⟩ | ⟨_,h'⟩
  ·exact ⟨e1.trans g1.symm,e2.trans g2.symm⟩
  ·have:=(R.mine _ _ _ h').2.1; omega
  ·have:=(R.mine _ _ _ h).2.1; omega
  ·exact R.inj t n t' n' b h h'
 ·obtain ⟨h1,h2,h3,h4,cur',h5,h6⟩:=R.tok k o h;exact ⟨h1,h2,h3,h4,cur',(hb.block _ (q0b h5)).trans h5,h6⟩
 ·obtain ⟨_,_,_,_,cur',h5,_⟩:=R.tok k o h;have hlt:=q0b h5;rcases hf _ _ _ h' with ⟨_,_,e⟩ | ⟨_,h'⟩
  ·omega
  ·exact R.apart k o t n h h'
 ·simp only [MSt.setObj] at h;split at h
  ·rename_i e;injection h with h;subst h;exact ⟨p,H,by rw [e.1,e.2]; exact hnew,by rw [e.1,e.2]; exact hnewo,hat,htie.keep hties fun x hx=>hx⟩
  ·rename_i e;obtain ⟨p1,H1,h1,h2,h3,h4⟩:=R.objs t' n' S1 h;exact ⟨p1,H1,hsub _ _ _ h1,hsubo _ _ _ e h2,O.keep h3 (fun b hb'=>hb.block b (O.lt h3 hb')) hsz,h4.keep hties fun x hx=>(hb.block _ (q0b hx)).trans hx⟩
 ·rcases ho _ _ _ h with ⟨e1,e2,e⟩ | ⟨_,h⟩
  ·subst e;refine ⟨fun b hb'=>⟨.inl (by have:=hH b hb'; omega),O.lt hat hb',fun t1 n1 h2=>?_,fun k o h2 e=>?_,fun t1 n1 H2 h2 h3=>?_⟩,.inr ⟨e2,.inr e1⟩⟩
   ·have:=hH b hb';rcases hf _ _ _ h2 with ⟨g1,g2,_⟩ | ⟨_,h2⟩
    ·exact ⟨g1.trans e1.symm,g2.trans e2.symm⟩
    ·have:=(R.mine _ _ _ h2).2.1; omega
   ·have:=hH b hb';obtain ⟨_,_,_,_,cur',h5,_⟩:=R.tok k o h2; have:=q0b h5; omega
   ·have:=hH b hb';rcases ho _ _ _ h2 with ⟨g1,g2,_⟩ | ⟨_,h2⟩
    ·exact ⟨g1.trans e1.symm,g2.trans e2.symm⟩
    ·have:=((R.obs _ _ _ h2).1 b h3).2.1; omega
  ·obtain ⟨h1,h2⟩:=R.obs t' n' H1 h;refine ⟨fun b hb'=>?_,h2.imp id fun ⟨e,d⟩=>⟨e,.inl d⟩⟩;obtain ⟨g1,g2,g3,g4,g5⟩:=h1 b hb';refine ⟨g1,by omega,fun t1 n1 h2=>?_,g4,fun t1 n1 H2 h2 h3=>?_⟩
   ·rcases hf _ _ _ h2 with ⟨_,_,e⟩ | ⟨_,h2⟩
    ·omega
    ·exact g3 t1 n1 h2
   ·rcases ho _ _ _ h2 with ⟨_,_,e⟩ | ⟨_,h2⟩
    ·subst e; have:=hH b h3; omega
    ·exact g5 t1 n1 H2 h2 h3
 ·refine Held.less fun b o h=>?_
  rcases h with h | h | h
  ·exact .inl (.inl h)
  ·rcases h with ⟨t',n',h⟩ | ⟨t',n',H1,h,h2⟩
   ·rcases hf _ _ _ h with ⟨_,_,e⟩ | ⟨_,h⟩
    ·subst e; exact .inr (O.main hat)
    ·exact .inl (.inr (.inl (.inl ⟨t',n',h⟩)))
   ·rcases ho _ _ _ h with ⟨_,_,e⟩ | ⟨_,h⟩
    ·subst e; exact .inr h2
    ·exact .inl (.inr (.inl (.inr ⟨t',n',H1,h,h2⟩)))
  ·exact .inl (.inr (.inr h))
theorem q96 {s:MSt} {cl:Cl}:∀ {xs:List Opd} {vs:List AV},q2M s cl xs=some vs->q6H vs=false
 | [],vs,h=>by injection h with h; subst h; rfl
 | x :: r,vs,h=>by
  unfold q2M at h;split at h
  ·rename_i v us hv hr;injection h with h;subst h;cases v with
   | undef =>
    exfalso;unfold q4V at hv;split at hv
    ·obtain ⟨_,_,hv⟩:=yh.1 hv; cases hv
    unfold lend at hv;split at hv
    ·split at hv
     ·obtain ⟨_,_,hv⟩:=yh.1 hv; cases hv
     ·cases hv
    ·injection hv with hv; cases hv
    ·injection hv with hv; cases hv
    ·split at hv
     ·injection hv with hv; cases hv
     ·cases hv
    ·split at hv
     ·rename_i hf; injection hv with hv; rw [hv] at hf; cases hf
     ·cases hv
   | _=>rfl
  ·cases h
theorem op_call (R:Rel P O nt B F0 av0 w0 D s a w ι Θ) {call:q1z} (hcall:∀ f args S r,call f args S=some r->q1Y P O f args S r) {f:FuncId} {Xs:Array Operand} {ts:Array TypeId} {xs:List Opd} (hx:opdL Xs.toList=some xs) (ho:o.op=.call { callee:=.value (.func f),args:=Xs,argTypes:=ts }) (hd:∀ d,o.dst=some d->d<nt) (hD:∀ d,o.dst=some d->¬ D d) {cl:Cl} {xe:Slot × Eff} (hr:(K.call cl f xs).run call s=some xe) {g} {s':MSt} (he:OpC.eff ⟨o.dst,.call cl f xs,g⟩ s xe=some s')
  {Kn:Act->World->Prop} {Q:Exit->Act->World->Prop} (hK:∀ a' w',RelE P O nt B F0 av0 w0 (fun t=>D t\/o.dst=some t) s' a' w'->Kn a' w'):o.wp P a w Kn Q:=by
 simp only [K.run] at hr;obtain ⟨vs,hl,hr⟩:=y9.1 hr;have he0:(Xs.toList.map a.eval).toArray=Xs.map a.eval:=by rw [<- Array.toList_map,yV]
 have run:∀ {S0:Option AV} {r:RV},CallOk0 P O f vs S0 r->(execOp a.eval o).run P w=.ok (.enter f (Xs.map a.eval)) w:=fun h=>by
  simp only [execOp,ho,resolve,Act.eval,Deferred.ofValue,Sem.run_bind,Sem.run_pure,Result.andThen_ok,invoke];have:=h.1 (#[]++Xs.map a.eval++#[]) w;simp only [Array.empty_append,Array.append_empty] at this ⊢;exact this
 have hlow:∀ b o,avA av0 ι Θ b o->b<w.heap.size:=fun b o h=>R.low h
 split at hr
 ·rename_i hnob;have nob:∀ x∈xs,∀ t n,x.get s=.ptr t n 0->False:=fun x hx t n h=>by
   have:(t,n)∈q6h s xs:=List.mem_filterMap.2 ⟨x,hx,by rw [h]⟩;rw [hnob] at this;cases this
  have hargs:=q5O (ι':=Ix.none) (avl:=fun _ _=>False) R (fun _ _ h=>h.elim) hx hl fun x hx t n h=>(nob x hx t n h).elim
  obtain ⟨r,hc,hr⟩:=y9.1 hr;have hok:=(q1Y.of (q96 hl)).1 (hcall f vs none r hc);obtain ⟨r1,r2⟩:=r;unfold Oper.wp;rw [run hok,Oper.upon_enter];cases r2 with
  | none =>
   simp only at hr;split at hr
   ·injection hr with hr;subst hr;simp only [OpC.eff] at he;injection he with he;subst he;have hC:=hok.2 (avA av0 ι Θ) w _ hlow hargs;rw [he0] at hC;refine hC.mono ?_;rintro e w' ⟨v,rfl,hv,hb⟩;have R':Rel P O nt B F0 av0 w0 D s a w' ι Θ:=R.grow (fun b hb'=>hb.block b hb') hb.size (R.kept.trans_below hb);exact hK _ _ ⟨ι,Θ,(R'.putN (x:=⟨_,.no⟩) hd (q7X hv) trivial).more fun _ h=>.inl h⟩
   ·cases hr
  | some S' =>
   simp only at hr;split at hr
   ·rename_i hback;injection hr with hr;subst hr;simp only [OpC.eff] at he;split at he
    ·cases he
    ·rename_i d hdst;injection he with he;subst he;have hC:=hok.2 (avA av0 ι Θ) w _ hlow hargs;rw [he0] at hC;refine hC.mono ?_;rintro e w' ⟨v,p,H',rfl,hv,hat,hH,hb⟩;obtain ⟨ι',R2,hι,hav⟩:=R.newObj (d:=d) hb (hD d hdst) hat (Tie.no hback.2.2) hH;rw [hdst];refine hK _ _ ⟨ι',Θ,(R2.put (x:=⟨_,.no⟩) (hd d hdst) (named_rep (RepN.held hav hv) hι hback.1) trivial).more fun t h=>h.imp id fun e=>by rw [hdst,e]⟩
   ·cases hr
 ·rename_i t n hone;obtain ⟨r,hc,hr⟩:=y9.1 hr;obtain ⟨r1,r2⟩:=r;cases r2 with
  | none=>cases hr
  | some S' =>
   simp only at hr;split at hr
   ·rename_i hcond;injection hr with hr;subst hr;simp only [OpC.eff] at he;injection he with he;subst he;obtain ⟨S,hS⟩:=Option.isSome_iff_exists.1 hcond.2.1;rw [hS] at hc;have hok:=(q1Y.of (q96 hl)).1 (hcall f vs (some S) _ hc);obtain ⟨p,H,hp,hob,hat,_⟩:=R.objs t n S hS;have hargs:=q5O (ι':=Ix.one p) (avl:=fun b _=>H b) R (fun b _ h=>⟨t,n,H,hob,h⟩) hx hl fun x hx t' n' h=>by
     have:(t',n')∈q6h s xs:=List.mem_filterMap.2 ⟨x,hx,by rw [h]⟩;rw [hone] at this;have:=List.mem_singleton.1 this;injection this with e1 e2;rw [e1,e2,hp];rfl
    unfold Oper.wp;rw [run hok,Oper.upon_enter];have hC:=hok.2 (avA av0 ι Θ) w _ p H hlow (fun b o h=>.inr (.inl (.inr ⟨t,n,H,hob,h⟩))) hat hargs;rw [he0] at hC;refine hC.mono ?_;rintro e w' ⟨v,H',rfl,hv,hat',hH,hk⟩;obtain ⟨ι',R',hav⟩:=R.turnObj hp hob hat' (Tie.no hcond.2.2) hH hk;refine hK _ _ ⟨ι',Θ,(R'.putN (x:=⟨_,.no⟩) hd (q7X (Rep.held hav _ _ hv)) trivial).more fun _ h=>.inl h⟩
   ·cases hr
 ·cases hr
theorem op_callv (R:Rel P O nt B F0 av0 w0 D s a w ι Θ) {call:q1z} (hcall:∀ f args S r,call f args S=some r->q1Y P O f args S r) {tf:Nat} {Xs:Array Operand} {ts:Array TypeId} {xs:List Opd} (hx:opdL Xs.toList=some xs) (ho:o.op=.call { callee:=.value (.tmp tf),args:=Xs,argTypes:=ts }) (hd:∀ d,o.dst=some d->d<nt) {cl:Cl} {xe:Slot × Eff} (hr:(K.callv cl (.t tf) xs).run call s=some xe) {g} {s':MSt} (he:OpC.eff ⟨o.dst,.callv cl (.t tf) xs,g⟩ s xe=some s')
  {Kn:Act->World->Prop} {Q:Exit->Act->World->Prop} (hK:∀ a' w',RelE P O nt B F0 av0 w0 (fun t=>D t\/o.dst=some t) s' a' w'->Kn a' w'):o.wp P a w Kn Q:=by
 simp only [K.run,Opd.get] at hr;have hF:=R.env tf;split at hr
 ·rename_i f cs hfn;rw [hfn] at hF;obtain ⟨us,hfv,hcs⟩:=hF;split at hr
  ·rename_i vs ws hl hw hnob;have hlow:∀ b o,avA av0 ι Θ b o->b<w.heap.size:=fun b o h=>R.low h
   have nob:∀ x∈xs,∀ t n,x.get s=.ptr t n 0->False:=fun x hx t n h=>by
    have:(t,n)∈q6h s xs:=List.mem_filterMap.2 ⟨x,hx,by rw [h]⟩;rw [hnob] at this;cases this
   have hargs:=q5O (ι':=Ix.none) (avl:=fun _ _=>False) R (fun _ _ h=>h.elim) hx hl fun x hx t n h=>(nob x hx t n h).elim
   have hcaps:=RepA_ofPL (lendPs_ok hw) (q9B (ι':=Ix.none) (avl:=fun _ _=>False) R (fun _ _ h=>h.elim) hcs hw);have hall:=RepA_append hargs hcaps;obtain ⟨r,hc,hr⟩:=y9.1 hr;have hm:q6H (vs++ws)=false:=by
    cases vs with
    | cons v r=>have:=q96 hl; cases v <;> first | rfl | exact this
    | nil =>
     cases ws with
     | nil=>rfl
     | cons v r =>
      have:=lendPs_ok hw v (yl);cases v <;> first | rfl | (simp [AV.capOk] at this; done)
   have hok:=(q1Y.of hm).1 (hcall f (vs++ws) none r hc);obtain ⟨r1,r2⟩:=r;cases r2 with
   | some S'=>cases hr
   | none =>
    simp only at hr;split at hr
    ·injection hr with hr;subst hr;simp only [OpC.eff] at he;injection he with he;subst he;have he0:(Xs.toList.map a.eval++us.toList).toArray=Xs.map a.eval++us:=by
      apply Array.ext';simp
     have run:(execOp a.eval o).run P w=.ok (.enter f (Xs.map a.eval++us)) w:=by
      have hev:a.eval (.tmp tf)=.func (.func f) #[] us:=hfv;simp only [execOp,ho,resolve,hev,Deferred.ofValue,Sem.run_bind,Sem.run_pure,Result.andThen_ok,invoke];have:=hok.1 (#[]++Xs.map a.eval++us) w;simp only [Array.empty_append] at this ⊢;exact this
     unfold Oper.wp;rw [run,Oper.upon_enter];have hC:=hok.2 (avA av0 ι Θ) w _ hlow hall;rw [he0] at hC;refine hC.mono ?_;rintro e w' ⟨v,rfl,hv,hb⟩;have R':Rel P O nt B F0 av0 w0 D s a w' ι Θ:=R.grow (fun b hb'=>hb.block b hb') hb.size (R.kept.trans_below hb);exact hK _ _ ⟨ι,Θ,(R'.putN (x:=⟨_,.no⟩) hd (q7X hv) trivial).more fun _ h=>.inl h⟩
    ·cases hr
  ·cases hr
 ·cases hr
theorem val_rstr (R:Rel P O nt B F0 av0 w0 D s a w ι Θ) {t t':TypeId} {k:IntKind} (ht:P.underlying t=some (.int k)) (ht':P.underlying t'=some .string) {X:Operand} {x:Opd} (hx:opd X=some x) (ho:o.op=.convert t t' X)
  {call} {y:Slot} {e:Eff} (hr:(K.rstr x).run call s=some (y,e)):e=.none/\Val P av0 a w ι Θ o y:=by
 have hX:=(R.opd hx).1;simp only [K.run] at hr;split at hr
 ·rename_i k' n hy;injection hr with hr; injection hr with h1 h2; subst h1; subst h2;rw [hy,q0C] at hX;exact ⟨rfl,.string (Utf8.encode n),by simp [execOp,ho,convert,run_underlying ht,run_underlying ht',hX,Conv.intToString],by rw [q3Q],trivial⟩
 ·cases hr
theorem qa8 {av:Av}:∀ {m:List (List AV)} {bs:List UInt8} {us:List Value},bytesOf m=some bs->RepL av w m.flatten us->∃ ns:List Int,us=ns.map (Value.int .u8)/\bs=ns.map (fun n=>UInt8.ofNat n.toNat)/\∀ c∈m,c.length=1
 | [],bs,us,hb,h=>by
  injection hb with hb;subst hb;cases h;exact ⟨[],rfl,rfl,by simp⟩
 | c :: r,bs,us,hb,h=>by
  unfold bytesOf at hb;split at hb
  ·rename_i n l hr;injection hb with hb;subst hb;simp only [yG,List.cons_append,List.nil_append,RepL] at h;obtain ⟨u,us',rfl,h0,_,h⟩:=h;obtain ⟨ns,e1,e2,e3⟩:=qa8 hr h;refine ⟨n :: ns,?_,by rw [e2]; rfl,?_⟩
   ·simp only [Rep] at h0;rw [h0,e1]; rfl
   ·intro c hc;rcases yj.1 hc with rfl | hc
    ·rfl
    ·exact e3 c hc
  ·cases hb
theorem push_fold:∀ (ns:List Int) (acc:ByteArray),ns.foldl (fun r n=>r.push (UInt8.ofNat n.toNat)) acc=⟨acc.data++(ns.map fun n=>UInt8.ofNat n.toNat).toArray⟩
 | [],acc=>by simp
 | n :: r,acc=>by
  rw [List.foldl_cons,push_fold r];congr 1;apply Array.ext';simp [ByteArray.push]
theorem val_bstr (R:Rel P O nt B F0 av0 w0 D s a w ι Θ) {t t' e':TypeId} (ht:P.underlying t=some (.slice e')) (he':P.underlying e'=some (.int .u8)) (ht':P.underlying t'=some .string) {X:Operand} {x:Opd} (hx:opd X=some x) (ho:o.op=.convert t t' X)
  {call} {cl:Cl} {y:Slot} {e:Eff} (hr:(K.bstr cl x).run call s=some (y,e)):e=.none/\Val P av0 a w ι Θ o y:=by
 have hX:=(R.opd hx).1;simp only [K.run] at hr;split at hr
 ·rename_i m hm;obtain ⟨bs,hbs,hr⟩:=yh.1 hr;injection hr with h1 h2; subst h1; subst h2;have hlen1:∀ c∈m,c.length=1:=by
   clear hX hm hr
   induction m generalizing bs with
   | nil=>simp
   | cons c r ih =>
    unfold bytesOf at hbs;split at hbs
    ·rename_i n l hr;intro c hc;rcases yj.1 hc with rfl | hc
     ·rfl
     ·exact ih l hr c hc
    ·cases hbs
  obtain ⟨us,hrep,hl,A,c,hv,hc,hcell⟩:=q6e R hX hm (sz:=1) (by omega) hlen1;obtain ⟨ns,e1,e2,_⟩:=qa8 hbs hrep;refine ⟨rfl,.string ⟨bs.toArray⟩,?_,by rw [q3Q],trivial⟩;have hns:ns.length=m.length:=by rw [e1] at hl; simpa using hl
  simp only [execOp,ho,hv,Sem.run_bind];rw [run_convert_bytes_string w t t' e' A m.length c ht he' ht'];cases A with
  | none =>
   rcases yE m.length with h0 | h0
   ·have:ns=[]:=yP (by omega);subst this;subst e2;simp [Conv.bytesToString];rfl
   ·obtain ⟨b,off,hA,_⟩:=hcell h0;cases hA
  | some a' =>
   have hld:(loadCells a' m.length).run P w=.ok (ns.map (Value.int .u8)).toArray w:=by
    have:=run_loadCells_list (P:=P) w a' (ns.map (Value.int .u8)) (fun j v hj=>by
     have hjl:j<m.length:=by
      have:=(ye.1 hj).1;simp at this;omega
     obtain ⟨b,off,hA,_,_,hcl⟩:=hcell (by omega);injection hA with hA;subst hA;rw [Addr.add_lit];rw [<- e1] at hj;exact hcl j v hj)
    simpa [hns] using this
   rw [run_bytesToString w a' m.length c ns hld,push_fold];simp only [Result.andThen_ok,Sem.run_pure,e2];congr 4;apply Array.ext';simp
 ·cases hr
theorem sliceAt_array {t e:TypeId} {z n:Nat} (ht:P.underlying t=some (.array n e)) (hz:q1T P e=some z) {b off:Nat} {L H:Option Operand} {l h:Nat} (hl:endOf a 0 L (L.map a.eval,l)) (hh:endOf a n H (H.map a.eval,h)) (h1:l<=h) (h2:h<=n) :
  (Instr.sliceAt t (.pointer (some ⟨b,off,none⟩)) (L.map a.eval) (H.map a.eval) none).run P w=.ok (.slice (some (if n=l then ⟨b,off,none⟩ else ⟨b,off + l * z,none⟩)) (h - l) (n - l)) w:=by
 cases L with
 | none =>
  obtain ⟨_,rfl⟩:=hl;cases H with
  | none =>
   obtain ⟨_,rfl⟩:=hh;simp [Instr.sliceAt,Instr.sureAddr,Instr.sliceBounds,run_underlying ht,q1m hz,Addr.add_lit]
  | some x =>
   obtain ⟨_,k,i,hx,h0,rfl⟩:=hh;have:0<=i/\i<=(n:Int):=⟨h0,by omega⟩;simp [Instr.sliceAt,Instr.sureAddr,Instr.sliceBounds,Instr.sliceBound,run_underlying ht,q1m hz,hx,asIntOf,this,Addr.add_lit]
 | some y =>
  obtain ⟨_,k',i',hy,h0',rfl⟩:=hl;cases H with
  | none =>
   obtain ⟨_,rfl⟩:=hh;have:0<=i'/\i'<=(h:Int):=⟨h0',by omega⟩;simp [Instr.sliceAt,Instr.sureAddr,Instr.sliceBounds,Instr.sliceBound,run_underlying ht,q1m hz,hy,asIntOf,this,Addr.add_lit]
  | some x =>
   obtain ⟨_,k,i,hx,h0,rfl⟩:=hh;have h3:0<=i/\i<=(n:Int):=⟨h0,by omega⟩;have h4:0<=i'/\i'<=i:=⟨h0',by omega⟩;have h5:((i.toNat:Nat):Int)=i:=by omega
   simp [Instr.sliceAt,Instr.sureAddr,Instr.sliceBounds,Instr.sliceBound,run_underlying ht,q1m hz,hy,hx,asIntOf,h3,h4,h5,Addr.add_lit]
theorem val_aslc (R:Rel P O nt B F0 av0 w0 D s a w ι Θ) {t e':TypeId} {n z:Nat} (ht:P.underlying t=some (.array n e')) (hz:q1T P e'=some z) {X:Operand} {L H:Option Operand} {x:Opd} {l h:Option Opd} (hx:opd X=some x) (hl:opdO L=some l) (hh:opdO H=some h)
  (ho:o.op=.slice t X L H none) {call} {cl:Cl} {y:Slot} {e:Eff} (hr:(K.aslc cl n z x l h).run call s=some (y,e)):e=.none/\Val P av0 a w ι Θ o y:=by
 have hX:=(R.opd hx).1;simp only [K.run] at hr;split at hr
 ·rename_i t' n' off hy;split at hr
  ·rename_i lo hi r hlo hhi hm;have hL:=q5U R hl hlo;have hH:=q5U R hh hhi;rw [hy,q38] at hX;obtain ⟨b,hb,hv⟩:=hX;obtain ⟨_,b',cur,ty,hb',hheap,hrow,_,hcz⟩:=R.rows t' n' r hm;rw [hb] at hb';injection hb' with hb';subst hb';split at hr
   ·rename_i hcond;obtain ⟨h1,h2,hz0,h3,_⟩:=hcond;have hrun:=sliceAt_array (w:=w) (b:=b) (off:=off) ht hz hL hH h1 h2;split at hr
    ·rename_i heq;injection hr with hr; injection hr with e1 e2; subst e1; subst e2;refine ⟨rfl,.slice (some (if n=lo then ⟨b,off,none⟩ else ⟨b,off + lo * z,none⟩)) (hi - lo) (n - lo),by simp only [execOp,ho,hv,Option.map_none,Sem.run_bind,hrun,Result.andThen_ok,Sem.run_pure],?_,trivial⟩;simp only [q2u,Rep];refine ⟨some (if n=lo then ⟨b,off,none⟩ else ⟨b,off + lo * z,none⟩),n - lo,by rw [heq]; simp,by simp,by simp,by simp,fun _=>⟨by simp,by simp⟩⟩
    ·rename_i hne;injection hr with hr; injection hr with e1 e2; subst e1; subst e2;refine ⟨rfl,.slice (some (if n=lo then ⟨b,off,none⟩ else ⟨b,off + lo * z,none⟩)) (hi - lo) (n - lo),by simp only [execOp,ho,hv,Option.map_none,Sem.run_bind,hrun,Result.andThen_ok,Sem.run_pure],?_,trivial⟩;rw [q3P];refine ⟨b,hb,by omega,n - lo,ym _,?_,by rw [if_neg (by omega)]⟩;have:(n - lo) * z + lo * z=n * z:=by rw [<- Nat.add_mul]; congr 1; omega
     have:=hrow.1;omega
   ·cases hr
  ·cases hr
 ·cases hr
theorem val_mkf (R:Rel P O nt B F0 av0 w0 D s a w ι Θ) {f:FuncId} {fs Xs:Array Operand} (hfs:fs.size=0) {xs:List Opd} (hx:opdL Xs.toList=some xs) (ho:o.op=.makeFunc (.func f) fs Xs)
  {call} {y:Slot} {e:Eff} (hr:(K.mkf f xs).run call s=some (y,e)):e=.none/\Val P av0 a w ι Θ o y:=by
 simp only [K.run] at hr;split at hr
 ·rename_i hall;injection hr with hr; injection hr with e1 e2; subst e1; subst e2;have key:∀ {Xs:List Operand} {xs:List Opd},opdL Xs=some xs->xs.all (fun x=>(x.get s).capOk)=true->q5F ι (avA av0 ι Θ) (avB ι Θ) w (xs.map (·.get s)) (Xs.map a.eval):=by
   intro Xs
   induction Xs with
   | nil=>intro xs h _; injection h with h; subst h; rfl
   | cons X r ih =>
    intro xs h hc;unfold opdL at h;split at h
    ·rename_i x l h1 h2;injection h with h;subst h;simp only [List.all_cons,yb] at hc;refine ⟨_,_,rfl,?_,ih h2 hc.2⟩;have hX:=(R.opd h1).1;have hk:=hc.1;show RepP ι (avA av0 ι Θ) (avB ι Θ) w (x.get s) (a.eval X);cases hg:x.get s <;> rw [hg] at hX hk <;> first | exact hX | (simp [AV.capOk] at hk; done)
    ·cases h
  have hfs0:fs=#[]:=Array.eq_empty_of_size_eq_zero hfs;refine ⟨rfl,.func (.func f) #[] (Xs.map a.eval),by simp [execOp,ho,Instr.makeFunc,hfs0],⟨Xs.map a.eval,rfl,?_⟩,trivial⟩;have:=key hx hall;simpa using this
 ·cases hr
theorem Rel.turnRow (R:Rel P O nt B F0 av0 w0 D s a w ι Θ) {t n b:Nat} (hb:ι t n=some b) (hno:ι.ob t n=none) {r:List Slot} {new:Array Value} {ty':TypeId} (hat:w'.heap[b]?=some (.cells new ty' (0,0))) (hk:Keep (fun k=>k=b) w w') (hrow:q2Q ι Θ (avA av0 ι Θ) w' r new) (hBb:B<=b\/F0.r b) (hnz:new.size=ι.z b) :
  Rel P O nt B F0 av0 w0 D (s.setRow t n r) a w' ι Θ:=by
 have hne:∀ b',b'<w.heap.size->b'≠b->w'.heap[b']?=w.heap[b']?:=fun b' h1 h=>hk.block b' h1 h
 have hB:Held (avB ι Θ) (avB ι Θ) w w':=⟨fun b' o u hc hn=>by
  have:b'≠b:=fun e=>hn (.inl (.inl ⟨t,n,e ▸ hb⟩))
  exact ⟨(World.cell?_of_block (w:=w) (a:=⟨b',o,none⟩) (hne b' (q56 hc) this)).trans hc,hn⟩⟩
 have hA:Held (avA av0 ι Θ) (avA av0 ι Θ) w w':=⟨fun b' o u hc hn=>by
  have:b'≠b:=fun e=>hn (.inr (.inl (.inl ⟨t,n,e ▸ hb⟩)))
  exact ⟨(World.cell?_of_block (w:=w) (a:=⟨b',o,none⟩) (hne b' (q56 hc) this)).trans hc,hn⟩⟩
 have hmine:=R.mine t n b hb;have hsz:=hk.size;refine ⟨R.defers,R.size,fun t=>RepS.held (Ix.Le.refl _) hA hB _ _ (R.env t),R.ann,fun t' n' r' hr=>?_,fun t n b h=>?_,R.inj,fun k o h=>?_,R.tinj,R.apart,R.out,R.pin,?_,R.base,fun t' n' S h=>?_,fun t n H h=>(R.obs t n H h).grow hsz,fun t=>RepS.held (Ix.Le.refl _) hA hB _ _ (R.gen t),R.gann⟩
 ·simp only [MSt.setRow] at hr;split at hr
  ·rename_i e;injection hr with hr;subst hr;exact ⟨by rw [e.1,e.2]; exact hno,b,new,ty',by rw [e.1,e.2]; exact hb,hat,hrow,hBb,hnz⟩
  ·rename_i e;obtain ⟨h0,b',cur',ty',h1,h2,h3,h4⟩:=R.rows t' n' r' hr;have:b'≠b:=fun e'=>e (R.inj _ _ _ _ _ (e' ▸ h1) hb)
   exact ⟨h0,b',cur',ty',h1,(hne b' (q0b h2) this).trans h2,h3.held (Ix.Le.refl _) hA (fun _ _ h=>h),h4⟩
 ·obtain ⟨h1,h2,h3⟩:=R.mine t n b h;exact ⟨h1,by omega,h3⟩
 ·obtain ⟨h1,h2,h3,h4,cur',h5,h6⟩:=R.tok k o h;have:o.g≠b:=fun e=>R.apart k o t n h (e ▸ hb)
  exact ⟨h1,h2,h3,h4,cur',(hne _ (q0b h5) this).trans h5,h6⟩
 ·refine R.kept.trans hk fun i hi h=>?_
  subst h;rcases hmine.1 with h | h
  ·have:=R.base; omega
  ·exact h
 ·obtain ⟨p,H,h1,h2,h3,h4⟩:=R.objs t' n' S h;have hnb:∀ b',H b'->b'≠b:=fun b' hH e=>by
   subst e;have:=((R.obs _ _ _ h2).1 _ hH).2.2.1 t n hb;rw [this.1,this.2,h2] at hno;cases hno
  exact ⟨p,H,h1,h2,O.keep h3 (fun b' hH=>hne b' (O.lt h3 hH) (hnb b' hH)) hsz,h4.keep (fun t n b H h g=>⟨h,H,g⟩) fun x hx=>(hne _ (q0b hx) (hnb _ (O.main h3))).trans hx⟩
theorem lendRs_rep (R:Rel P O nt B F0 av0 w0 D s a w ι Θ) {t n p z:Nat} (hp:ι t n=some p) (hz:ι.z p=z) {cl:Cl}:∀ {Xs:List Operand} {xs:List Opd} {vs:List AV},opdL Xs=some xs->q2n s cl t n xs=some vs->RepA (Ix.row p z) (avA av0 ι Θ) (fun b _=>b=p) w vs (Xs.map a.eval)
 | [],xs,vs,h,hl=>by
  injection h with h;subst h;injection hl with hl;subst hl;rfl
 | X :: Xs,xs,vs,h,hl=>by
  unfold opdL at h;split at h
  ·rename_i x l hx hr;injection h with h;subst h;unfold q2n at hl;split at hl
   ·rename_i v vs' hv hr';injection hl with hl;subst hl;refine ⟨_,_,rfl,?_,lendRs_rep R hp hz hr hr'⟩;have hX:=(R.opd hx).1;have hB:∀ (b o:Nat),b=p->avB ι Θ b o:=fun b o h=>.inl (.inl ⟨t,n,h ▸ hp⟩)
    unfold q5w at hv;split at hv
    ·rename_i t' n' off hg;split at hv
     ·rename_i e;injection hv with hv;subst hv;rw [hg,e.1,e.2] at hX;obtain ⟨b,hb,hv⟩:=q38.1 hX;rw [hp] at hb;injection hb with hb;subst hb;exact ⟨p,rfl,hv⟩
     ·cases hv
    ·rename_i t' n' sz off len cap hg;split at hv
     ·rename_i e;injection hv with hv;subst hv;rw [hg,e.1,e.2] at hX;obtain ⟨b,hb,h1,c,h2,h3,hv⟩:=q3P.1 hX;rw [hp] at hb;injection hb with hb;subst hb;exact ⟨p,rfl,h1,c,h2,by rw [hz] at h3; exact h3,hv⟩
     ·rename_i e;rw [hg] at hX;refine lend_rep0 R hB (fun t1 n1 b o hb1 _ ⟨sz1,off1,len1,cap1,hy⟩ h=>e ?_) hX hv fun t n h=>by cases h
      injection hy with e1 e2;subst h;exact R.inj _ _ _ _ _ (by rw [e1,e2]; exact hb1) hp
    ·rename_i f cs hg;split at hv
     ·rename_i hc;injection hv with hv;subst hv;rw [hg,List.isEmpty_iff.1 hc] at hX;exact hX
     ·cases hv
    ·rename_i y h1 h2 h3;exact lend_rep0 R hB (fun t1 n1 b o _ _ ⟨sz1,off1,len1,cap1,hy⟩=>absurd hy (h2 _ _ _ _ _ _)) hX hv fun t n h=>absurd h (h1 _ _ _)
   ·cases hl
  ·cases h
theorem row_ofz {av:Av} {cs:List AV} {us:List Value} (h:RepL av w cs us) {cur:Array Value} (hc:∀ (j:Nat) (u:Value),us[j]?=some u->cur[j]?=some u):q2Q ι Θ av w (cs.map fun v=>⟨v,q1y v⟩) cur:=by
 have h0:=row_of (ι:=ι) (Θ:=Θ) h hc;refine ⟨by simpa using h0.1,fun j x hx=>?_⟩;rw [yf] at hx;obtain ⟨v,hv,rfl⟩:=yh.1 hx;obtain ⟨u,h1,h2,h3,_⟩:=h0.2 j ⟨v,.no⟩ (by rw [yf,hv]; rfl);refine ⟨u,h1,h2,h3,?_⟩;unfold q1y;split
 ·rename_i b l hh;simp only at h3;obtain ⟨A,c,hv,_,_,hn,_⟩:=(by simpa [RepC,Rep] using h3:Rep av w (.sl true _) u);obtain ⟨rfl,e1,rfl⟩:=hn rfl;exact ⟨none,0,by rw [hv,e1]⟩
 ·trivial
theorem op_callr (R:Rel P O nt B F0 av0 w0 D s a w ι Θ) {call:q1z} (hcall:∀ f args S r,call f args S=some r->q1Y P O f args S r) {f:FuncId} {Xs:Array Operand} {ts:Array TypeId} {xs:List Opd} (hx:opdL Xs.toList=some xs) (ho:o.op=.call { callee:=.value (.func f),args:=Xs,argTypes:=ts }) (hd:∀ d,o.dst=some d->d<nt) {cl:Cl} {xe:Slot × Eff} (hr:(K.callr cl f xs).run call s=some xe) {g} {s':MSt} (he:OpC.eff ⟨o.dst,.callr cl f xs,g⟩ s xe=some s')
  {Kn:Act->World->Prop} {Q:Exit->Act->World->Prop} (hK:∀ a' w',RelE P O nt B F0 av0 w0 (fun t=>D t\/o.dst=some t) s' a' w'->Kn a' w'):o.wp P a w Kn Q:=by
 simp only [K.run] at hr;split at hr
 ·rename_i t n _;split at hr
  ·split at hr
   ·rename_i r vs hm hl;split at hr
    ·rename_i hall;obtain ⟨q,hc,hr⟩:=y9.1 hr;split at hr
     ·rename_i cs hq;split at hr
      ·rename_i hcond;injection hr with hr;subst hr;simp only [OpC.eff] at he;injection he with he;subst he;obtain ⟨q1,q2⟩:=q;simp only at hq;subst hq;obtain ⟨hno,p,cur,ty,hp,hheap,hrow,hBb,hcz⟩:=R.rows t n r hm;have hok:CallRow P f vs (some (.agg (r.map (·.v)))) (q1,some (.agg cs)):=hcall f (.undef :: .undef :: vs) _ _ hc;have hfree:∀ x∈r.map (·.v),x.free0=true:=fun x hx=>by
        obtain ⟨y,hy,rfl⟩:=yz.1 hx;exact y6.1 hall y hy
       have he0:(Xs.toList.map a.eval).toArray=Xs.map a.eval:=by rw [<- Array.toList_map,yV]
       have run:(execOp a.eval o).run P w=.ok (.enter f (Xs.map a.eval)) w:=by
        simp only [execOp,ho,resolve,Act.eval,Deferred.ofValue,Sem.run_bind,Sem.run_pure,Result.andThen_ok,invoke];have:=hok.1 (#[]++Xs.map a.eval++#[]) w;simp only [Array.empty_append,Array.append_empty] at this ⊢;exact this
       unfold Oper.wp;rw [run,Oper.upon_enter];have hC:=hok.2 (avA av0 ι Θ) w _ p cur ty (fun b o h=>R.low h) (fun o=>.inr (.inl (.inl ⟨t,n,hp⟩))) hheap (by simpa using hrow.1) (by simpa using q40 hrow.rep hfree) (lendRs_rep R hp hcz.symm hx hl);rw [he0] at hC;refine hC.mono ?_;rintro e w' ⟨v,cur',ty',rfl,hv,hheap',hsz,hrep,hk⟩;have hrow':q2Q ι Θ (avA av0 ι Θ) w' (cs.map fun v=>⟨v,q1y v⟩) cur':=row_ofz hrep fun j u hu=>by
        have hj:j<cs.length:=by
         have:=(ye.1 hu).1;rw [yD] at this;omega
        rw [List.getElem?_take_of_lt hj] at hu;simpa using hu
       have R':=R.turnRow hp hno hheap' hk hrow' hBb (hsz.trans hcz);exact hK _ _ ⟨ι,Θ,(R'.putN (x:=⟨_,.no⟩) hd (q7X hv) trivial).more fun _ h=>.inl h⟩
      ·cases hr
     ·cases hr
    ·cases hr
   ·cases hr
  ·cases hr
 ·cases hr
end
end
section
open Go Go.RowKit
section
variable {P:Program} {O:Objs} {nt B:Nat} {F0:Own} {av0:Av} {w0:World} {D:Nat->Prop} {s:MSt} {a:Act} {w w':World} {ι:Ix} {Θ:Fam} {o:Oper}
theorem q89 {av:Av} {x:AV} (h:x.scal=true):Rep av w x x.scalV/\x.scalV.oneCell'=true:=by
 cases x <;> first | (simp [AV.scal] at h; done) | exact ⟨rfl,rfl⟩
theorem scals_rep {av:Av}:∀ {cs:List AV},cs.all AV.scal=true->RepL av w cs (cs.map AV.scalV)
 | [],_=>rfl
 | x :: r,h=>by
  simp only [List.all_cons,yb] at h;exact ⟨_,_,rfl,(q89 h.1).1,(q89 (av:=av) (w:=w) h.1).2,scals_rep h.2⟩
theorem q85 {av:Av} {x:AV} (h:x.flat=true):Rep av w x x.flatV:=by
 cases x with
 | agg cs=>exact ⟨_,rfl,by simpa using scals_rep (av:=av) (w:=w) h⟩
 | int k n=>exact (q89 (x:=.int k n) rfl).1
 | bool b=>exact (q89 (x:=.bool b) rfl).1
 | str b=>exact (q89 (x:=.str b) rfl).1
 | _=>simp [AV.flat,AV.scal] at h
theorem flat_S {av avb:Av} {x:AV} (h:x.flat=true):RepS ι av avb w x x.flatV:=by
 have h1:=q85 (av:=av) (w:=w) h;cases x with
 | agg cs=>obtain ⟨us,hv,hc⟩:=h1; exact ⟨us,hv,q1U hc⟩
 | _=>first | exact h1 | (simp [AV.flat,AV.scal] at h; done)
theorem qb1 {av avb:Av} {x:AV} {v:Value} (hf:x.flat=true) (h:RepS ι av avb w x v):v=x.flatV:=by
 cases x with
 | agg cs =>
  obtain ⟨us,hv,hc⟩:=h;subst hv;have key:∀ {cs:List AV} {us:List Value},cs.all AV.scal=true->q0v ι av w cs us->us=cs.map AV.scalV:=by
   intro cs
   induction cs with
   | nil=>intro us _ h; simpa [q0v] using h
   | cons x r ih =>
    intro us hf h;simp only [q0v] at h;obtain ⟨u,us',rfl,h0,_,h⟩:=h;simp only [List.all_cons,yb] at hf;rw [yk,ih hf.2 h];congr 1;cases x <;> first | exact h0 | (simp [AV.scal] at hf; done)
  have:=key hf hc;show Value.agg us=.agg (cs.map AV.scalV).toArray;rw [<- this,yV]
 | int k n=>exact h
 | bool b=>exact h
 | str b=>exact h
 | _=>simp [AV.flat,AV.scal] at hf
theorem avC_flat {v:Value} {x:AV} (h:avC v=some x) (hf:x.flat=true):v=x.flatV :=
 qb1 (ι:=Ix.none) (av:=fun _ _=>False) (avb:=fun _ _=>False) (w:=default) hf (avC_rep h _ _ _ _)
theorem ba_beq (a b:ByteArray):(a == b)=decide (a=b):=by
 obtain ⟨a⟩:=a;obtain ⟨b⟩:=b;rw [Bool.eq_iff_iff];simp only [decide_eq_true_eq,ByteArray.mk.injEq];exact beq_iff_eq (α:=Array UInt8)
def q3N {κ:Type} [DecidableEq κ] (L:List (κ × Value)) (n:κ) (m:Nat):Option (Nat × Value):=((L.map (·.1)).idxOf? n).bind fun i=>(L[i]?).map fun p=>(m + i,p.2)
theorem q72 {κ:Type} [DecidableEq κ] (p:κ × Value) (L:List (κ × Value)) (n:κ) (m:Nat):q3N (p :: L) n m=if n=p.1 then some (m,p.2) else q3N L n (m + 1):=by
 unfold q3N;simp only [yk,List.idxOf?_cons];by_cases hk:n=p.1
 ·subst hk; simp
 ·have hb:(p.1 == n)=false:=by simpa using fun e:p.1=n=>hk e.symm
  simp only [hb,hk,if_false];cases hi:List.idxOf? n (List.map (fun x=>x.1) L) with
  | none=>simp
  | some i=>simp [Nat.add_assoc,Nat.add_comm 1 i]
theorem findNow_int (k:IntKind) (n:Int):∀ (es:List MapEntry) (L:List (Int × Value)) (m:Nat),es.map (fun e=>(e.key,e.val))=L.map (fun p=>(Value.int k p.1,p.2)) →
   Instr.findNow (.int k) (.int k n) es m=some (q3N L n m)
 | [],[],m,_=>by simp [Instr.findNow,q3N]
 | [],_ :: _,_,h=>by simp at h
 | _ :: _,[],_,h=>by simp at h
 | e :: es,p :: L,m,h=>by
  simp only [yk,List.cons.injEq,Prod.mk.injEq] at h;obtain ⟨⟨h1,h2⟩,h3⟩:=h;have ih:=findNow_int k n es L (m + 1) h3;have hs:Instr.sameNow (.int k) (.int k n) e.key=some (n == p.1):=by rw [h1]; simp [Instr.sameNow]
  simp only [Instr.findNow,hs,q72];by_cases hk:n=p.1
  ·subst hk; simp [h2]
  ·have hb':(n == p.1)=false:=by simpa using hk
   simp only [hb',ih,hk,if_false]
theorem findNow_str (n:ByteArray):∀ (es:List MapEntry) (L:List (ByteArray × Value)) (m:Nat),es.map (fun e=>(e.key,e.val))=L.map (fun p=>(Value.string p.1,p.2)) →
   Instr.findNow .string (.string n) es m=some (q3N L n m)
 | [],[],m,_=>by simp [Instr.findNow,q3N]
 | [],_ :: _,_,h=>by simp at h
 | _ :: _,[],_,h=>by simp at h
 | e :: es,p :: L,m,h=>by
  simp only [yk,List.cons.injEq,Prod.mk.injEq] at h;obtain ⟨⟨h1,h2⟩,h3⟩:=h;have ih:=findNow_str n es L (m + 1) h3;have hs:Instr.sameNow .string (.string n) e.key=some (decide (n=p.1)):=by
   rw [h1];simp only [Instr.sameNow,ba_beq]
  simp only [Instr.findNow,hs,q72];by_cases hk:n=p.1
  ·subst hk; simp [h2]
  ·simp only [hk,decide_false,ih,if_false]
theorem law_int {T:TypeId} {k:IntKind} (u:P.underlying T=some (.int k)):qa3 P T (fun n:Int=>Value.int k n) where
 check empty n w:=by
  have hq:∀ (d:Nat),(Instr.checkKey empty (d + 1) T (.int k n)).run P w=.ok () w:=fun d=>by simp [Instr.checkKey,run_underlying u]
  exact hq 9999
 find n es L w h:=by
  simp only [Instr.findKey,Sem.run_bind,run_underlying u,Result.andThen_ok,findNow_int k n es L 0 h,q3N,yy,Sem.run_pure]
 same n:=by
  have hq:∀ (d:Nat),Instr.sameBits (d + 1) (.int k n) (.int k n)=true:=fun d=>by simp [Instr.sameBits]
  exact hq 9999
theorem law_str {T:TypeId} (u:P.underlying T=some .string):qa3 P T Value.string where
 check empty n w:=by
  have hq:∀ (d:Nat),(Instr.checkKey empty (d + 1) T (.string n)).run P w=.ok () w:=fun d=>by simp [Instr.checkKey,run_underlying u]
  exact hq 9999
 find n es L w h:=by
  simp only [Instr.findKey,Sem.run_bind,run_underlying u,Result.andThen_ok,findNow_str n es L 0 h,q3N,yy,Sem.run_pure]
 same n:=by
  have hq:∀ (d:Nat),Instr.sameBits (d + 1) (.string n) (.string n)=true:=fun d=>by simp [Instr.sameBits,ba_beq]
  exact hq 9999
structure Keyed (ty:KTy) (κ:Type) [DecidableEq κ] (ke:κ->Value) (kx:κ->AV):Prop where
 val:∀ a,(kx a).flatV=ke a
 eq:∀ a b,keyEq (kx a) (kx b)=decide (a=b)
 of:∀ x,q6E ty x=true->∃ a,x=kx a
 flat:∀ a,(kx a).flat=true
section
variable {κ:Type} [DecidableEq κ] {ke:κ->Value} {kx:κ->AV} {ty:KTy}
theorem keyed_get (K:Keyed ty κ ke kx) (n:κ):∀ M:List (κ × AV),q6F (M.map fun p=>[kx p.1,p.2]) (kx n)=getA M n
 | []=>rfl
 | p :: r=>by
  simp only [yk,q6F,getA,K.eq,decide_eq_true_eq,keyed_get K n r];by_cases h:p.1=n
  ·rw [if_pos h,if_pos h.symm]
  ·rw [if_neg h,if_neg fun e=>h e.symm]
theorem keyed_set (K:Keyed ty κ ke kx) (n:κ) (v:AV):∀ M:List (κ × AV),q5Q (M.map fun p=>[kx p.1,p.2]) (kx n) v=(setA M n v).map fun p=>[kx p.1,p.2]
 | []=>rfl
 | p :: r=>by
  simp only [yk,q5Q,setA,K.eq,decide_eq_true_eq,keyed_set K n v r];by_cases h:p.1=n
  ·rw [if_pos h,if_pos h.symm]; rfl
  ·rw [if_neg h,if_neg fun e=>h e.symm]; rfl
theorem getA_val (g:AV->Value) (n:κ):∀ M:List (κ × AV),getA (M.map fun p=>(p.1,g p.2)) n=(getA M n).map g
 | []=>rfl
 | p :: r=>by
  simp only [yk,getA,getA_val g n r];split <;> rfl
theorem setA_val (g:AV->Value) (n:κ) (v:AV):∀ M:List (κ × AV),setA (M.map fun p=>(p.1,g p.2)) n (g v)=(setA M n v).map fun p=>(p.1,g p.2)
 | []=>rfl
 | p :: r=>by
  simp only [yk,setA,setA_val g n v r];split <;> rfl
theorem keyed_dec (K:Keyed ty κ ke kx):∀ L:List (List AV),q8l ty L=true->∃ M:List (κ × AV),L=M.map (fun p=>[kx p.1,p.2])/\∀ p∈M,p.2.flat=true
 | [],_=>⟨[],rfl,fun _ h=>by cases h⟩
 | e :: r,h=>by
  unfold q8l at h;simp only [List.all_cons,yb] at h;obtain ⟨M,hM,hf⟩:=keyed_dec K r h.2;have h1:=h.1;split at h1
  ·rename_i k v;simp only [yb] at h1;obtain ⟨n,rfl⟩:=K.of k h1.1;exact ⟨(n,v) :: M,by rw [hM]; rfl,fun p hp=>by
    rcases yj.1 hp with rfl | hp
    ·exact h1.2
    ·exact hf p hp⟩
  ·cases h1
theorem keyed_ent (K:Keyed ty κ ke kx) (M:List (κ × AV)):(M.map fun p=>[kx p.1,p.2]).map entV=(M.map fun p=>(p.1,p.2.flatV)).map fun p=>(ke p.1,p.2):=by
 rw [y4,y4];apply yq;intro p _;simp [entV,K.val]
end
theorem keyed_int (k:IntKind):Keyed (.some k) Int (fun n=>Value.int k n) (fun n=>.int k n) where
 val _:=rfl
 eq a b:=by simp [keyEq]
 of x h:=by
  cases x <;> first | (simp [q6E] at h; done) | (simp only [q6E,decide_eq_true_eq] at h; subst h; exact ⟨_,rfl⟩)
 flat _:=rfl
theorem keyed_str:Keyed .none ByteArray Value.string AV.str where
 val _:=rfl
 eq a b:=by simp [keyEq]
 of x h:=by
  cases x <;> first | (simp [q6E] at h; done) | exact ⟨_,rfl⟩
 flat _:=rfl
inductive KV where
 | i (k:IntKind) (n:Int)
 | s (b:ByteArray)
 deriving DecidableEq
def KV.av:KV->AV
 | .i k n=>.int k n
 | .s b=>.str b
def KV.kd:KV->Option IntKind
 | .i k _=>some k
 | .s _=>none
abbrev AKey (l:List (Option IntKind)):={ a:List KV // a.map KV.kd=l }
theorem keyEqs_kv:∀ a b:List KV,keyEqs (a.map KV.av) (b.map KV.av)=decide (a=b)
 | [],[]=>rfl
 | [],b :: r=>by cases b <;> rfl
 | a :: r,[]=>by cases a <;> rfl
 | a :: r,b :: r'=>by
  have ih:=keyEqs_kv r r';cases a <;> cases b <;> simp [KV.av,keyEqs,ih,Bool.decide_and]
theorem keyOks_kv:∀ (l:List (Option IntKind)) (cs:List AV),qai l cs=true->∃ a:List KV,a.map KV.kd=l/\cs=a.map KV.av
 | [],[],_=>⟨[],rfl,rfl⟩
 | [],_ :: _,h=>by simp [qai] at h
 | k :: r,[],h=>by cases k <;> simp [qai] at h
 | k :: r,c :: cs,h=>by
  cases k with
  | none =>
   cases c <;> simp only [qai] at h <;> first | (cases h; done) | skip
   rename_i b;obtain ⟨a,h1,h2⟩:=keyOks_kv r cs h;exact ⟨.s b :: a,by simp [KV.kd,h1],by simp [KV.av,h2]⟩
  | some k =>
   cases c <;> simp only [qai] at h <;> first | (cases h; done) | skip
   rename_i k' n;simp only [yb,decide_eq_true_eq] at h;obtain ⟨rfl,h⟩:=h;obtain ⟨a,h1,h2⟩:=keyOks_kv r cs h;exact ⟨.i k n :: a,by simp [KV.kd,h1],by simp [KV.av,h2]⟩
theorem kv_scal (a:List KV):(a.map KV.av).all AV.scal=true:=by
 simp only [List.all_map,y6];intro x _;cases x <;> rfl
theorem keyed_agg (l:List (Option IntKind)):Keyed (.agg l) (AKey l) (fun a=>.agg ((a.1.map KV.av).map AV.scalV).toArray) (fun a=>.agg (a.1.map KV.av)) where
 val _:=rfl
 eq a b:=by
  simp only [keyEq,keyEqs_kv];by_cases h:a.1=b.1
  ·rw [decide_eq_true h,decide_eq_true (Subtype.ext h)]
  ·rw [decide_eq_false h,decide_eq_false fun e=>h (congrArg Subtype.val e)]
 of x h:=by
  cases x <;> first | (simp [q6E] at h; done) | skip
  rename_i cs;obtain ⟨a,h1,h2⟩:=keyOks_kv l cs h;exact ⟨⟨a,h1⟩,by rw [h2]⟩
 flat a:=kv_scal a.1
theorem eqC_kv:∀ a b:List KV,a.map KV.kd=b.map KV.kd->eqC ((a.map KV.kd).map q6n) (a.map KV.av) (b.map KV.av)=some (decide (a=b))
 | [],[],_=>rfl
 | [],_ :: _,h=>by simp at h
 | _ :: _,[],h=>by simp at h
 | a :: r,b :: r',h=>by
  simp only [yk,List.cons.injEq] at h;have ih:=eqC_kv r r' h.2;cases a <;> cases b <;> simp only [KV.kd,reduceCtorEq,Option.some.injEq,false_and] at h
  ·obtain ⟨rfl,h⟩:=h;rename_i n m;by_cases e:n=m
   ·subst e; simp [KV.kd,KV.av,q6n,eqC,ih,-y4]
   ·simp [KV.kd,KV.av,q6n,eqC,e]
  ·rename_i n m;by_cases e:n=m
   ·subst e; simp [KV.kd,KV.av,q6n,eqC,ih,-y4]
   ·simp [KV.kd,KV.av,q6n,eqC,e]
theorem q8O {t:TypeId} {ks:List Nat} (h:tFlat P t=some ks):q4U P 8 t=some ks/\tAgg P t=some true:=by
 unfold tFlat at h;split at h
 ·cases h
 ·split at h
  ·rename_i htt; exact ⟨h,by simp [tAgg,htt]⟩
  ·rename_i htt; exact ⟨h,by simp [tAgg,htt]⟩
  ·cases h
theorem equal_kv {T:TypeId} {l:List (Option IntKind)} (ht:tFlat P T=some (l.map q6n)) (a b:AKey l) (w:World) :
  (Op.equal T (.agg ((a.1.map KV.av).map AV.scalV).toArray) (.agg ((b.1.map KV.av).map AV.scalV).toArray)).run P w=.ok (decide (a=b)) w:=by
 obtain ⟨hk,hA⟩:=q8O ht;have he:=eqC_kv a.1 b.1 (a.2.trans b.2.symm);rw [a.2] at he;have hd:decide (a.1=b.1)=decide (a=b):=by
  by_cases h:a.1=b.1
  ·rw [decide_eq_true h,decide_eq_true (Subtype.ext h)]
  ·rw [decide_eq_false h,decide_eq_false fun e=>h (congrArg Subtype.val e)]
 rw [hd] at he;have hl:∀ c:AKey l,q0v Ix.none (fun _ _=>False) w (c.1.map KV.av) (((c.1.map KV.av).map AV.scalV).toArray.toList.take (l.map q6n).length):=fun c=>by
  rw [yO (by simp [<- c.2])];exact q1U (scals_rep (kv_scal c.1))
 exact (whole_run (ι:=Ix.none) (av:=fun _ _=>False) (fun t ks h=>kindsT_eq 7 t ks h) 9992 hk hA (hl a) (hl b) he).2
theorem q7H (em:Bool) (w:World):∀ (n:Nat) (t:TypeId) (ks:List Nat),q4U P n t=some ks->∀ (d:Nat) (us:Array Value) (off:Nat),off + ks.length<=us.size->(∃ a,(part t us off).run P w=.ok a w/\(Instr.checkKey em (d + n) t a).run P w=.ok () w)/\(tAgg P t=some true->off=0->(Instr.checkKey em (d + n) t (.agg us)).run P w=.ok () w)
 | 0,_,_,h=>by cases h
 | n + 1,t,ks,hk=>by
  intro d us off hle;have whole:tAgg P t=some true->∀ vs:Array Value,ks.length<=vs.size->q1T P t=some ks.length/\(Instr.checkKey em (d + (n + 1)) t (.agg vs)).run P w=.ok () w:=by
   intro hA vs hvs;unfold q4U at hk;split at hk
   ·rename_i k hk1;unfold tAgg at hA;unfold tKind at hk1;split at hk1 <;> first | (cases hk1; done) | (rename_i ht _; rw [ht] at hA; injection hA with hA; cases hA) | (rename_i ht; rw [ht] at hA; injection hA with hA; cases hA)
   ·split at hk
    ·rename_i m e ht;obtain ⟨l,hl,hk⟩:=y9.1 hk;split at hk
     ·rename_i hc;injection hk with hk;subst hk;obtain ⟨i,hi⟩:=qah hc.2.1;refine ⟨hc.2.2,?_⟩;have hsz:i.size=l.length:=by
       have:=hc.2.1;simp only [q1T,hi,yt,Option.some.injEq] at this;exact this
      have hfl:(yF m l).flatten.length=m * l.length:=by simp
      rw [show d + (n + 1)=(d + n) + 1 from rfl,Instr.checkKey];simp only [Sem.run_bind,run_underlying ht,Result.andThen_ok];simp only [Std.Legacy.Range.forIn_eq_forIn_range',Std.Legacy.Range.size,Nat.sub_zero,Nat.add_one_sub_one,Nat.div_one];have each:∀ j∈List.range' 0 m,∃ a,(part e vs (j * P.cellsOf e)).run P w=.ok a w/\(Instr.checkKey em (d + n) e a).run P w=.ok () w:=fun j hj=>by
       have hjm:j<m:=by simpa using hj
       refine (q7H em w n e l hl d vs (j * P.cellsOf e) ?_).1;rw [hc.1,<- yB];rw [hfl] at hvs;exact yH (yW _ hjm) hvs
      generalize List.range' 0 m=is at each
      induction is with
      | nil=>simp
      | cons j is ih =>
       obtain ⟨a,p1,p2⟩:=each j (by simp);simp only [List.forIn_cons,Sem.run_bind,run_sizeOf w hi,Result.andThen_ok,p1,p2,Sem.run_pure];exact ih (fun y hy=>each y (by simp [hy]))
     ·cases hk
    ·rename_i fs ht;split at hk
     ·cases hk
     ·obtain ⟨l,hl,hk⟩:=y9.1 hk;split at hk
      ·rename_i hc;injection hk with hk;subst hk;refine ⟨hc,?_⟩;rw [show d + (n + 1)=(d + n) + 1 from rfl,Instr.checkKey];simp only [Sem.run_bind,run_underlying ht,Result.andThen_ok];rw [<- Array.forIn_toList];have go:∀ (L:List Field) (i:Nat) (l:List Nat),q9A (q4U P n) i L=some l->i + l.length<=vs.size->∀ f∈L,f.name≠"_"/\∃ a,(part f.type vs f.offset).run P w=.ok a w/\(Instr.checkKey em (d + n) f.type a).run P w=.ok () w:=by
        intro L
        induction L with
        | nil=>intro i l _ _ f hf; cases hf
        | cons g L ih =>
         intro i l hl hle f hf;unfold q9A at hl;obtain ⟨l1,h1,hl⟩:=y9.1 hl;split at hl
         ·rename_i hn;obtain ⟨l2,h2,rfl⟩:=yh.1 hl;rw [yu] at hle;rcases yj.1 hf with rfl | hf
          ·exact ⟨hn.1,(q7H em w n _ l1 h1 d vs f.offset (by rw [hn.2]; omega)).1⟩
          ·exact ih (i + l1.length) l2 h2 (by omega) f hf
         ·cases hl
       have each:=go fs.toList 0 l hl (by omega);clear go hl;generalize fs.toList=L at each
       induction L with
       | nil=>simp
       | cons f L ih =>
        obtain ⟨hn,a,p1,p2⟩:=each f (by simp);simp only [List.forIn_cons,Sem.run_bind,hn,ne_eq,not_false_eq_true,if_true,Result.andThen_ok,p1,p2,Sem.run_pure];exact ih (fun y hy=>each y (by simp [hy]))
      ·cases hk
    ·cases hk
  refine ⟨?_,fun hA h0=>(whole hA us (by omega)).2⟩;by_cases hA:tAgg P t=some true
  ·obtain ⟨h1,h2⟩:=whole hA (us.extract off (off + ks.length)) (by simp; omega);exact ⟨_,(q9Y hA h1 us off).1,h2⟩
  ·have hk':=hk;unfold q4U at hk;split at hk
   ·rename_i k hk1;injection hk with hk;subst hk;simp only [yK,List.length_nil] at hle;have hu:us[off]?=some us[off]:=yZ (by omega);have hp:=(tKind_eq (w:=w) 0 hk1 hu hu).1;refine ⟨_,hp,?_⟩;unfold tKind at hk1;rw [show d + (n + 1)=(d + n) + 1 from rfl];split at hk1
    ·rename_i ht _; simp [Instr.checkKey,run_underlying ht]
    ·rename_i ht _; simp [Instr.checkKey,run_underlying ht]
    ·rename_i ht _; simp [Instr.checkKey,run_underlying ht]
    ·cases hk1
   ·split at hk
    ·rename_i ht; exact absurd (by simp [tAgg,ht]) hA
    ·rename_i ht; exact absurd (by simp [tAgg,ht]) hA
    ·cases hk
theorem find_kv {T:TypeId} {l:List (Option IntKind)} (ht:tFlat P T=some (l.map q6n)) (a:AKey l) (w:World):∀ (es:List MapEntry) (L:List (AKey l × Value)) (m:Nat),es.map (fun e=>(e.key,e.val))=L.map (fun p=>(Value.agg ((p.1.1.map KV.av).map AV.scalV).toArray,p.2)) →
  (Instr.findAsking T (.agg ((a.1.map KV.av).map AV.scalV).toArray) es m).run P w=.ok (q3N L a m) w
 | [],[],m,_=>by simp [Instr.findAsking,q3N]
 | [],_ :: _,_,h=>by simp at h
 | _ :: _,[],_,h=>by simp at h
 | e :: es,p :: L,m,h=>by
  simp only [yk,List.cons.injEq,Prod.mk.injEq] at h;obtain ⟨⟨h1,h2⟩,h3⟩:=h;have ih:=find_kv ht a w es L (m + 1) h3;have he:=equal_kv (P:=P) ht a p.1 w;simp only [Instr.findAsking,Sem.run_bind,h1,he,Result.andThen_ok,q72,Sem.run_ite];by_cases hk:a=p.1
  ·simp [hk,h2]
  ·simp [hk,ih,-y4]
theorem law_agg {T:TypeId} {l:List (Option IntKind)} (ht:tFlat P T=some (l.map q6n)):qa3 P T (fun a:AKey l=>Value.agg ((a.1.map KV.av).map AV.scalV).toArray) where
 check empty a w:=by
  obtain ⟨hk,hA⟩:=q8O ht;exact (q7H empty w 8 T _ hk 9992 _ 0 (by simp [<- a.2])).2 hA rfl
 find a es L w h:=by
  have hu:∃ desc,P.underlying T=some desc/\∀ x e,Instr.sameNow desc (.agg x) e=none:=by
   obtain ⟨hk,hA⟩:=q8O ht;unfold tAgg at hA;cases hd:P.underlying T with
   | none=>rw [hd] at hA; cases hA
   | some desc =>
    refine ⟨desc,rfl,fun x e=>?_⟩;cases desc <;> rfl
  obtain ⟨desc,hu,hn⟩:=hu;cases es with
  | nil =>
   cases L with
   | nil=>simp [Instr.findKey,run_underlying hu,Instr.findNow]
   | cons=>simp at h
  | cons e es =>
   have:=find_kv ht a w (e :: es) L 0 h;simp only [Instr.findKey,Sem.run_bind,run_underlying hu,Result.andThen_ok,Instr.findNow,hn,this,q3N,yy]
 same a:=by
  have hq:∀ l:List KV,(((l.map KV.av).map AV.scalV).zip ((l.map KV.av).map AV.scalV)).all (fun (x,y)=>Instr.sameBits 9999 x y)=true:=by
   intro l
   induction l with
   | nil=>rfl
   | cons c r ih =>
    simp only [yk,List.zip_cons_cons,List.all_cons,ih,Bool.and_true];cases c <;> simp [KV.av,AV.scalV,Instr.sameBits,ba_beq]
  show Instr.sameBits (9999 + 1) _ _=true;simp only [Instr.sameBits,beq_self_eq_true,Bool.true_and];exact hq a.1
theorem zero_run {e:TypeId} {z:AV} (h:((P.info? e).bind (·.zero)).bind avC=some z) (w:World):∃ zv,(zeroValue e).run P w=.ok zv w/\avC zv=some z:=by
 obtain ⟨zv,h1,h2⟩:=y9.1 h;obtain ⟨i,hi,hz⟩:=y9.1 h1;exact ⟨zv,by simp [zeroValue,typeInfo,hi,hz],h2⟩
theorem map_read {κ:Type} [DecidableEq κ] {ke:κ->Value} {kx:κ->AV} {ty:KTy} (R:Rel P O nt B F0 av0 w0 D s a w ι Θ) (K:Keyed ty κ ke kx) {t n:Nat} {v:Value} (hv:RepS ι (avA av0 ι Θ) (avB ι Θ) w (.mp t n) v) {L:List (List AV)} (hL:(s.obj t n).bind q6G=some L) (hk:q8l ty L=true) :
  ∃ (b:Nat) (H:Nat->Prop) (M:List (κ × AV)),v=.map (some b)/\ι t n=some b/\ι.ob t n=some H/\(∀ x,H x ↔ x=b)/\L=M.map (fun p=>[kx p.1,p.2])/\(∀ p∈M,p.2.flat=true)/\qau ke w b (M.map fun p=>(p.1,p.2.flatV))/\∃ es clock,w.heap[b]?=some (.map es clock)/\Stamps es clock:=by
 obtain ⟨b,hb,rfl⟩:=hv;obtain ⟨S,hS,hm⟩:=y9.1 hL;obtain ⟨p,H,hp,hob,hat,_⟩:=R.objs t n S hS;rw [hb] at hp;injection hp with hp;subst hp;have hSL:S=q5P L:=by
  unfold q6G at hm;split at hm
  ·injection hm with hm; subst hm; rfl
  ·cases hm
 subst hSL;obtain ⟨hH,es,clock,he,hent,hst⟩:=(O.maps L H b w).1 hat;obtain ⟨M,rfl,hf⟩:=keyed_dec K L hk;exact ⟨b,H,M,rfl,hb,hob,hH,rfl,hf,⟨es,clock,he,hent.trans (keyed_ent K M)⟩,es,clock,he,hst⟩
theorem getA_flat {κ:Type} [DecidableEq κ]:∀ {M:List (κ × AV)} {n:κ} {x:AV},(∀ p∈M,p.2.flat=true)->getA M n=some x->x.flat=true
 | [],_,_,_,h=>by cases h
 | p :: r,n,x,hf,h=>by
  unfold getA at h;split at h
  ·injection h with h; subst h; exact hf p yl
  ·exact getA_flat (fun q hq=>hf q (yp _ hq)) h
theorem mget_gen {κ:Type} [DecidableEq κ] {ke:κ->Value} {kx:κ->AV} {ty:KTy} (R:Rel P O nt B F0 av0 w0 D s a w ι Θ) (K:Keyed ty κ ke kx) {T kT eT:TypeId} (KL:qa3 P kT ke) (hT:P.underlying T=some (.map kT eT)) {zero:AV} (hz:((P.info? eT).bind (·.zero)).bind avC=some zero) (hzf:zero.flat=true)
  {X I:Operand} {y i:Opd} (hx:opd X=some y) (hi:opd I=some i) {ok:Bool} (ho:o.op=.lookup T X I ok) {t n:Nat} (hy:y.get s=.mp t n) {L:List (List AV)} (hL:(s.obj t n).bind q6G=some L) (hk:q8l ty L=true) (hkey:q6E ty (i.get s)=true) :
  Val P av0 a w ι Θ o ⟨if ok then .tup [(q6F L (i.get s)).getD zero,.bool (q6F L (i.get s)).isSome] else (q6F L (i.get s)).getD zero,.no⟩:=by
 have hX:=(R.opd hx).1;have hI:=(R.opd hi).1;rw [hy] at hX;obtain ⟨b,H,M,hv,hb,hob,hH,rfl,hf,hat,_⟩:=map_read R K hX hL hk;obtain ⟨k,hkx⟩:=K.of _ hkey;rw [hkx] at hI ⊢;have hkf:(kx k).flat=true:=K.flat k;have hIv:a.eval I=ke k:=(qb1 hkf hI).trans (K.val k);obtain ⟨zv,hzr,hzc⟩:=zero_run hz w;have hzv:=avC_flat hzc hzf;rw [keyed_get K];have hres:(getA (M.map fun p=>(p.1,p.2.flatV)) k).getD zv=((getA M k).getD zero).flatV:=by
  rw [getA_val,hzv];cases getA M k <;> rfl
 have hflat:((getA M k).getD zero).flat=true:=by
  cases hg:getA M k with
  | none=>exact hzf
  | some x=>exact getA_flat hf hg
 cases ok with
 | false =>
  have hrun:=hat.lookup KL hT hzr k;rw [hres] at hrun;refine ⟨((getA M k).getD zero).flatV,by simp only [execOp,ho,hv,hIv,Sem.run_bind,hrun,Result.andThen_ok,Sem.run_pure],?_,trivial⟩;exact flat_S hflat
 | true =>
  have hrun:=hat.lookup_ok KL hT hzr k;rw [hres] at hrun;have hsome:(getA (M.map fun p=>(p.1,p.2.flatV)) k).isSome=(getA M k).isSome:=by rw [getA_val]; cases getA M k <;> rfl
  rw [hsome] at hrun;refine ⟨.tuple #[((getA M k).getD zero).flatV,.bool (getA M k).isSome],by simp only [execOp,ho,hv,hIv,Sem.run_bind,hrun,Result.andThen_ok,Sem.run_pure],?_,trivial⟩;refine ⟨_,rfl,_,_,rfl,?_,_,_,rfl,rfl,rfl⟩;exact q3R (q85 hflat)
theorem qau.updateS {κ:Type} [DecidableEq κ] {P:Program} {T kT eT:TypeId} {ke:κ->Value} {w:World} {m:Nat} {L:List (κ × Value)} (h:qau ke w m L) (K:qa3 P kT ke) (hT:P.underlying T=some (.map kT eT)) {es0:Array MapEntry} {cl0:Nat} (h0:w.heap[m]?=some (.map es0 cl0)) (hst:Stamps es0 cl0) (k:κ) (v:Value) :
  ∃ es clock,(Instr.mapUpdate T (.map (some m)) (ke k) v).run P w=.ok () { w with heap:=w.heap.setIfInBounds m (.map es clock) }/\es.toList.map (fun e=>(e.key,e.val))=(setA L k v).map (fun p=>(ke p.1,p.2))/\Stamps es clock:=by
 obtain ⟨es,clock,h1,h2⟩:=h;rw [h1] at h0;injection h0 with h0;injection h0 with e1 e2;subst e1;subst e2;obtain ⟨s1,s2⟩:=hst;have hg:(getObj m).run P w=.ok (.map es clock) w:=by simp [getObj,Sem.run,h1]
 have hf:=K.find k es.toList L w h2;have hi:=idx_set L k v;have hl:es.toList.length=L.length:=by simpa using congrArg List.length h2
 cases hq:(L.map (·.1)).idxOf? k with
 | none =>
  rw [hq] at hf hi;refine ⟨es.push { key:=ke k,val:=v,born:=clock },clock + 1,?_,by rw [hi]; simp [h2],by simp [s1],fun i h=>?_⟩
  case refine_2 =>
   simp only [Array.size_push] at h;simp only [Array.getElem_push];split
   ·exact s2 _ _
   ·show clock=i;omega
  case refine_1 =>
   simp only [Instr.mapUpdate,Sem.run_bind,run_underlying hT,Result.andThen_ok,hg,K.check,hf,Option.bind_none];simp [setObj,Sem.run,h1]
 | some i =>
  rw [hq] at hf hi;have hil:i<L.length:=by have:=List.idxOf?_eq_some_iff.1 hq; simpa using this.1
  have hk:(L[i]).1=k:=by have:=List.idxOf?_eq_some_iff.1 hq; simpa using this.2.1
  have hie:i<es.size:=by
   have:es.size=L.length:=by simpa using hl
   omega
  have hkey:(es[i]).key=ke k:=by
   have:=congrArg (fun l=>(l[i]?).map (·.1)) h2;simp only [yf,Array.getElem?_toList,yZ hie,yt,y7 hil,hk,Option.some.injEq] at this;exact this
  refine ⟨es.modify i fun e=>{ e with key:=ke k,val:=v },clock,?_,?_,by simp [s1],fun j h=>?_⟩
  case refine_3 =>
   simp only [Array.getElem_modify];split <;> exact s2 _ _
  case refine_1 =>
   have hL:L[i]?=some L[i]:=y7 hil;have he:es[i]?=some es[i]:=yZ hie;simp only [Instr.mapUpdate,Sem.run_bind,run_underlying hT,Result.andThen_ok,hg,K.check,hf,y0,hL,yt,he,Option.getD_some,hkey];simp [Instr.keyThatStays,K.same,setObj,Sem.run,h1]
  case refine_2 =>
   rw [hi];apply List.ext_getElem?;intro j;have hj:=congrArg (fun l=>l[j]?) h2;simp only [yf,Array.getElem?_toList] at hj;simp only [yf,Array.getElem?_toList,Array.getElem?_modify,List.getElem?_set];by_cases hij:i=j
   ·subst hij;simp [yZ hie,hil]
   ·simp only [if_neg hij];exact hj
theorem q87 {κ:Type} [DecidableEq κ] {ke:κ->Value} {kx:κ->AV} {ty:KTy} (R:Rel P O nt B F0 av0 w0 D s a w ι Θ) (K:Keyed ty κ ke kx) {T kT eT:TypeId} (KL:qa3 P kT ke) (hT:P.underlying T=some (.map kT eT))
  {X I Y:Operand} {x i y:Opd} (hx:opd X=some x) (hi:opd I=some i) (hyo:opd Y=some y) (ho:o.op=.mapUpdate T X I Y\/o.op=.insert T X I Y) (hd:∀ d,o.dst=some d->d<nt) {t n:Nat} (hxv:x.get s=.mp t n) {L:List (List AV)} (hL:(s.obj t n).bind q6G=some L) (hk:q8l ty L=true) (hkey:q6E ty (i.get s)=true) (hvf:(y.get s).flat=true) :
  ∃ w',(execOp a.eval o).run P w=.ok .skip w'/\RelE P O nt B F0 av0 w0 D ((s.setObj t n (q5P (q5Q L (i.get s) (y.get s)))).put o.dst ⟨.undef,.no⟩) (a.put o.dst undef) w':=by
 have hX:=(R.opd hx).1;have hI:=(R.opd hi).1;have hY:=qb1 hvf (R.opd hyo).1;rw [hxv] at hX;obtain ⟨b,H,M,hv,hb,hob,hH,rfl,hf,hat,es0,cl0,hes0,hst0⟩:=map_read R K hX hL hk;obtain ⟨k,hkx⟩:=K.of _ hkey;rw [hkx] at hI ⊢;have hkf:(kx k).flat=true:=K.flat k;have hIv:a.eval I=ke k:=(qb1 hkf hI).trans (K.val k);have hlt:=hat.lt;obtain ⟨es,clock,hrun,hent,hst⟩:=hat.updateS KL hT hes0 hst0 k (y.get s).flatV;rw [setA_val] at hent;have hat':O.at_ (q5P (q5Q (M.map fun p=>[kx p.1,p.2]) (kx k) (y.get s))) H b { w with heap:=w.heap.setIfInBounds b (.map es clock) }:=by
  refine (O.maps _ _ _ _).2 ⟨hH,es,clock,by simp [hlt],?_,hst⟩;rw [keyed_set K,keyed_ent K];exact hent
 have hkeep:Keep H w { w with heap:=w.heap.setIfInBounds b (.map es clock) }:=⟨rfl,rfl,rfl,by simp,fun j _ hn=>by
  have:j≠b:=fun e=>hn ((hH j).2 e)
  simp only [Array.getElem?_setIfInBounds];rw [if_neg fun e:b=j=>this e.symm]⟩
 obtain ⟨ι',R2,_⟩:=R.turnObj hb hob hat' (Tie.no rfl) (fun x hx=>.inl hx) hkeep;refine ⟨_,by rcases ho with ho | ho <;> simp only [execOp,ho,hv,hIv,hY,Sem.run_bind,hrun,Result.andThen_ok,Sem.run_pure],ι',Θ,R2.putN (x:=⟨.undef,.no⟩) hd trivial trivial⟩
theorem op_mkm (R:Rel P O nt B F0 av0 w0 D s a w ι Θ) {T:TypeId} (ho:o.op=.makeMap T none) {d:Nat} (hdst:o.dst=some d) (hd:d<nt) (hD:¬ D d) :
  ∃ v w',(execOp a.eval o).run P w=.ok (.value v) w'/\RelE P O nt B F0 av0 w0 (fun t=>D t\/t=d) ((s.setObj d s.next (q5P [])).put (some d) ⟨.mp d s.next,.no⟩) (a.put o.dst v) w':=by
 have hrun:(execOp a.eval o).run P w=.ok (.value (.map (some w.heap.size))) (w.alloc (.map #[] 0)):=by
  simp [execOp,ho,Instr.makeMap]
 have hb:Below w.heap.size w (w.alloc (.map #[] 0)):=Below.alloc (Below.refl _ _) (ym _) _;obtain ⟨ι',R2,hι,_⟩:=R.newObj (d:=d) (p:=w.heap.size) (H:=fun b=>b=w.heap.size) (S:=q5P []) hb hD ((O.maps _ _ _ _).2 ⟨fun b=>Iff.rfl,#[],0,new_at rfl,rfl,rfl,fun i h=>absurd h (by simp)⟩) (Tie.no rfl) (fun b h=>Nat.le_of_eq h.symm);rw [hdst];exact ⟨_,_,hrun,ι',Θ,R2.put (x:=⟨.mp d s.next,.no⟩) hd ⟨_,hι,rfl⟩ trivial⟩
theorem op_rng (R:Rel P O nt B F0 av0 w0 D s a w ι Θ) {T kT eT:TypeId} (hT:P.underlying T=some (.map kT eT)) {X:Operand} {x:Opd} (hx:opd X=some x) (ho:o.op=.range T X) {t n:Nat} (hxv:x.get s=.mp t n) {L:List (List AV)} (hL:(s.obj t n).bind q6G=some L) {d:Nat} (hdst:o.dst=some d) (hd:d<nt) (hD:¬ D d) :
  ∃ v w',(execOp a.eval o).run P w=.ok (.value v) w'/\RelE P O nt B F0 av0 w0 (fun t=>D t\/t=d) ((s.setObj d s.next (itAV t n L.length [])).put (some d) ⟨.ptr d s.next 0,.no⟩) (a.put o.dst v) w':=by
 have hX:=(R.opd hx).1;rw [hxv] at hX;obtain ⟨b,hb,hv⟩:=hX;obtain ⟨S,hS,hm⟩:=y9.1 hL;obtain ⟨p,H,hp,hob,hat,_⟩:=R.objs t n S hS;rw [hb] at hp;injection hp with hp;subst hp;have hSL:S=q5P L:=by
  unfold q6G at hm;split at hm
  ·injection hm with hm; subst hm; rfl
  ·cases hm
 subst hSL;obtain ⟨hH,es,clock,he,hent,hc,_⟩:=(O.maps L H b w).1 hat;have hlen:es.size=L.length:=by simpa using congrArg List.length hent
 have hg:(getObj b).run P w=.ok (.map es clock) w:=by simp [getObj,Sem.run,he]
 have hrun:(execOp a.eval o).run P w=.ok (.value (.pointer (some ⟨w.heap.size,0,none⟩))) (w.alloc (.mapIter (some b) clock #[] clock)):=by
  simp only [execOp,ho,hv,Instr.range,Sem.run_bind,run_underlying hT,Result.andThen_ok,hg,Sem.run_pure,run_newObj_alloc]
 have hbl:Below w.heap.size w (w.alloc (.mapIter (some b) clock #[] clock)):=Below.alloc (Below.refl _ _) (ym _) _;obtain ⟨ι',R2,hι,_⟩:=R.newObj (d:=d) (p:=w.heap.size) (H:=fun b=>b=w.heap.size) (S:=itAV t n L.length []) hbl hD ((O.iters _ _ _ _ (by rw [itOf_av]; rfl)).2 ⟨fun b=>Iff.rfl,by simp⟩) (fun tm nm N seen e=>by
  rw [itOf_av] at e;injection e with e;injection e with g1 e;injection e with g2 e;injection e with g3 g4;subst g1; subst g2; subst g3; subst g4;exact ⟨b,H,hb,hob,by rw [<- hlen,<- hc]; exact new_at rfl⟩) (fun b h=>Nat.le_of_eq h.symm)
 rw [hdst];exact ⟨_,_,hrun,ι',Θ,R2.put (x:=⟨.ptr d s.next 0,.no⟩) hd ⟨_,hι,rfl⟩ trivial⟩
theorem val_ent (R:Rel P O nt B F0 av0 w0 D s a w ι Θ) {X:Operand} {x:Opd} (hx:opd X=some x) (ho:o.op=.entry X) {t n tm nm N:Nat} {seen:List Nat} (hxv:x.get s=.ptr t n 0) (hi:(s.obj t n).bind itOf=some (tm,nm,N,seen)) {L:List (List AV)} (hL:(s.obj tm nm).bind q6G=some L) {i:Nat} (hl:seen.getLast?=some i) (hN:L.length=N) {y v:AV} (hyv:L[i]?=some [y,v]) (hfl:(y.flat&&v.flat)=true) :
  Val P av0 a w ι Θ o ⟨.tup [y,v],.no⟩:=by
 have hX:=(R.opd hx).1;rw [hxv] at hX;obtain ⟨q,hq,hv⟩:=hX;obtain ⟨S,hS,hit⟩:=y9.1 hi;obtain ⟨p,H,hp,hob,hat,htie⟩:=R.objs t n S hS;rw [hq] at hp;injection hp with hp;subst hp;obtain ⟨m,Hm,hm,hobm,hheap⟩:=htie tm nm N seen hit;obtain ⟨S2,hS2,hmo⟩:=y9.1 hL;obtain ⟨p2,H2,hp2,hob2,hat2,_⟩:=R.objs tm nm S2 hS2;rw [hm] at hp2;injection hp2 with hp2;subst hp2;have hSL:S2=q5P L:=by
  unfold q6G at hmo;split at hmo
  ·injection hmo with hmo; subst hmo; rfl
  ·cases hmo
 subst hSL;obtain ⟨hH2,es,clock,he,hent,hc,hst⟩:=(O.maps L H2 m w).1 hat2;have hes:es.size=N:=by rw [<- hN]; simpa using congrArg List.length hent
 have hgq:(getObj q).run P w=.ok (.mapIter (some m) N seen.toArray N) w:=by simp [getObj,Sem.run,hheap]
 have hgm:(getObj m).run P w=.ok (.map es clock) w:=by simp [getObj,Sem.run,he]
 have hiN:i<es.size:=by
  have:=(ye.1 hyv).1;omega
 have hback:seen.toArray.back?=some i:=by simpa using hl
 have hfind:es.find? (fun e=>e.born == i)=some es[i]:=by
  rw [Array.find?_eq_some_iff_getElem];refine ⟨by simp [hst i hiN],i,hiN,rfl,fun j hj=>?_⟩;simp only [hst j (by omega),Bool.not_eq_true'];simp;omega
 have hkv:es[i].key=y.flatV/\es[i].val=v.flatV:=by
  have:=congrArg (fun l=>l[i]?) hent;simp only [yf,hyv,Array.getElem?_toList,yZ hiN,yt,Option.some.injEq,entV] at this;exact ⟨congrArg Prod.fst this,congrArg Prod.snd this⟩
 rw [yb] at hfl;have hcl:(clock != N)=false:=by simp [hc,hes]
 refine ⟨.tuple #[y.flatV,v.flatV],?_,?_,trivial⟩
 ·simp only [execOp,ho,hv,Instr.entry,Sem.run_bind,hgq,hgm,hback,Result.andThen_ok,hcl,yr,if_false,hfind,hkv.1,hkv.2,Sem.run_pure]
 ·exact ⟨_,rfl,_,_,rfl,q3R (q85 hfl.1),_,_,rfl,q3R (q85 hfl.2),rfl⟩
theorem avOf_nilP {v:Value} (h:avOf v=some .nilP):v=.pointer none:=by
 unfold avOf at h;split at h <;> first | rfl | (injection h with h; cases h; done) | (cases h; done)
theorem avOf_nil {v:Value} (h:avOf v=some (.sl true [])):v=.slice none 0 0:=by
 unfold avOf at h;split at h <;> first | rfl | (injection h with h; cases h; done) | (cases h; done)
theorem isBld_eq {l:List AV} (h:isBld l=true):l=[.nilP,.sl true []]:=by
 unfold isBld at h;split at h
 ·rfl
 ·cases h
theorem avAll_bld {vs:List Value} (h:q7w vs=some [.nilP,.sl true []]):vs=[.pointer none,.slice none 0 0]:=by
 cases vs with
 | nil=>cases h
 | cons v r =>
  simp only [q7w] at h;split at h
  ·rename_i x l hx hl;injection h with h;injection h with h1 h2;subst h1;subst h2;cases r with
   | nil=>cases hl
   | cons v' r' =>
    simp only [q7w] at hl;split at hl
    ·rename_i x' l' hx' hl';injection hl with hl;injection hl with h1 h2;subst h1;subst h2;cases r' with
     | nil=>rw [avOf_nilP hx,avOf_nil hx']
     | cons v'' r'' =>
      simp only [q7w] at hl';split at hl' <;> cases hl'
    ·cases hl
  ·cases h
theorem op_mkb (R:Rel P O nt B F0 av0 w0 D s a w ι Θ) {T e:TypeId} (hel:bldEl P T=some e) (ho:o.op=.alloc T) {d:Nat} (hdst:o.dst=some d) (hd:d<nt) (hD:¬ D d) :
  ∃ v w',(execOp a.eval o).run P w=.ok (.value v) w'/\RelE P O nt B F0 av0 w0 (fun t=>D t\/t=d) ((s.setObj d s.next (bldAV T e ⟨#[]⟩)).put (some d) ⟨.ptr d s.next 0,.no⟩) (a.put o.dst v) w':=by
 obtain ⟨l,hl,hb⟩:∃ l,q7V P T=some l/\isBld l=true:=by
  unfold bldEl at hel;split at hel
  ·rename_i h; exact yh.1 h
  ·cases hel
 obtain ⟨z,i,hi,hiz,hrz,hzl⟩:=q3l hl w;rw [isBld_eq hb] at hzl;have hzc:z.cells=#[.pointer none,.slice none 0 0]:=by
  apply Array.ext';exact avAll_bld hzl
 have hrun:(execOp a.eval o).run P w=.ok (.value (.pointer (some ⟨w.heap.size,0,none⟩))) (w.alloc (.cells #[.pointer none,.slice none 0 0] T)):=by
  simp [execOp,ho,Instr.alloc,newVar,newRow,hrz,hzc]
 have hb:Below w.heap.size w (w.alloc (.cells #[.pointer none,.slice none 0 0] T)):=Below.alloc (Below.refl _ _) (ym _) _;obtain ⟨ι',R2,hι,_⟩:=R.newObj (d:=d) (p:=w.heap.size) (H:=fun b=>b=w.heap.size) (S:=bldAV T e ⟨#[]⟩) hb hD ((O.blds _ _ _ _ _ _).2 ⟨.slice none 0 0,.pointer none,new_at rfl,.inl rfl,World.ownsRowF_nil _ _ _ _,by simp [Value.ownBlock],fun b=>by simp [Value.ownBlock]⟩) (Tie.no rfl) (fun b h=>Nat.le_of_eq h.symm);rw [hdst];exact ⟨_,_,hrun,ι',Θ,R2.put (x:=⟨.ptr d s.next 0,.no⟩) hd ⟨_,hι,rfl⟩ trivial⟩
theorem op_mlen (R:Rel P O nt B F0 av0 w0 D s a w ι Θ) {T:TypeId} {kT eT:TypeId} (hT:P.underlying T=some (.map kT eT)) {X:Operand} {x:Opd} (hx:opd X=some x) (ho:o.op=.call { callee:=.builtin .len,args:=#[X],argTypes:=#[T] }) {t n:Nat} (hxv:x.get s=.mp t n) {L:List (List AV)} (hL:(s.obj t n).bind q6G=some L) :
  Val P av0 a w ι Θ o ⟨.int .i64 L.length,.no⟩:=by
 have hX:=(R.opd hx).1;rw [hxv] at hX;obtain ⟨b,hb,hv⟩:=hX;obtain ⟨S,hS,hm⟩:=y9.1 hL;obtain ⟨p,H,hp,hob,hat,_⟩:=R.objs t n S hS;rw [hb] at hp;injection hp with hp;subst hp;have hSL:S=q5P L:=by
  unfold q6G at hm;split at hm
  ·injection hm with hm; subst hm; rfl
  ·cases hm
 subst hSL;obtain ⟨hH,es,clock,he,hent,_⟩:=(O.maps L H b w).1 hat;have hlen:es.size=L.length:=by simpa using congrArg List.length hent
 have hg:(getObj b).run P w=.ok (.map es clock) w:=by simp [getObj,Sem.run,he]
 refine ⟨.int .i64 L.length,?_,by rw [q0C],trivial⟩;simp [execOp,ho,resolve,invoke,builtin,Builtin.len_,run_underlying hT,hv,hg,goInt,hlen]
theorem Rel.turnNew (R:Rel P O nt B F0 av0 w0 D s a w ι Θ) {t n p:Nat} {H H':Nat->Prop} {S':AV} (hp:ι t n=some p) (hob:ι.ob t n=some H) (hat:O.at_ S' H' p w') (htie:Tie ι S' p w') (hH:∀ b,H' b->H b\/w.heap.size<=b) (hk:Keep H w w')
  {d g:Nat} (hD:¬ D d) (hg:w.heap.size<=g) (hgH:¬ H' g) {cur:Array Value} {ty:TypeId} (hgw:w'.heap[g]?=some (.cells cur ty (0,0))) {l:List AV} (hl:l.all AV.scal=true) (hcur:∀ (j:Nat) (x:AV),l[j]?=some x->cur[j]?=some x.scalV) (hcs:l.length<=cur.size) :
  ∃ ι':Ix,Rel P O nt B F0 av0 w0 (fun j=>D j\/j=d) ((s.setObj t n S').setRow d s.next (l.map (⟨·,.no⟩))) a w' ι' Θ/\ι' d s.next=some g/\ι'.z g=cur.size:=by
 obtain ⟨hob1,hob2⟩:=R.obs t n H hob;have hgl:=q0b hgw;have hfresh:ι d s.next=none:=by
  cases h:ι d s.next with
  | none=>rfl
  | some b =>
   rcases (R.mine _ _ _ h).2.2 with h1 | h1
   ·omega
   ·exact absurd h1.2 hD
 have hfresh':ι.ob d s.next=none:=by
  cases h:ι.ob d s.next with
  | none=>rfl
  | some b =>
   rcases (R.obs _ _ _ h).2 with h1 | h1
   ·omega
   ·exact absurd h1.2 hD
 have hnd:¬ (t=d/\n=s.next):=fun e=>by rw [e.1,e.2,hfresh] at hp; cases hp
 obtain ⟨ι',hι'⟩:∃ ι':Ix,ι'=⟨fun t' n'=>if t'=d/\n'=s.next then some g else ι t' n',fun t' n'=>if t'=t/\n'=n then some H' else ι.ob t' n',fun b=>if b=g then cur.size else ι.z b⟩:=⟨_,rfl⟩;have hf:∀ t' n' b,ι' t' n'=some b->(t'=d/\n'=s.next/\b=g)\/(¬ (t'=d/\n'=s.next)/\ι t' n'=some b):=fun t' n' b h=>by
  subst hι';have h':(if t'=d/\n'=s.next then some g else ι t' n')=some b:=h;split at h'
  ·rename_i e; injection h' with h'; exact .inl ⟨e.1,e.2,h'.symm⟩
  ·rename_i e; exact .inr ⟨e,h'⟩
 have hobq:∀ t' n' H1,ι'.ob t' n'=some H1->(t'=t/\n'=n/\H1=H')\/(¬ (t'=t/\n'=n)/\ι.ob t' n'=some H1):=fun t' n' H1 h=>by
  subst hι';simp only at h;split at h
  ·rename_i e; injection h with h; exact .inl ⟨e.1,e.2,h.symm⟩
  ·rename_i e; exact .inr ⟨e,h⟩
 have hsub:∀ t n b,ι t n=some b->ι' t n=some b:=fun t n b h=>by
  subst hι';show (if t=d/\n=s.next then some g else ι t n)=some b;split
  ·rename_i e; rw [e.1,e.2,hfresh] at h; cases h
  ·exact h
 have hnew:ι' d s.next=some g:=by subst hι'; show (if d=d/\s.next=s.next then some g else ι d s.next)=_; rw [if_pos ⟨rfl,rfl⟩]
 have hobt:ι'.ob t n=some H':=by subst hι'; simp
 have hobn:∀ t' n',¬ (t'=t/\n'=n)->ι'.ob t' n'=ι.ob t' n':=fun t' n' e=>by subst hι'; simp only [if_neg e]
 have hzg:ι'.z g=cur.size:=by subst hι'; simp
 have hties:∀ t1 n1 b1 H1,ι t1 n1=some b1->ι.ob t1 n1=some H1->ι' t1 n1=some b1/\∃ H2,ι'.ob t1 n1=some H2:=fun t1 n1 b1 H1 g1 g2=>⟨hsub _ _ _ g1,by
  by_cases e:t1=t/\n1=n
  ·exact ⟨H',by rw [e.1,e.2]; exact hobt⟩
  ·exact ⟨H1,by rw [hobn _ _ e]; exact g2⟩⟩
 have hle:Ix.Le ι ι':=⟨hsub,fun t n b h=>by
  have:=(R.mine t n b h).2.1;subst hι';show (if b=g then cur.size else ι.z b)=ι.z b;rw [if_neg (by omega)]⟩
 clear hι';have hsz:=hk.size;have hBle:=R.lowB;have hBx:∀ b o,b<w.heap.size->avB ι' Θ b o->avB ι Θ b o:=fun b o hb h=>h.imp (fun h=>h.imp (fun ⟨t',n',h⟩=>by
  rcases hf _ _ _ h with ⟨_,_,e⟩ | ⟨_,h⟩
  ·omega
  ·exact ⟨t',n',h⟩) fun ⟨t',n',H1,h1,h2⟩=>by
  rcases hobq _ _ _ h1 with ⟨e1,e2,e3⟩ | ⟨_,h1⟩
  ·subst e3;rcases hH b h2 with h3 | h3
   ·exact ⟨t,n,H,hob,h3⟩
   ·omega
  ·exact ⟨t',n',H1,h1,h2⟩) id
 have hcell:∀ b o u,w.cell? ⟨b,o,none⟩=some u->¬ H b->w'.cell? ⟨b,o,none⟩=some u:=fun b o u hc hn=>(World.cell?_of_block (w:=w) (a:=⟨b,o,none⟩) (hk.block b (q56 hc) hn)).trans hc
 have hB:Held (avB ι Θ) (avB ι' Θ) w w':=⟨fun b o u hc hn=>⟨hcell b o u hc fun h=>hn (.inl (.inr ⟨t,n,H,hob,h⟩)),fun h=>hn (hBx b o (q56 hc) h)⟩⟩;have hA:Held (avA av0 ι Θ) (avA av0 ι' Θ) w w':=⟨fun b o u hc hn=>⟨hcell b o u hc fun h=>hn (.inr (.inl (.inr ⟨t,n,H,hob,h⟩))),fun h=>hn (h.imp id (hBx b o (q56 hc)))⟩⟩;refine ⟨ι',⟨R.defers,R.size,fun j=>RepS.held hle hA hB _ _ (R.env j),R.ann,fun t' n' r hr=>?_,fun t' n' b h=>?_,fun t1 n1 t2 n2 b h h'=>?_,fun k o h=>?_,R.tinj,fun k o t' n' h h'=>?_,R.out,fun p' h=>⟨hsub _ _ _ (R.pin p' h).1,?_⟩,?_,R.base,fun t' n' S1 h=>?_,fun t' n' H1 h=>?_,fun j=>RepS.held hle hA hB _ _ (R.gen j),R.gann⟩,hnew,hzg⟩
 ·simp only [MSt.setRow] at hr;split at hr
  ·rename_i e;injection hr with hr;subst hr;have hoo:ι'.ob t' n'=none:=by
    rw [hobn t' n' (fun e'=>hnd ⟨e'.1.symm.trans e.1,e'.2.symm.trans e.2⟩),e.1,e.2];exact hfresh'
   refine ⟨hoo,g,cur,ty,by rw [e.1,e.2]; exact hnew,hgw,⟨by simpa using hcs,fun j x hx=>?_⟩,by omega,hzg.symm⟩;rw [yf] at hx;cases hj:l[j]? with
   | none=>rw [hj] at hx; cases hx
   | some y =>
    rw [hj] at hx;injection hx with hx;subst hx;have hy:=y6.1 hl y (yo hj);have hr:=q89 (av:=avA av0 ι' Θ) (w:=w') hy;exact ⟨_,hcur j y hj,hr.2,q5E hr.1,trivial⟩
  ·have hr':s.mem t' n'=some r:=hr;obtain ⟨h0,b,cur',ty',h1,h2,h3,h8,h9⟩:=R.rows t' n' r hr';have hne:¬ (t'=t/\n'=n):=fun e=>by rw [e.1,e.2,hob] at h0; cases h0
   have hbn:¬ H b:=fun hb=>hne ((hob1 b hb).2.2.1 t' n' h1)
   exact ⟨by rw [hobn _ _ hne]; exact h0,b,cur',ty',hsub _ _ _ h1,(hk.block b (q0b h2) hbn).trans h2,h3.held hle hA (fun _ _ h=>h),h8,h9.trans (hle.z _ _ _ h1).symm⟩
 ·rcases hf _ _ _ h with ⟨e1,e2,e3⟩ | ⟨_,h⟩
  ·subst e3;exact ⟨.inl (by omega),hgl,.inr ⟨e2,.inr e1⟩⟩
  ·obtain ⟨h1,h2,h3⟩:=R.mine t' n' b h;exact ⟨h1,by omega,h3.imp id fun ⟨e,d⟩=>⟨e,.inl d⟩⟩
 ·rcases hf _ _ _ h with ⟨e1,e2,e3⟩ | ⟨_,h⟩ <;> rcases hf _ _ _ h' with ⟨f1,f2,f3⟩ | ⟨_,h'⟩
  ·exact ⟨e1.trans f1.symm,e2.trans f2.symm⟩
  ·have:=(R.mine _ _ _ h').2.1; omega
  ·have:=(R.mine _ _ _ h).2.1; omega
  ·exact R.inj _ _ _ _ _ h h'
 ·obtain ⟨h1,h2,h3,h4,cur',h5,h6⟩:=R.tok k o h;exact ⟨h1,h2,h3,h4,cur',(hk.block _ (q0b h5) (R.apob h hob)).trans h5,h6⟩
 ·obtain ⟨_,_,_,_,cur',h5,_⟩:=R.tok k o h;have hlt:=q0b h5;rcases hf _ _ _ h' with ⟨_,_,e⟩ | ⟨_,h'⟩
  ·omega
  ·exact R.apart k o t' n' h h'
 ·rcases (R.pin p' h).2 with hr0 | ⟨H1,h1⟩
  ·exact .inl ⟨hr0.1,(hle.z _ _ _ (R.pin p' h).1).trans hr0.2⟩
  refine .inr ?_;by_cases e:0=t/\0=n
  ·exact ⟨H',by rw [<- e.1,<- e.2] at hobt; exact hobt⟩
  ·exact ⟨H1,by rw [hobn _ _ e]; exact h1⟩
 ·refine R.kept.trans hk fun i hi h=>?_
  have:=R.base;rcases (hob1 i h).1 with h1 | h1
  ·omega
  ·exact h1
 ·simp only [MSt.setRow,MSt.setObj] at h;split at h
  ·rename_i e;injection h with h;subst h;exact ⟨p,H',by rw [e.1,e.2]; exact hsub _ _ _ hp,by rw [e.1,e.2]; exact hobt,hat,htie.keep hties fun x hx=>hx⟩
  ·rename_i e;obtain ⟨p1,H1,h1,h2,h3,h4⟩:=R.objs t' n' S1 h;have hnb:∀ b,H1 b->¬ H b:=fun b hb hb'=>e ((hob1 b hb').2.2.2.2 t' n' H1 h2 hb)
   exact ⟨p1,H1,hsub _ _ _ h1,by rw [hobn _ _ e]; exact h2,O.keep h3 (fun b hb=>hk.block b (O.lt h3 hb) (hnb b hb)) hsz,h4.keep hties fun x hx=>(hk.block _ (q0b hx) (hnb _ (O.main h3))).trans hx⟩
 ·rcases hobq _ _ _ h with ⟨e1,e2,e3⟩ | ⟨e,h⟩
  ·subst e1; subst e2; subst e3;refine ⟨fun b hb=>?_,hob2.imp id fun ⟨e,d⟩=>⟨e,.inl d⟩⟩;have hbg:b≠g:=fun e=>hgH (e ▸ hb)
   rcases hH b hb with h1 | h1
   ·obtain ⟨g1,g2,g3,g4,g5⟩:=hob1 b h1;refine ⟨g1,by omega,fun t1 n1 h2=>?_,g4,fun t1 n1 H2 h2 h3=>?_⟩
    ·rcases hf _ _ _ h2 with ⟨_,_,e⟩ | ⟨_,h2⟩
     ·exact absurd e hbg
     ·exact g3 t1 n1 h2
    ·rcases hobq _ _ _ h2 with ⟨e1,e2,_⟩ | ⟨_,h2⟩
     ·exact ⟨e1,e2⟩
     ·exact g5 t1 n1 H2 h2 h3
   ·refine ⟨.inl (by omega),O.lt hat hb,fun t1 n1 h2=>?_,fun k o h2 e=>?_,fun t1 n1 H2 h2 h3=>?_⟩
    ·rcases hf _ _ _ h2 with ⟨_,_,e⟩ | ⟨_,h2⟩
     ·exact absurd e hbg
     ·have:=(R.mine _ _ _ h2).2.1; omega
    ·obtain ⟨_,_,_,_,cur',h5,_⟩:=R.tok k o h2; have:=q0b h5; omega
    ·rcases hobq _ _ _ h2 with ⟨e1,e2,_⟩ | ⟨_,h2⟩
     ·exact ⟨e1,e2⟩
     ·have:=((R.obs _ _ _ h2).1 b h3).2.1; omega
  ·obtain ⟨h1,h2⟩:=R.obs t' n' H1 h;refine ⟨fun b hb=>?_,h2.imp id fun ⟨e,d⟩=>⟨e,.inl d⟩⟩;obtain ⟨g1,g2,g3,g4,g5⟩:=h1 b hb;refine ⟨g1,by omega,fun t1 n1 h2=>?_,g4,fun t1 n1 H2 h2 h3=>?_⟩
   ·rcases hf _ _ _ h2 with ⟨_,_,e'⟩ | ⟨_,h2⟩
    ·omega
    ·exact g3 t1 n1 h2
   ·rcases hobq _ _ _ h2 with ⟨e1,e2,e3⟩ | ⟨_,h2⟩
    ·subst e3;rcases hH b h3 with h4 | h4
     ·have:=g5 t n H hob h4;exact absurd ⟨this.1.symm,this.2.symm⟩ e
     ·omega
    ·exact g5 t1 n1 H2 h2 h3
theorem op_callf (R:Rel P O nt B F0 av0 w0 D s a w ι Θ) {call:q1z} (hcall:∀ f args S r,call f args S=some r->q1Y P O f args S r) {f:FuncId} {Xs:Array Operand} {ts:Array TypeId} {xs:List Opd} (hx:opdL Xs.toList=some xs) (ho:o.op=.call { callee:=.value (.func f),args:=Xs,argTypes:=ts }) (hd:∀ d,o.dst=some d->d<nt) (hD:∀ d,o.dst=some d->¬ D d) {cl:Cl} {sz:Nat} (hsz:0<sz) {xe:Slot × Eff} (hr:(K.callf cl f sz xs).run call s=some xe) {g} {s':MSt} (he:OpC.eff ⟨o.dst,.callf cl f sz xs,g⟩ s xe=some s')
  {Kn:Act->World->Prop} {Q:Exit->Act->World->Prop} (hK:∀ a' w',RelE P O nt B F0 av0 w0 (fun t=>D t\/o.dst=some t) s' a' w'->Kn a' w'):o.wp P a w Kn Q:=by
 simp only [K.run] at hr;obtain ⟨vs,hl,hr⟩:=y9.1 hr;have he0:(Xs.toList.map a.eval).toArray=Xs.map a.eval:=by rw [<- Array.toList_map,yV]
 have hlow:∀ b o,avA av0 ι Θ b o->b<w.heap.size:=fun b o h=>R.low h
 split at hr
 ·rename_i t n hone;obtain ⟨r,hc,hr⟩:=y9.1 hr;split at hr
  ·rename_i l S';split at hr
   ·rename_i hcond;obtain ⟨hsome,hels,hscal,hni⟩:=hcond;obtain ⟨S,hS⟩:=Option.isSome_iff_exists.1 hsome;rw [hS] at hc;have hok:CallOwn P O f vs (some S) (.sl false l,some S'):=q1Y.own (q96 hl) (hcall f (.undef :: vs) (some S) _ hc);obtain ⟨p,H,hp,hob,hat,_⟩:=R.objs t n S hS;have hargs:=q5O (ι':=Ix.one p) (avl:=fun b _=>H b) R (fun b _ h=>⟨t,n,H,hob,h⟩) hx hl fun x hx t' n' h=>by
     have:(t',n')∈q6h s xs:=List.mem_filterMap.2 ⟨x,hx,by rw [h]⟩;rw [hone] at this;have:=List.mem_singleton.1 this;injection this with e1 e2;rw [e1,e2,hp];rfl
    have hrun:(execOp a.eval o).run P w=.ok (.enter f (Xs.map a.eval)) w:=by
     simp only [execOp,ho,resolve,Act.eval,Deferred.ofValue,Sem.run_bind,Sem.run_pure,Result.andThen_ok,invoke];have:=hok.1 (#[]++Xs.map a.eval++#[]) w;simp only [Array.empty_append,Array.append_empty] at this ⊢;exact this
    unfold Oper.wp;rw [hrun,Oper.upon_enter];have hC:=hok.2 (avA av0 ι Θ) w _ p H hlow (fun b o h=>.inr (.inl (.inr ⟨t,n,H,hob,h⟩))) hat hargs;rw [he0] at hC;refine hC.mono ?_;rintro e w' ⟨v,H',rfl,hv,hat',hH,hk⟩;split at hr
    ·rename_i hemp;injection hr with hr;subst hr;simp only [OpC.eff] at he;injection he with he;subst he;have hl0:l=[]:=by simpa using hemp
     subst hl0;obtain ⟨ι',R',hav⟩:=R.turnObj hp hob hat' (Tie.no hni) hH hk;have hv':∃ A c,v=.slice A 0 c/\(A=none->c=0):=by
      rcases hv with ⟨_,A,c,h1,h2⟩ | ⟨g,c,cur,ty,h1,_⟩
      ·exact ⟨A,c,h1,h2⟩
      ·exact ⟨_,c,h1,fun h=>by cases h⟩
     obtain ⟨A,c,rfl,hA⟩:=hv';refine hK _ _ ⟨ι',Θ,(R'.putN (x:=⟨.sl false [],.no⟩) hd ?_ trivial).more fun _ h=>.inl h⟩;rw [q2u];simp only [Rep,List.length_nil];exact ⟨A,c,rfl,Nat.zero_le _,(fun x hx=>by cases hx),(fun h=>by cases h),fun _=>⟨hA,fun h=>absurd h (Nat.lt_irrefl 0)⟩⟩
    ·rename_i hemp;injection hr with hr;subst hr;cases hdst:o.dst with
     | none=>simp [OpC.eff,hdst] at he
     | some d =>
      simp only [OpC.eff,hdst] at he;injection he with he;subst he;have hne:l≠[]:=fun h=>hemp (by simp [h])
      have hpos:0<l.length:=List.length_pos_iff.2 hne;rcases hv with ⟨h0,_⟩ | ⟨g,c,cur,ty,rfl,h2,h3,h4,h5,h6,h7⟩
      ·exact absurd h0 hne
      ·have hcz:=h6 sz hels hpos;have hfl:l.flatten.length=l.length * sz:=by
        have hind:∀ q:List (List AV),q1f sz q=true->q.flatten.length=q.length * sz:=fun q=>by
         induction q with
         | nil=>simp
         | cons c r ih =>
          intro h;rw [q9x] at h;simp only [yb,decide_eq_true_eq] at h;rw [yG,yu,ih h.2,h.1,yK,yB];omega
        exact hind l hels
       have hsc:l.flatten.all AV.scal=true:=by
        rw [List.all_flatten];exact hscal
       obtain ⟨ι',R',hι,hz⟩:=R.turnNew (d:=d) (g:=g) hp hob hat' (Tie.no hni) hH hk (hD d hdst) h2 h3 h4 hsc h7 (by rw [hfl]; exact yH (yW _ h5) hcz);refine hK _ _ ⟨ι',Θ,?_⟩;rw [hdst];exact (R'.put (x:=⟨.ref d s.next sz 0 l.length l.length,.no⟩) (hd d hdst) ⟨g,hι,ym _,c,h5,by rw [hz,yy]; exact hcz,rfl⟩ trivial).more fun t h=>h.imp id fun e=>by rw [e]
   ·cases hr
  ·cases hr
 ·cases hr
end
end
section
open Go Go.RowKit
section
variable {P:Program} {O:Objs} {nt B:Nat} {F0:Own} {av0:Av} {w0:World} {D:Nat->Prop} {s:MSt} {a:Act} {w w':World} {ι:Ix} {Θ:Fam} {o:Oper}
theorem q1t (R:Rel P O nt B F0 av0 w0 D s a w ι Θ) {x:Slot} {e:Eff} (hv:e=.none/\Val P av0 a w ι Θ o x) (hd:∀ d,o.dst=some d->d<nt) {k:K} {g} {s':MSt} (he:OpC.eff ⟨o.dst,k,g⟩ s (x,e)=some s')
  {Kn:Act->World->Prop} {Q:Exit->Act->World->Prop} (hK:∀ a' w',RelE P O nt B F0 av0 w0 D s' a' w'->Kn a' w'):o.wp P a w Kn Q:=by
 obtain ⟨rfl,v,hrun,hS,hA⟩:=hv;simp only [OpC.eff] at he;injection he with he;subst he;unfold Oper.wp;rw [hrun,Oper.upon_value];exact hK _ _ ⟨ι,Θ,R.putN hd hS hA⟩
theorem run_wp {s':MSt} (h:∃ v w',(execOp a.eval o).run P w=.ok (.value v) w'/\RelE P O nt B F0 av0 w0 D s' (a.put o.dst v) w')
  {Kn:Act->World->Prop} {Q:Exit->Act->World->Prop} (hK:∀ a' w',RelE P O nt B F0 av0 w0 D s' a' w'->Kn a' w'):o.wp P a w Kn Q:=by
 obtain ⟨v,w',hrun,hR⟩:=h;unfold Oper.wp;rw [hrun,Oper.upon_value];exact hK _ _ hR
theorem q2a {α β:Type} {x:Option α} {f:α->β} {z:β} (h:x.map f=some z):∃ a,x=some a/\f a=z:=by
 cases x with
 | none=>cases h
 | some a=>exact ⟨a,rfl,by injection h⟩
theorem op_sound (R:Rel P O nt B F0 av0 w0 D s a w ι Θ) {call:q1z} (hcall:∀ f args S r,call f args S=some r->q1Y P O f args S r) {cl:Cl} {mu:Option Bool} {nest:Bool} {k:K} (hk:compOp P cl mu o.op nest=some k) (hmu:mu≠none->o.dst≠none) (hd:∀ d,o.dst=some d->d<nt) (hD:∀ d,o.dst=some d->(isA k||isO k)=true->¬ D d)
  {xe:Slot × Eff} (hr:k.run call s=some xe) {g} {s':MSt} (he:OpC.eff ⟨o.dst,k,g⟩ s xe=some s')
  {Kn:Act->World->Prop} {Q:Exit->Act->World->Prop} (hK:∀ a' w',RelE P O nt B F0 av0 w0 (fun t=>D t\/o.dst=some t) s' a' w'->Kn a' w'):o.wp P a w Kn Q:=by
 have hK':∀ a' w',RelE P O nt B F0 av0 w0 D s' a' w'->Kn a' w':=fun a' w' ⟨ι',Θ',h⟩=>hK a' w' ⟨ι',Θ',h.more fun _ h=>.inl h⟩
 have hnew:∀ d,o.dst=some d->(∃ v w',(execOp a.eval o).run P w=.ok (.value v) w'/\RelE P O nt B F0 av0 w0 (fun t=>D t\/t=d) s' (a.put o.dst v) w')->o.wp P a w Kn Q:=fun d hdst h =>
  run_wp h fun a' w' ⟨ι',Θ',h⟩=>hK a' w' ⟨ι',Θ',h.more fun t h=>h.imp id fun e=>by rw [hdst,e]⟩
 obtain ⟨x,e⟩:=xe;cases hop:o.op <;> rw [hop] at hk <;> simp only [compOp] at hk
 case move X=>obtain ⟨y,hy,rfl⟩:=q2a hk; simp only [K.run] at hr; injection hr with hr; injection hr with h1 h2; subst h1; subst h2; exact q1t R ⟨rfl,val_mv R hy (.inl hop)⟩ hd he hK'
 case assign X=>obtain ⟨y,hy,rfl⟩:=q2a hk; simp only [K.run] at hr; injection hr with hr; injection hr with h1 h2; subst h1; subst h2; exact q1t R ⟨rfl,val_mv R hy (.inr hop)⟩ hd he hK'
 case pick C X Y =>
  split at hk
  ·rename_i c x' y' hc hx hy;injection hk with hk;subst hk;simp only [K.run] at hr;split at hr
   ·rename_i t ht;injection hr with hr; injection hr with h1 h2; subst h1; subst h2;exact q1t R ⟨rfl,val_pick R hc hx hy hop ht⟩ hd he hK'
   ·cases hr
  ·cases hk
 case alloc t =>
  split at hk
  case h_2 =>
   obtain ⟨el,hel,rfl⟩:=q2a hk;simp only [K.run] at hr;injection hr with hr; injection hr with h1 h2; subst h1; subst h2;cases hdst:o.dst with
   | none=>simp [OpC.eff,hdst] at he
   | some d =>
    simp only [OpC.eff,hdst] at he;injection he with he;subst he;exact hnew d hdst (op_mkb R hel hop hdst (hd d hdst) (hD d hdst rfl))
  obtain ⟨z,hz,rfl⟩:=q2a hk;cases hdst:o.dst with
  | none=>simp [K.run] at hr; obtain ⟨rfl,rfl⟩:=hr; simp [OpC.eff,hdst] at he
  | some d=>exact hnew d hdst (op_alloc R hz hop hdst (hd d hdst) (hD d hdst rfl) hr he)
 case box t X =>
  split at hk
  ·rename_i z x' hz hx;injection hk with hk;subst hk;cases hdst:o.dst with
   | none =>
    simp only [K.run] at hr;split at hr
    ·split at hr
     ·injection hr with hr; injection hr with h1 h2; subst h1; subst h2; simp [OpC.eff,hdst] at he
     ·cases hr
    ·split at hr
     ·injection hr with hr; injection hr with h1 h2; subst h1; subst h2; simp [OpC.eff,hdst] at he
     ·cases hr
   | some d=>exact hnew d hdst (op_boxE R hx hop hdst (hd d hdst) (hD d hdst rfl) hr he)
  ·cases hk
 case build t ps =>
  split at hk
  ·rename_i fs z ys ht hz hy;split at hk
   ·rename_i pl hpl;obtain ⟨zs,hzs,rfl⟩:=q2a hk;obtain ⟨zv,i,hi,hiz,_,hl⟩:=q3l hz w;refine q1t R (val_build R hl (pl:=(pl.toArray[·]?)) ?_ hy hzs hop hr) hd he hK';simp [Program.built,hi,ht,hiz,hpl]
   ·cases hk
  ·rename_i n el z ys ht hz hy;split at hk
   ·rename_i ie hie;obtain ⟨zs,hzs,rfl⟩:=q2a hk;obtain ⟨zv,i,hi,hiz,_,hl⟩:=q3l hz w;refine q1t R (val_build R hl (pl:=fun i=>some (i * ie.size,ie.size)) ?_ hy hzs hop hr) hd he hK';simp [Program.built,hi,ht,hiz,hie]
   ·cases hk
  ·cases hk
 case buildSlice t n ps =>
  split at hk
  ·rename_i el ys ht hy;split at hk
   ·rename_i z kk hz hs;split at hk
    ·rename_i hc;cases mu with
     | none =>
      simp only at hk;injection hk with hk;subst hk;obtain ⟨rfl,v,w',hrun,R',hS,hA⟩:=op_bsl R ht hz hs hc.1 hc.2.1 hc.2.2 hy hop hr;simp only [OpC.eff] at he;injection he with he;subst he;unfold Oper.wp;rw [hrun,Oper.upon_value];exact hK' _ _ ⟨ι,Θ,R'.putN hd hS hA⟩
     | some m =>
      simp only at hk;injection hk with hk;subst hk;cases hdst:o.dst with
      | none=>exact absurd hdst (hmu (by simp))
      | some d=>exact hnew d hdst (op_bslr R ht hz hs hc.1 hc.2.1 hc.2.2 hy hop hdst (hd d hdst) (hD d hdst rfl) hr he)
    ·cases hk
   ·cases hk
  ·cases hk
 case load t X =>
  split at hk
  ·rename_i ag z y hA hz hx;injection hk with hk;subst hk;exact q1t R (val_load R hA hz hx hop hr) hd he hK'
  ·cases hk
 case store t X Y =>
  split at hk
  ·rename_i ag z x' y' hA hz hx hy;split at hk
   ·rename_i hag;injection hk with hk;subst hk;obtain ⟨w',hrun,hR⟩:=op_store R hz (by simpa using hag) hx hy hop hd hr he;unfold Oper.wp;rw [hrun,Oper.upon_skip];exact hK' _ _ hR
   ·cases hk
  ·cases hk
 case nilCheck X=>obtain ⟨y,hy,rfl⟩:=q2a hk; exact q1t R (val_nilchk R hy hop hr) hd he hK'
 case binOp op t X Y t' =>
  split at hk
  ·rename_i x' y' hx hy;split at hk
   ·injection hk with hk;subst hk;simp only [K.run] at hr;obtain ⟨v,hv,hr⟩:=q2a hr;injection hr with h1 h2; subst h1; subst h2;refine q1t R ⟨rfl,val_bin R (fun hb=>?_) hx hy hop hv⟩ hd he hK';split at hb
    ·assumption
    ·cases hb
   ·split at hk
    ·split at hk
     ·rename_i el ht; injection hk with hk; subst hk; exact q1t R (val_eqn R (neg:=false) (ptr:=false) ⟨el,ht⟩ hx hy hop hr) hd he hK'
     ·rename_i el ht; injection hk with hk; subst hk; exact q1t R (val_eqn R (neg:=false) (ptr:=true) ⟨el,ht⟩ hx hy hop hr) hd he hK'
     ·obtain ⟨ks,ht,rfl⟩:=q2a hk; exact q1t R (val_eqa R (neg:=false) ht hx hy hop hr) hd he hK'
    ·split at hk
     ·rename_i el ht; injection hk with hk; subst hk; exact q1t R (val_eqn R (neg:=true) (ptr:=false) ⟨el,ht⟩ hx hy hop hr) hd he hK'
     ·rename_i el ht; injection hk with hk; subst hk; exact q1t R (val_eqn R (neg:=true) (ptr:=true) ⟨el,ht⟩ hx hy hop hr) hd he hK'
     ·obtain ⟨ks,ht,rfl⟩:=q2a hk; exact q1t R (val_eqa R (neg:=true) ht hx hy hop hr) hd he hK'
    ·cases hk
  ·cases hk
 case unOp op t X =>
  split at hk
  ·obtain ⟨y,hy,rfl⟩:=q2a hk; exact q1t R (val_un R hy hop hr) hd he hK'
  ·cases hk
 case convert t t' X =>
  split at hk
  ·rename_i j kk x' h1 h2 hx; injection hk with hk; subst hk; exact q1t R (val_conv R (k:=some kk) ⟨⟨j,h1⟩,h2⟩ hx hop hr) hd he hK'
  ·rename_i x' h1 h2 hx; injection hk with hk; subst hk; exact q1t R (val_conv R (k:=none) ⟨h1,h2⟩ hx hop hr) hd he hK'
  ·rename_i j x' h1 h2 hx; injection hk with hk; subst hk; exact q1t R (val_rstr R h1 h2 hx hop hr) hd he hK'
  ·rename_i el x' h1 h2 hx;split at hk
   ·rename_i h3;split at hk
    ·injection hk with hk; subst hk; exact q1t R (val_bstr R h1 h3 h2 hx hop hr) hd he hK'
    ·cases hk
   ·cases hk
  ·cases hk
 case makeSlice t L C =>
  split at hk
  ·rename_i el l c ht hl hc;split at hk
   ·rename_i z i hz hi;split at hk
    ·rename_i hcond;injection hk with hk;subst hk;cases hdst:o.dst with
     | none =>
      simp only [K.run] at hr;split at hr
      ·split at hr
       ·injection hr with hr; injection hr with h1 h2; subst h1; subst h2; simp [OpC.eff,hdst] at he
       ·cases hr
      ·cases hr
     | some d=>exact hnew d hdst (op_mks R ht hi hz hcond.1 hl hc hop hdst (hd d hdst) (hD d hdst rfl) hr he)
    ·cases hk
   ·cases hk
  ·cases hk
 case slice t X L H M =>
  split at hk
  ·rename_i x' l h m hx hl hh hm;split at hk
   ·rename_i ht;injection hk with hk;subst hk;cases M with
    | none=>injection hm with hm; subst hm; exact q1t R (val_slc R (str:=true) ht hx hl hh hop hr) hd he hK'
    | some M=>simp only [opdO] at hm; obtain ⟨m',_,rfl⟩:=q2a hm; simp [K.run] at hr
   ·rename_i el ht;split at hk
    ·rename_i hzz;obtain ⟨z,hz,rfl⟩:=q2a hk;rw [yb] at hzz;exact q1t R (val_slz R ht hz hzz.1 hzz.2 hx hop hr) hd he hK'
    ·obtain ⟨z,hz,rfl⟩:=q2a hk;cases M with
     | none=>injection hm with hm; subst hm; exact q1t R (val_slc R (str:=false) ⟨el,ht,hz⟩ hx hl hh hop hr) hd he hK'
     | some M=>simp only [opdO] at hm; obtain ⟨m',_,rfl⟩:=q2a hm; simp [K.run] at hr
   ·rename_i n' el ht;cases M with
    | none =>
     injection hm with hm; subst hm;obtain ⟨z,hz,rfl⟩:=q2a hk;exact q1t R (val_aslc R ht hz hx hl hh hop hr) hd he hK'
    | some M=>simp only [opdO] at hm; obtain ⟨m',_,rfl⟩:=q2a hm; cases hk
   ·cases hk
  ·cases hk
 case fieldAddr t X i =>
  split at hk
  ·rename_i fs x' ht hx;split at hk
   ·rename_i f hf;split at hk
    ·rename_i n hn; injection hk with hk; subst hk; exact q1t R (val_faddr R ht hf hn hx hop hr) hd he hK'
    ·cases hk
   ·cases hk
  ·cases hk
 case field t X i =>
  split at hk
  ·rename_i fs x' ht hx;split at hk
   ·rename_i f hf;split at hk
    ·rename_i ag z hA hz; injection hk with hk; subst hk; exact q1t R (val_field R ht hf hA hz hx hop hr) hd he hK'
    ·cases hk
   ·cases hk
  ·cases hk
 case indexAddr t X I =>
  split at hk
  ·rename_i el x' i' ht hx hi;obtain ⟨z,hz,rfl⟩:=q2a hk;exact q1t R (val_iaddr R ht hz hx hi hop hr) hd he hK'
  ·rename_i n' e x' i' ht hx hi;obtain ⟨z,hz,rfl⟩:=q2a hk;exact q1t R (val_aaddr R ht hz hx hi hop hr) hd he hK'
  ·cases hk
 case index t X I =>
  split at hk
  ·rename_i x' i' ht hx hi;injection hk with hk;subst hk;exact q1t R (val_index R ht hx hi hop hr) hd he hK'
  ·cases hk
 case makeMap t r =>
  split at hk
  ·rename_i kT eT ht;obtain ⟨ty,hty,rfl⟩:=q2a hk;simp only [K.run] at hr;injection hr with hr; injection hr with h1 h2; subst h1; subst h2;cases hdst:o.dst with
   | none=>simp [OpC.eff,hdst] at he
   | some d =>
    simp only [OpC.eff,hdst] at he;injection he with he;subst he;have h:=op_mkm R hop hdst (hd d hdst) (hD d hdst rfl);exact hnew d hdst h
  ·cases hk
 case entry X =>
  obtain ⟨x',hx,rfl⟩:=q2a hk;simp only [K.run] at hr;split at hr
  ·rename_i t' n hxv;split at hr
   ·rename_i tm nm N seen hi;split at hr
    ·rename_i L i hL hl;split at hr
     ·rename_i hN;split at hr
      ·rename_i y v hyv;split at hr
       ·rename_i hfl;injection hr with hr; injection hr with h1 h2; subst h1; subst h2;exact q1t R ⟨rfl,val_ent R hx hop hxv hi hL hl hN hyv hfl⟩ hd he hK'
       ·cases hr
      ·cases hr
     ·cases hr
    ·cases hr
   ·cases hr
  ·cases hr
 case range t X =>
  split at hk
  ·rename_i kT eT ht;obtain ⟨x',hx,rfl⟩:=q2a hk;simp only [K.run] at hr;split at hr
   ·rename_i t' n hxv;split at hr
    ·rename_i L hL;injection hr with hr; injection hr with h1 h2; subst h1; subst h2;cases hdst:o.dst with
     | none=>simp [OpC.eff,hdst] at he
     | some d =>
      simp only [OpC.eff,hdst] at he;injection he with he;subst he;have h:=op_rng R ht hx hop hxv hL hdst (hd d hdst) (hD d hdst rfl);exact hnew d hdst h
    ·cases hr
   ·cases hr
  ·cases hk
 case lookup t X I ok =>
  split at hk
  ·rename_i kT eT x' i' ht hx hi;split at hk
   ·rename_i ty z hty hz;injection hk with hk;subst hk;simp only [K.run] at hr;split at hr
    ·rename_i t' n hxv;split at hr
     ·rename_i L hL;split at hr
      ·rename_i hcond;injection hr with hr; injection hr with h1 h2; subst h1; subst h2;unfold keyTy at hty;split at hty
       ·rename_i kk hkk;injection hty with hty;subst hty;exact q1t R ⟨rfl,mget_gen R (keyed_int kk) (law_int hkk) ht hz hcond.2.2 hx hi hop hxv hL hcond.1 hcond.2.1⟩ hd he hK'
       ·rename_i hkk;injection hty with hty;subst hty;exact q1t R ⟨rfl,mget_gen R keyed_str (law_str hkk) ht hz hcond.2.2 hx hi hop hxv hL hcond.1 hcond.2.1⟩ hd he hK'
       ·obtain ⟨l,_,hty⟩:=y9.1 hty;split at hty
        ·rename_i hfl;injection hty with hty;subst hty;exact q1t R ⟨rfl,mget_gen R (keyed_agg l) (law_agg hfl.1) ht hz hcond.2.2 hx hi hop hxv hL hcond.1 hcond.2.1⟩ hd he hK'
        ·cases hty
      ·cases hr
     ·cases hr
    ·cases hr
   ·cases hk
  ·cases hk
 case mapUpdate t X I Y =>
  split at hk
  ·rename_i kT eT x' i' y' ht hx hi hy;obtain ⟨ty,hty,rfl⟩:=q2a hk;simp only [K.run] at hr;split at hr
   ·rename_i t' n hxv;split at hr
    ·rename_i L hL;split at hr
     ·rename_i hcond;injection hr with hr; injection hr with h1 h2; subst h1; subst h2;simp only [OpC.eff] at he;injection he with he;subst he;have key:∃ w',(execOp a.eval o).run P w=.ok .skip w'/\RelE P O nt B F0 av0 w0 D ((s.setObj t' n (q5P (q5Q L (i'.get s) (y'.get s)))).put o.dst ⟨.undef,.no⟩) (a.put o.dst undef) w':=by
       unfold keyTy at hty;split at hty
       ·rename_i kk hkk;injection hty with hty;subst hty;exact q87 R (keyed_int kk) (law_int hkk) ht hx hi hy (.inl hop) hd hxv hL hcond.1 hcond.2.1 hcond.2.2
       ·rename_i hkk;injection hty with hty;subst hty;exact q87 R keyed_str (law_str hkk) ht hx hi hy (.inl hop) hd hxv hL hcond.1 hcond.2.1 hcond.2.2
       ·obtain ⟨l,_,hty⟩:=y9.1 hty;split at hty
        ·rename_i hfl;injection hty with hty;subst hty;exact q87 R (keyed_agg l) (law_agg hfl.1) ht hx hi hy (.inl hop) hd hxv hL hcond.1 hcond.2.1 hcond.2.2
        ·cases hty
      obtain ⟨w',hrun,hR⟩:=key;unfold Oper.wp;rw [hrun,Oper.upon_skip];exact hK' _ _ hR
     ·cases hr
    ·cases hr
   ·cases hr
  ·cases hk
 case insert t X I Y =>
  split at hk
  ·rename_i kT eT x' i' y' ht hx hi hy;obtain ⟨ty,hty,rfl⟩:=q2a hk;simp only [K.run] at hr;split at hr
   ·rename_i t' n hxv;split at hr
    ·rename_i L hL;split at hr
     ·rename_i hcond;injection hr with hr; injection hr with h1 h2; subst h1; subst h2;simp only [OpC.eff] at he;injection he with he;subst he;have key:∃ w',(execOp a.eval o).run P w=.ok .skip w'/\RelE P O nt B F0 av0 w0 D ((s.setObj t' n (q5P (q5Q L (i'.get s) (y'.get s)))).put o.dst ⟨.undef,.no⟩) (a.put o.dst undef) w':=by
       unfold keyTy at hty;split at hty
       ·rename_i kk hkk;injection hty with hty;subst hty;exact q87 R (keyed_int kk) (law_int hkk) ht hx hi hy (.inr hop) hd hxv hL hcond.1 hcond.2.1 hcond.2.2
       ·rename_i hkk;injection hty with hty;subst hty;exact q87 R keyed_str (law_str hkk) ht hx hi hy (.inr hop) hd hxv hL hcond.1 hcond.2.1 hcond.2.2
       ·obtain ⟨l,_,hty⟩:=y9.1 hty;split at hty
        ·rename_i hfl;injection hty with hty;subst hty;exact q87 R (keyed_agg l) (law_agg hfl.1) ht hx hi hy (.inr hop) hd hxv hL hcond.1 hcond.2.1 hcond.2.2
        ·cases hty
      obtain ⟨w',hrun,hR⟩:=key;unfold Oper.wp;rw [hrun,Oper.upon_skip];exact hK' _ _ hR
     ·cases hr
    ·cases hr
   ·cases hr
  ·cases hk
 case extract X i=>obtain ⟨y,hy,rfl⟩:=q2a hk; exact q1t R (val_ext R hy hop hr) hd he hK'
 case call c =>
  obtain ⟨callee,xs,ts⟩:=c;cases callee with
  | invoke r m=>cases hk
  | value f =>
   cases f with
   | func f =>
    have plain:(opdL xs.toList).map (.call cl f)=some k->o.wp P a w Kn Q:=fun hk=>by
     obtain ⟨ys,hy,rfl⟩:=q2a hk;exact op_call R hcall hy hop hd (fun d h=>hD d h rfl) hr he hK
    cases mu with
    | none=>exact plain hk
    | some b =>
     cases b with
     | true =>
      obtain ⟨ys,hy,rfl⟩:=q2a (show (opdL xs.toList).map (.callr cl f)=some k from hk);exact op_callr R hcall hy hop hd hr he hK
     | false =>
      have hk':(match P.funcs[f]? with
       | some fn=>(match fn.resultTypes.toList with
        | [t]=>(match P.underlying t with
         | some (.slice e)=>(match q1T P e,opdL xs.toList with
          | some z,some xs=>if 0<z then some (K.callf cl f z xs) else none
          | _,_=>none)
         | _=>none)
        | _=>none)
       | none=>none)=some k:=hk
      clear hk;split at hk'
      ·split at hk'
       ·split at hk'
        ·split at hk'
         ·rename_i z ys hz hy;split at hk'
          ·rename_i hpos;injection hk' with hk';subst hk';exact op_callf R hcall hy hop hd (fun d h=>hD d h rfl) hpos hr he hK
          ·cases hk'
         ·cases hk'
        ·cases hk'
       ·cases hk'
      ·cases hk'
   | tmp tf =>
    obtain ⟨ys,hy,rfl⟩:=q2a hk;exact op_callv R hcall hy hop hd hr he hK
   | _=>cases hk
  | builtin b =>
  cases b
  case len =>
   simp only at hk;split at hk
   ·rename_i x' t hx htt;have hts:ts=#[t]:=by have h0:=congrArg List.toArray htt; rwa [yV] at h0
    subst hts;obtain ⟨X,hX,hx'⟩:∃ X,xs=#[X]/\opd X=some x':=by
     obtain ⟨l⟩:=xs
     match l,hx with
     | [X],hx =>
      unfold opdL at hx;split at hx
      ·rename_i y l hy hl; injection hx with hx; injection hx with h1 h2; subst h1; exact ⟨X,rfl,hy⟩
      ·cases hx
     | [],hx=>simp [opdL] at hx
     | X :: Y :: r,hx =>
      unfold opdL at hx;split at hx
      ·rename_i y l hy hl;injection hx with hx;injection hx with h1 h2;subst h2;unfold opdL at hl;split at hl
       ·injection hl with hl; cases hl
       ·cases hl
      ·cases hx
    subst hX;split at hk
    ·rename_i ht; injection hk with hk; subst hk; exact q1t R (val_len R (str:=true) ht hx' hop hr) hd he hK'
    ·rename_i el ht; injection hk with hk; subst hk; exact q1t R (val_len R (str:=false) ⟨el,ht⟩ hx' hop hr) hd he hK'
    ·rename_i kT eT ht;injection hk with hk;subst hk;simp only [K.run] at hr;split at hr
     ·rename_i t n hxv;split at hr
      ·rename_i L hL;injection hr with hr; injection hr with h1 h2; subst h1; subst h2;exact q1t R ⟨rfl,op_mlen R ht hx' hop hxv hL⟩ hd he hK'
      ·cases hr
     ·cases hr
    ·cases hk
   ·cases hk
  case max =>
   simp only at hk;split at hk
   ·rename_i X Y hxs;have hX:xs=#[X,Y]:=by rw [<- yV (xs:=xs),hxs]
    subst hX;split at hk
    ·rename_i x' y' hx hy;injection hk with hk; subst hk;simp only [K.run] at hr;obtain ⟨v,hv,hr⟩:=q2a hr;injection hr with h1 h2; subst h1; subst h2;exact q1t R ⟨rfl,val_mm R (mx:=true) hx hy hop hv⟩ hd he hK'
    ·cases hk
   ·cases hk
  case min =>
   simp only at hk;split at hk
   ·rename_i X Y hxs;have hX:xs=#[X,Y]:=by rw [<- yV (xs:=xs),hxs]
    subst hX;split at hk
    ·rename_i x' y' hx hy;injection hk with hk; subst hk;simp only [K.run] at hr;obtain ⟨v,hv,hr⟩:=q2a hr;injection hr with h1 h2; subst h1; subst h2;exact q1t R ⟨rfl,val_mm R (mx:=false) hx hy hop hv⟩ hd he hK'
    ·cases hk
   ·cases hk
  case append =>
   simp only at hk;split at hk
   ·rename_i x' y' t t' hx htt;split at hk
    ·rename_i htt';subst htt';have hts:ts=#[t,t]:=by have h0:=congrArg List.toArray htt; rwa [yV] at h0
     subst hts;obtain ⟨X,Y,hX,hx',hy'⟩:∃ X Y,xs=#[X,Y]/\opd X=some x'/\opd Y=some y':=by
      obtain ⟨l⟩:=xs;have key:∀ {r:List Operand} {ys:List Opd},opdL r=some ys->r.length=ys.length/\∀ j (h:j<r.length),opd r[j]=ys[j]?:=by
       intro r
       induction r with
       | nil=>intro ys h; injection h with h; subst h; exact ⟨rfl,fun j h=>by simp at h⟩
       | cons X r ih =>
        intro ys h;unfold opdL at h;split at h
        ·rename_i y l hy hl;injection h with h;subst h;obtain ⟨h1,h2⟩:=ih hl;refine ⟨by simp [h1],fun j hj=>?_⟩;cases j with
         | zero=>simpa using hy
         | succ j=>simpa using h2 j (by simpa using hj)
        ·cases h
      obtain ⟨h1,h2⟩:=key hx
      match l,h1,h2 with
      | [X,Y],_,h2=>exact ⟨X,Y,rfl,h2 0 (by simp),h2 1 (by simp)⟩
     subst hX;split at hk
     ·rename_i el ht;split at hk
      ·rename_i i z hi hz;split at hk
       ·rename_i hcond;injection hk with hk;cases mu with
        | some m =>
         cases hdst:o.dst with
         | none=>exact absurd hdst (hmu (by simp))
         | some d =>
          cases m with
          | true =>
           cases nest with
           | true=>simp only [if_true] at hk; subst hk; exact hnew d hdst (op_appn R ht hi hz hcond.1 hcond.2 hx' hy' hop hdst (hd d hdst) (hD d hdst rfl) hr he)
           | false=>simp only [yr,if_false] at hk; subst hk; exact hnew d hdst (op_appm R ht hi hz hcond.1 hcond.2 hx' hy' hop hdst (hd d hdst) (hD d hdst rfl) hr he)
          | false=>simp only at hk; subst hk; exact hnew d hdst (op_appf R ht hi hz hcond.1 hcond.2 hx' hy' hop hdst (hd d hdst) (hD d hdst rfl) hr he)
        | none =>
        simp only at hk;subst hk;cases hdst:o.dst with
        | none =>
         have:∃ A,e=.app A 0:=by
          simp only [K.run] at hr;split at hr
          ·split at hr
           ·split at hr
            ·cases hr
            ·split at hr
             ·injection hr with hr; injection hr with h1 h2; exact ⟨_,h2.symm⟩
             ·cases hr
            ·injection hr with hr; injection hr with h1 h2; exact ⟨_,h2.symm⟩
           ·cases hr
          ·cases hr
         obtain ⟨A,rfl⟩:=this;simp [OpC.eff,hdst] at he
        | some d=>exact run_wp (op_app R ht hi hz hcond.1 hcond.2 hx' hy' hop hdst (hd d hdst) hr he) hK'
       ·cases hk
      ·cases hk
     ·cases hk
    ·cases hk
   ·cases hk
  all_goals cases hk
 case makeFunc fn fs Xs =>
  cases fn with
  | func f =>
   simp only at hk;split at hk
   ·rename_i h0;obtain ⟨ys,hy,rfl⟩:=q2a hk;exact q1t R (val_mkf R h0 hy hop hr) hd he hK'
   ·cases hk
  | _=>cases hk
 all_goals cases hk
end
end
section
section
variable {call:q1z} {s s' s1 s2:MSt}
inductive Tr where
 | id
 | row (t n:Nat) (r:List Slot)
 | an (A:An) (d:Nat)
 | obj (t n:Nat) (S:AV)
 | rn (k:Option (Nat × Nat)) (t n:Nat) (r:List Slot)
 | ob2 (t n:Nat) (S:AV) (d m:Nat) (r:List Slot)
def Tr.ap:Tr->MSt->MSt
 | .id,s=>s
 | .row t n r,s=>s.setRow t n r
 | .an A d,s=>(s.stripA A).strip d
 | .obj t n S,s=>s.setObj t n S
 | .rn k t n r,s=>(s.killO k).setRow t n r
 | .ob2 t n S d m r,s=>(s.setObj t n S).setRow d m r
def Tr.f:Tr->An->An
 | .an A d,x=>match A with
  | .own k _=>(x.strip k).strip d
  | _=>x.strip d
 | _,x=>x
theorem Tr.ends (T:Tr):Ends T.f:=by
 cases T with
 | an A d =>
  have h:∀ k j e,(An.own j e).strip k≠.ex:=fun k j e=>by simp only [An.strip]; split <;> simp
  have h':∀ k k' j e,((An.own j e).strip k).strip k'≠.ex:=fun k k' j e=>by
   by_cases hj:j=k
   ·simp [An.strip,hj]
   ·rw [show (An.own j e).strip k=An.own j e from if_neg hj];exact h k' j e
  cases A with
  | own k e=>exact ⟨rfl,rfl,fun j e=>h' k d j e⟩
  | no=>exact ⟨rfl,rfl,fun j e=>h d j e⟩
  | ex=>exact ⟨rfl,rfl,fun j e=>h d j e⟩
 | _=>exact ⟨rfl,rfl,fun _ _ h=>by cases h⟩
theorem Tr.ap_an (A:An) (d:Nat) (s:MSt):(Tr.an A d).ap s=s.mapAn (Tr.an A d).f:=by
 cases A with
 | own k e=>simp [Tr.ap,MSt.stripA,MSt.strip,MSt.mapAn,Slot.strip,Tr.f,Function.comp_def]
 | no=>rfl
 | ex=>rfl
def OpC.runG (call:q1z) (o:OpC) (s:MSt):Option (Slot × Eff) :=
 match o.guard with
 | none=>o.op.run call s
 | some (t,want)=>match (s.env t).v with
  | .bool b=>if b=want then o.op.run call s else some (⟨.tup [],.no⟩,.none)
  | .tup []=>some (⟨.tup [],.no⟩,.none)
  | _=>none
def OpC.effT (o:OpC) (next:Nat):Slot × Eff->Option (Tr × Slot)
 | (x,.none)=>some (.id,x)
 | (x,.new r)=>match o.dst with
  | none=>none
  | some d=>some (.row d next r,⟨match x.v with | .ref _ _ sz off l c=>.ref d next sz off l c | _=>.ptr d next 0,.no⟩)
 | (x,.set t n r)=>some (.row t n r,x)
 | (x,.app a _)=>match o.dst with
  | none=>none
  | some d=>some (.an a d,⟨x.v,match x.a with | .own _ e=>.own d e | a=>a⟩)
 | (x,.obj t n S)=>some (.obj t n S,x)
 | (x,.mk S)=>match o.dst with
  | none=>none
  | some d=>some (.obj d next S,⟨x.v.named d next,.no⟩)
 | (x,.ob2 t n S r)=>match o.dst with
  | none=>none
  | some d=>some (.ob2 t n S d next r,⟨match x.v with | .ref _ _ sz off l c=>.ref d next sz off l c | _=>.ptr d next 0,.no⟩)
 | (x,.rn k r)=>match o.dst with
  | none=>none
  | some d=>some (.rn k d next r,⟨match x.v with | .ref _ _ sz off l c=>.ref d next sz off l c | _=>.ptr d next 0,.no⟩)
theorem q8N (o:OpC) (s:MSt):o.step call s=(o.runG call s).bind fun p=>(o.effT s.next p).map fun q=>(q.1.ap s).put o.dst q.2:=by
 have h:∀ p,o.eff s p=(o.effT s.next p).map fun q=>(q.1.ap s).put o.dst q.2:=by
  rintro ⟨x,e⟩;cases e with
  | none=>rfl
  | new r=>simp only [OpC.eff,OpC.effT]; cases o.dst <;> rfl
  | set t n r=>rfl
  | app a k=>simp only [OpC.eff,OpC.effT]; cases o.dst <;> rfl
  | obj t n S=>rfl
  | mk S=>simp only [OpC.eff,OpC.effT]; cases o.dst <;> rfl
  | rn k r=>simp only [OpC.eff,OpC.effT]; cases o.dst <;> rfl
  | ob2 t n S r=>simp only [OpC.eff,OpC.effT]; cases o.dst <;> rfl
 have hf:o.eff s=fun p=>(o.effT s.next p).map fun q=>(q.1.ap s).put o.dst q.2:=funext h
 unfold OpC.step OpC.runG;rw [<- hf];cases o.guard with
 | none=>rfl
 | some p =>
  obtain ⟨t,want⟩:=p;simp only;generalize (s.env t).v=y;cases y with
  | bool b=>simp only; split <;> rfl
  | tup l=>cases l <;> rfl
  | _=>rfl
theorem q8L (k:K) {x:Slot} {e:Eff} (h:k.run call s=some (x,e)):match e with
    | .none=>True
    | .new _=>isA k=true
    | .set t _ _=>isS k=true/\∃ c,k.cl=some c/\c.okPtr t=true
    | .app _ _=>isT k=true
    | .obj _ _ _=>isO k=true/\isR k=false
    | .mk _=>isO k=true/\isR k=false
    | .rn _ _=>isM k=true
    | .ob2 _ _ _ _=>isO k=true/\isR k=false/\isA k=true:=by
  have hn:e=.none->(match e with
    | .none=>True
    | .new _=>isA k=true
    | .set t _ _=>isS k=true/\∃ c,k.cl=some c/\c.okPtr t=true
    | .app _ _=>isT k=true
    | .obj _ _ _=>isO k=true/\isR k=false
    | .mk _=>isO k=true/\isR k=false
    | .rn _ _=>isM k=true
    | .ob2 _ _ _ _=>isO k=true/\isR k=false/\isA k=true):=fun h=>by subst h; trivial
  cases k with
  | callh nt x xs=>cases h
  | nxt x=>cases h
  | ent x =>
    simp only [K.run] at h;split at h
    · split at h
      · split at h
        · split at h
          · split at h
            · split at h
              · injection h with h; injection h with _ h; exact hn h.symm
              · cases h
            · cases h
          · cases h
        · cases h
      · cases h
    · cases h
  | slz x =>
    simp only [K.run] at h;split at h <;> first | (cases h; done) | (injection h with h; injection h with _ h; exact hn h.symm)
  | rng x =>
    simp only [K.run] at h;split at h
    · split at h
      · injection h with h; injection h with _ h; subst h; exact ⟨rfl,rfl⟩
      · cases h
    · cases h
  | alloc z=>simp only [K.run] at h; injection h with h; injection h with _ h; subst h; rfl
  | box z x =>
    simp only [K.run] at h;split at h <;> split at h <;> first | (cases h; done) | (injection h with h; injection h with _ h; subst h; rfl)
  | mks z b zs l c =>
    simp only [K.run] at h;split at h
    · split at h
      · injection h with h; injection h with _ h; subst h; rfl
      · cases h
    · cases h
  | store cl g z x y =>
    simp only [K.run] at h;split at h
    · split at h
      · rename_i t n off _ hok
        obtain ⟨r,_,h⟩:=yh.1 h;injection h with _ h;subst h;exact ⟨rfl,cl,rfl,hok⟩
      · cases h
    · cases h
  | app cl e z b x y =>
    simp only [K.run] at h;split at h
    · split at h
      · split at h
        · cases h
        · split at h
          · injection h with h; injection h with _ h; subst h; rfl
          · cases h
        · injection h with h; injection h with _ h; subst h; rfl
      · cases h
    · cases h
  | appf cl e z b x y =>
    simp only [K.run] at h;split at h
    · split at h
      · split at h
        · split at h
          · injection h with h; injection h with _ h; exact hn h.symm
          · injection h with h; injection h with _ h; subst h; rfl
        · cases h
      · cases h
    · cases h
  | appm cl e z b x y =>
    simp only [K.run] at h;split at h
    · split at h
      · split at h
        · split at h
          · injection h with h; injection h with _ h; exact hn h.symm
          · injection h with h; injection h with _ h; subst h; rfl
        · cases h
      · cases h
    · split at h
      · split at h
        · injection h with h; injection h with _ h; subst h; rfl
        · cases h
      · cases h
    · cases h
  | appn cl e z b x y =>
    simp only [K.run] at h;split at h
    · split at h
      · split at h
        · injection h with h; injection h with _ h; subst h; rfl
        · cases h
      · cases h
    · split at h
      · split at h
        · injection h with h; injection h with _ h; subst h; rfl
        · cases h
      · cases h
    · cases h
  | bslr sz z n ps =>
    simp only [K.run] at h;split at h
    · injection h with h; injection h with _ h; subst h; rfl
    · cases h
  | bad=>simp only [K.run] at h; cases h
  | mkm=>simp only [K.run] at h; injection h with h; injection h with _ h; subst h; exact ⟨rfl,rfl⟩
  | mkb T e=>simp only [K.run] at h; injection h with h; injection h with _ h; subst h; exact ⟨rfl,rfl⟩
  | mget ok ty z x k =>
    simp only [K.run] at h;split at h
    · split at h
      · split at h
        · injection h with h; injection h with _ h; exact hn h.symm
        · cases h
      · cases h
    · cases h
  | mset ty x k v =>
    simp only [K.run] at h;split at h
    · split at h
      · split at h
        · injection h with h; injection h with _ h; subst h; exact ⟨rfl,rfl⟩
        · cases h
      · cases h
    · cases h
  | mlen x =>
    simp only [K.run] at h;split at h
    · split at h
      · injection h with h; injection h with _ h; exact hn h.symm
      · cases h
    · cases h
  | mv x=>simp only [K.run] at h; injection h with h; injection h with _ h; exact hn h.symm
  | pick c a b =>
    simp only [K.run] at h;split at h
    · injection h with h; injection h with _ h; exact hn h.symm
    · cases h
  | build z ps =>
    simp only [K.run] at h;split at h
    · obtain ⟨r,_,h⟩:=yh.1 h; injection h with _ h; exact hn h.symm
    · cases h
  | bsl z n ps =>
    simp only [K.run] at h;split at h
    · injection h with h; injection h with _ h; exact hn h.symm
    · cases h
  | load cl g z x =>
    simp only [K.run] at h;split at h
    · split at h
      · obtain ⟨r,_,h⟩:=yh.1 h; injection h with _ h; exact hn h.symm
      · cases h
    · split at h
      · cases h
      · obtain ⟨r,_,h⟩:=yh.1 h; injection h with _ h; exact hn h.symm
    · split at h
      · cases h
      · obtain ⟨r,_,h⟩:=yh.1 h; injection h with _ h; exact hn h.symm
    · cases h
  | mm b x y=>simp only [K.run] at h; obtain ⟨r,_,h⟩:=yh.1 h; injection h with _ h; exact hn h.symm
  | bin op b x y=>simp only [K.run] at h; obtain ⟨r,_,h⟩:=yh.1 h; injection h with _ h; exact hn h.symm
  | eqa n ks x y =>
    simp only [K.run] at h;split at h
    · obtain ⟨r,_,h⟩:=yh.1 h; injection h with _ h; exact hn h.symm
    · cases h
  | eqn n p x y =>
    simp only [K.run] at h;split at h <;> first | (cases h; done) | (obtain ⟨r,_,h⟩:=yh.1 h; injection h with _ h; exact hn h.symm)
  | un op x =>
    simp only [K.run] at h;split at h <;> first | (cases h; done) | (injection h with h; injection h with _ h; exact hn h.symm)
  | conv o x =>
    simp only [K.run] at h;split at h <;> first | (cases h; done) | (injection h with h; injection h with _ h; exact hn h.symm)
  | slc st z x lo hi mx =>
    cases mx with
    | some m=>simp [K.run] at h
    | none =>
      simp only [K.run] at h;split at h
      · cases h
      · split at h <;> first
          | (cases h; done)
          | (split at h
             · split at h
               · (try split at h) <;> (injection h with h; injection h with _ h; exact hn h.symm)
               · cases h
             · cases h)
  | faddr o x =>
    simp only [K.run] at h;split at h <;> first | (cases h; done) | (injection h with h; injection h with _ h; exact hn h.symm)
  | field g o z x =>
    simp only [K.run] at h;split at h
    · obtain ⟨r,_,h⟩:=yh.1 h; injection h with _ h; exact hn h.symm
    · cases h
  | aaddr l z x i =>
    simp only [K.run] at h;split at h
    · split at h
      · split at h <;> first | (cases h; done) | (injection h with h; injection h with _ h; exact hn h.symm)
      · cases h
    · cases h
  | iaddr z x i =>
    simp only [K.run] at h;split at h
    · split at h
      · obtain ⟨r,_,h⟩:=y9.1 h; split at h <;> first | (cases h; done) | (injection h with h; injection h with _ h; exact hn h.symm)
      · obtain ⟨r,_,h⟩:=y9.1 h; split at h <;> first | (cases h; done) | (injection h with h; injection h with _ h; exact hn h.symm)
      · split at h <;> first | (cases h; done) | (injection h with h; injection h with _ h; exact hn h.symm)
      · cases h
    · cases h
  | index x i =>
    simp only [K.run] at h;split at h
    · obtain ⟨r,_,h⟩:=yh.1 h; injection h with _ h; exact hn h.symm
    · cases h
  | ext x i =>
    simp only [K.run] at h;split at h
    · obtain ⟨r,_,h⟩:=yh.1 h; injection h with _ h; exact hn h.symm
    · cases h
  | call cl f xs =>
    simp only [K.run] at h;obtain ⟨vs,_,h⟩:=y9.1 h;split at h
    · obtain ⟨r,_,h⟩:=y9.1 h
      split at h
      · split at h <;> first | (cases h; done) | (injection h with h; injection h with _ h; exact hn h.symm)
      · split at h <;> first | (cases h; done) | (injection h with h; injection h with _ h; subst h; exact ⟨rfl,rfl⟩)
    · obtain ⟨r,_,h⟩:=y9.1 h
      split at h
      · cases h
      · split at h <;> first | (cases h; done) | (injection h with h; injection h with _ h; subst h; exact ⟨rfl,rfl⟩)
    · cases h
  | callf cl f z xs =>
    simp only [K.run] at h;obtain ⟨vs,_,h⟩:=y9.1 h;split at h
    · obtain ⟨r,_,h⟩:=y9.1 h
      split at h
      · split at h
        · split at h
          · injection h with h; injection h with _ h; subst h; exact ⟨rfl,rfl⟩
          · injection h with h; injection h with _ h; subst h; exact ⟨rfl,rfl,rfl⟩
        · cases h
      · cases h
    · cases h
  | callr cl f xs =>
    simp only [K.run] at h;split at h
    · split at h
      · rename_i hok
        split at h
        · split at h
          · obtain ⟨q,_,h⟩:=y9.1 h
            split at h
            · split at h
              · injection h with h; injection h with _ h; subst h
                exact ⟨rfl,cl,rfl,hok⟩
              · cases h
            · cases h
          · cases h
        · cases h
      · cases h
    · cases h
  | rstr x =>
    simp only [K.run] at h;split at h <;> first | (cases h; done) | (injection h with h; injection h with _ h; exact hn h.symm)
  | bstr cl x =>
    simp only [K.run] at h;split at h
    · obtain ⟨r,_,h⟩:=yh.1 h; injection h with _ h; exact hn h.symm
    · cases h
  | aslc cl l z x lo hi =>
    simp only [K.run] at h;split at h
    · split at h
      · split at h
        · split at h <;> (injection h with h; injection h with _ h; exact hn h.symm)
        · cases h
      · cases h
    · cases h
  | mkf f xs =>
    simp only [K.run] at h;split at h
    · injection h with h; injection h with _ h; exact hn h.symm
    · cases h
  | callv cl x xs =>
    simp only [K.run] at h;split at h
    · split at h
      · obtain ⟨r,_,h⟩:=y9.1 h
        split at h
        · split at h <;> first | (cases h; done) | (injection h with h; injection h with _ h; exact hn h.symm)
        · cases h
      · cases h
    · cases h
  | len st x =>
    simp only [K.run] at h;split at h <;> first
      | (cases h; done)
      | (split at h <;> first | (cases h; done) | (injection h with h; injection h with _ h; exact hn h.symm))
  | nilchk x =>
    simp only [K.run] at h;split at h <;> first | (cases h; done) | (injection h with h; injection h with _ h; exact hn h.symm)
def Tr.of (T:Tr) (o:OpC):Prop:=match T with
 | .id=>True
 | .row t _ _=>(isA o.op=true/\o.dst=some t)\/(isS o.op=true/\∃ c,o.op.cl=some c/\c.okPtr t=true)
 | .an _ d=>isT o.op=true/\o.dst=some d
 | .obj _ _ _=>isO o.op=true/\isR o.op=false
 | .rn ..=>isM o.op=true
 | .ob2 _ _ _ d _ _=>(isO o.op=true/\isR o.op=false/\isA o.op=true)/\o.dst=some d
theorem runG_eff (o:OpC) {x:Slot} {e:Eff} (h:o.runG call s=some (x,e)) {n:Nat} {T:Tr} {v:Slot} (ht:o.effT n (x,e)=some (T,v)):T.of o:=by
 have key:o.op.run call s=some (x,e)\/e=.none:=by
  unfold OpC.runG at h;split at h
  ·exact .inl h
  ·split at h
   ·split at h
    ·exact .inl h
    ·injection h with h; injection h with _ h; exact .inr h.symm
   ·injection h with h; injection h with _ h; exact .inr h.symm
   ·cases h
 cases e with
 | none=>simp only [OpC.effT] at ht; injection ht with ht; injection ht with h1 _; subst h1; trivial
 | new r =>
  have:=q8L o.op (key.resolve_right (by simp));simp only [OpC.effT] at ht;split at ht
  ·cases ht
  ·rename_i d hd; injection ht with ht; injection ht with h1 _; subst h1; exact .inl ⟨this,hd⟩
 | set t n r =>
  have:=q8L o.op (key.resolve_right (by simp));simp only [OpC.effT] at ht;injection ht with ht; injection ht with h1 _; subst h1;exact .inr this
 | app a k =>
  have:=q8L o.op (key.resolve_right (by simp));simp only [OpC.effT] at ht;split at ht
  ·cases ht
  ·rename_i d hd; injection ht with ht; injection ht with h1 _; subst h1; exact ⟨this,hd⟩
 | obj t n S =>
  have:=q8L o.op (key.resolve_right (by simp));simp only [OpC.effT] at ht;injection ht with ht; injection ht with h1 _; subst h1;exact this
 | mk S =>
  have:=q8L o.op (key.resolve_right (by simp));simp only [OpC.effT] at ht;split at ht
  ·cases ht
  ·injection ht with ht; injection ht with h1 _; subst h1; exact this
 | rn k r =>
  have:=q8L o.op (key.resolve_right (by simp));simp only [OpC.effT] at ht;split at ht
  ·cases ht
  ·injection ht with ht; injection ht with h1 _; subst h1; exact this
 | ob2 t n S r =>
  have:=q8L o.op (key.resolve_right (by simp));simp only [OpC.effT] at ht;split at ht
  ·cases ht
  ·rename_i d hd; injection ht with ht; injection ht with h1 _; subst h1; exact ⟨this,hd⟩
theorem get_put {o:Opd} {d:Option Nat} {x:Slot} (h:∀ n,o=.t n->d≠some n):o.get (s.put d x)=o.get s/\o.an (s.put d x)=o.an s:=by
 cases d with
 | none=>exact ⟨rfl,rfl⟩
 | some d =>
  cases o with
  | c v=>exact ⟨rfl,by cases v <;> first | rfl | (rename_i b l; cases b <;> rfl)⟩
  | t n =>
   have:n≠d:=fun e=>h n rfl (by rw [e])
   simp [Opd.get,Opd.an,MSt.put,this]
theorem looks_opds {o:OpC} {n:Nat} {x:Opd} (h:x∈o.op.opds) (hx:x=.t n):n∈o.looks:=by
 unfold OpC.looks;refine List.mem_append_left _ (List.mem_filterMap.2 ⟨x,h,?_⟩);rw [hx]
theorem q82 {x y:OpC} (h:x.clear y=true):(∀ n,x.dst=some n->n ∉ y.looks)/\(∀ n,x.dst=some n->y.dst≠some n):=by
 unfold OpC.clear at h;constructor
 ·intro n hn;rw [hn] at h;simp at h;exact h.1
 ·intro n hn;rw [hn] at h;simp at h;exact h.2
theorem qb7 {y:OpC} {d:Option Nat} {v:Slot} (h:∀ n,d=some n->n ∉ y.looks):y.runG call (s.put d v)=y.runG call s:=by
 have h1:y.op.run call (s.put d v)=y.op.run call s:=q9n _ (fun o ho=>get_put fun n hn hd=>h n hd (looks_opds ho hn)) (fun t n _=>by cases d <;> rfl) (fun _=>by cases d <;> rfl);unfold OpC.runG;rw [h1];cases hg:y.guard with
 | none=>rfl
 | some p =>
  obtain ⟨t,want⟩:=p;have:t∈y.looks:=by unfold OpC.looks; rw [hg]; simp
  have he:((s.put d v).env t)=s.env t:=by
   cases d with
   | none=>rfl
   | some d =>
    have:t≠d:=fun e=>h d rfl (e ▸ this)
    simp [MSt.put,this]
  simp only [he]
def Tr.off (T:Tr) (o:OpC):Prop:=match T with
 | .id=>True
 | .row t _ _=>¬ o.op.reads t
 | .an _ _=>isT o.op=false
 | .obj _ _ _=>isO o.op=false
 | .rn ..=>False
 | .ob2 _ _ _ d _ _=>isO o.op=false/\¬ o.op.reads d
def Tr.act (T:Tr) (p:Slot × Eff):Slot × Eff:=match T with
 | .an _ _=>(p.1.mapAn T.f,p.2.mapAn T.f)
 | _=>p
theorem runG_tr {y:OpC} {T:Tr} (h:T.off y):y.runG call (T.ap s)=(y.runG call s).map T.act:=by
 cases T with
 | rn=>exact absurd h id
 | ob2 t n S d m r =>
  have h1:y.op.run call ((s.setObj t n S).setRow d m r)=y.op.run call s:=q9n _ (fun o ho=>by
   cases o with
   | t n=>exact ⟨rfl,rfl⟩
   | c v=>exact ⟨rfl,by cases v <;> first | rfl | (rename_i b l; cases b <;> rfl)⟩) (fun t' n' hr=>by
   simp only [MSt.setRow,MSt.setObj];rw [if_neg];rintro ⟨e,_⟩;exact h.2 (e ▸ hr)) (fun ho=>by
    have h':isO y.op=false:=h.1;rw [h'] at ho; cases ho)
  have:y.runG call ((Tr.ob2 t n S d m r).ap s)=y.runG call s:=by
   unfold OpC.runG Tr.ap;rw [h1];rfl
  have h2:(Tr.act (.ob2 t n S d m r):Slot × Eff->Slot × Eff)=id:=rfl;rw [this,h2,Option.map_id];rfl
 | id =>
  have:(Tr.act .id:Slot × Eff->Slot × Eff)=id:=rfl;rw [this,Option.map_id];rfl
 | row t n r =>
  have h1:y.op.run call (s.setRow t n r)=y.op.run call s:=q9n _ (fun o ho=>by
   cases o with
   | t n=>exact ⟨rfl,rfl⟩
   | c v=>exact ⟨rfl,by cases v <;> first | rfl | (rename_i b l; cases b <;> rfl)⟩) (fun t' n' hr=>by
   simp only [MSt.setRow];rw [if_neg];rintro ⟨e,_⟩;exact h (e ▸ hr)) (fun _=>rfl)
  have:y.runG call ((Tr.row t n r).ap s)=y.runG call s:=by
   unfold OpC.runG Tr.ap;rw [h1];rfl
  have h2:(Tr.act (.row t n r):Slot × Eff->Slot × Eff)=id:=rfl;rw [this,h2,Option.map_id];rfl
 | obj t n S =>
  have h1:y.op.run call (s.setObj t n S)=y.op.run call s:=q9n _ (fun o ho=>by
   cases o with
   | t n=>exact ⟨rfl,rfl⟩
   | c v=>exact ⟨rfl,by cases v <;> first | rfl | (rename_i b l; cases b <;> rfl)⟩) (fun t' n' hr=>rfl) (fun ho=>by
    have h':isO y.op=false:=h;rw [h'] at ho; cases ho)
  have:y.runG call ((Tr.obj t n S).ap s)=y.runG call s:=by
   unfold OpC.runG Tr.ap;rw [h1];rfl
  have h2:(Tr.act (.obj t n S):Slot × Eff->Slot × Eff)=id:=rfl;rw [this,h2,Option.map_id];rfl
 | an A d =>
  rw [Tr.ap_an];have h1:=run_mapAn (call:=call) (s:=s) (Tr.ends (.an A d)) y.op h;unfold OpC.runG;rw [h1];cases y.guard with
  | none=>rfl
  | some p =>
   obtain ⟨t,want⟩:=p;simp only [MSt.mapAn];generalize (s.env t).v=y;cases y with
   | bool b =>
    simp only;split
    ·rfl
    ·simp [Tr.act,Slot.mapAn,Eff.mapAn,(Tr.ends (.an A d)).no]
   | tup l=>cases l <;> simp [Tr.act,Slot.mapAn,Eff.mapAn,(Tr.ends (.an A d)).no]
   | _=>rfl
theorem okPair_symm {x y:OpC} (h:q59 x y=true):q59 y x=true:=by
 unfold q59 at h ⊢;simp only [yb] at h ⊢;obtain ⟨⟨⟨⟨⟨⟨⟨m1,m2⟩,h1⟩,h0⟩,h2⟩,h3⟩,h4⟩,h5⟩:=h;refine ⟨⟨⟨⟨⟨⟨⟨m2,m1⟩,by rw [Bool.or_comm]; exact h1⟩,by rw [Bool.or_comm (!isO y.op),Bool.and_comm]; exact h0⟩,?_⟩,h4⟩,h3⟩,?_⟩
 ·cases hc:x.op.cl with
  | none=>cases y.op.cl <;> rfl
  | some c =>
   cases hd:y.op.cl with
   | none=>rfl
   | some d =>
    rw [hc,hd] at h2;simp only [Bool.or_eq_true] at h2 ⊢;refine h2.imp (fun h=>by rw [Bool.or_comm]; exact h) fun h=>?_
    cases c <;> cases d <;> first | rfl | exact h | (simp at h ⊢; exact fun e=>h e.symm) | (simp at h)
 ·simp only [Bool.or_eq_true] at h5 ⊢;rcases h5 with (h | h) | h
  ·exact .inl (.inr h)
  ·exact .inl (.inl h)
  ·exact .inr (by simp at h ⊢; exact fun e=>h e.symm)
theorem off_of {T:Tr} {x y:OpC} (h:T.of x) (hok:q59 x y=true):T.off y:=by
 unfold q59 at hok;simp only [yb] at hok;obtain ⟨⟨⟨⟨⟨⟨⟨m1,m2⟩,h1⟩,h0⟩,h2⟩,h3⟩,h4⟩,h5⟩:=hok;cases T with
 | id=>trivial
 | rn k t n r =>
  have h':isM x.op=true:=h;rw [h'] at m1;cases m1
 | ob2 t n S d m r =>
  obtain ⟨⟨g1,g2,ha⟩,hd⟩:=h;rw [g1,g2] at h0;refine ⟨by simpa using h0,fun hr=>?_⟩;unfold K.reads at hr;rw [ha,hd] at h3;cases hcl:y.op.cl with
  | none=>rw [hcl] at hr; exact hr
  | some c =>
   rw [hcl] at hr h3;cases c with
   | any=>simp at h3
   | imm=>exact hr
   | root r=>simp at h3; exact h3 hr
   | out L=>simp only [Bool.not_true,Bool.false_or] at h3 hr; rw [h3] at hr; cases hr
 | an A d =>
  have:=h.1;rw [this] at h1;show isT y.op=false;simpa using h1
 | obj t n S =>
  obtain ⟨g1,g2⟩:isO x.op=true/\isR x.op=false:=h;rw [g1,g2] at h0;show isO y.op=false;simpa using h0
 | row t n r =>
  intro hr;unfold K.reads at hr;rcases h with ⟨ha,hd⟩ | ⟨hs,hc⟩
  ·rw [ha,hd] at h3;cases hcl:y.op.cl with
   | none=>rw [hcl] at hr; exact hr
   | some c =>
    rw [hcl] at hr h3;cases c with
    | any=>simp at h3
    | imm=>exact hr
    | root r=>simp at h3; exact h3 hr
    | out L=>simp only [Bool.not_true,Bool.false_or] at h3 hr; rw [h3] at hr; cases hr
  ·cases hcl:y.op.cl with
   | none=>rw [hcl] at hr; exact hr
   | some c =>
    rw [hcl] at hr;obtain ⟨c0,hc,hp⟩:=hc;rw [hc,hcl,hs] at h2;cases c0 with
    | imm=>simp [Cl.okPtr] at hp
    | any=>cases c <;> first | exact hr | (simp at h2)
    | root r0 =>
     simp [Cl.okPtr] at hp;subst hp;cases c with
     | imm=>exact hr
     | any=>simp at h2
     | root r=>simp at h2; exact h2 hr
     | out L=>simp at h2 hr; exact hr h2
    | out L0 =>
     simp [Cl.okPtr] at hp;cases c with
     | imm=>exact hr
     | any=>simp at h2
     | root r=>simp at h2 hr; subst hr; exact hp h2
     | out L=>simp at h2
theorem row_ne {t n t' n':Nat} {r r':List Slot} {x y:OpC} (h:(Tr.row t n r).of x) (h':(Tr.row t' n' r').of y) (hok:q59 x y=true):t≠t':=by
 unfold q59 at hok;simp only [yb] at hok;obtain ⟨⟨⟨⟨⟨⟨⟨m1,m2⟩,h1⟩,h0⟩,h2⟩,h3⟩,h4⟩,h5⟩:=hok;rintro rfl;rcases h with ⟨ha,hd⟩ | ⟨hs,hc⟩ <;> rcases h' with ⟨ha',hd'⟩ | ⟨hs',hc'⟩
 ·rw [ha,ha',hd,hd'] at h5; simp at h5
 ·rw [ha,hd] at h3;obtain ⟨c,hc',hp⟩:=hc';rw [hc'] at h3;cases c <;> simp [Cl.okPtr] at h3 hp <;> first | exact h3 hp.symm | exact hp h3
 ·rw [ha',hd'] at h4;obtain ⟨c,hc,hp⟩:=hc;rw [hc] at h4;cases c <;> simp [Cl.okPtr] at h4 hp <;> first | exact h4 hp.symm | exact hp h4
 ·obtain ⟨c,hc,hp⟩:=hc;obtain ⟨c',hc',hp'⟩:=hc';rw [hc,hc',hs] at h2;cases c <;> cases c' <;> simp [Cl.okPtr] at h2 hp hp'
  ·subst hp; subst hp'; exact h2 rfl
  ·subst hp; exact hp' h2
  ·subst hp'; exact hp h2
def Tr.conj (T:Tr):Tr->Tr
 | .row t n r=>match T with
  | .an A d=>.row t n (r.map (Slot.mapAn (Tr.an A d).f))
  | _=>.row t n r
 | .ob2 t n S d m r=>match T with
  | .an A d'=>.ob2 t n S d m (r.map (Slot.mapAn (Tr.an A d').f))
  | _=>.ob2 t n S d m r
 | T'=>T'
def Tr.actS (T:Tr) (v:Slot):Slot:=match T with
 | .an A d=>v.mapAn (Tr.an A d).f
 | _=>v
theorem effT_act {T:Tr} {o:OpC} {n:Nat} {p:Slot × Eff} {T':Tr} {v:Slot} (h:o.effT n p=some (T',v)) (hT:(∃ A d,T=.an A d)->∀ A d,T'≠.an A d) (hR:∀ k t m r,T'≠.rn k t m r):o.effT n (T.act p)=some (T.conj T',T.actS v):=by
 obtain ⟨x,e⟩:=p;cases T with
 | id=>rw [show Tr.id.act (x,e)=(x,e) from rfl,h]; cases T' <;> rfl
 | row t m r=>rw [show (Tr.row t m r).act (x,e)=(x,e) from rfl,h]; cases T' <;> rfl
 | obj t m S=>rw [show (Tr.obj t m S).act (x,e)=(x,e) from rfl,h]; cases T' <;> rfl
 | rn k t m r=>rw [show (Tr.rn k t m r).act (x,e)=(x,e) from rfl,h]; cases T' <;> rfl
 | ob2 t n S d m r=>rw [show (Tr.ob2 t n S d m r).act (x,e)=(x,e) from rfl,h]; cases T' <;> rfl
 | an A d =>
  cases e with
  | none=>simp only [OpC.effT] at h; injection h with h; injection h with h1 h2; subst h1; subst h2; rfl
  | new r =>
   simp only [OpC.effT] at h;split at h
   ·cases h
   ·rename_i d' hd;injection h with h; injection h with h1 h2; subst h1; subst h2;simp only [Tr.act,OpC.effT,Eff.mapAn,hd,Tr.conj,Tr.actS,Slot.mapAn,(Tr.ends (.an A d)).no]
  | set t m r =>
   simp only [OpC.effT] at h;injection h with h; injection h with h1 h2; subst h1; subst h2;simp only [Tr.act,OpC.effT,Eff.mapAn,Tr.conj,Tr.actS,Slot.mapAn,(Tr.ends (.an A d)).no]
  | app a k =>
   simp only [OpC.effT] at h;split at h
   ·cases h
   ·injection h with h; injection h with h1 h2; subst h1; exact absurd rfl (hT ⟨A,d,rfl⟩ _ _)
  | obj t m S =>
   simp only [OpC.effT] at h;injection h with h; injection h with h1 h2; subst h1; subst h2;rfl
  | mk S =>
   simp only [OpC.effT] at h;split at h
   ·cases h
   ·rename_i d' hd;injection h with h; injection h with h1 h2; subst h1; subst h2;simp only [Tr.act,OpC.effT,Eff.mapAn,hd,Tr.conj,Tr.actS,Slot.mapAn,(Tr.ends (.an A d)).no]
  | rn k r =>
   simp only [OpC.effT] at h;split at h
   ·cases h
   ·injection h with h; injection h with h1 h2; exact absurd h1.symm (hR _ _ _ _)
  | ob2 t n S r =>
   simp only [OpC.effT] at h;split at h
   ·cases h
   ·rename_i d' hd;injection h with h; injection h with h1 h2; subst h1; subst h2;simp only [Tr.act,OpC.effT,Eff.mapAn,hd,Tr.conj,Tr.actS,Slot.mapAn,(Tr.ends (.an A d)).no]
theorem q1G {d d':Option Nat} (h:∀ n,d=some n->d'≠some n) (v v':Slot):(s.put d v).put d' v'=(s.put d' v').put d v:=by
 cases d with
 | none=>rfl
 | some d =>
  cases d' with
  | none=>rfl
  | some d' =>
   have:d≠d':=fun e=>h d rfl (by rw [e])
   simp only [MSt.put];congr 1;funext t;by_cases h1:t=d'
   ·by_cases h2:t=d
    ·exact absurd (h2.symm.trans h1) this
    ·rw [h1]; simp only [if_true]; rw [if_neg (fun e=>this e.symm)]
   ·simp [h1]
theorem q4X (f:An->An) (d:Option Nat) (v:Slot):(s.put d v).mapAn f=(s.mapAn f).put d (v.mapAn f):=by
 cases d with
 | none=>rfl
 | some d =>
  simp only [MSt.put,MSt.mapAn];congr 1;funext t;by_cases h:t=d <;> simp [h,Slot.mapAn]
theorem q6g (f:An->An) (t n:Nat) (r:List Slot):(s.setRow t n r).mapAn f=(s.mapAn f).setRow t n (r.map (Slot.mapAn f)):=by
 simp only [MSt.setRow,MSt.mapAn];congr 1;funext t' n';by_cases h:t'=t/\n'=n
 ·simp only [h,and_self,if_true,yt]; rfl
 ·simp [h]
theorem q1w (d:Option Nat) (v:Slot) (t n:Nat) (r:List Slot):(s.put d v).setRow t n r=(s.setRow t n r).put d v:=by cases d <;> rfl
theorem q8M {t n t' n':Nat} (h:t≠t') (r r':List Slot):(s.setRow t n r).setRow t' n' r'=(s.setRow t' n' r').setRow t n r:=by
 simp only [MSt.setRow];congr 1;funext a b;by_cases h1:a=t'
 ·have:¬ (a=t/\b=n):=fun e=>h (e.1.symm.trans h1)
  simp [this]
 ·have:¬ (a=t'/\b=n'):=fun e=>h1 e.1
  simp [this]
theorem q2d (d:Option Nat) (v:Slot) (t n:Nat) (S:AV):(s.put d v).setObj t n S=(s.setObj t n S).put d v:=by cases d <;> rfl
theorem q6f (f:An->An) (t n:Nat) (S:AV):(s.setObj t n S).mapAn f=(s.mapAn f).setObj t n S:=rfl
theorem q9o (t n:Nat) (r:List Slot) (t' n':Nat) (S:AV):(s.setRow t n r).setObj t' n' S=(s.setObj t' n' S).setRow t n r:=rfl
theorem T_row_of {t n:Nat} {S:AV} {d m:Nat} {r:List Slot} {o:OpC} (h:(Tr.ob2 t n S d m r).of o):(Tr.row d m r).of o:=.inl ⟨h.1.2.2,h.2⟩
theorem next_tr (T:Tr) (s:MSt) (d:Option Nat) (v:Slot):((T.ap s).put d v).next=s.next:=by
 have:(T.ap s).next=s.next:=by
  cases T with
  | an A d=>rw [Tr.ap_an]; rfl
  | rn k t n r=>cases k <;> rfl
  | _=>rfl
 cases d <;> exact this
theorem commute0 {x y:OpC} (hap:q6u x y=true) (hok:q59 x y=true) (h1:x.step call s=some s1) (h2:y.step call s1=some s2):∃ s1',y.step call s=some s1'/\x.step call s1'=some s2:=by
 unfold q6u at hap;simp only [yb] at hap;obtain ⟨a1,a2⟩:=q82 hap.1;obtain ⟨a3,a4⟩:=q82 hap.2;rw [q8N] at h1 h2;obtain ⟨p,hp,h1⟩:=y9.1 h1;obtain ⟨⟨Tx,vx⟩,hx,h1⟩:=yh.1 h1;obtain ⟨q,hq,h2⟩:=y9.1 h2;obtain ⟨⟨Ty,vy⟩,hy,h2⟩:=yh.1 h2;simp only at h1 h2;subst h1;have ofx:Tx.of x:=runG_eff x (x:=p.1) (e:=p.2) hp hx;have offy:=off_of ofx hok;rw [qb7 a1,runG_tr offy] at hq;obtain ⟨q0,hq0,rfl⟩:=yh.1 hq;rw [next_tr] at hy
 -- y in the first state
 have hy0:∃ Ty0 vy0,y.effT s.next q0=some (Ty0,vy0):=by
  obtain ⟨u,e⟩:=q0;cases e with
  | none=>exact ⟨_,_,rfl⟩
  | new r =>
   cases hd:y.dst with
   | none =>
    exfalso;cases Tx <;> simp [Tr.act,OpC.effT,Eff.mapAn,hd] at hy
   | some d=>exact ⟨.row d s.next r,_,by simp only [OpC.effT,hd]; rfl⟩
  | set t n r=>exact ⟨_,_,rfl⟩
  | obj t n S=>exact ⟨_,_,rfl⟩
  | mk S =>
   cases hd:y.dst with
   | none =>
    exfalso;cases Tx <;> simp [Tr.act,OpC.effT,Eff.mapAn,hd] at hy
   | some d=>exact ⟨.obj d s.next S,_,by simp only [OpC.effT,hd]; rfl⟩
  | app a k =>
   cases hd:y.dst with
   | none =>
    exfalso;cases Tx <;> simp [Tr.act,OpC.effT,Eff.mapAn,hd] at hy
   | some d=>exact ⟨.an a d,_,by simp only [OpC.effT,hd]; rfl⟩
  | rn k r =>
   cases hd:y.dst with
   | none =>
    exfalso;cases Tx <;> simp [Tr.act,OpC.effT,Eff.mapAn,hd] at hy
   | some d=>exact ⟨.rn k d s.next r,_,by simp only [OpC.effT,hd]; rfl⟩
  | ob2 t n S r =>
   cases hd:y.dst with
   | none =>
    exfalso;cases Tx <;> simp [Tr.act,OpC.effT,Eff.mapAn,hd] at hy
   | some d=>exact ⟨.ob2 t n S d s.next r,_,by simp only [OpC.effT,hd]; rfl⟩
 obtain ⟨Ty0,vy0,hy0⟩:=hy0;have ofy:Ty0.of y:=runG_eff y (x:=q0.1) (e:=q0.2) hq0 hy0;have offx:=off_of ofy (okPair_symm hok);have notT:∀ A d A' d',Tx=.an A d->Ty0=.an A' d'->False:=fun A d A' d' e e'=>by
  subst e; subst e';have:=ofy.1;rw [show isT y.op=false from offy] at this;cases this
 have noM:∀ {T:Tr} {o:OpC},T.of o->isM o.op=false->∀ k t m r,T≠.rn k t m r:=fun h hm k t m r e=>by
  subst e;have h':isM _=true:=h;rw [hm] at h';cases h'
 have hMx:isM x.op=false:=by unfold q59 at hok; simp only [yb] at hok; simpa using hok.1.1.1.1.1.1.1
 have hMy:isM y.op=false:=by unfold q59 at hok; simp only [yb] at hok; simpa using hok.1.1.1.1.1.1.2
 have nx:=noM ofx hMx;have ny:=noM ofy hMy;have hyc:=effT_act (T:=Tx) hy0 (hR:=ny) (fun ⟨A,d,e⟩ A' d' e'=>notT A d A' d' e e');rw [hyc] at hy;injection hy with hy;injection hy with e1 e2;subst e1; subst e2;have hxc:=effT_act (T:=Ty0) hx (hR:=nx) (fun ⟨A,d,e⟩ A' d' e'=>notT A' d' A d e' e);refine ⟨(Ty0.ap s).put y.dst vy0,by rw [q8N,hq0,y0,hy0]; rfl,?_⟩;rw [q8N,qb7 a3,runG_tr offx,hp];simp only [yt,y0,next_tr,hxc];rw [<- h2];congr 1;have notO:∀ t n S t' n' S',Tx=.obj t n S->Ty0=.obj t' n' S'->False:=fun t n S t' n' S' e e'=>by
  subst e; subst e';have h1:isO y.op=true:=ofy.1;rw [show isO y.op=false from offy] at h1;cases h1
 cases Tx with
 | rn=>exact absurd rfl (nx _ _ _ _)
 | id =>
  cases Ty0 with
  | rn=>exact absurd rfl (ny _ _ _ _)
  | ob2 t n S d m r=>simp only [Tr.ap,Tr.conj,Tr.actS]; rw [q2d,q1w]; exact (q1G a2 _ _).symm
  | id=>exact (q1G a2 _ _).symm
  | row t n r=>simp only [Tr.ap,Tr.conj,Tr.actS]; rw [q1w]; exact (q1G a2 _ _).symm
  | an A d =>
   simp only [Tr.conj,Tr.actS,Tr.ap_an,q4X];exact (q1G a2 _ _).symm
  | obj t n S=>simp only [Tr.ap,Tr.conj,Tr.actS]; rw [q2d]; exact (q1G a2 _ _).symm
 | row t n r =>
  cases Ty0 with
  | rn=>exact absurd rfl (ny _ _ _ _)
  | ob2 t' n' S d m r' =>
   have hne:=row_ne (x:=x) (y:=y) ofx (T_row_of ofy) hok;simp only [Tr.ap,Tr.conj,Tr.actS];rw [q1w,q2d,q1w,q9o,q8M hne];exact (q1G a2 _ _).symm
  | id=>simp only [Tr.ap,Tr.conj,Tr.actS]; rw [q1w]; exact (q1G a2 _ _).symm
  | row t' n' r' =>
   simp only [Tr.ap,Tr.conj,Tr.actS];rw [q1w,q1w,q8M (row_ne ofx ofy hok)];exact (q1G a2 _ _).symm
  | an A d =>
   simp only [Tr.conj,Tr.actS,Tr.ap_an,q4X];simp only [Tr.ap,q6g,q1w];exact (q1G a2 _ _).symm
  | obj t' n' S =>
   simp only [Tr.ap,Tr.conj,Tr.actS];rw [q2d,q1w];exact (q1G a2 _ _).symm
 | an A d =>
  cases Ty0 with
  | rn=>exact absurd rfl (ny _ _ _ _)
  | ob2 t' n' S d' m r' =>
   simp only [Tr.conj,Tr.actS,Tr.ap_an,q4X];simp only [Tr.ap,q6g,q6f,q2d,q1w];exact (q1G a2 _ _).symm
  | id =>
   simp only [Tr.conj,Tr.actS,Tr.ap_an,q4X];exact (q1G a2 _ _).symm
  | row t' n' r' =>
   simp only [Tr.conj,Tr.actS,Tr.ap_an,q4X];simp only [Tr.ap,q6g,q1w];exact (q1G a2 _ _).symm
  | an A' d'=>exact (notT A d A' d' rfl rfl).elim
  | obj t' n' S =>
   simp only [Tr.conj,Tr.actS,Tr.ap_an,q4X];simp only [Tr.ap,q6f,q2d];exact (q1G a2 _ _).symm
 | obj t n S =>
  cases Ty0 with
  | rn=>exact absurd rfl (ny _ _ _ _)
  | ob2 t' n' S' d m r'=>exact absurd ofy.1.1 (by rw [show isO y.op=false from offy]; decide)
  | id=>simp only [Tr.ap,Tr.conj,Tr.actS]; rw [q2d]; exact (q1G a2 _ _).symm
  | row t' n' r' =>
   simp only [Tr.ap,Tr.conj,Tr.actS];rw [q1w,q2d];exact (q1G a2 _ _).symm
  | an A d =>
   simp only [Tr.conj,Tr.actS,Tr.ap_an,q4X];simp only [Tr.ap,q6f,q2d];exact (q1G a2 _ _).symm
  | obj t' n' S'=>exact (notO t n S t' n' S' rfl rfl).elim
 | ob2 t n S d m r =>
  have hyO:isO y.op=false:=offy.1;cases Ty0 with
  | rn=>exact absurd rfl (ny _ _ _ _)
  | id=>simp only [Tr.ap,Tr.conj,Tr.actS]; rw [q2d,q1w]; exact (q1G a2 _ _).symm
  | row t' n' r' =>
   have hne:=row_ne (x:=x) (y:=y) (T_row_of ofx) ofy hok;simp only [Tr.ap,Tr.conj,Tr.actS];rw [q1w,q2d,q1w,<- q9o,q8M hne];exact (q1G a2 _ _).symm
  | an A d' =>
   simp only [Tr.conj,Tr.actS,Tr.ap_an,q4X];simp only [Tr.ap,q6g,q6f,q2d,q1w];exact (q1G a2 _ _).symm
  | obj t' n' S'=>exact absurd ofy.1 (by rw [hyO]; decide)
  | ob2 t' n' S' d' m' r'=>exact absurd ofy.1.1 (by rw [hyO]; decide)
def Tr.kl (T:Tr) (w:Slot):Slot:=match T with
 | .rn (some p) _ _ _=>w.kill p.1 p.2
 | _=>w
theorem isN_eff {k:K} (hk:isN k=true) {v:Slot} {e:Eff} (h:k.run call s=some (v,e)):e=.none\/(∃ r,e=.new r)\/∃ q r,e=.rn q r:=by
 cases k with
 | appm cl e' z b x y =>
  simp only [K.run] at h;split at h
  ·split at h
   ·split at h
    ·split at h
     ·injection h with h; injection h with _ h; exact .inl h.symm
     ·injection h with h; injection h with _ h; exact .inr (.inl ⟨_,h.symm⟩)
    ·cases h
   ·cases h
  ·split at h
   ·split at h
    ·injection h with h; injection h with _ h; exact .inr (.inr ⟨_,_,h.symm⟩)
    ·cases h
   ·cases h
  ·cases h
 | appn cl e' z b x y =>
  simp only [K.run] at h;split at h
  ·split at h
   ·split at h
    ·injection h with h; injection h with _ h; exact .inr (.inl ⟨_,h.symm⟩)
    ·cases h
   ·cases h
  ·split at h
   ·split at h
    ·injection h with h; injection h with _ h; exact .inr (.inr ⟨_,_,h.symm⟩)
    ·cases h
   ·cases h
  ·cases h
 | _=>cases hk
theorem isN_tr {x:OpC} (hk:isN x.op=true) {p:Slot × Eff} (hp:x.runG call s=some p) {n:Nat} {T:Tr} {v:Slot} (ht:x.effT n p=some (T,v)):T=.id\/(∃ t m r,T=.row t m r)\/∃ q t m r,T=.rn q t m r:=by
 have he:p.2=.none\/(∃ r,p.2=.new r)\/∃ q r,p.2=.rn q r:=by
  unfold OpC.runG at hp;split at hp
  ·exact isN_eff hk (v:=p.1) (e:=p.2) hp
  ·split at hp
   ·split at hp
    ·exact isN_eff hk (v:=p.1) (e:=p.2) hp
    ·injection hp with hp; subst hp; exact .inl rfl
   ·injection hp with hp; subst hp; exact .inl rfl
   ·cases hp
 obtain ⟨v0,e⟩:=p;rcases he with he | ⟨r,he⟩ | ⟨q,r,he⟩
 ·simp only at he; subst he; injection ht with ht; injection ht with h1 _; exact .inl h1.symm
 ·simp only at he;subst he;simp only [OpC.effT] at ht;split at ht
  ·cases ht
  ·injection ht with ht; injection ht with h1 _; exact .inr (.inl ⟨_,_,_,h1.symm⟩)
 ·simp only at he;subst he;simp only [OpC.effT] at ht;split at ht
  ·cases ht
  ·injection ht with ht; injection ht with h1 _; exact .inr (.inr ⟨_,_,_,_,h1.symm⟩)
theorem isN_put {T:Tr} (h:T=.id\/(∃ t m r,T=.row t m r)\/∃ q t m r,T=.rn q t m r) (s:MSt) (d:Nat) (w:Slot):T.ap (s.put (some d) w)=(T.ap s).put (some d) (T.kl w)/\∀ z,(T.ap s).env z=T.kl (s.env z):=by
 rcases h with rfl | ⟨t,m,r,rfl⟩ | ⟨q,t,m,r,rfl⟩
 ·exact ⟨rfl,fun _=>rfl⟩
 ·exact ⟨rfl,fun _=>rfl⟩
 ·cases q with
  | none=>exact ⟨rfl,fun _=>rfl⟩
  | some p =>
   refine ⟨?_,fun _=>rfl⟩;simp only [Tr.ap,MSt.killO,MSt.kill,MSt.put,MSt.setRow,Tr.kl];congr 1;funext j;by_cases hj:j=d <;> simp [hj]
theorem isMv_eq {y:OpC} (h:isMv y=true):∃ d z,y=⟨d,.mv (.t z),none⟩:=by
 obtain ⟨d,k,g⟩:=y;unfold isMv at h;simp only at h;split at h
 ·exact ⟨_,_,rfl⟩
 ·cases h
theorem commuteN {x y:OpC} (hap:q6u x y=true) (hx:isN x.op=true) (hy:isMv y=true):(∀ s s1 s2,x.step call s=some s1->y.step call s1=some s2->∃ s1',y.step call s=some s1'/\x.step call s1'=some s2)/\∀ s s1 s2,y.step call s=some s1->x.step call s1=some s2->∃ s1',x.step call s=some s1'/\y.step call s1'=some s2:=by
 obtain ⟨d,z,rfl⟩:=isMv_eq hy;unfold q6u at hap;simp only [yb] at hap;obtain ⟨a1,a2⟩:=q82 hap.1;obtain ⟨a3,a4⟩:=q82 hap.2;have hz:∀ n,x.dst=some n->n≠z:=fun n hn e=>a1 n hn (by subst e; simp [OpC.looks,K.opds])
 have hyr:∀ s:MSt,(⟨d,.mv (.t z),none⟩:OpC).step call s=some (s.put d ⟨(s.env z).v,(s.env z).a⟩):=fun _=>rfl
 have key:∀ (s:MSt) (p:Slot × Eff) (T:Tr) (v:Slot),x.runG call s=some p->x.effT s.next p=some (T,v)->(T.ap (s.put d (s.env z))).put x.dst v=((T.ap s).put x.dst v).put d ((((T.ap s).put x.dst v).env z))/\x.step call (s.put d (s.env z))=some ((T.ap (s.put d (s.env z))).put x.dst v):=fun s p T v hp hT=>by
  have hk:=isN_tr hx hp hT;constructor
  ·have he:((T.ap s).put x.dst v).env z=T.kl (s.env z):=by
    cases hd:x.dst with
    | none=>exact (isN_put hk s 0 v).2 z
    | some n =>
     simp only [MSt.put];rw [if_neg (fun e=>hz n hd e.symm)];exact (isN_put hk s 0 v).2 z
   rw [he];cases d with
   | none=>rfl
   | some d =>
    rw [(isN_put hk s d _).1];exact (q1G (fun n hn e=>a4 n hn e) _ _)
  ·rw [q8N,qb7 (fun n hn=>a3 n hn),hp];have hn:(s.put d (s.env z)).next=s.next:=by cases d <;> rfl
   simp only [y0,hn,hT,yt]
 refine ⟨fun s s1 s2 h1 h2=>?_,fun s s1 s2 h1 h2=>?_⟩
 ·rw [q8N] at h1;obtain ⟨p,hp,h1⟩:=y9.1 h1;obtain ⟨⟨T,v⟩,hT,h1⟩:=yh.1 h1;simp only at h1;rw [hyr] at h2;injection h2 with h2;refine ⟨_,hyr s,?_⟩;obtain ⟨k1,k2⟩:=key s p T v hp hT;have k2':x.step call (s.put d ⟨(s.env z).v,(s.env z).a⟩)=some ((T.ap (s.put d (s.env z))).put x.dst v):=k2;rw [k2',k1,<- h2,<- h1]
 ·rw [hyr] at h1;injection h1 with h1;subst h1;have hs1:x.step call (s.put d (s.env z))=some s2:=h2;rw [q8N,qb7 (fun n hn=>a3 n hn)] at hs1;obtain ⟨p,hp,hs1⟩:=y9.1 hs1;obtain ⟨⟨T,v⟩,hT,hs1⟩:=yh.1 hs1;have hn:(s.put d (s.env z)).next=s.next:=by cases d <;> rfl
  rw [hn] at hT;obtain ⟨k1,_⟩:=key s p T v hp hT;refine ⟨(T.ap s).put x.dst v,by rw [q8N,hp]; simp only [y0,hT,yt],?_⟩;rw [hyr,<- hs1];simp only;rw [k1]
theorem apartC_symm {x y:OpC} (h:q6u x y=true):q6u y x=true:=by
 unfold q6u at h ⊢;rw [Bool.and_comm];exact h
theorem commute {x y:OpC} (hap:q6u x y=true) (hok:q9b x y=true) (h1:x.step call s=some s1) (h2:y.step call s1=some s2):∃ s1',y.step call s=some s1'/\x.step call s1'=some s2:=by
 unfold q9b at hok;simp only [Bool.or_eq_true,yb] at hok;rcases hok with h | ⟨h,h'⟩ | ⟨h,h'⟩
 ·exact commute0 hap h h1 h2
 ·exact (commuteN (apartC_symm hap) h' h).2 s s1 s2 h1 h2
 ·exact (commuteN hap h' h).1 s s1 s2 h1 h2
end
end
section
open Go Go.RowKit
section
variable {P:Program} {O:Objs} {nt B:Nat} {F0:Own} {av0:Av} {w0:World} {s s':MSt} {a:Act} {w w':World} {ι:Ix} {Θ:Fam} {call:q1z} {lh:LH} {Q:Exit->Act->World->Prop}
def gsh (nt:Nat) (a:Act) (g:Nat->Value):Nat->Value:=fun t=>if t<nt then a.tmps.getD t undef else g (t - nt)
def Own.wait (F0:Own) (nt:Nat) (a:Act):Own:=⟨F0.b,F0.p,F0.r,F0.z,gsh nt a F0.g⟩
def MSt.bare (s:MSt):MSt:={ s with env:=fun _=>⟨.undef,.no⟩ }
def RelG (P:Program) (O:Objs) (B:Nat) (F0:Own) (av0:Av) (w0:World) (s:MSt) (w:World) (ι:Ix) (Θ:Fam):Prop:=Rel P O 0 B F0 av0 w0 (fun _=>False) s.bare ⟨#[],[]⟩ w ι Θ
def q5Y (ι:Ix) (Θ:Fam) (av avb:Av) (w:World):List Slot->List Value->Prop
 | [],us=>us=[]
 | x :: r,us=>∃ u us',us=u :: us'/\RepS ι av avb w x.v u/\AnOk Θ x.a u/\q5Y ι Θ av avb w r us'
theorem qa6 {av avb:Av}:∀ {xs ys:List Slot} {us vs:List Value},q5Y ι Θ av avb w xs us->q5Y ι Θ av avb w ys vs->q5Y ι Θ av avb w (xs++ys) (us++vs)
 | [],_,_,_,h,h'=>by simp only [q5Y] at h; subst h; exact h'
 | x :: r,_,_,_,h,h'=>by
  simp only [q5Y] at h;obtain ⟨u,us',rfl,h0,h1,h⟩:=h;exact ⟨u,us'++_,rfl,h0,h1,qa6 h h'⟩
def HpOk (P:Program) (O:Objs) (hp:HpT):Prop:=∀ f xs s k r,hp f xs s k=some r->(∀ vs w,(callFunc f vs).run P w=.ok (.enter f vs) w) ∧
 ∀ (B:Nat) (F0:Own) (av0:Av) (w0 w:World) (ι:Ix) (Θ:Fam) (us:List Value) (E:Ending->World->Prop),RelG P O B F0 av0 w0 s w ι Θ->q5Y ι Θ (avA av0 ι Θ) (avB ι Θ) w xs us →
  (∀ y s' w' ι' Θ' v,RelG P O B F0 av0 w0 s' w' ι' Θ'->RepS ι' (avA av0 ι' Θ') (avB ι' Θ') w' y.v v->AnOk Θ' y.a v->k y s'=some r->E (.returned v) w')->Calls P f us.toArray w E
theorem Rel.wait {D:Nat->Prop} (R:Rel P O nt B F0 av0 w0 D s a w ι Θ):RelG P O B (F0.wait nt a) av0 w0 (s.enter nt) w ι Θ :=
 ⟨rfl,rfl,fun _=>trivial,fun _=>trivial,R.rows,fun t n b h=>let ⟨h1,h2,h3⟩:=R.mine t n b h; ⟨h1,h2,.inl (by simp only [MSt.bare,MSt.enter]; rcases h3 with h | h <;> omega)⟩,R.inj,R.tok,R.tinj,R.apart,R.out,R.pin,R.kept,R.base,R.objs,fun t n H h=>let ⟨h1,h2⟩:=R.obs t n H h; ⟨h1,.inl (by simp only [MSt.bare,MSt.enter]; rcases h2 with h | h <;> omega)⟩,fun t=>by
  simp only [MSt.bare,MSt.enter,Own.wait,gsh];split
  ·exact R.env t
  ·exact R.gen _,fun t=>by
  simp only [MSt.bare,MSt.enter,Own.wait,gsh];split
  ·exact R.ann t
  ·exact R.gann _⟩
theorem Rel.resume {D D':Nat->Prop} {s':MSt} {ι':Ix} {Θ':Fam} (R:Rel P O nt B F0 av0 w0 D s a w ι Θ) (R':RelG P O B (F0.wait nt a) av0 w0 s' w' ι' Θ'):Rel P O nt B F0 av0 w0 D' (s'.leave nt) a w' ι' Θ' :=
 ⟨R.defers,R.size,fun t=>by
  have:=R'.gen t;simp only [MSt.bare,Own.wait,gsh] at this;simp only [MSt.leave];split
  ·rename_i h; rw [if_pos h] at this; exact this
  ·trivial,fun t=>by
  have:=R'.gann t;simp only [MSt.bare,Own.wait,gsh] at this;simp only [MSt.leave];split
  ·rename_i h; rw [if_pos h] at this; exact this
  ·trivial,R'.rows,fun t n b h=>let ⟨h1,h2,h3⟩:=R'.mine t n b h; ⟨h1,h2,h3.imp id fun h=>h.2.elim⟩,R'.inj,R'.tok,R'.tinj,R'.apart,R'.out,R'.pin,R'.kept,R'.base,R'.objs,fun t n H h=>let ⟨h1,h2⟩:=R'.obs t n H h; ⟨h1,h2.imp id fun h=>h.2.elim⟩,fun t=>by
  have:=R'.gen (t + nt);simp only [MSt.bare,Own.wait,gsh] at this;rw [if_neg (by omega),Nat.add_sub_cancel] at this;exact this,fun t=>by
  have:=R'.gann (t + nt);simp only [MSt.bare,Own.wait,gsh] at this;rw [if_neg (by omega),Nat.add_sub_cancel] at this;exact this⟩
theorem qa7 {D:Nat->Prop} (R:Rel P O nt B F0 av0 w0 D s a w ι Θ):∀ {Xs:List Operand} {xs:List Opd},opdL Xs=some xs->q5Y ι Θ (avA av0 ι Θ) (avB ι Θ) w (q8T s xs) (Xs.map a.eval)
 | [],xs,h=>by injection h with h; subst h; rfl
 | X :: Xs,xs,h=>by
  unfold opdL at h;split at h
  ·rename_i x l hx hl;injection h with h;subst h;exact ⟨_,_,rfl,(R.opd hx).1,(R.opd hx).2,qa7 R hl⟩
  ·cases h
theorem caps_rep {av avb:Av}:∀ {cs:List AV} {us:List Value},q5F ι av avb w cs us->q5Y ι Θ av avb w (cs.map (⟨·,.no⟩)) us
 | [],_,h=>h
 | x :: r,_,h=>by
  simp only [q5F] at h;obtain ⟨u,us',rfl,h0,h⟩:=h;refine ⟨u,us',rfl,?_,trivial,caps_rep h⟩;cases x with
  | bp cs=>exact h0
  | int k n=>exact q21 (x:=.int k n) h0
  | bool b=>exact q21 (x:=.bool b) h0
  | str b=>exact q21 (x:=.str b) h0
  | nilP=>exact q21 (x:=.nilP) h0
  | ptr t n o=>exact q21 (x:=.ptr t n o) h0
  | ip cs=>exact q21 (x:=.ip cs) h0
  | sl n l=>exact q21 (x:=.sl n l) h0
  | bl l=>exact q21 (x:=.bl l) h0
  | ref a b c d e f=>exact q21 (x:=.ref a b c d e f) h0
  | mp t n=>exact q21 (x:=.mp t n) h0
  | fn f cs=>exact q21 (x:=.fn f cs) h0
  | agg cs=>exact q21 (x:=.agg cs) h0
  | tup cs=>exact q21 (x:=.tup cs) h0
  | undef=>trivial
theorem op_callh {D:Nat->Prop} (R:Rel P O nt B F0 av0 w0 D s a w ι Θ) {lh:LH} (hhp:HpOk P O lh.h) {o:Oper} {hs:Nat->Bool} {nt':Nat} {x:Opd} {xs:List Opd} (hk:compH nt hs o.op=some (.callh nt' x xs)) (hd:∀ d,o.dst=some d->d<nt) {k:MSt->Option RV} {r:RV} (hr:qay lh o.dst nt' x xs s k=some r)
  {Kn:Act->World->Prop} {Q:Exit->Act->World->Prop} (hK:∀ s' a' w',RelE P O nt B F0 av0 w0 (fun t=>D t\/o.dst=some t) s' a' w'->k s'=some r->Kn a' w'):o.wp P a w Kn Q:=by
 have go:∀ {f:FuncId} {Xs:Array Operand} {cs:List AV} {us:List Value},nt'=nt->opdL Xs.toList=some xs->q5F ι (avA av0 ι Θ) (avB ι Θ) w cs us->lh.h f (q8T s xs++cs.map (⟨·,.no⟩)) (s.enter nt) (fun y s'=>k ((s'.leave nt).put o.dst y))=some r->((∀ vs w,(callFunc f vs).run P w=.ok (.enter f vs) w)->(execOp a.eval o).run P w=.ok (.enter f (Xs.map a.eval++us.toArray)) w)->o.wp P a w Kn Q:=fun {f Xs cs us} hn hx hcs hh run=>by
  obtain ⟨h1,h2⟩:=hhp _ _ _ _ _ hh;unfold Oper.wp;rw [run h1,Oper.upon_enter];have he0:(Xs.toList.map a.eval++us).toArray=Xs.map a.eval++us.toArray:=by
   apply Array.ext';simp
  rw [<- he0];refine h2 B (F0.wait nt a) av0 w0 w ι Θ _ _ R.wait (qa6 (qa7 R hx) (caps_rep hcs)) fun y s' w' ι' Θ' v R' hv ha hks=>?_
  exact hK _ _ _ ⟨ι',Θ',((R.resume (D':=D) R').putN hd hv ha).more fun _ h=>.inl h⟩ hks
 unfold compH at hk;split at hk
 ·rename_i f Xs ts ho;split at hk
  ·obtain ⟨l,hl,hk⟩:=yh.1 hk;injection hk with hn hx hxs;subst hx;subst hxs;simp only [qay,Opd.get] at hr;refine go (cs:=[]) (us:=[]) hn.symm hl rfl (by rw [hn]; exact hr) fun henter=>?_
   simp only [execOp,ho,resolve,Act.eval,Deferred.ofValue,Sem.run_bind,Sem.run_pure,Result.andThen_ok,invoke];have:=henter (#[]++Xs.map a.eval++#[]) w;simp only [Array.empty_append,Array.append_empty] at this ⊢;exact this
  ·cases hk
 ·rename_i tf Xs ts ho;split at hk
  ·obtain ⟨l,hl,hk⟩:=yh.1 hk;injection hk with hn hx hxs;subst hx;subst hxs;simp only [qay,Opd.get] at hr;split at hr
   ·rename_i f cs hfn;have hF:=R.env tf;rw [hfn] at hF;obtain ⟨us,hfv,hcs⟩:=hF;refine go (cs:=cs) (us:=us.toList) hn.symm hl hcs (by rw [hn]; exact hr) fun henter=>?_
    have hev:a.eval (.tmp tf)=.func (.func f) #[] us:=hfv;simp only [execOp,ho,resolve,hev,Deferred.ofValue,Sem.run_bind,Sem.run_pure,Result.andThen_ok,invoke];have:=henter (#[]++Xs.map a.eval++us) w;simp only [Array.empty_append] at this ⊢;exact this
   ·cases hr
  ·cases hk
 ·obtain ⟨_,_,h⟩:=yh.1 hk; cases h
 ·cases hk
theorem qan {f:Nat->Option RV} {z:Option RV} {r:RV} (l:List Nat) (h:pickAll f z l=some r):(l=[]->z=some r)/\∀ i∈l,f i=some r:=by
 match l,h with
 | [],h=>exact ⟨fun _=>h,fun i hi=>absurd hi (by simp)⟩
 | [a],h=>exact ⟨fun e=>(by cases e),fun i hi=>(by rw [List.mem_singleton.1 hi]; exact h)⟩
 | a :: b :: l,h =>
  have h':(open Classical in if ∀ x∈b :: l,f x=f a then f a else none)=some r:=h;split at h'
  ·rename_i hc;refine ⟨fun e=>(by cases e),fun i hi=>?_⟩;rcases yj.1 hi with hi | hi
   ·rw [hi]; exact h'
   ·exact (hc i hi).trans h'
  ·cases h'
theorem pickAll_of {f:Nat->Option RV} {z:Option RV} {r:RV} (l:List Nat) (h0:l=[]->z=some r) (h:∀ i∈l,f i=some r):pickAll f z l=some r:=by
 match l,h0,h with
 | [],h0,_=>exact h0 rfl
 | [a],_,h=>exact h a yl
 | a :: b :: l,_,h =>
  show (open Classical in if ∀ x∈b :: l,f x=f a then f a else none)=some r;rw [if_pos fun x hx=>(h x (yp _ hx)).trans (h a yl).symm];exact h a yl
theorem op_nxt {D:Nat->Prop} (R:Rel P O nt B F0 av0 w0 D s a w ι Θ) {o:Oper} {X:Operand} {x:Opd} (hx:opd X=some x) (ho:o.op=.next X false) (hd:∀ d,o.dst=some d->d<nt) {k:MSt->Option RV} {r:RV} (hr:nstep o.dst x s k=some r)
  {Kn:Act->World->Prop} {Q:Exit->Act->World->Prop} (hK:∀ s' a' w',RelE P O nt B F0 av0 w0 (fun t=>D t\/o.dst=some t) s' a' w'->k s'=some r->Kn a' w'):o.wp P a w Kn Q:=by
 unfold nstep at hr;split at hr
 case h_2=>cases hr
 rename_i t n hxv;split at hr
 case h_2=>cases hr
 rename_i tm nm N seen hi;split at hr
 case h_2=>cases hr
 rename_i L hL;split at hr
 case isFalse=>cases hr
 rename_i hN;have hX:=(R.opd hx).1;rw [hxv] at hX;obtain ⟨q,hq,hv⟩:=hX;obtain ⟨S,hS,hit⟩:=y9.1 hi;obtain ⟨p,H,hp,hob,hat,htie⟩:=R.objs t n S hS;rw [hq] at hp;injection hp with hp;subst hp;obtain ⟨m,Hm,hm,hobm,hheap⟩:=htie tm nm N seen hit;obtain ⟨hH,hlt⟩:=(O.iters S H q w (by rw [hit]; rfl)).1 hat;obtain ⟨S2,hS2,hmo⟩:=y9.1 hL;obtain ⟨p2,H2,hp2,hob2,hat2,_⟩:=R.objs tm nm S2 hS2;rw [hm] at hp2;injection hp2 with hp2;subst hp2;have hSL:S2=q5P L:=by
  unfold q6G at hmo;split at hmo
  ·injection hmo with hmo; subst hmo; rfl
  ·cases hmo
 subst hSL;obtain ⟨hH2,es,clock,he,hent,hc,hst⟩:=(O.maps L H2 m w).1 hat2;have hes:es.size=N:=by rw [<- hN]; simpa using congrArg List.length hent
 obtain ⟨h1,h2⟩:=qan _ hr;have hgq:(getObj q).run P w=.ok (.mapIter (some m) N seen.toArray N) w:=by simp [getObj,Sem.run,hheap]
 have hgm:(getObj m).run P w=.ok (.map es clock) w:=by simp [getObj,Sem.run,he]
 have hleft:∀ i (hi:i<es.size),(es[i]∈es.filter (fun e=>!seen.toArray.contains e.born) ↔ (!seen.contains i)=true):=fun i hi=>by
  rw [Array.mem_filter,hst i hi];simp
 have htest:(!seen.toArray.isEmpty&&!es.isEmpty&&es.all (fun x=>decide (x.born>=N)))=false:=by
  cases hemp:es.isEmpty with
  | true=>simp
  | false =>
   have h0:0<es.size:=by
    rcases yE es.size with h0 | h0
    ·simp [Array.isEmpty,h0] at hemp
    ·exact h0
   have:es.all (fun x=>decide (x.born>=N))=false:=by
    rw [Bool.eq_false_iff];intro hall;rw [Array.all_eq_true] at hall;have:=hall 0 h0;rw [hst 0 h0] at this;simp at this;omega
   simp [this]
 have hmem:∀ x∈es.filter (fun e=>!seen.toArray.contains e.born),x.born<N:=fun x hx=>by
  have hx':x∈es:=(Array.mem_filter.1 hx).1;obtain ⟨i,hi',rfl⟩:=Array.mem_iff_getElem.1 hx';rw [hst i hi'];omega
 generalize hLf:es.filter (fun e=>!seen.toArray.contains e.born)=Lf at hmem hleft;have e1:Lf.filter (fun x=>decide (x.born<N))=Lf:=Array.filter_eq_self.2 fun x hx=>by simpa using hmem x hx
 have e2:Lf.filter (fun x=>decide (x.born>=N))=#[]:=by
  rw [Array.filter_eq_empty_iff];intro x hx;have:=hmem x hx;simp;omega
 unfold Oper.wp;by_cases h0:Lf.size=0
 ·have hz:Lf=#[]:=Array.eq_empty_of_size_eq_zero h0;have hnone:(List.range N).filter (fun i=>!seen.contains i)=[]:=by
   refine List.eq_nil_iff_forall_not_mem.2 fun i hi'=>?_
   have hlt':i<es.size:=by have:=(List.mem_filter.1 hi').1; rw [hes]; exact List.mem_range.1 this
   have:=(hleft i hlt').2 (List.mem_filter.1 hi').2;rw [hz] at this;simp at this
  have hrun:(execOp a.eval o).run P w=.ok (.value (.tuple #[.bool false])) w:=by
   simp only [execOp,ho,hv,Instr.next,Sem.run_bind,hgq,hgm,Result.andThen_ok,htest,yr,if_false,hLf,e1,e2,hz,Array.append_empty];simp [choose,Sem.run,Question.forced]
  rw [hrun,Oper.upon_value];exact hK _ _ _ ⟨ι,Θ,(R.putN hd (x:=⟨.tup [.bool false],.no⟩) ⟨_,rfl,_,_,rfl,rfl,rfl⟩ trivial).more fun _ h=>.inl h⟩ (h1 hnone)
 ·have hne:Lf.isEmpty=false:=by simp [Array.isEmpty,h0]
  obtain ⟨j,w1,hj,hw1,hch⟩:∃ (j:Nat) (w1:World),j<Lf.size/\(w1=w\/w1=w.drew)/\(choose (Question.mapNext Lf.size)).run P w=.ok j w1:=by
   by_cases hf:Lf.size<=1
   ·exact ⟨0,w,by omega,.inl rfl,by simp [choose,Sem.run,Question.forced,hf]⟩
   ·exact ⟨_,w.drew,Nat.mod_lt _ (by omega),.inr rfl,by
     simp only [choose,Sem.run,Question.forced,decide_eq_true_eq,hf,if_false,Question.cut];rfl⟩
  have hjm:Lf[j]∈Lf:=by simp
  have hje:Lf[j]∈es:=by
   have:∀ x,x∈Lf->x∈es:=fun x hx=>by rw [<- hLf] at hx; exact (Array.mem_filter.1 hx).1
   exact this _ hjm
  obtain ⟨i,hiN,hie'⟩:=Array.mem_iff_getElem.1 hje;have hi':i∈(List.range N).filter fun i=>!seen.contains i:=List.mem_filter.2 ⟨List.mem_range.2 (by rw [<- hes]; exact hiN),(hleft i hiN).1 (by rw [hie']; exact hjm)⟩
  have hborn:Lf[j].born=i:=by rw [<- hie']; exact hst i hiN
  have hk:=h2 i hi';split at hk
  case h_2=>cases hk
  rename_i y v hyv;split at hk
  case isFalse=>cases hk
  rename_i hfl;rw [yb] at hfl;have hkv:Lf[j].key=y.flatV/\Lf[j].val=v.flatV:=by
   have:=congrArg (fun l=>l[i]?) hent;simp only [yf,hyv,Array.getElem?_toList,yZ hiN,yt,Option.some.injEq,entV] at this;rw [<- hie'];exact ⟨congrArg Prod.fst this,congrArg Prod.snd this⟩
  have hw1h:w1.heap=w.heap:=by rcases hw1 with rfl | rfl <;> rfl
  have hq1:w1.heap[q]?=some (.mapIter (some m) N seen.toArray N):=by rw [hw1h]; exact hheap
  have hset:(setObj q (.mapIter (some m) N (seen.toArray.push i) clock)).run P w1=.ok () { w1 with heap:=w1.heap.setIfInBounds q (.mapIter (some m) N (seen.toArray.push i) clock) }:=by
   simp [setObj,Sem.run,hq1]
  have hrun:(execOp a.eval o).run P w=.ok (.value (.tuple #[.bool true,y.flatV,v.flatV])) { w1 with heap:=w1.heap.setIfInBounds q (.mapIter (some m) N (seen.toArray.push i) clock) }:=by
   simp only [execOp,ho,hv,Instr.next,Sem.run_bind,hgq,hgm,Result.andThen_ok,htest,yr,if_false,hLf,e1,e2,hne,Array.append_empty,Array.empty_append,Array.size_map,hch,Array.getElem?_map,yZ hj,yt,hborn,hset,Sem.run_pure,hkv.1,hkv.2]
  rw [hrun,Oper.upon_value];have R1:Rel P O nt B F0 av0 w0 D s a w1 ι Θ:=R.grow (fun b _=>by rw [hw1h]) (by rw [hw1h]; exact ym _) (by rcases hw1 with rfl | rfl; exact R.kept; exact R.kept.drew);have hat':O.at_ (itAV tm nm N (seen++[i])) H q { w1 with heap:=w1.heap.setIfInBounds q (.mapIter (some m) N (seen.toArray.push i) clock) }:=(O.iters _ _ _ _ (by rw [itOf_av]; rfl)).2 ⟨hH,by simp; rw [hw1h]; exact hlt⟩;have hkeep:Keep H w1 { w1 with heap:=w1.heap.setIfInBounds q (.mapIter (some m) N (seen.toArray.push i) clock) }:=⟨rfl,rfl,rfl,by simp,fun j' _ hn=>by
   have:j'≠q:=fun e=>hn ((hH j').2 e)
   simp only [Array.getElem?_setIfInBounds];rw [if_neg fun e:q=j'=>this e.symm]⟩
  have htie':Tie ι (itAV tm nm N (seen++[i])) q { w1 with heap:=w1.heap.setIfInBounds q (.mapIter (some m) N (seen.toArray.push i) clock) }:=fun tm' nm' N' seen' e=>by
   rw [itOf_av] at e;injection e with e;injection e with g1 e;injection e with g2 e;injection e with g3 g4;subst g1; subst g2; subst g3; subst g4;refine ⟨m,Hm,hm,hobm,?_⟩;have hlt1:q<w1.heap.size:=by rw [hw1h]; exact hlt
   simp [hlt1,hc,hes]
  obtain ⟨ι',R2,_⟩:=R1.turnObj hq hob hat' htie' (fun b hb=>.inl hb) hkeep;refine hK _ _ _ ⟨ι',Θ,(R2.putN hd (x:=⟨.tup [.bool true,y,v],.no⟩) ?_ trivial).more fun _ h=>.inl h⟩ hk;exact ⟨_,rfl,_,_,rfl,rfl,_,_,rfl,q3R (q85 hfl.1),_,_,rfl,q3R (q85 hfl.2),rfl⟩
structure OpOk (P:Program) (nt:Nat) (ops:Array Oper) (o:Oper) (c:OpC):Prop where
 dst:c.dst=o.dst
 op:(isH c.op=false/\∃ cl mu b q,compB P cl mu b q o.op=some c.op/\(mu≠none->o.dst≠none))\/∃ hs,compH nt hs o.op=some c.op
 lt:∀ d,o.dst=some d->d<nt
 guard:match o.guard with
  | none=>c.guard=none
  | some (g,want)=>∃ t,(ops[g]?).bind (·.dst)=some t/\c.guard=some (t,want)
theorem compOps_get {boxes:List Nat} {all:List Oper} {draw:Bool}:∀ {ops:List Oper} {cs:List OpC},compOps P boxes nt all draw ops=some cs->cs.length=ops.length/\∀ (i:Nat) (o:Oper),ops[i]?=some o->∃ c,cs[i]?=some c/\OpOk P nt all.toArray o c
 | [],cs,h=>by injection h with h; subst h; exact ⟨rfl,fun i o ho=>by simp at ho⟩
 | o :: r,cs,h=>by
  unfold compOps at h;split at h
  ·rename_i k l hk hl;split at h
   ·rename_i hlt;have hlt':∀ d,o.dst=some d->d<nt:=fun d hd=>by rw [hd] at hlt; simpa [dstOk] using hlt
    obtain ⟨h1,h2⟩:=compOps_get hl;have fin:∀ c,cs=c :: l->OpOk P nt all.toArray o c->cs.length=(o :: r).length/\∀ (i:Nat) (o':Oper),(o :: r)[i]?=some o'->∃ c,cs[i]?=some c/\OpOk P nt all.toArray o' c:=fun c e hc=>by
     subst e;refine ⟨by simp [h1],fun i o' ho=>?_⟩;cases i with
     | zero=>simp at ho; subst ho; exact ⟨c,rfl,hc⟩
     | succ i=>simpa using h2 i o' (by simpa using ho)
    have hmu:(match o.dst with | some d=>if boxes.contains (nt + 1 + (2 * d + 1)) then some true else if boxes.contains (nt + 1 + 2 * d) then some false else none | none=>none)≠none->o.dst≠none:=fun h e=>by rw [e] at h; exact h rfl
    have hop:(isH k=false/\∃ cl mu b q,compB P cl mu b q o.op=some k/\(mu≠none->o.dst≠none))\/∃ hs,compH nt hs o.op=some k:=by
     split at hk
     ·rename_i k' hk';injection hk with hk;exact .inr ⟨_,hk ▸ hk'⟩
     ·obtain ⟨h1,h2⟩:=Option.filter_eq_some_iff.1 hk;exact .inl ⟨by simpa using h2,_,_,_,_,h1,hmu⟩
    cases hg:o.guard with
    | none =>
     simp only [hg] at h;injection h with h;exact fin _ h.symm ⟨rfl,hop,hlt',by rw [hg]⟩
    | some p =>
     obtain ⟨g,want⟩:=p;simp only [hg] at h;split at h
     ·rename_i t ht;injection h with h;exact fin _ h.symm ⟨rfl,hop,hlt',by rw [hg]; exact ⟨t,by simpa using ht,rfl⟩⟩
     ·cases h
   ·cases h
  ·cases h
theorem step_sound {D:Nat->Prop} (R:RelE P O nt B F0 av0 w0 D s a w) (hcall:∀ f args S r,call f args S=some r->q1Y P O f args S r) {ops:Array Oper} {i:Nat} {o:Oper} {c:OpC} (ho:ops[i]?=some o) (ok:OpOk P nt ops o c) (hD:∀ d,o.dst=some d->(isA c.op||isO c.op)=true->¬ D d) (hop:∃ cl mu b q,compB P cl mu b q o.op=some c.op/\(mu≠none->o.dst≠none)) (hs:c.step call s=some s')
  {Kn:Act->World->Prop} (hK:∀ a' w',RelE P O nt B F0 av0 w0 (fun t=>D t\/o.dst=some t) s' a' w'->Kn a' w'):wpOp P ops Q i Kn a w:=by
 obtain ⟨ι,Θ,R⟩:=R;obtain ⟨cl,mu,b,q,hop,hmu⟩:=hop;obtain ⟨cd,cop,cg⟩:=c;have hdst:cd=o.dst:=ok.dst;subst hdst;have main:cop.run call s≠none->(cop.run call s).bind (OpC.eff ⟨o.dst,cop,cg⟩ s)=some s'->o.wp P a w Kn Q:=fun _ h=>by
  obtain ⟨xe,hx,he⟩:=y9.1 h;unfold compB at hop;split at hop
  ·rename_i k hk;injection hop with hop;subst hop;exact op_sound R hcall hk hmu ok.lt hD hx he hK
  ·split at hop
   ·injection hop with hop;subst hop;cases hx
   ·cases hop
 have main':(cop.run call s).bind (OpC.eff ⟨o.dst,cop,cg⟩ s)=some s'->o.wp P a w Kn Q:=fun h=>main (fun e=>by rw [e] at h; cases h) h
 unfold wpOp;simp only [ho];have hun:RepS ι (avA av0 ι Θ) (avB ι Θ) w (.tup []) undef:=⟨#[],rfl,rfl⟩;have hg:=ok.guard;cases hgo:o.guard with
 | none =>
  rw [hgo] at hg;simp only at hg;subst hg;have:Region.wanted o (yielded ops a.tmps)=true:=by simp [Region.wanted,hgo]
  rw [if_pos this];exact .inl (main' hs)
 | some p =>
  obtain ⟨g,want⟩:=p;rw [hgo] at hg;obtain ⟨t,ht,hg⟩:=hg;simp only at hg;subst hg;unfold OpC.step at hs;simp only at hs;split at hs
  ·rename_i b hb;have hr:=R.env t;rw [hb,q0T] at hr;have hy:yielded ops a.tmps g=some b:=by
    unfold yielded;rw [ht];simp only [y0];rw [yY] at hr;cases hh:a.tmps[t]? with
    | none=>rw [hh] at hr; simp [undef] at hr
    | some v=>rw [hh] at hr; simp only [Option.getD_some] at hr; subst hr; rfl
   have hw:Region.wanted o (yielded ops a.tmps)=(b == want):=by
    simp only [Region.wanted,hgo,hy];cases b <;> cases want <;> rfl
   rw [hw];split at hs
   ·rename_i e;subst e;rw [if_pos (by simp)];exact .inl (main' hs)
   ·rename_i e;injection hs with hs;subst hs;rw [if_neg (by simpa using e)];exact hK _ _ ⟨ι,Θ,(R.putN ok.lt (x:=⟨.tup [],.no⟩) hun trivial).more fun _ h=>.inl h⟩
  ·rename_i hb;have hr:=R.env t;rw [hb] at hr;obtain ⟨us,hv,hus⟩:=hr;have hy:yielded ops a.tmps g=none:=by
    unfold yielded;rw [ht];simp only [y0];rw [yY] at hv;cases hh:a.tmps[t]? with
    | none=>rfl
    | some v=>rw [hh] at hv; simp only [Option.getD_some] at hv; subst hv; rfl
   have hw:Region.wanted o (yielded ops a.tmps)=false:=by
    simp only [Region.wanted,hgo,hy];cases want <;> rfl
   rw [hw];injection hs with hs;subst hs;rw [if_neg (by decide)];exact hK _ _ ⟨ι,Θ,(R.putN ok.lt (x:=⟨.tup [],.no⟩) hun trivial).more fun _ h=>.inl h⟩
  ·cases hs
theorem stepK_sound {D:Nat->Prop} (R:RelE P O nt B F0 av0 w0 D s a w) (hcall:∀ f args S r,call f args S=some r->q1Y P O f args S r) (hhp:HpOk P O lh.h) {ops:Array Oper} {i:Nat} {o:Oper} {c:OpC} (ho:ops[i]?=some o) (ok:OpOk P nt ops o c) (hD:∀ d,o.dst=some d->(isA c.op||isO c.op)=true->¬ D d) {k:MSt->Option RV} {r:RV} (hs:c.stepK call lh s k=some r)
  {Kn:Act->World->Prop} (hK:∀ s' a' w',RelE P O nt B F0 av0 w0 (fun t=>D t\/o.dst=some t) s' a' w'->k s'=some r->Kn a' w'):wpOp P ops Q i Kn a w:=by
 rcases ok.op with ⟨hH,hop⟩ | ⟨hs',hop⟩
 ·have hb:(c.step call s).bind k=some r:=by
   unfold OpC.stepK at hs;split at hs
   ·rename_i h; rw [h] at hH; cases hH
   ·rename_i h; rw [h] at hH; cases hH
   ·exact hs
  obtain ⟨s1,h1,h2⟩:=y9.1 hb;exact step_sound R hcall ho ok hD hop h1 fun a' w' R'=>hK s1 a' w' R' h2
 ·obtain ⟨cd,cop,cg⟩:=c;have hdst:cd=o.dst:=ok.dst;subst hdst;simp only at hop;obtain ⟨ι,Θ,R⟩:=R;obtain ⟨st,hst,main'⟩:∃ st,OpC.stepK call lh ⟨o.dst,cop,cg⟩ s k=q6C s o.dst cg st k/\(st=some r->o.wp P a w Kn Q):=by
   have hop':=hop;unfold compH at hop';split at hop'
   ·split at hop'
    ·obtain ⟨_,_,h⟩:=yh.1 hop'; subst h; exact ⟨_,rfl,fun h=>op_callh R hhp hop ok.lt h hK⟩
    ·cases hop'
   ·split at hop'
    ·obtain ⟨_,_,h⟩:=yh.1 hop'; subst h; exact ⟨_,rfl,fun h=>op_callh R hhp hop ok.lt h hK⟩
    ·cases hop'
   ·rename_i X hox;obtain ⟨x,hx,h⟩:=yh.1 hop';subst h;exact ⟨_,rfl,fun h=>op_nxt R hx hox ok.lt h hK⟩
   ·cases hop'
  rw [hst] at hs;unfold wpOp;simp only [ho];have hun:RepS ι (avA av0 ι Θ) (avB ι Θ) w (.tup []) undef:=⟨#[],rfl,rfl⟩;have hg:=ok.guard;cases hgo:o.guard with
  | none =>
   rw [hgo] at hg;simp only at hg;subst hg;have:Region.wanted o (yielded ops a.tmps)=true:=by simp [Region.wanted,hgo]
   rw [if_pos this];exact .inl (main' hs)
  | some p =>
   obtain ⟨g,want⟩:=p;rw [hgo] at hg;obtain ⟨t,ht,hg⟩:=hg;simp only at hg;subst hg;unfold q6C at hs;simp only at hs;split at hs
   ·rename_i b hb;have hr:=R.env t;rw [hb,q0T] at hr;have hy:yielded ops a.tmps g=some b:=by
     unfold yielded;rw [ht];simp only [y0];rw [yY] at hr;cases hh:a.tmps[t]? with
     | none=>rw [hh] at hr; simp [undef] at hr
     | some v=>rw [hh] at hr; simp only [Option.getD_some] at hr; subst hr; rfl
    have hw:Region.wanted o (yielded ops a.tmps)=(b == want):=by
     simp only [Region.wanted,hgo,hy];cases b <;> cases want <;> rfl
    rw [hw];split at hs
    ·rename_i e;subst e;rw [if_pos (by simp)];exact .inl (main' hs)
    ·rename_i e;rw [if_neg (by simpa using e)];exact hK _ _ _ ⟨ι,Θ,(R.putN ok.lt (x:=⟨.tup [],.no⟩) hun trivial).more fun _ h=>.inl h⟩ hs
   ·rename_i hb;have hr:=R.env t;rw [hb] at hr;obtain ⟨us,hv,hus⟩:=hr;have hy:yielded ops a.tmps g=none:=by
     unfold yielded;rw [ht];simp only [y0];rw [yY] at hv;cases hh:a.tmps[t]? with
     | none=>rfl
     | some v=>rw [hh] at hv; simp only [Option.getD_some] at hv; subst hv; rfl
    have hw:Region.wanted o (yielded ops a.tmps)=false:=by
     simp only [Region.wanted,hgo,hy];cases want <;> rfl
    rw [hw];rw [if_neg (by decide)];exact hK _ _ _ ⟨ι,Θ,(R.putN ok.lt (x:=⟨.tup [],.no⟩) hun trivial).more fun _ h=>.inl h⟩ hs
   ·cases hs
theorem RelE.next {D:Nat->Prop} (R:RelE P O nt B F0 av0 w0 D s a w):RelE P O nt B F0 av0 w0 (fun _=>False) { s with next:=s.next + 1 } a w:=by
 obtain ⟨ι,Θ,R⟩:=R;exact ⟨ι,Θ,R.defers,R.size,R.env,R.ann,R.rows,fun t n b h=>let ⟨h1,h2,h3⟩:=R.mine t n b h; ⟨h1,h2,.inl (by rcases h3 with h | h <;> simp only <;> omega)⟩,R.inj,R.tok,R.tinj,R.apart,R.out,R.pin,R.kept,R.base,R.objs,fun t n H h=>let ⟨h1,h2⟩:=R.obs t n H h; ⟨h1,.inl (by rcases h2 with h | h <;> simp only <;> omega)⟩,R.gen,R.gann⟩
theorem fresh_spec {cs:List OpC} (h:freshOk cs=true) {i j:Nat} {x y:OpC} (hx:cs[i]?=some x) (hy:cs[j]?=some y) (hne:i≠j) (hA:(isA y.op||isO y.op)=true) (hsome:y.dst.isSome=true):x.dst≠y.dst:=by
 have hj:=(ye.1 hy).1;have hi:=(ye.1 hx).1;have h1:=y6.1 h j (List.mem_range.2 hj);rw [hy] at h1;simp only [hA,hsome,Bool.true_and,Bool.not_true,Bool.false_or] at h1;have h2:=y6.1 h1 i (List.mem_range.2 hi);rw [hx] at h2;simp only [Bool.or_eq_true] at h2;rcases h2 with h2 | h2
 ·exact absurd (by simpa using h2) hne
 ·simpa using h2
theorem ops_sound {ops:Array Oper} {cs:List OpC} (hcall:∀ f args S r,call f args S=some r->q1Y P O f args S r) (hhp:HpOk P O lh.h) (hok:∀ (i:Nat) (o:Oper),ops[i]?=some o->∃ c,cs[i]?=some c/\OpOk P nt ops o c) (hlen:cs.length=ops.size) (hf:freshOk cs=true) {k:MSt->Option RV} {r:RV} :
  ∀ (n i:Nat) (s:MSt) (a:Act) (w:World),i + n=ops.size->RelE P O nt B F0 av0 w0 (fun t=>∃ j c,j<i/\cs[j]?=some c/\c.dst=some t) s a w->q4u call lh (cs.drop i) s k=some r →
   (∀ s' a' w',RelE P O nt B F0 av0 w0 (fun _=>True) s' a' w'->k s'=some r->Q .normal a' w')->wpOps P ops Q (List.range' i n) a w
 | 0,i,s,a,w,hi,R,hr,hQ=>by
  have:cs.drop i=[]:=yg (by omega);rw [this] at hr;obtain ⟨ι,Θ,R⟩:=R;exact hQ s a w ⟨ι,Θ,R.more fun _ _=>trivial⟩ hr
 | n + 1,i,s,a,w,hi,R,hr,hQ=>by
  have hlt:i<ops.size:=by omega
  obtain ⟨c,hc,ok⟩:=hok i ops[i] (yZ hlt);have hcl:i<cs.length:=by omega
  have hci:cs[i]=c:=(ye.1 hc).2;rw [yc hcl,hci] at hr;unfold q4u at hr;rw [List.range'_succ,wpOps_cons];refine stepK_sound R hcall hhp (yZ hlt) ok (fun d hd hA ⟨j,c',hj,hc',hd'⟩=>?_) hr fun s' a' w' R' hk=>?_
  ·exact fresh_spec hf hc' hc (by omega) hA (by rw [ok.dst,hd]; rfl) (by rw [hd',ok.dst,hd])
  ·refine ops_sound hcall hhp hok hlen hf n (i + 1) s' a' w' (by omega) ?_ hk hQ;obtain ⟨ι,Θ,R'⟩:=R';refine ⟨ι,Θ,R'.more fun t ht=>?_⟩;rcases ht with ⟨j,c',hj,hc',hd'⟩ | ht
   ·exact ⟨j,c',by omega,hc',hd'⟩
   ·exact ⟨i,c,by omega,hc,by rw [ok.dst,ht]⟩
end
end
section
open Go Go.RowKit
section
variable {P:Program} {O:Objs} {nt B:Nat} {F0:Own} {av0:Av} {w0:World} {s s':MSt} {a:Act} {w w':World} {call:q1z} {lh:LH} {Q:Exit->Act->World->Prop}
noncomputable def q6M (call:q1z) (lh:LH) (cs:List OpC):List Nat->MSt->(MSt->Option RV)->Option RV
 | [],s,k=>k s
 | i :: r,s,k=>match cs[i]? with
  | some c=>c.stepK call lh s fun s=>q6M call lh cs r s k
  | none=>none
theorem runOps_idx (cs:List OpC) (k:MSt->Option RV):∀ (n i:Nat) (s:MSt),i + n=cs.length->q4u call lh (cs.drop i) s k=q6M call lh cs (List.range' i n) s k
 | 0,i,s,h=>by rw [yg (by omega)]; rfl
 | n + 1,i,s,h=>by
  have hlt:i<cs.length:=by omega
  rw [yc hlt,List.range'_succ];unfold q4u q6M;rw [y7 hlt];simp only;congr 1;funext s1;exact runOps_idx cs k n (i + 1) s1 (by omega)
theorem q4A {c:OpC} (h:isH c.op=false) (s:MSt) (k:MSt->Option RV):c.stepK call lh s k=(c.step call s).bind k:=by
 unfold OpC.stepK;split
 ·rename_i e; rw [e] at h; cases h
 ·rename_i e; rw [e] at h; cases h
 ·rfl
theorem isM_H {k:K} (h:isM k=false):isH k=false:=by
 cases k <;> first | rfl | cases h
theorem pair_H {x y:OpC} (h:q9b x y=true):isH x.op=false/\isH y.op=false:=by
 have hN:∀ {k:K},isN k=true->isH k=false:=fun {k} h=>by cases k <;> first | rfl | cases h
 have hV:∀ {o:OpC},isMv o=true->isH o.op=false:=fun h=>by obtain ⟨d,z,rfl⟩:=isMv_eq h; rfl
 unfold q9b at h;simp only [Bool.or_eq_true,yb] at h;rcases h with h | ⟨h,h'⟩ | ⟨h,h'⟩
 ·unfold q59 at h;simp only [yb] at h;exact ⟨isM_H (by simpa using h.1.1.1.1.1.1.1),isM_H (by simpa using h.1.1.1.1.1.1.2)⟩
 ·exact ⟨hV h,hN h'⟩
 ·exact ⟨hN h',hV h⟩
theorem bubble0 {cs:List OpC} {i:Nat} {c:OpC} (hc:cs[i]?=some c) (hH:isH c.op=false) {L2:List Nat} {k:MSt->Option RV} {r:RV}:∀ {L1:List Nat} {s:MSt},(∀ r∈L1,∃ cr,cs[r]?=some cr/\q6u cr c=true/\q9b cr c=true)->q6M call lh cs (L1++i :: L2) s k=some r →
  ∃ s1,c.step call s=some s1/\q6M call lh cs (L1++L2) s1 k=some r
 | [],s,_,h=>by
  simp only [List.nil_append,q6M,hc,q4A hH] at h;obtain ⟨s1,h1,h2⟩:=y9.1 h;exact ⟨s1,h1,h2⟩
 | q :: L1,s,hL,h=>by
  obtain ⟨cr,hr,ha,ho⟩:=hL q (yl);simp only [List.cons_append,q6M,hr,q4A (pair_H ho).1] at h;obtain ⟨s1,h1,h2⟩:=y9.1 h;obtain ⟨s2,h3,h4⟩:=bubble0 hc hH (fun q hq=>hL q (yp _ hq)) h2;obtain ⟨s1',h5,h6⟩:=commute ha ho h1 h3;refine ⟨s1',h5,?_⟩;simp only [List.cons_append,q6M,hr,q4A (pair_H ho).1,h6,y0];exact h4
theorem bubble {cs:List OpC} {i:Nat} {c:OpC} (hc:cs[i]?=some c) {L2:List Nat} {k:MSt->Option RV} {r:RV} {L1:List Nat} {s:MSt} (hL:∀ r∈L1,∃ cr,cs[r]?=some cr/\q6u cr c=true/\q9b cr c=true) (h:q6M call lh cs (L1++i :: L2) s k=some r) :
  c.stepK call lh s (fun s1=>q6M call lh cs (L1++L2) s1 k)=some r:=by
 cases L1 with
 | nil=>simpa only [List.nil_append,q6M,hc] using h
 | cons q L1 =>
  obtain ⟨cr,hr,ha,ho⟩:=hL q (yl);have hH:=(pair_H ho).2;obtain ⟨s1,h1,h2⟩:=bubble0 hc hH hL h;rw [q4A hH,h1,y0];exact h2
theorem mem_edges {o:Oper} {e:Nat}:e∈q6m o ↔ ∃ d∈o.after,Region.binds .any d=true/\d.on=e:=by
 unfold q6m;rw [List.mem_filterMap];constructor
 ·rintro ⟨d,hd,h⟩;split at h
  ·rename_i hb; injection h with h; exact ⟨d,by simpa using hd,hb,h⟩
  ·cases h
 ·rintro ⟨d,hd,hb,rfl⟩;exact ⟨d,by simpa using hd,by rw [if_pos hb]⟩
theorem bf_spec {ops:List Oper} {bf:List Nat} (h:bfOk ops bf=true) {i:Nat} {o:Oper} (ho:ops[i]?=some o):(∀ e∈q6m o,e<i)/\∀ r,r<i->(bf.getD i 0).testBit r=true->∃ e∈q6m o,e=r\/(r<e/\(bf.getD e 0).testBit r=true):=by
 have hi:=(ye.1 ho).1;have h1:=y6.1 h i (List.mem_range.2 hi);rw [ho] at h1;simp only [yb] at h1;refine ⟨fun e he=>by simpa using y6.1 h1.1 e he,fun r hr hb=>?_⟩;have h2:=y6.1 h1.2 r (List.mem_range.2 hr);simp only [hb,Bool.not_true,Bool.false_or,List.any_eq_true,Bool.or_eq_true,beq_iff_eq,yb,decide_eq_true_eq] at h2;exact h2
theorem bf_listed {ops:List Oper} {bf:List Nat} (h:bfOk ops bf=true) {L:List Nat} (hcl:∀ (j:Nat) (o:Oper),ops[j]?=some o->j ∉ L->∀ e∈q6m o,e ∉ L):∀ (n i:Nat) (o:Oper),i<n->ops[i]?=some o->(∀ e∈q6m o,e ∉ L)->∀ r,r<i->(bf.getD i 0).testBit r=true->r ∉ L
 | 0,i,o,hn,_,_,_,_,_=>by omega
 | n + 1,i,o,hn,ho,hed,r,hr,hb=>by
  obtain ⟨h1,h2⟩:=bf_spec h ho;obtain ⟨e,he,hor⟩:=h2 r hr hb;rcases hor with rfl | ⟨hre,hbe⟩
  ·exact hed _ he
  ·have hei:=h1 e he;have hlt:i<ops.length:=(ye.1 ho).1;have hoe:ops[e]?=some ops[e]:=y7 (by omega);exact bf_listed h hcl n e _ (by omega) hoe (hcl e _ hoe (hed e he)) r hre hbe
theorem draw_pair {ops:List Oper} {cs:List OpC} (h:drawOk ops cs=true) {i j:Nat} (hj:j<ops.length) (hij:i<j) (hb:((q9w ops).getD j 0).testBit i=false):∃ x y,cs[i]?=some x/\cs[j]?=some y/\q6u x y=true/\q9b x y=true:=by
 unfold drawOk at h;simp only [yb] at h;have h1:=y6.1 h.2 j (List.mem_range.2 hj);have h2:=y6.1 h1 i (List.mem_range.2 hij);rw [hb,Bool.false_or] at h2;split at h2
 ·rename_i x y hx hy;simp only [yb] at h2;exact ⟨x,y,hx,hy,h2.1,h2.2⟩
 ·cases h2
theorem any_sound {ops:Array Oper} {cs:List OpC} (hcall:∀ f args S r,call f args S=some r->q1Y P O f args S r) (hhp:HpOk P O lh.h) (hok:∀ (i:Nat) (o:Oper),ops[i]?=some o->∃ c,cs[i]?=some c/\OpOk P nt ops o c) (hlen:cs.length=ops.size) (hf:freshOk cs=true) (hdr:drawOk ops.toList cs=true) {k:MSt->Option RV} {r:RV}
  (hQ:∀ s' a' w',RelE P O nt B F0 av0 w0 (fun _=>True) s' a' w'->k s'=some r->Q .normal a' w') :
  ∀ (fuel:Nat) (L:List Nat) (listed:Array Bool) (s:MSt) (a:Act) (w:World),L.length=fuel->(∀ i,i<ops.size->(listed.getD i true=false ↔ i∈L))->listed.size=ops.size->L.Pairwise (·<·)->(∀ i∈L,i<ops.size) →
   (∀ (j:Nat) (o:Oper),ops.toList[j]?=some o->j ∉ L->∀ e∈q6m o,e ∉ L)->RelE P O nt B F0 av0 w0 (fun t=>∃ j c,j ∉ L/\cs[j]?=some c/\c.dst=some t) s a w->q6M call lh cs L s k=some r->wpAny P .any ops Q fuel listed a w
 | 0,L,listed,s,a,w,hl,hlist,hsz,_,_,_,R,hr=>by
  have:L=[]:=yP hl;subst this;refine ⟨?_,?_⟩
  ·refine List.eq_nil_iff_forall_not_mem.2 fun i hi=>?_
   obtain ⟨hun,o,ho,_⟩:=mem_ready.1 hi;have hi':=(Array.getElem?_eq_some_iff.1 ho).1;have:=(hlist i hi').1 hun;cases this
  ·obtain ⟨ι,Θ,R⟩:=R;exact hQ s a w ⟨ι,Θ,R.more fun _ _=>trivial⟩ hr
 | fuel + 1,L,listed,s,a,w,hl,hlist,hsz,hsort,hin,hcl,R,hr=>by
  have hbf:bfOk ops.toList (q9w ops.toList)=true:=by
   unfold drawOk at hdr;simp only [yb] at hdr;exact hdr.1
  refine ⟨fun hnone=>?_,fun i hi=>?_⟩
  ·exfalso;cases L with
   | nil=>simp at hl
   | cons i0 L0 =>
    have hi0:=hin i0 (yl);have ho:ops.toList[i0]?=some ops[i0]:=by simp [hi0]
    have hmem:i0∈Region.ready .any ops listed:=by
     refine mem_ready.2 ⟨(hlist i0 hi0).2 (yl),ops[i0],yZ hi0,fun e he hb=>?_⟩;have hlt:=(bf_spec hbf ho).1 e.on (mem_edges.2 ⟨e,he,hb,rfl⟩);have hnot:e.on ∉ i0 :: L0:=fun hm=>by
      rcases yj.1 hm with h | h
      ·omega
      ·have:=(List.pairwise_cons.1 hsort).1 _ h; omega
     have h1:listed.getD e.on true≠false:=fun h=>hnot ((hlist e.on (by omega)).1 h)
     have hs:e.on<listed.size:=by omega
     simp only [yY,yZ hs,Option.getD_some] at h1 ⊢;simpa using h1
    rw [hnone] at hmem;cases hmem
  ·obtain ⟨hun,o,ho,hed⟩:=mem_ready.1 hi;have hi':=(Array.getElem?_eq_some_iff.1 ho).1;have hiL:=(hlist i hi').1 hun;have hol:ops.toList[i]?=some o:=by simpa using ho
   have hedL:∀ e∈q6m o,e ∉ L:=fun e he=>by
    obtain ⟨d,hd,hb,rfl⟩:=mem_edges.1 he;have h1:=hed d hd hb;intro hm;have hlt:=hin _ hm;have h2:=(hlist _ hlt).2 hm;have hs:d.on<listed.size:=by omega
    simp only [yY,yZ hs,Option.getD_some] at h1 h2;rw [h1] at h2;cases h2
   obtain ⟨L1,L2,rfl⟩:=List.append_of_mem hiL;obtain ⟨c,hc,ok⟩:=hok i o ho;have hsort':=List.pairwise_append.1 hsort;have hL1:∀ r∈L1,∃ cr,cs[r]?=some cr/\q6u cr c=true/\q9b cr c=true:=fun r hr=>by
    have hri:r<i:=hsort'.2.2 r hr i (yl);have hbit:((q9w ops.toList).getD i 0).testBit r=false:=by
     cases hb:((q9w ops.toList).getD i 0).testBit r with
     | false=>rfl
     | true=>exact absurd (List.mem_append_left _ hr) (bf_listed hbf hcl (i + 1) i o (by omega) hol hedL r hri hb)
    obtain ⟨x,y,hx,hy,h1,h2⟩:=draw_pair hdr (by simpa using hi') hri hbit;rw [hc] at hy;injection hy with hy;subst hy;exact ⟨x,hx,h1,h2⟩
   have h1:=bubble hc hL1 hr;have hnd:i ∉ L1++L2:=fun hm=>by
    rcases yA.1 hm with h | h
    ·have:=hsort'.2.2 i h i (yl); omega
    ·have:=(List.pairwise_cons.1 hsort'.2.1).1 i h; omega
   have hsub:∀ j,j ∉ L1++i :: L2 ↔ (j ∉ L1++L2/\j≠i):=fun j=>by
    simp only [yA,yj,not_or];exact ⟨fun ⟨h1,h2,h3⟩=>⟨⟨h1,h3⟩,h2⟩,fun ⟨⟨h1,h3⟩,h2⟩=>⟨h1,h2,h3⟩⟩
   refine stepK_sound R hcall hhp ho ok (fun d hd hA ⟨j,c',hj,hc',hd'⟩=>?_) h1 fun s1 a' w' R' h2=>?_
   ·have:j≠i:=((hsub j).1 hj).2;exact fresh_spec hf hc' hc this hA (by rw [ok.dst,hd]; rfl) (by rw [hd',ok.dst,hd])
   ·refine any_sound hcall hhp hok hlen hf hdr hQ fuel (L1++L2) (listed.setIfInBounds i true) s1 a' w' (by simp at hl ⊢; omega) (fun j hj=>?_) (by simpa using hsz) ?_ (fun j hj=>hin j ?_) (fun j o' ho' hj e he hm=>?_) ?_ h2
    ·have hjs:j<listed.size:=by omega
     by_cases e:i=j
     ·subst e;simp only [yY,Array.getElem?_setIfInBounds,if_true,hjs,Option.getD_some];exact ⟨fun h=>by simp at h,fun h=>absurd h hnd⟩
     ·simp only [yY,Array.getElem?_setIfInBounds,if_neg e];have:=hlist j hj;simp only [yY] at this;rw [this];simp only [yA,yj];exact ⟨fun h=>by rcases h with h | h | h; exact .inl h; exact absurd h.symm e; exact .inr h,fun h=>by rcases h with h | h; exact .inl h; exact .inr (.inr h)⟩
    ·exact List.pairwise_append.2 ⟨hsort'.1,(List.pairwise_cons.1 hsort'.2.1).2,fun x hx y hy=>hsort'.2.2 x hx y (yp _ hy)⟩
    ·rcases yA.1 hj with h | h
     ·exact List.mem_append_left _ h
     ·exact List.mem_append_right _ (yp _ h)
    ·have hm':e∈L1++i :: L2:=by
      rcases yA.1 hm with h | h
      ·exact List.mem_append_left _ h
      ·exact List.mem_append_right _ (yp _ h)
     by_cases e':j=i
     ·subst e';rw [hol] at ho';injection ho' with ho';subst ho';exact hedL e he hm'
     ·exact hcl j o' ho' ((hsub j).2 ⟨hj,e'⟩) e he hm'
    ·obtain ⟨ι,Θ,R'⟩:=R';refine ⟨ι,Θ,R'.more fun t ht=>?_⟩;rcases ht with ⟨j,c',hj,hc',hd'⟩ | ht
     ·exact ⟨j,c',((hsub j).1 hj).1,hc',hd'⟩
     ·exact ⟨i,c,hnd,hc,by rw [ok.dst,ht]⟩
theorem region_sound (hm:P.follows .mixedOrders=true) (hcall:∀ f args S r,call f args S=some r->q1Y P O f args S r) (hhp:HpOk P O lh.h) {boxes:List Nat} {id:Nat} {ops:Array Oper} {draw:Bool} {cs:List OpC} (hc:compOps P boxes nt ops.toList draw ops.toList=some cs) (hf:freshOk cs=true) (hd:draw=true->drawOk ops.toList cs=true)
  (R:RelE P O nt B F0 av0 w0 (fun _=>False) s a w) {k:MSt->Option RV} {r:RV} (hr:q4u call lh cs s k=some r) (hQ:∀ s' a' w',RelE P O nt B F0 av0 w0 (fun _=>False) { s' with next:=s'.next + 1 } a' w'->k s'=some r->Q .normal a' w'):(Code.region id ops draw).wp P Q a w:=by
 obtain ⟨hlen,hget⟩:=compOps_get hc;have hlen':cs.length=ops.size:=by simpa using hlen
 have hok:∀ (i:Nat) (o:Oper),ops[i]?=some o->∃ c,cs[i]?=some c/\OpOk P nt ops o c:=fun i o ho=>by
  have:=hget i o (by simpa using ho);rw [yV] at this;exact this
 have hQ':∀ s' a' w',RelE P O nt B F0 av0 w0 (fun _=>True) s' a' w'->k s'=some r->Q .normal a' w':=fun s' a' w' h hk=>hQ s' a' w' h.next hk
 cases draw with
 | false =>
  refine wp_region ?_;rw [List.range_eq_range'];refine ops_sound hcall hhp hok hlen' hf ops.size 0 s a w (by omega) ?_ (by simpa using hr) hQ';obtain ⟨ι,Θ,R⟩:=R;exact ⟨ι,Θ,R.more fun _ h=>h.elim⟩
 | true =>
  refine wp_region_any hm ?_;have hrun:q6M call lh cs (List.range' 0 ops.size) s k=some r:=by
   rw [<- hlen',<- runOps_idx cs k cs.length 0 s (by omega)];simpa using hr
  refine any_sound hcall hhp hok hlen' hf (hd rfl) hQ' ops.size (List.range' 0 ops.size) _ s a _ (by simp) (fun i hi=>?_) (by simp) List.pairwise_lt_range' (fun i hi=>?_) (fun j o ho hj=>?_) ?_ hrun
  ·simp [hi]
  ·simpa using hi
  ·have:=(ye.1 ho).1;exact absurd (by simpa using this) (by simpa using hj)
  ·obtain ⟨ι,Θ,R⟩:=R;exact ⟨ι,Θ,(R.grow (w':=w.drew) (fun _ _=>rfl) (ym _) R.kept.drew).more fun _ h=>h.elim⟩
end
end
end Go.Proofs.YtbnlmgncbgaepaaGreat
