/- A part of the proof. -/
import Derived.Test.YtbnlmgncbgaepaaGreatYa
import Derived.Laws.BytesString
import Derived.OrdersHeld
import Derived.LoopN
set_option linter.all false
set_option maxRecDepth 100000
set_option maxHeartbeats 8000000
open Option renaming bind_some → V, bind_eq_some_iff → y7, map_eq_some_iff → yf, map_some → yx
open List renaming map_map → y0, getElem?_eq_getElem → y4, all_eq_true → y5, drop_eq_getElem_cons → y9, getElem?_eq_some_iff → yb, getElem?_map → yc, drop_eq_nil_of_le → ye, replicate → yg, mem_cons → yh, map_cons → yj, mem_of_getElem? → yk, mem_cons_self → yl, map_congr_left → ym, length_map → yo, length_append → yp, mem_cons_of_mem → yr, map_nil → yt, mem_append → yw, length_take → yz, mem_map → yA, take_of_length_le → yD, length_cons → yE, flatten_cons → yF, getElem?_append_left → yG, map_take → yM, append_nil → yN, mem_singleton → yO, getElem?_eq_none → yP, getElem?_drop → yR, eq_nil_of_length_eq_zero → yS, getElem?_take → yV, getElem?_append_right → yW, append_assoc → yY, mem_map_of_mem → Y01
open Bool renaming and_eq_true → y8, false_eq_true → yq
open Nat renaming le_refl → yn, succ_mul → yu, le_trans → yC, zero_add → yH, eq_zero_or_pos → yK, mul_le_mul_right → Y00
open Array renaming length_toList → yT, toArray_toList → yX, getD_eq_getD_getElem? → Y02, getElem?_eq_getElem → Y03
namespace Go.Proofs.YtbnlmgncbgaepaaGreat
open Go
section
open Go Go.RowKit
section
variable {P:Program} {O:uH} {nt B:Nat} {F0:SO} {da:Av} {w0:World} {D:Nat->Prop} {s:pA} {a:Act} {w w':World} {ι:Ix} {Θ:NK} {o:Oper}
def An.twice (A:An) (d:Nat) (x:An):An:=match A with
 | .own k _=>(x.strip k).strip d
 | _=>x.strip d
theorem twice_eq (A:An) (d:Nat):(s.stripA A).strip d=s.mapAn (A.twice d):=by
 cases A with
 | own k e=>simp [pA.stripA,pA.strip,pA.mapAn,qA.strip,An.twice,Function.comp_def]
 | no=>rfl
 | ex=>rfl
def NK.less (Θ:NK) (A:An) (d:Nat):NK:=fun j=>match A with
 | .own k _=>if j=d\/j=k then none else Θ j
 | _=>if j=d then none else Θ j
theorem nC {A:An} {d j:Nat} {o:Ow} (h:Θ.less A d j=some o):Θ j=some o/\j≠d/\∀ k e,A=.own k e->j≠k:=by
 unfold NK.less at h;cases A with
 | own k e =>
  simp only at h;split at h
  ·cases h
  ·rename_i hn; exact ⟨h,fun e=>hn (.inl e),fun k' e' he=>by injection he with h1; subst h1; exact fun e=>hn (.inr e)⟩
 | no =>
  simp only at h;split at h
  ·cases h
  ·rename_i hn; exact ⟨h,hn,fun k' e' he=>by cases he⟩
 | ex =>
  simp only at h;split at h
  ·cases h
  ·rename_i hn; exact ⟨h,hn,fun k' e' he=>by cases he⟩
theorem less_d {A:An} {d:Nat}:Θ.less A d d=none:=by
 unfold NK.less;cases A <;> simp
theorem less_an {A:An} {d:Nat} {Θ':NK} (hΘ:∀ j o,Θ.less A d j=some o->Θ' j=some o) (x:An) (v:Value) (h:LL Θ x v):LL Θ' (A.twice d x) v:=by
 have h1:∀ k,x.strip k=.no\/(x.strip k=x/\∀ j e,x=.own j e->j≠k):=fun k=>by
  cases x with
  | no=>exact .inl rfl
  | ex=>exact .inr ⟨rfl,fun _ _ h=>by cases h⟩
  | own j e =>
   simp only [An.strip];split
   ·exact .inl rfl
   ·rename_i hn; exact .inr ⟨rfl,fun j' e' h=>by injection h with h; subst h; exact hn⟩
 have key:A.twice d x=.no\/(A.twice d x=x/\(∀ j e,x=.own j e->j≠d)/\∀ k e',A=.own k e'->∀ j e,x=.own j e->j≠k):=by
  cases A with
  | own k e' =>
   simp only [An.twice];rcases h1 k with h2 | ⟨h2,h3⟩
   ·rw [h2]; exact .inl rfl
   ·rw [h2];rcases h1 d with h4 | ⟨h4,h5⟩
    ·exact .inl h4
    ·exact .inr ⟨h4,h5,fun k' e'' he=>by injection he with he; subst he; exact h3⟩
  | no=>rcases h1 d with h4 | ⟨h4,h5⟩; exact .inl h4; exact .inr ⟨h4,h5,fun _ _ he=>by cases he⟩
  | ex=>rcases h1 d with h4 | ⟨h4,h5⟩; exact .inl h4; exact .inr ⟨h4,h5,fun _ _ he=>by cases he⟩
 rcases key with h2 | ⟨h2,h3,h4⟩
 ·rw [h2]; trivial
 ·rw [h2];cases x with
  | no=>trivial
  | ex=>exact h
  | own j e =>
   refine h.imp id fun ⟨ow,h5,h6⟩=>⟨ow,hΘ _ _ ?_,h6⟩
   unfold NK.less;cases A with
   | own k e'=>simp only; rw [if_neg]; exact h5; rintro (e1 | e1); exact h3 _ _ rfl e1; exact h4 _ _ rfl _ _ rfl e1
   | no=>simp only; rw [if_neg (h3 _ _ rfl)]; exact h5
   | ex=>simp only; rw [if_neg (h3 _ _ rfl)]; exact h5
theorem MB.apob (R:MB P O nt B F0 da w0 D s a w ι Θ) {k:Nat} {o:Ow} {t n:Nat} {H:Nat->Prop} (h:Θ k=some o) (hH:ι.ob t n=some H):¬ H o.g:=fun hb=>((R.obs t n H hH).1 _ hb).2.2.2.1 k o h rfl
theorem MB.less (R:MB P O nt B F0 da w0 D s a w ι Θ) (A:An) (d:Nat):MB P O nt B F0 da w0 D (s.mapAn (A.twice d)) a w ι (Θ.less A d) :=
 R.fam _ _ (fun _ _ h=>h.imp id fun ⟨k,ow,h1,h2⟩=>⟨k,ow,(nC h1).1,h2⟩) (less_an fun _ _ h=>h) (fun k o h=>R.tok k o (nC h).1) (fun k k' o o' h h'=>R.tinj k k' o o' (nC h).1 (nC h').1) (fun k o t n h=>R.apart k o t n (nC h).1) (fun _ _ _ _ _ h=>R.apob (nC h).1)
theorem IM {av:Av}:∀ {xs ys:List AV} {us vs:List Value},aD av w xs us->aD av w ys vs->aD av w (xs++ys) (us++vs)
 | [],_,_,_,h,h'=>by simp only [aD] at h; subst h; exact h'
 | x :: r,_,_,_,h,h'=>by
  simp only [aD] at h;obtain ⟨u,sa,rfl,h0,h1,h⟩:=h;exact ⟨u,sa++_,rfl,h0,h1,IM h h'⟩
theorem r4 {av:Av}:∀ {xs:List AV} {us:List Value},aD av w xs us->∀ u∈us,u.oneCell'=true
 | [],_,h,u,hu=>by simp only [aD] at h; subst h; cases hu
 | x :: r,_,h,u,hu=>by
  simp only [aD] at h;obtain ⟨v,sa,rfl,h0,h1,h⟩:=h;rcases yh.1 hu with rfl | hu
  ·exact h1
  ·exact r4 h u hu
theorem op_app (R:MB P O nt B F0 da w0 D s a w ι Θ) {t e:TypeId} {i:TypeInfo} {z:List AV} (ht:P.underlying t=some (.slice e)) (hi:P.info? e=some i) (hz:TJ P e=some z) (ic:z.length=i.size) (db:0<i.size) {X Y:Operand} {x y:FB} (hx:opd X=some x) (hy:opd Y=some y)
  (ho:o.op=.call { callee:=.builtin .append,args:=#[X,Y],argTypes:=#[t,t] }) {d:Nat} (ba:o.dst=some d) (hd:d<nt) {cl:Cl} {call} {xe:qA × tD} (hr:(K.app cl e i.size i.bytes x y).run call s=some xe) {g} {s':pA} (he:EA.eff ⟨o.dst,.app cl e i.size i.bytes x y,g⟩ s xe=some s') :
  ∃ v w',(execOp a.eval o).run P w=.ok (.value v) w'/\QD P O nt B F0 da w0 D s' (a.put o.dst v) w':=by
 obtain ⟨zv,i',ac,zm,tg,hl⟩:=QG hz w;rw [hi] at ac;injection ac with ac;subst ac;have zj:zv.cells.size=i.size:=by
  have:=SF hl;simp only [yT] at this;omega
 have hX:=R.opd hx;have hY:=(R.opd hy).1;have ti:∀ v w',(Builtin.append_ #[t,t] o.type #[a.eval X,a.eval Y]).run P w=.ok v w'->(execOp a.eval o).run P w=.ok (.value v) w':=fun v w' h=>by
  simp only [execOp,ho,resolve,invoke,builtin,Sem.run_bind,Sem.run_pure,Result.andThen_ok,List.map_toArray,yj,yt,h]
 simp only [K.run] at hr;split at hr
 ·rename_i b l m mc lc;split at hr
  ·rename_i aa;obtain ⟨ja,ta⟩:=aa;obtain ⟨we,dg⟩:=TA.1 ja;have dc:∀ c∈l++m,c.length=i.size:=fun c hc=>by simpa using y5.1 ta c hc
   have jd:∀ c∈m,c.length=i.size:=fun c hc=>dc c (List.mem_append_right _ hc)
   have tq:∀ c∈l,c.length=i.size:=fun c hc=>dc c (List.mem_append_left _ hc)
   obtain ⟨news,td,be⟩:=tM R hY lc db jd;rw [mc] at hX;have ky:=hX.1;rw [mD] at ky;obtain ⟨xs,ge,ju⟩:=tM (cl:=cl) R hX.1 (m:=l) rfl db tq;simp only [oE] at ky;obtain ⟨A,c,hv,tu,hu,hn,hs⟩:=ky;have de:xs.length=l.length * i.size:=ju.1;have me:∀ a',A=some a'->∀ j u,xs[j]?=some u->w.cell? (a'.add j)=some u:=fun a' ha j u hj=>by
    obtain ⟨_,A2,c2,gp,_,h2⟩:=ju;rw [hv] at gp;injection gp with e1 e2 e3;subst e1;have hp:0<l.length:=by
     rcases yK l.length with h | h
     ·rw [h] at de; have:=(yb.1 hj).1; omega
     ·exact h
    obtain ⟨b',off,hA,_,_,ad⟩:=h2 hp;rw [ha] at hA;injection hA with hA;subst hA;rw [Addr.add_lit];exact ad j u hj
   have gc:news.length=m.length * i.size:=be.1;have sj:∀ u∈news,u.oneCell'=true:=r4 td;have rp:∃ A0,QC b (x.an s)=A0/\(A0=.ex\/∃ k,A0=.own k e)/\xe=(⟨.sl (b&&m.isEmpty) (l++m),.own 0 e⟩,.app A0 0):=by
    cases pm:QC b (x.an s) with
    | no=>rw [pm] at hr; cases hr
    | ex=>rw [pm] at hr; injection hr with hr; exact ⟨_,rfl,.inl rfl,hr.symm⟩
    | own k e' =>
     rw [pm] at hr;simp only at hr;split at hr
     ·rename_i hee; subst hee; injection hr with hr; exact ⟨_,rfl,.inr ⟨k,rfl⟩,hr.symm⟩
     ·cases hr
   obtain ⟨A0,pm,hAk,rfl⟩:=rp;simp only [EA.eff,ba] at he;injection he with he;subst he;rw [twice_eq,ba];have ou:LL Θ A0 (a.eval X):=by
    rw [<- pm];cases b with
    | false=>exact hX.2
    | true =>
     obtain ⟨h1,h2,h3⟩:=hn rfl;exact ⟨none,0,by rw [hv,h1,h2,h3]⟩
   -- what is read of the old elements and the new ones behind
   have fc:aD (EC da ι Θ) w (l++m).flatten (xs++news):=by rw [List.flatten_append]; exact IM ge td
   have huni:∀ c∈l++m,∀ c'∈l++m,c.length=c'.length:=fun c hc c' df=>(dc c hc).trans (dc c' df).symm
   -- a new block
   have grow:c<l.length + m.length->∃ v w',(execOp a.eval o).run P w=.ok (.value v) w'/\QD P O nt B F0 da w0 D ((s.mapAn (A0.twice d)).put (some d) ⟨.sl (b&&m.isEmpty) (l++m),.own d e⟩) (a.put (some d) v) w':=fun fa=>by
    have ca:=LU (P:=P) (w:=w) ht hi zm o.type de (fun hA=>by
     cases b with
     | true=>have:=hn rfl; exact ⟨this.2.1,this.2.2⟩
     | false =>
      obtain ⟨h1,h2⟩:=hs rfl;refine ⟨?_,h1 hA⟩;rcases yK l.length with h0 | h0
      ·exact h0
      ·obtain ⟨_,_,ha,_⟩:=h2 h0; rw [hA] at ha; cases ha) me be fa tu dg we
    rw [<- hv] at ca;have se:=grownCap_ge w (l.length + m.length) c e;have kr:grownCap w (l.length + m.length) c e<=maxLen:=grownCap_le_maxLen w (l.length + m.length) c e (by unfold maxLen; omega);have zt:(xs.toArray++news.toArray++Builtin.zeroCells zv.cells (grownCap w (l.length + m.length) c e - (l.length + m.length))).size=grownCap w (l.length + m.length) c e * i.size:=by
     simp only [Array.size_append,List.size_toArray,size_zeroCells,zj,de,gc,<- Nat.add_mul];congr 1;omega
    have R1:=(R.less A0 d).fresh (d:=d) less_d zt db se kr (e:=e) (by simp [wC,hi]);refine ⟨_,_,ti _ _ ca,ι,_,R1.put hd ?_ (.inr ⟨_,if_pos rfl,rfl,rfl⟩)⟩;have hb:(b&&m.isEmpty)=false:=by
     cases b with
     | false=>rfl
     | true =>
      have:=(hn rfl);have:m≠[]:=fun h=>by subst h; simp at fa; omega
      simpa using this
    show MA _ _ _ _ (.sl (b&&m.isEmpty) (l++m)) _;rw [hb,mD];simp only [oE,yp];refine ⟨_,_,rfl,se,huni,(fun h=>by cases h),fun _=>⟨fun h=>(by cases h),fun _=>⟨w.heap.size,0,rfl,?_⟩⟩⟩;rw [mF];have sr:BA (EC da ι Θ) (EC da ι (fun j=>if j=d then some ⟨w.heap.size,l.length + m.length,grownCap w (l.length + m.length) c e,i.size,e⟩ else Θ.less A0 d j)) w (grewW w xs news zv e (l.length + m.length) c):=BA.grown (fun b hb=>Below.heap_alloc w.drew _ b hb) fun b' o' ua h=>h.imp id fun h=>h.imp id fun ⟨k,ow,h1,h2,h3⟩=>by
     by_cases ek:k=d
     ·simp only [if_pos ek] at h1; injection h1 with h1; subst h1; simp only at h2; omega
     ·simp only [if_neg ek] at h1; exact ⟨k,ow,(nC h1).1,h2,h3⟩
    refine DK (aD.held sr _ _ fc) fun j u hj=>⟨?_,fun h=>?_⟩
    ·rw [yH];rw [cell_of_row _ w.heap.size j _ e (0,0) (xR (w:=w.drew) rfl)];have nh:=(yb.1 hj).1;rw [Array.getElem?_append_left (by simp only [Array.size_append,List.size_toArray]; simpa using nh)];simpa using hj
    ·rw [yH] at h;have nh:=(yb.1 hj).1;rw [yp,de,gc,<- Nat.add_mul] at nh;rcases h with h | (⟨t',n',h⟩ | ⟨t',n',H,h,ua⟩) | ⟨k,ow,h1,h2,h3⟩
     ·have:=R.out _ _ h; have:=R.lowB; omega
     ·have:=(R.mine _ _ _ h).2.1; omega
     ·have:=((R.obs _ _ _ h).1 _ ua).2.1; omega
     ·by_cases ek:k=d
      ·simp only [if_pos ek] at h1; injection h1 with h1; subst h1; simp only at h3; omega
      ·simp only [if_neg ek] at h1;obtain ⟨_,_,_,_,lb,h5,_⟩:=R.tok _ _ (nC h1).1;have:=OA h5;omega
   -- nothing new
   have same:m=[]->exV (a.eval X)->∃ v w',(execOp a.eval o).run P w=.ok (.value v) w'/\QD P O nt B F0 da w0 D ((s.mapAn (A0.twice d)).put (some d) ⟨.sl (b&&m.isEmpty) (l++m),.own d e⟩) (a.put (some d) v) w':=fun gl xp=>by
    subst gl;have ca:=ZU (P:=P) (w:=w) ht hi o.type (A:=A) tu be;rw [<- hv] at ca;have R1:=R.less A0 d;refine ⟨_,_,ti _ _ ca,ι,_,R1.put hd ?_ (.inl xp)⟩;have hb:(b&&List.isEmpty ([]:List (List AV)))=b:=by simp
    show MA _ _ _ _ (.sl (b&&List.isEmpty []) (l++[])) _;rw [hb,yN];have hless:BA (EC da ι Θ) (EC da ι (Θ.less A0 d)) w w:=BA.less fun b o h=>h.imp id fun h=>h.imp id fun ⟨k,ow,h1,h2⟩=>⟨k,ow,(nC h1).1,h2⟩
    have uz:BA (RC ι Θ) (RC ι (Θ.less A0 d)) w w:=BA.less fun b o h=>h.imp id fun ⟨k,ow,h1,h2⟩=>⟨k,ow,(nC h1).1,h2⟩
    exact MA.held (Ix.Le.refl _) hless uz _ _ hX.1
   have exact:exV (a.eval X)->∃ v w',(execOp a.eval o).run P w=.ok (.value v) w'/\QD P O nt B F0 da w0 D ((s.mapAn (A0.twice d)).put (some d) ⟨.sl (b&&m.isEmpty) (l++m),.own d e⟩) (a.put (some d) v) w':=fun xp=>by
    obtain ⟨A',n',hex'⟩:=xp;rw [hv] at hex';injection hex' with e1 e2 e3;rcases yK m.length with h0 | h0
    ·exact same (yS h0) ⟨A',n',by rw [hv,e1,e2,e3]⟩
    ·exact grow (by omega)
   rcases hAk with rfl | ⟨k,rfl⟩
   ·exact exact ou
   ·rcases ou with ou | ⟨ow,hk,hoe,ou⟩
    ·exact exact ou
    ·rw [hv] at ou;injection ou with e1 e2 e3;obtain ⟨hgB,hosz,honc,hocm,cur,ae,wv⟩:=R.tok k ow hk;rw [hoe] at ae;have uo:ow.sz=i.size:=by
      have:=wv.2;rw [hoe] at this;simp [wC,hi] at this;exact this.symm
     rcases Nat.lt_or_ge c (l.length + m.length) with fa | se
     ·exact grow fa
     ·subst e1;have ca:=W4 (P:=P) (w:=w) ht hi o.type ae (by rw [wv.1,uo]) zm be sj (n:=l.length) (m:=m.length) (c:=ow.c) (by omega);have um:l.length * i.size + news.length<=cur.toList.length:=by
       have ad:cur.toList.length=ow.c * i.size:=by rw [yT,wv.1,uo]
       rw [gc,<- Nat.add_mul,ad];exact Y00 _ (by omega)
      obtain ⟨new,wb⟩:∃ new,new=(cur.toList.take (l.length * i.size)++news++cur.toList.drop (l.length * i.size + news.length)).toArray:=⟨_,rfl⟩;rw [<- wb] at ca;have hnl:new.size=cur.size:=by
       rw [wb];simp only [List.size_toArray,yp,yz,List.length_drop];simp only [yT] at um ⊢;omega
      have bq:ow.n * ow.sz=l.length * i.size:=by rw [<- e2,uo]
      have ik:(cur.toList.take (l.length * i.size)).length=l.length * i.size:=by rw [yz]; omega
      have jt:∀ j,j<l.length * i.size->new[j]?=cur[j]?:=fun j hj=>by
       rw [wb,List.getElem?_toArray,yY,yG (by omega),yV,if_pos hj];simp
      have hxs':∀ j u,(xs++news)[j]?=some u->new[j]?=some u:=fun j u hj=>by
       rcases Nat.lt_or_ge j (l.length * i.size) with nh | nh
       ·rw [jt j nh];rw [yG (by omega)] at hj;have:=me _ rfl j u hj;rw [Addr.add_lit,yH,cell_of_row w ow.g j cur e (0,0) ae] at this;exact this
       ·rw [yW (by omega),de] at hj;have pz:=(yb.1 hj).1;rw [wb,List.getElem?_toArray,yY,yW (by omega),ik,yG pz];exact hj
      have R1:=R.spare (new:=new) hk (by rw [hoe]; exact ae) hnl (fun j hj=>jt j (by omega));have lr:(w.setRow ow.g new).heap[ow.g]?=some (.cells new e (0,0)):=setRow_heap w ow.g cur new e (0,0) ae;have sd:∀ b o,RC ι (fun j=>if j=d then some ⟨ow.g,l.length + m.length,ow.c,i.size,e⟩ else Θ.less (.own k e) d j) b o->RC ι Θ b o:=fun b o h=>h.imp id fun ⟨k',ow',h1,h2,h3⟩=>by
       by_cases ek:k'=d
       ·simp only [if_pos ek] at h1;injection h1 with h1;subst h1;refine ⟨k,ow,hk,h2,?_⟩;simp only [Nat.add_mul] at h3;omega
       ·simp only [if_neg ek] at h1; exact ⟨k',ow',(nC h1).1,h2,h3⟩
      have R2:=R1.fam (fun j=>if j=d then some ⟨ow.g,l.length + m.length,ow.c,i.size,e⟩ else Θ.less (.own k e) d j) ((An.own k e).twice d) sd
       (less_an fun j o' h=>by have:=(nC h).2.1; simp only [if_neg this]; exact h)
       (fun k' o' h=>by
        by_cases ek:k'=d
        ·simp only [if_pos ek] at h;injection h with h;subst h;exact ⟨hgB,db,by simp only; omega,hocm,new,lr,by rw [hnl,wv.1,uo],by simp [wC,hi]⟩
        ·simp only [if_neg ek] at h;exact R1.tok k' o' (nC h).1)
       (fun k' k'' o' o'' h h' hg=>by
        by_cases e1:k'=d <;> by_cases e2:k''=d
        ·rw [e1,e2]
        ·simp only [if_pos e1] at h; simp only [if_neg e2] at h';injection h with h; subst h;exact absurd (R.tinj _ _ _ _ hk (nC h').1 hg).symm ((nC h').2.2 k e rfl)
        ·simp only [if_neg e1] at h; simp only [if_pos e2] at h';injection h' with h'; subst h';exact absurd (R.tinj _ _ _ _ (nC h).1 hk hg) ((nC h).2.2 k e rfl)
        ·simp only [if_neg e1] at h; simp only [if_neg e2] at h';exact R.tinj _ _ _ _ (nC h).1 (nC h').1 hg)
       (fun k' o' t' n' h=>by
        by_cases ek:k'=d
        ·simp only [if_pos ek] at h;injection h with h;subst h;exact R.apart k ow t' n' hk
        ·simp only [if_neg ek] at h;exact R.apart k' o' t' n' (nC h).1)
       (fun k' o' t' n' H h hH=>by
        by_cases ek:k'=d
        ·simp only [if_pos ek] at h;injection h with h;subst h;show ¬ H ow.g;exact R.apob hk hH
        ·simp only [if_neg ek] at h;exact R.apob (nC h).1 hH)
      have hv':a.eval X=.slice (some ⟨ow.g,0,none⟩) l.length ow.c:=by rw [hv,e3]
      rw [<- hv'] at ca;refine ⟨_,_,ti _ _ ca,ι,_,R2.put hd ?_ (.inr ⟨_,if_pos rfl,rfl,rfl⟩)⟩;show MA _ _ _ _ (.sl (b&&m.isEmpty) (l++m)) _;have hb:b=false:=by
       cases b with
       | false=>rfl
       | true=>have:=(hn rfl).1; cases this
      rw [hb,Bool.false_and,mD];simp only [oE,yp];refine ⟨_,_,rfl,by omega,huni,(fun h=>by cases h),fun _=>⟨fun h=>(by cases h),fun _=>⟨ow.g,0,rfl,?_⟩⟩⟩;rw [mF];have sr:BA (EC da ι Θ) (EC da ι (fun j=>if j=d then some ⟨ow.g,l.length + m.length,ow.c,i.size,e⟩ else Θ.less (.own k e) d j)) w (w.setRow ow.g new):=⟨fun b' o' u hc hna=>by
       refine ⟨?_,fun h=>hna (h.imp id (sd b' o'))⟩;by_cases ua:b'=ow.g
       ·subst ua;rw [cell_of_row _ ow.g o' new e (0,0) lr];have:o'<l.length * i.size:=by
         rcases Nat.lt_or_ge o' (l.length * i.size) with h | h
         ·exact h
         ·exact absurd (.inr (.inr ⟨k,ow,hk,rfl,by omega⟩)) hna
        rw [jt o' this,<- cell_of_row w ow.g o' cur e (0,0) ae];exact hc
       ·exact (World.cell?_of_block (w:=w) (a:=⟨b',o',none⟩) (setRow_other w ow.g b' new ua)).trans hc⟩
      refine DK (aD.held sr _ _ fc) fun j u hj=>⟨?_,fun h=>?_⟩
      ·rw [yH,cell_of_row _ ow.g j new e (0,0) lr];exact hxs' j u hj
      ·rw [yH] at h;have nh:=(yb.1 hj).1;rw [yp,de,gc,<- Nat.add_mul] at nh;rcases h with h | (⟨t',n',h⟩ | ⟨t',n',H,h,ua⟩) | ⟨k',ow',h1,h2,h3⟩
       ·have:=R.out _ _ h; omega
       ·exact R.apart k ow t' n' hk h
       ·exact R.apob hk h ua
       ·by_cases ek:k'=d
        ·simp only [if_pos ek] at h1; injection h1 with h1; subst h1; simp only at h3; omega
        ·simp only [if_neg ek] at h1;exact absurd (R.tinj _ _ _ _ (nC h1).1 hk h2) ((nC h1).2.2 k e rfl)
  ·cases hr
 ·cases hr
def Ix.del (ι:Ix) (t n:Nat):Ix:=⟨fun t' n'=>if t'=t/\n'=n then .none else ι t' n',ι.ob,ι.z⟩
theorem Ix.del_some {ι:Ix} {t n t' n' b:Nat} (h:(ι.del t n) t' n'=some b):ι t' n'=some b/\¬ (t'=t/\n'=n):=by
 have h':(if t'=t/\n'=n then Option.none else ι t' n')=Option.some b:=h;split at h'
 ·cases h'
 ·rename_i hn; exact ⟨h',hn⟩
theorem Ix.del_lk (ι:Ix) (t n:Nat):Ix.Lk t n ι (ι.del t n):=⟨fun t' n' b hn h=>by
 show (if t'=t/\n'=n then Option.none else ι t' n')=Option.some b;rw [if_neg hn]; exact h,fun _ _ _ _=>rfl⟩
theorem WD.kill {t n:Nat} {ι':Ix} {av gb:Av} {r:List qA} {cur:Array Value} (h:WD ι Θ av w r cur) (hι:Ix.Lk t n ι ι') (hh:BA av gb w w):WD ι' Θ gb w (r.map (qA.kill t n)) cur:=by
 refine ⟨by simpa using h.1,fun j x hx=>?_⟩;rw [yc] at hx;cases hj:r[j]? with
 | none=>rw [hj] at hx; cases hx
 | some y =>
  rw [hj] at hx;injection hx with hx;subst hx;obtain ⟨u,hu,h1,hr,ha⟩:=h.2 j y hj;refine ⟨u,hu,h1,?_,ha⟩;have hk:=NA.kill hι hh y.v u hr;show NA ι' gb w (y.v.kill t n) u;cases hy:y.v with
  | agg cs=>rw [hy] at hr; obtain ⟨us,rfl,_⟩:=hr; simp [Value.oneCell'] at h1
  | tup cs=>rw [hy] at hr; obtain ⟨us,rfl,_⟩:=hr; simp [Value.oneCell'] at h1
  | _=>rw [hy] at hk; exact hk
theorem MB.kill (R:MB P O nt B F0 da w0 D s a w ι Θ) {t n:Nat} (bq:t≠0) {r:List qA} (hm:s.mem t n=some r):MB P O nt B F0 da w0 D (s.kill t n) a w (ι.del t n) Θ:=by
 have nc:=(R.rows t n r hm).1;have bk:=Ix.del_lk ι t n;have oi:∀ b o,RC (ι.del t n) Θ b o->RC ι Θ b o:=fun b o h=>h.imp (fun h=>h.imp (fun ⟨t',n',h⟩=>⟨t',n',(Ix.del_some h).1⟩) id) id
 have hB:BA (RC ι Θ) (RC (ι.del t n) Θ) w w:=BA.less oi;have hA:BA (EC da ι Θ) (EC da (ι.del t n) Θ) w w:=BA.less fun b o h=>h.imp id (oi b o)
 refine ⟨R.defers,R.size,fun j=>MA.kill bk hA hB _ _ (R.env j),R.ann,fun t' n' r' hr=>?_,fun t' n' b h=>R.mine t' n' b (Ix.del_some h).1,fun t1 n1 t2 n2 b h h'=>R.inj t1 n1 t2 n2 b (Ix.del_some h).1 (Ix.del_some h').1,R.tok,R.tinj,fun k o t' n' h h'=>R.apart k o t' n' h (Ix.del_some h').1,R.out,fun p h=>?_,R.kept,R.base,fun t' n' S h=>?_,fun t' n' H h=>?_,fun j=>MA.kill bk hA hB _ _ (R.gen j),R.gann⟩
 ·simp only [pA.kill] at hr;split at hr
  ·cases hr
  ·rename_i hn;cases jd:s.mem t' n' with
   | none=>rw [jd] at hr; cases hr
   | some r0 =>
    rw [jd] at hr;injection hr with hr;subst hr;obtain ⟨h0,b,cur,ty,h1,h2,h3,h4⟩:=R.rows t' n' r0 jd;exact ⟨h0,b,cur,ty,bk.f _ _ _ hn h1,h2,h3.kill bk hA,h4⟩
 ·obtain ⟨h1,h2⟩:=R.pin p h;exact ⟨bk.f _ _ _ (fun e=>bq e.1.symm) h1,h2.imp (fun g=>⟨g.1,(bk.z _ _ _ h1).trans g.2⟩) id⟩
 ·obtain ⟨p,H,h1,h2,h3,h4⟩:=R.objs t' n' S h;have zr:∀ t1 n1 b1 H1,ι t1 n1=some b1->ι.ob t1 n1=some H1->(ι.del t n) t1 n1=some b1:=fun t1 n1 b1 H1 g1 g2=>bk.f _ _ _ (fun e=>by rw [<- e.1,<- e.2,g2] at nc; cases nc) g1
  exact ⟨p,H,zr _ _ _ _ h1 h2,h2,h3,h4.keep (fun t1 n1 b1 H1 g1 g2=>⟨zr _ _ _ _ g1 g2,H1,g2⟩) fun x hx=>hx⟩
 ·obtain ⟨h1,h2⟩:=R.obs t' n' H h;refine ⟨fun b hb=>?_,h2⟩;obtain ⟨g1,g2,g3,g4,g5⟩:=h1 b hb;exact ⟨g1,g2,fun t2 n2 h=>g3 t2 n2 (Ix.del_some h).1,g4,g5⟩
theorem MB.ren (R:MB P O nt B F0 da w0 D s a w ι Θ) {t n:Nat} (bq:t≠0) {r:List qA} (hm:s.mem t n=some r) (le:r.map (qA.kill t n)=r) {d:Nat} (hd:d<nt) (hD:¬ D d) {x:AV} {v:Value}
  (hx:∀ ι':Ix,ι' d s.next=ι t n->(∀ b,ι'.z b=ι.z b)->MA ι' (EC da ι' Θ) (RC ι' Θ) w x v) :
  ∃ ι',MB P O nt B F0 da w0 (fun j=>D j\/j=d) (((s.kill t n).setRow d s.next r).put (some d) ⟨x,.no⟩) (a.put (some d) v) w ι' Θ:=by
 obtain ⟨nc,b0,cur0,ty0,sv,bz,dl,nu,ec⟩:=R.rows t n r hm;have wd:ι d s.next=none:=by
  cases h:ι d s.next with
  | none=>rfl
  | some b =>
   rcases (R.mine _ _ _ h).2.2 with h1 | h1
   ·omega
   ·exact absurd h1.2 hD
 have zd:ι.ob d s.next=none:=by
  cases h:ι.ob d s.next with
  | none=>rfl
  | some b =>
   rcases (R.obs _ _ _ h).2 with h1 | h1
   ·omega
   ·exact absurd h1.2 hD
 have oa:¬ (t=d/\n=s.next):=fun e=>by rw [e.1,e.2,wd] at sv; cases sv
 obtain ⟨ι',hι'⟩:∃ ι':Ix,ι'=⟨fun t' n'=>if t'=d/\n'=s.next then some b0 else (ι.del t n) t' n',ι.ob,ι.z⟩:=⟨_,rfl⟩;have wb:ι' d s.next=some b0:=by subst hι'; show (if d=d/\s.next=s.next then some b0 else _)=_; rw [if_pos ⟨rfl,rfl⟩]
 have wh:∀ t' n' b,ι' t' n'=some b->(t'=d/\n'=s.next/\b=b0)\/(ι t' n'=some b/\¬ (t'=t/\n'=n)/\¬ (t'=d/\n'=s.next)):=fun t' n' b h=>by
  subst hι';have h':(if t'=d/\n'=s.next then some b0 else (ι.del t n) t' n')=some b:=h;split at h'
  ·rename_i e; injection h' with h'; exact .inl ⟨e.1,e.2,h'.symm⟩
  ·rename_i e; exact .inr ⟨(Ix.del_some h').1,(Ix.del_some h').2,e⟩
 have nb:ι'.ob=ι.ob:=by subst hι'; rfl
 have bk:Ix.Lk t n ι ι':=⟨fun t' n' b hn h=>by
  subst hι';show (if t'=d/\n'=s.next then some b0 else (ι.del t n) t' n')=some b;rw [if_neg (fun e=>by rw [e.1,e.2,wd] at h; cases h)];exact (Ix.del_lk ι t n).f _ _ _ hn h,fun _ _ _ _=>by subst hι'; rfl⟩
 have dv:∀ b,ι'.z b=ι.z b:=fun b=>by subst hι'; rfl
 clear hι';have oi:∀ b o,RC ι' Θ b o->RC ι Θ b o:=fun b o h=>h.imp (fun h=>h.imp (fun ⟨t',n',h⟩=>by
  rcases wh _ _ _ h with ⟨_,_,e⟩ | ⟨h,_⟩
  ·exact ⟨t,n,e ▸ sv⟩
  ·exact ⟨t',n',h⟩) (fun ⟨t',n',H,h,hb⟩=>⟨t',n',H,nb ▸ h,hb⟩)) id
 have hB:BA (RC ι Θ) (RC ι' Θ) w w:=BA.less oi;have hA:BA (EC da ι Θ) (EC da ι' Θ) w w:=BA.less fun b o h=>h.imp id (oi b o)
 refine ⟨ι',MB.put (s:=(s.kill t n).setRow d s.next r) ⟨R.defers,R.size,fun j=>MA.kill bk hA hB _ _ (R.env j),R.ann,fun t' n' r' hr=>?_,fun t' n' b h=>?_,fun t1 n1 t2 n2 b h h'=>?_,R.tok,R.tinj,fun k o t' n' h h'=>?_,R.out,fun p h=>?_,R.kept,R.base,fun t' n' S h=>?_,fun t' n' H h=>?_,fun j=>MA.kill bk hA hB _ _ (R.gen j),R.gann⟩ hd (hx _ (wb.trans sv.symm) dv) trivial⟩
 ·simp only [pA.setRow] at hr;split at hr
  ·rename_i e;injection hr with hr;subst hr;refine ⟨by rw [nb,e.1,e.2]; exact zd,b0,cur0,ty0,by rw [e.1,e.2]; exact wb,bz,?_,nu,ec.trans (dv _).symm⟩;have:=dl.kill bk hA;rw [le] at this;exact this
  ·simp only [pA.kill] at hr;split at hr
   ·cases hr
   ·rename_i hn;cases jd:s.mem t' n' with
    | none=>rw [jd] at hr; cases hr
    | some r0 =>
     rw [jd] at hr;injection hr with hr;subst hr;obtain ⟨h0,b,cur,ty,h1,h2,h3,h4,h5⟩:=R.rows t' n' r0 jd;exact ⟨nb ▸ h0,b,cur,ty,bk.f _ _ _ hn h1,h2,h3.kill bk hA,h4,h5.trans (dv _).symm⟩
 ·rcases wh _ _ _ h with ⟨e1,e2,e3⟩ | ⟨h,_⟩
  ·subst e1; subst e3;obtain ⟨h1,h2,_⟩:=R.mine t n b sv;exact ⟨h1,h2,.inr ⟨e2,.inr rfl⟩⟩
  ·obtain ⟨h1,h2,h3⟩:=R.mine t' n' b h;exact ⟨h1,h2,h3.imp id fun ⟨e,d⟩=>⟨e,.inl d⟩⟩
 ·rcases wh _ _ _ h with ⟨e1,e2,e3⟩ | ⟨h,hn,_⟩ <;> rcases wh _ _ _ h' with ⟨f1,f2,f3⟩ | ⟨h',zh,_⟩
  ·exact ⟨e1.trans f1.symm,e2.trans f2.symm⟩
  ·subst e3; exact absurd (R.inj _ _ _ _ _ h' sv) zh
  ·subst f3; exact absurd (R.inj _ _ _ _ _ h sv) hn
  ·exact R.inj _ _ _ _ _ h h'
 ·rcases wh _ _ _ h' with ⟨e1,e2,e3⟩ | ⟨h',_⟩
  ·exact R.apart k o t n h (e3 ▸ sv)
  ·exact R.apart k o t' n' h h'
 ·obtain ⟨h1,h2⟩:=R.pin p h;exact ⟨bk.f _ _ _ (fun e=>bq e.1.symm) h1,h2.imp (fun g=>⟨g.1,(bk.z _ _ _ h1).trans g.2⟩) fun g=>nb ▸ g⟩
 ·obtain ⟨p,H,h1,h2,h3,h4⟩:=R.objs t' n' S h;have zr:∀ t1 n1 b1 H1,ι t1 n1=some b1->ι.ob t1 n1=some H1->ι' t1 n1=some b1:=fun t1 n1 b1 H1 g1 g2=>bk.f _ _ _ (fun e=>by rw [<- e.1,<- e.2,g2] at nc; cases nc) g1
  exact ⟨p,H,zr _ _ _ _ h1 h2,nb ▸ h2,h3,h4.keep (fun t1 n1 b1 H1 g1 g2=>⟨zr _ _ _ _ g1 g2,H1,nb ▸ g2⟩) fun x hx=>hx⟩
 ·rw [nb] at h;obtain ⟨h1,h2⟩:=R.obs t' n' H h;refine ⟨fun b hb=>?_,h2.imp id fun ⟨e,d⟩=>⟨e,.inl d⟩⟩;obtain ⟨g1,g2,g3,g4,g5⟩:=h1 b hb;refine ⟨g1,g2,fun t2 n2 h'=>?_,g4,nb ▸ g5⟩;rcases wh _ _ _ h' with ⟨e1,e2,e3⟩ | ⟨h',_⟩
  ·exfalso;have e:=g3 t n (e3 ▸ sv);rw [<- e.1,<- e.2] at h;rw [nc] at h;cases h
  ·exact g3 t2 n2 h'
theorem row_of {av:Av} {cs:List AV} {us:List Value} (h:aD av w cs us) {cur:Array Value} (hc:∀ (j:Nat) (u:Value),us[j]?=some u->cur[j]?=some u):WD ι Θ av w (cs.map (⟨·,.no⟩)) cur:=by
 have ia:=MC (ID (ι:=ι) h);constructor
 ·rw [yo];rcases yK cs.length with h0 | h0
  ·omega
  ·have:=hc (cs.length - 1) us[cs.length - 1] (y4 (by omega));have:=(Array.getElem?_eq_some_iff.1 this).1;omega
 ·intro j x hx;rw [yc] at hx;cases hj:cs[j]? with
  | none=>rw [hj] at hx; cases hx
  | some y =>
   rw [hj] at hx;injection hx with hx;subst hx;obtain ⟨u,hu,h1,hr⟩:=XJ (ID (ι:=ι) h) hj;exact ⟨u,hc j u hu,h1,hr,trivial⟩
theorem MB.drew (R:MB P O nt B F0 da w0 D s a w ι Θ):MB P O nt B F0 da w0 D s a w.drew ι Θ:=R.grow (w':=w.drew) (fun _ _=>rfl) (yn _) R.kept.drew
theorem L8 (s:pA) (t n:Nat) (r:List qA):(s.setRow t n r).kill t n=s.kill t n:=by
 simp only [pA.setRow,pA.kill];congr 1;funext t' n';by_cases h:t'=t/\n'=n <;> simp [h]
theorem I3 {av:Av} {cs:List AV} {us:List Value} (h:KA ι av w cs us) {cur:Array Value} (hc:∀ (j:Nat) (u:Value),us[j]?=some u->cur[j]?=some u):WD ι Θ av w (cs.map (⟨·,.no⟩)) cur:=by
 have ia:=MC h;constructor
 ·rw [yo];rcases yK cs.length with h0 | h0
  ·omega
  ·have:=hc (cs.length - 1) us[cs.length - 1] (y4 (by omega));have:=(Array.getElem?_eq_some_iff.1 this).1;omega
 ·intro j x hx;rw [yc] at hx;cases hj:cs[j]? with
  | none=>rw [hj] at hx; cases hx
  | some y =>
   rw [hj] at hx;injection hx with hx;subst hx;obtain ⟨u,hu,h1,hr⟩:=XJ h hj;exact ⟨u,hc j u hu,h1,hr,trivial⟩
theorem US {t n:Nat} {v:AV} (h:v.noName t n=true):v.kill0 t n=v/\v.kill t n=v:=by
  cases v <;> first
    | exact ⟨rfl,rfl⟩
    | (simp only [AV.noName,Bool.not_eq_true',Bool.and_eq_false_imp,decide_eq_true_eq,decide_eq_false_iff_not] at h
       have h':¬ (_=t/\_=n):=fun e=>h e.1 e.2
       exact ⟨by simp only [AV.kill0,if_neg h'],by simp only [AV.kill,AV.kill0,if_neg h']⟩)
    | cases h
theorem C7 {t n:Nat} {l:List AV} (h:l.all (AV.noName t n)=true):l.map (AV.kill0 t n)=l:=by
 have:l.map (AV.kill0 t n)=l.map id:=ym fun x hx=>(US (y5.1 h x hx)).1
 rwa [List.map_id] at this
theorem X7 {t n:Nat} {l:List AV} (h:l.all (AV.noName t n)=true):(l.map (⟨·,.no⟩)).map (qA.kill t n)=l.map (⟨·,.no⟩):=by
 rw [y0];apply ym;intro x hx;show (⟨x.kill t n,.no⟩:qA)=⟨x,.no⟩;rw [(US (y5.1 h x hx)).2]
theorem b3 (R:MB P O nt B F0 da w0 D s a w ι Θ) {t e:TypeId} {i:TypeInfo} {z:List AV} (ht:P.underlying t=some (.slice e)) (hi:P.info? e=some i) (hz:TJ P e=some z) (ic:z.length=i.size) (db:0<i.size) {X Y:Operand} {x y:FB} (hx:opd X=some x) (hy:opd Y=some y)
  (ho:o.op=.call { callee:=.builtin .append,args:=#[X,Y],argTypes:=#[t,t] }) {d:Nat} (ba:o.dst=some d) (hd:d<nt) (hD:¬ D d) {cl:Cl} {call} {xe:qA × tD} (hr:(K.appn cl e i.size i.bytes x y).run call s=some xe) {g} {s':pA} (he:EA.eff ⟨o.dst,.appn cl e i.size i.bytes x y,g⟩ s xe=some s') :
  ∃ v w',(execOp a.eval o).run P w=.ok (.value v) w'/\QD P O nt B F0 da w0 (fun t=>D t\/t=d) s' (a.put o.dst v) w':=by
 obtain ⟨zv,i',ac,zm,tg,hl⟩:=QG hz w;rw [hi] at ac;injection ac with ac;subst ac;have zj:zv.cells.size=i.size:=by
  have:=SF hl;simp only [yT] at this;omega
 have hX:=R.opd hx;have hY:=(R.opd hy).1;have ti:∀ v w',(Builtin.append_ #[t,t] o.type #[a.eval X,a.eval Y]).run P w=.ok v w'->(execOp a.eval o).run P w=.ok (.value v) w':=fun v w' h=>by
  simp only [execOp,ho,resolve,invoke,builtin,Sem.run_bind,Sem.run_pure,Result.andThen_ok,List.map_toArray,yj,yt,h]
 -- a new block for l++m
 have grow:∀ {s1:pA} {ι1:Ix} {l m:List (List AV)} {xs news:List Value} {A:Option Addr} {ln c:Nat},MB P O nt B F0 da w0 D s1 a w.drew ι1 Θ->a.eval X=.slice A ln c->xs.length=ln * i.size->(A=none->ln=0/\c=0)->(∀ a',A=some a'->∀ j u,xs[j]?=some u->w.cell? (a'.add j)=some u) →
   l.length=ln->Sl (fun _=>False) w i.size (a.eval Y) m.length news->c<ln + m.length->ln<=c->KA ι1 (EC da ι1 Θ) w.drew (l++m).flatten (xs++news)->uB i.bytes (ln + m.length)=true →
   ∃ v w',(execOp a.eval o).run P w=.ok (.value v) w'/\QD P O nt B F0 da w0 (fun t=>D t\/t=d) ((s1.setRow d s1.next ((l++m).flatten.map (⟨·,.no⟩))).put (some d) ⟨.ref d s1.next i.size 0 (ln + m.length) (ln + m.length),.no⟩) (a.put (some d) v) w':=by
  intro s1 ι1 l m xs news A ln c R1 hv ge hA hxc lf be fa tu fc ja;obtain ⟨we,dg⟩:=TA.1 ja;have ca:=LU (P:=P) (w:=w) ht hi zm o.type ge hA hxc be fa tu dg we;rw [<- hv] at ca;have se:=grownCap_ge w (ln + m.length) c e;have hnl:news.length=m.length * i.size:=be.1;have ka:WD ι1 Θ (EC da ι1 Θ) w.drew ((l++m).flatten.map (⟨·,.no⟩)) (xs.toArray++news.toArray++Builtin.zeroCells zv.cells (grownCap w (ln + m.length) c e - (ln + m.length))):=I3 fc fun j u hj=>by
   have nh:=(yb.1 hj).1;rw [Array.getElem?_append_left (by simp only [Array.size_append,List.size_toArray]; simpa using nh)];simpa using hj
  obtain ⟨ι',h⟩:=R1.new hd hD e ka (x:=.ref d s1.next i.size 0 (ln + m.length) (ln + m.length)) (v:=.slice (some ⟨w.heap.size,0,none⟩) (ln + m.length) (grownCap w (ln + m.length) c e)) (fun ι' h hz=>⟨_,h,yn _,_,se,by
   rw [show ι'.z w.drew.heap.size=_ from hz,yH];simp only [Array.size_append,List.size_toArray,size_zeroCells,zj,ge,hnl,<- Nat.add_mul];exact Y00 _ (by omega),rfl⟩)
  exact ⟨_,_,ti _ _ ca,ι',Θ,h⟩
 have drewHeld:BA (EC da ι Θ) (EC da ι Θ) w w.drew:=BA.grown (fun _ _=>rfl) fun _ _ _ h=>h
 simp only [K.run] at hr;split at hr
 ·rename_i b l m mc lc;split at hr
  ·rename_i aa;obtain ⟨ja,ta,gl⟩:=aa;have dc:∀ c∈l++m,c.length=i.size:=fun c hc=>by simpa using y5.1 ta c hc
   have jd:∀ c∈m,c.length=i.size:=fun c hc=>dc c (List.mem_append_right _ hc)
   have tq:∀ c∈l,c.length=i.size:=fun c hc=>dc c (List.mem_append_left _ hc)
   obtain ⟨news,td,be⟩:=raws_sl R hY lc db jd;rw [mc] at hX;have ky:=hX.1;rw [mD] at ky;obtain ⟨xs,ge,ju⟩:=tM (cl:=cl) R hX.1 (m:=l) rfl db tq;simp only [oE] at ky;obtain ⟨A,c,hv,tu,hu,hn,hs⟩:=ky;have de:xs.length=l.length * i.size:=ju.1;have me:∀ a',A=some a'->∀ j u,xs[j]?=some u->w.cell? (a'.add j)=some u:=fun a' ha j u hj=>by
    obtain ⟨_,A2,c2,gp,_,h2⟩:=ju;rw [hv] at gp;injection gp with e1 e2 e3;subst e1;have hp:0<l.length:=by
     rcases yK l.length with h | h
     ·rw [h] at de; have:=(yb.1 hj).1; omega
     ·exact h
    obtain ⟨b',off,hA,_,_,ad⟩:=h2 hp;rw [ha] at hA;injection hA with hA;subst hA;rw [Addr.add_lit];exact ad j u hj
   split at hr
   ·rename_i pm;have hXe:exV (a.eval X):=by
     cases b with
     | false=>have h2:=hX.2; rw [show x.an s=.ex from pm] at h2; exact h2
     | true =>
      obtain ⟨h1,h2,h3⟩:=hn rfl;exact ⟨none,0,by rw [hv,h1,h2,h3]⟩
    obtain ⟨A',n',xp⟩:=hXe;rw [hv] at xp;injection xp with e1 e2 e3;injection hr with hr;subst hr;simp only [EA.eff,ba] at he;injection he with he;subst he;rw [ba];exact grow R.drew hv de (fun hA=>by
     cases b with
     | true=>have:=hn rfl; exact ⟨this.2.1,this.2.2⟩
     | false =>
      obtain ⟨h1,h2⟩:=hs rfl;refine ⟨?_,h1 hA⟩;rcases yK l.length with h0 | h0
      ·exact h0
      ·obtain ⟨_,_,ha,_⟩:=h2 h0; rw [hA] at ha; cases ha) me rfl be (by omega) tu (by rw [List.flatten_append]; exact iH (ID (aD.held drewHeld _ _ ge)) (KA.held (Ix.Le.refl _) drewHeld _ _ td)) ja
   ·cases hr
  ·cases hr
 ·rename_i t' n sz off ln cp m mc lc;split at hr
  ·rename_i l lf;split at hr
   ·rename_i aa;obtain ⟨rfl,rfl,ja,ta,bq,ox⟩:=aa;injection hr with hr;subst hr;have jd:∀ c∈m,c.length=i.size:=fun c hc=>by simpa using y5.1 ta c hc
    obtain ⟨news,td,be⟩:=raws_sl R hY lc db jd;rw [mc] at hX;obtain ⟨b,hb,sb,cc,rf,hzb,hv⟩:=qH.1 hX.1;simp only [AV.raws] at lf;split at lf
    ·cases hm:s.mem t' n with
     | none=>rw [hm] at lf; cases lf
     | some r =>
      rw [hm,V] at lf;obtain ⟨nc,b',cur,ty,ua,na,ka,di,tp⟩:=R.rows t' n r hm;rw [hb] at ua;injection ua with ua;subst ua;obtain ⟨uu,tq,xs,ge,me⟩:=OP ka na lf;simp only [yH] at me hzb;have pr:∀ {q:List (List AV)},(∀ c∈q,c.length=i.size)->q.flatten.length=q.length * i.size:=fun {q} hq=>by
       induction q with
       | nil=>simp
       | cons c r ih=>rw [yF,yp,hq c (by simp),ih (fun c hc=>hq c (by simp [hc])),yE,yu]; omega
      have de:xs.length=ln * i.size:=by
       have:=MC ge;rw [this,pr tq,uu]
      have gc:news.length=m.length * i.size:=be.1;have fc:KA ι (EC da ι Θ) w (l++m).flatten (xs++news):=by rw [List.flatten_append]; exact iH ge td
      have wr:(l++m).flatten.map (AV.kill0 t' n)=(l++m).flatten:=C7 ox;simp only [EA.eff,ba,pA.killO] at he;injection he with he;subst he;rw [ba];rcases Nat.lt_or_ge cc (ln + m.length) with fa | se
      ·have bk:BA (EC da ι Θ) (EC da (ι.del t' n) Θ) w w.drew:=BA.grown (fun _ _=>rfl) fun b o _ h=>h.imp id fun h=>h.imp (fun h=>h.imp (fun ⟨t',n',h⟩=>⟨t',n',(Ix.del_some h).1⟩) id) id
       exact grow (R.drew.kill bq hm) hv de (fun h=>by cases h) (fun a' ha j u hj=>by
        injection ha with ha;subst ha;rw [Addr.add_lit,yH];exact me j u hj) uu be fa (yC sb rf) (by have:=KA.kill (Ix.del_lk ι t' n) bk _ _ fc; rwa [wr] at this) ja
      ·obtain ⟨new,wb⟩:∃ new,new=(cur.toList.take (ln * i.size)++news++cur.toList.drop (ln * i.size + news.length)).toArray:=⟨_,rfl⟩;have um:ln * i.size + news.length<=cur.size:=by
        rw [gc,<- Nat.add_mul,tp];exact yC (Y00 _ se) hzb
       have ca:(Builtin.append_ #[t,t] o.type #[a.eval X,a.eval Y]).run P w=.ok (.slice (some ⟨b,0,none⟩) (ln + m.length) cc) (w.setRow b new):=by
        rw [hv,wb];obtain ⟨pg,A,c',hsv,hc,rb⟩:=be;rw [hsv];cases A with
        | none =>
         have gl:m.length=0:=by
          rcases yK m.length with h | h
          ·exact h
          ·obtain ⟨b,off,hA,_⟩:=rb h; cases hA
         have ox:news=[]:=yS (by rw [gc,gl,Nat.zero_mul]);subst ox;rw [gl] at se ⊢;have wt:w.setRow b (cur.toList.take (ln * i.size)++[]++cur.toList.drop (ln * i.size + ([]:List Value).length)).toArray=w:=by
          simp only [yN,List.length_nil,Nat.add_zero,List.take_append_drop,yX];exact setRow_self w b cur ty (0,0) na
         rw [wt];simp only [Nat.add_zero] at se;simp [Builtin.append_,run_underlying ht,sizeOf,typeInfo,hi,Builtin.lenOf,Builtin.firstCells,se,storeCells]
        | some a' =>
         have hnews':∀ (j:Nat) (u:Value),news[j]?=some u->w.cell? (a'.add j)=some u:=fun j u hu=>by
          have gl:0<m.length:=by
           rcases yK m.length with h | h
           ·rw [h] at gc; have:=(yb.1 hu).1; omega
           ·exact h
          obtain ⟨b,off,hA,_,_,ad⟩:=rb gl;injection hA with hA;subst hA;rw [Addr.add_lit];exact ad j u hu
         have bn:=run_loadCells_list (P:=P) w a' news hnews';rw [gc] at bn;have jb:=run_storeCells_at P b (ln * i.size) ty news 0 cur w na (by simpa using um) (cT td);simp only [Nat.add_zero] at jb;simp [Builtin.append_,run_underlying ht,sizeOf,typeInfo,hi,Builtin.lenOf,Builtin.firstCells,se,bn,Addr.add_lit,jb]
       have hns:new.size=cur.size:=by
        rw [wb];simp only [List.size_toArray,yp,yz,List.length_drop,yT];omega
       have xh:WD ι Θ (EC da ι Θ) w ((l++m).flatten.map (⟨·,.no⟩)) new:=I3 fc fun j u hj=>by
        have ik:(cur.toList.take (ln * i.size)).length=ln * i.size:=by rw [yz,yT]; omega
        rw [wb,List.getElem?_toArray,yY];rcases Nat.lt_or_ge j (ln * i.size) with h | h
        ·rw [yG (by omega)] at hj;have:=me j u hj;rw [cell_of_row w b j cur ty (0,0) na] at this;rw [yG (by omega),yV,if_pos h];simpa using this
        ·rw [yW (by omega),de] at hj;have pz:=(yb.1 hj).1;rw [yW (by omega),ik,yG pz];exact hj
       have R1:=R.set hb nc na xh di (hns.trans tp);have R2:=R1.ren (t:=t') (n:=n) bq (d:=d) (r:=(l++m).flatten.map (⟨·,.no⟩)) (by simp [pA.setRow]) (X7 ox) hd hD (x:=.ref d s.next i.size 0 (ln + m.length) (ln + m.length)) (v:=.slice (some ⟨b,0,none⟩) (ln + m.length) cc) (fun ι' h1 h2=>⟨b,h1.trans hb,yn _,cc,se,by rw [h2,yH]; exact hzb,rfl⟩);rw [L8] at R2;obtain ⟨ι',R2⟩:=R2;exact ⟨_,_,ti _ _ ca,ι',Θ,R2⟩
    ·cases lf
   ·cases hr
  ·cases hr
 ·cases hr
theorem W3 {v:AV} {cl:Cl} {l:List (List AV)} (h:v.elems s cl=some l):v.raws s cl=some l:=by
 cases v with
 | ref t n sz off len cap =>
  simp only [AV.elems,AV.raws] at h ⊢;split at h
  ·rename_i hc;rw [if_pos hc];cases hm:s.mem t n with
   | none=>rw [hm] at h; cases h
   | some r =>
    rw [hm,V,sD] at h;split at h
    ·rename_i hr;rw [V,eH,if_pos hr.1];exact h
    ·cases h
  ·cases h
 | _=>exact h
theorem Z1 {av:Av} (t n:Nat):∀ {xs:List AV} {us:List Value},aD av w xs us->xs.all (AV.noName t n)=true
 | [],_,_=>rfl
 | x :: r,_,h=>by
  simp only [aD] at h;obtain ⟨u,sa,rfl,h0,h1,h⟩:=h;rw [List.all_cons,Z1 t n h,Bool.and_true];cases x <;> first | rfl | (simp [oE] at h0; done) | (simp only [oE] at h0; obtain ⟨us,rfl,_⟩:=h0; simp [Value.oneCell'] at h1; done)
theorem op_appf (R:MB P O nt B F0 da w0 D s a w ι Θ) {t e:TypeId} {i:TypeInfo} {z:List AV} (ht:P.underlying t=some (.slice e)) (hi:P.info? e=some i) (hz:TJ P e=some z) (ic:z.length=i.size) (db:0<i.size) {X Y:Operand} {x y:FB} (hx:opd X=some x) (hy:opd Y=some y)
  (ho:o.op=.call { callee:=.builtin .append,args:=#[X,Y],argTypes:=#[t,t] }) {d:Nat} (ba:o.dst=some d) (hd:d<nt) (hD:¬ D d) {cl:Cl} {call} {xe:qA × tD} (hr:(K.appf cl e i.size i.bytes x y).run call s=some xe) {g} {s':pA} (he:EA.eff ⟨o.dst,.appf cl e i.size i.bytes x y,g⟩ s xe=some s') :
  ∃ v w',(execOp a.eval o).run P w=.ok (.value v) w'/\QD P O nt B F0 da w0 (fun t=>D t\/t=d) s' (a.put o.dst v) w':=by
 have hX:=R.opd hx;have hY:=(R.opd hy).1;simp only [K.run] at hr;split at hr
 ·rename_i b l m mc lc;split at hr
  ·rename_i aa;split at hr
   ·rename_i pm;split at hr
    ·rename_i aw;cases hr;have gl:m=[]:=by simpa using aw
     subst gl;have dc:∀ c∈l,c.length=i.size:=fun c hc=>by simpa using y5.1 aa.2 c (List.mem_append_left _ hc)
     obtain ⟨news,td,be⟩:=tM R hY lc db (fun _ h=>by cases h);rw [mc] at hX;obtain ⟨hX,ou⟩:=hX;obtain ⟨A,c,hv,tu,_,hn,_⟩:=mD.1 hX;cases he;have ca:=ZU (P:=P) (w:=w) ht hi o.type (A:=A) tu be;rw [<- hv] at ca;refine ⟨_,_,by simp only [execOp,ho,resolve,invoke,builtin,Sem.run_bind,Sem.run_pure,Result.andThen_ok,List.map_toArray,yj,yt,ca],ι,Θ,(R.putN (d:=o.dst) (x:=⟨.sl b l,.ex⟩) (fun t h=>by rw [ba] at h; cases h; exact hd) hX ?_).more fun _ h=>.inl h⟩;cases b with
     | false=>rw [show x.an s=.ex from pm] at ou; exact ou
     | true=>obtain ⟨h1,h2,h3⟩:=hn rfl; exact ⟨none,0,by rw [hv,h1,h2,h3]⟩
    ·rename_i aw;exact b3 R ht hi hz ic db hx hy ho ba hd hD (cl:=cl) (call:=call) (xe:=xe) (by simp only [K.run,mc,W3 lc]; rw [if_pos ⟨aa.1,aa.2,by cases m <;> simp at aw ⊢⟩,pm]; exact hr) (g:=g) he
   ·cases hr
  ·cases hr
 ·cases hr
theorem op_appm (R:MB P O nt B F0 da w0 D s a w ι Θ) {t e:TypeId} {i:TypeInfo} {z:List AV} (ht:P.underlying t=some (.slice e)) (hi:P.info? e=some i) (hz:TJ P e=some z) (ic:z.length=i.size) (db:0<i.size) {X Y:Operand} {x y:FB} (hx:opd X=some x) (hy:opd Y=some y)
  (ho:o.op=.call { callee:=.builtin .append,args:=#[X,Y],argTypes:=#[t,t] }) {d:Nat} (ba:o.dst=some d) (hd:d<nt) (hD:¬ D d) {cl:Cl} {call} {xe:qA × tD} (hr:(K.appm cl e i.size i.bytes x y).run call s=some xe) {g} {s':pA} (he:EA.eff ⟨o.dst,.appm cl e i.size i.bytes x y,g⟩ s xe=some s') :
  ∃ v w',(execOp a.eval o).run P w=.ok (.value v) w'/\QD P O nt B F0 da w0 (fun t=>D t\/t=d) s' (a.put o.dst v) w':=by
 have hX:=R.opd hx;have hY:=(R.opd hy).1;simp only [K.run] at hr;split at hr
 ·rename_i b l m mc lc;exact op_appf R ht hi hz ic db hx hy ho ba hd hD (cl:=cl) (call:=call) (xe:=xe) (by simp only [K.run,mc,lc]; exact hr) (g:=g) he
 ·rename_i t' n sz off ln cp m mc lc;split at hr
  ·rename_i l lf;split at hr
   ·rename_i aa;obtain ⟨h1,h2,ja,ta,bq⟩:=aa;obtain ⟨news,td,be⟩:=tM R hY lc db fun c hc=>by simpa using y5.1 ta c hc
    rw [mc] at hX;have nc:(l++m).flatten.all (AV.noName t' n)=true:=by
     rw [List.flatten_append,List.all_append,Z1 t' n td,Bool.and_true];simp only [AV.elems] at lf;split at lf
     ·cases hm:s.mem t' n with
      | none=>rw [hm] at lf; cases lf
      | some r =>
       rw [hm,V] at lf;obtain ⟨_,b',cur,ty,_,na,ka,_⟩:=R.rows t' n r hm;obtain ⟨_,_,xs,ge,_⟩:=BK ka na lf;exact Z1 t' n ge
     ·cases lf
    exact b3 R ht hi hz ic db hx hy ho ba hd hD (cl:=cl) (call:=call) (xe:=xe) (by simp only [K.run,mc,W3 lc,W3 lf]; rw [if_pos ⟨h1,h2,ja,ta,bq,nc⟩]; exact hr) (g:=g) he
   ·cases hr
  ·cases hr
 ·cases hr
theorem op_bslr (R:MB P O nt B F0 da w0 D s a w ι Θ) {t e:TypeId} {n z:Nat} {zero:List AV} (ht:P.underlying t=some (.slice e)) (hz:TJ P e=some zero) (hs:wC P e=some z) (ic:zero.length=z) (db:0<z) (dd:n * z<=16777216) {ps:Array (Nat × Operand)} {ys:List (Nat × FB)} (hy:opds ps.toList=some ys) (ho:o.op=.buildSlice t n ps)
  {d:Nat} (ba:o.dst=some d) (hd:d<nt) (hD:¬ D d) {call} {xe:qA × tD} (hr:(K.bslr z zero n ys).run call s=some xe) {g} {s':pA} (he:EA.eff ⟨o.dst,.bslr z zero n ys,g⟩ s xe=some s') :
  ∃ v w',(execOp a.eval o).run P w=.ok (.value v) w'/\QD P O nt B F0 da w0 (fun t=>D t\/t=d) s' (a.put o.dst v) w':=by
 obtain ⟨zv,i',ac,zm,tg,hl⟩:=QG hz w;have hisz:i'.size=z:=by simp [wC,ac] at hs; exact hs
 have zj:zv.cells.size=z:=by
  have:=SF hl;simp only [yT] at this;omega
 simp only [K.run] at hr;split at hr
 ·rename_i aa;obtain ⟨ig,ta,_,_⟩:=aa;injection hr with hr; subst hr;simp only [EA.eff,ba] at he;injection he with he;subst he;have dc:∀ p∈ys,(p.2.get s).whole=true/\(p.2.get s).cells.length=zero.length:=fun p hp=>by
   have:=y5.1 ta p hp;simpa using this
  have hn:ys.length=n:=by
   have:=congrArg List.length ig;simpa using this
  have ui:=AT (s:=s) z ys 0 [] (yg n zero).flatten (by rw [ig,List.range_eq_range',hn]) (by simp) (by simp [hn,ic]) (fun p hp=>by rw [(dc p hp).2,ic]);rw [List.nil_append,List.nil_append] at ui;have hp:=UR z ys;have fj:((Array.range (n * z)).map (((if n * z=0 then (#[]:Array Value) else zv.cells)[· % (if n * z=0 then (#[]:Array Value) else zv.cells).size]!))).toList=(yg n zv.cells.toList).flatten:=by
   rcases yK n with h0 | h0
   ·subst h0; simp
   ·have:¬ n * z=0:=by have:=Nat.mul_pos h0 db; omega
    simp only [if_neg this];rw [<- zj];exact rQ zv.cells n
  obtain ⟨sa,h1,h2⟩:=sS (pl:=fun i=>some (i * z,z)) (ι:=ι) (av:=EC da ι Θ) (avb:=RC ι Θ) (w:=w) (s:=s) (a:=a) rfl (fun X y h=>(R.opd h).1) hy hp (fun p hp=>by
   obtain ⟨q,hq,rfl⟩:=yA.1 hp;exact (dc q hq).1) (by rw [y0]; exact ui) (us:=(Array.range (n * z)).map (((if n * z=0 then (#[]:Array Value) else zv.cells)[· % (if n * z=0 then (#[]:Array Value) else zv.cells).size]!))) (by
    rw [fj];exact tQ _ _ (AI hl _ _) n)
  have ca:(execOp a.eval o).run P w=.ok (.value (.slice (some ⟨w.heap.size,0,none⟩) n n)) (w.alloc (.cells sa e)):=by
   have h3:Instr.fill (fun i=>some (i * z,z)) ((Array.range (n * z)).map (((if n * z=0 then (#[]:Array Value) else zv.cells)[· % (if n * z=0 then (#[]:Array Value) else zv.cells).size]!))) (ps.map fun (i,x)=>(i,a.eval x)).toList=some sa:=by
    rw [Array.toList_map];exact h1
   have sb:¬ (n * z > 2 ^ 24):=by omega
   by_cases h0:n * z=0
   ·simp only [if_pos h0] at h3;simp only [execOp,ho,Instr.buildSlice,Sem.run_bind,run_underlying ht,Result.andThen_ok,kC hs,if_neg sb,if_pos h0,Sem.run_pure,h3,newRow,run_newObj_alloc]
   ·simp only [if_neg h0] at h3;simp only [execOp,ho,Instr.buildSlice,Sem.run_bind,run_underlying ht,Result.andThen_ok,kC hs,if_neg sb,if_neg h0,Sem.run_pure,tg,h3,newRow,run_newObj_alloc]
  refine ⟨_,_,ca,?_⟩;rw [ba];have ia:=MC h2;have kh:(ys.map fun p=>(p.2.get s).cells).flatten.length=n * z:=by
   rw [<- hn];clear ui h2 ia h1 ig ta hp hy dd fj hn
   induction ys with
   | nil=>simp
   | cons p r ih=>rw [yj,yF,yp,(dc p (by simp)).2,ih (fun q hq=>dc q (by simp [hq])),ic,yE,yu]; omega
  have pd:sa.size=n * z:=by
   rw [kh,yT] at ia;exact ia
  have ka:WD ι Θ (EC da ι Θ) w (sA (ys.map fun p=>(p.2.get s).cells)) sa:=I3 h2 fun j u hj=>by simpa using hj
  obtain ⟨ι',h⟩:=R.new hd hD e ka (x:=.ref d s.next z 0 n n) (v:=.slice (some ⟨w.heap.size,0,none⟩) n n) (fun ι' h hz=>⟨_,h,yn _,_,yn _,by
   rw [show ι'.z w.heap.size=_ from hz,yH,pd];exact yn _,rfl⟩)
  exact ⟨ι',Θ,h⟩
 ·cases hr
end
end
section
open Go Go.RowKit
section
variable {P:Program} {O:uH} {nt B:Nat} {F0:SO} {da:Av} {w0:World} {D:Nat->Prop} {s:pA} {a:Act} {w w':World} {ι:Ix} {Θ:NK} {o:Oper}
def CL (ι:Ix) (av avl:Av) (w:World):List AV->List Value->Prop
 | [],us=>us=[]
 | x :: r,us=>∃ u sa,us=u :: sa/\MA ι av avl w x u/\CL ι av avl w r sa
def Ix.one (p:Nat):Ix:=⟨fun t n=>if t=0/\n=0 then some p else .none,fun _ _=>.none,fun _=>0⟩
def bT (p:Nat) (av:Av) (w:World) (x:AV) (v:Value):Prop:=if x.isObj then v=.pointer (some ⟨p,0,none⟩) else oE av w x v
def BL (p:Nat) (av:Av) (w:World):List AV->List Value->Prop
 | [],us=>us=[]
 | x :: r,us=>∃ u sa,us=u :: sa/\bT p av w x u/\BL p av w r sa
def z9 (p:Nat) (av:Av) (w:World):AV->Value->Prop
 | .tup vs,v=>∃ us,v=.tuple us/\BL p av w vs us.toList
 | x,v=>bT p av w x v
def OwnV (base:Nat) (H:Nat->Prop) (w:World) (l:List (List AV)) (v:Value):Prop :=
 (l=[]/\∃ A c,v=.slice A 0 c/\(A=none->c=0))\/∃ g c cur ty,v=.slice (some ⟨g,0,none⟩) l.length c/\base<=g/\¬ H g/\w.heap[g]?=some (.cells cur ty (0,0))/\l.length<=c/\(∀ sz,gB sz l=true->0<l.length->c * sz<=cur.size)/\∀ (j:Nat) (x:AV),l.flatten[j]?=some x->cur[j]?=some x.scalV
def D1 (P:Program) (O:uH) (f:FuncId) (args:List AV) (S0:Option AV) (r:RV):Prop :=
 (∀ xs w,(callFunc f xs).run P w=.ok (.enter f xs) w) ∧
 match S0,r with
 | some S,(.sl false l,some S')=>∀ (av:Av) (w:World) (vs:List Value) (p:Nat) (H:Nat->Prop),(∀ b o,av b o->b<w.heap.size)->(∀ b o,H b->av b o)->O.at_ S H p w->CL (Ix.one p) av (fun b _=>H b) w args vs →
  Calls P f vs.toArray w fun e w'=>∃ v H',e=.returned v/\OwnV w.heap.size H' w' l v/\O.at_ S' H' p w'/\(∀ b,H' b->H b\/w.heap.size<=b)/\xD H w w'
 | _,_=>True
def A1 (P:Program) (O:uH) (f:FuncId) (args:List AV) (S0:Option AV) (r:RV):Prop :=
 (∀ xs w,(callFunc f xs).run P w=.ok (.enter f xs) w) ∧
 match S0,r.2 with
 | none,none=>∀ (av:Av) (w:World) (vs:List Value),(∀ b o,av b o->b<w.heap.size)->CL Ix.none av (fun _ _=>False) w args vs →
  Calls P f vs.toArray w fun e w'=>∃ v,e=.returned v/\oE av w' r.1 v/\Below w.heap.size w w'
 | some S,some S'=>∀ (av:Av) (w:World) (vs:List Value) (p:Nat) (H:Nat->Prop),(∀ b o,av b o->b<w.heap.size)->(∀ b o,H b->av b o)->O.at_ S H p w->CL (Ix.one p) av (fun b _=>H b) w args vs →
  Calls P f vs.toArray w fun e w'=>∃ v H',e=.returned v/\oE (fun b o=>av b o\/H' b) w' r.1 v/\O.at_ S' H' p w'/\(∀ b,H' b->H b\/w.heap.size<=b)/\xD H w w'
 | none,some S'=>∀ (av:Av) (w:World) (vs:List Value),(∀ b o,av b o->b<w.heap.size)->CL Ix.none av (fun _ _=>False) w args vs →
  Calls P f vs.toArray w fun e w'=>∃ v p H',e=.returned v/\z9 p (fun b o=>av b o\/H' b) w' r.1 v/\O.at_ S' H' p w'/\(∀ b,H' b->w.heap.size<=b)/\Below w.heap.size w w'
 | some _,none=>True
def Ix.row (p z:Nat):Ix:=⟨fun t n=>if t=0/\n=0 then some p else .none,fun _ _=>.none,fun _=>z⟩
def F1 (P:Program) (f:FuncId) (args:List AV) (S0:Option AV) (r:RV):Prop :=
 (∀ xs w,(callFunc f xs).run P w=.ok (.enter f xs) w) ∧
 match S0,r with
 | some (.agg cs),(r1,some (.agg cv))=>∀ (av:Av) (w:World) (vs:List Value) (p:Nat) (cur:Array Value) (ty:TypeId),(∀ b o,av b o->b<w.heap.size)->(∀ o,av p o)->w.heap[p]?=some (.cells cur ty (0,0))->cs.length<=cur.size->aD av w cs (cur.toList.take cs.length)->CL (Ix.row p cur.size) av (fun b _=>b=p) w args vs →
  Calls P f vs.toArray w fun e w'=>∃ v lb pp,e=.returned v/\oE av w' r1 v/\w'.heap[p]?=some (.cells lb pp (0,0))/\lb.size=cur.size/\aD av w' cv (lb.toList.take cv.length)/\xD (fun b=>b=p) w w'
 | _,_=>True
def rD (P:Program) (O:uH) (f:FuncId) (args:List AV) (S0:Option AV) (r:RV):Prop:=match args with
 | .undef :: .undef :: rest=>F1 P f rest S0 r
 | .undef :: rest=>D1 P O f rest S0 r
 | _=>A1 P O f args S0 r
theorem rD.of {P:Program} {O:uH} {f:FuncId} {args:List AV} {S0:Option AV} {r:RV} (hm:UI args=false):rD P O f args S0 r ↔ A1 P O f args S0 r:=by
 unfold rD;split
 ·cases hm
 ·cases hm
 ·simp_all
theorem rD.own {P:Program} {O:uH} {f:FuncId} {args:List AV} {S0:Option AV} {r:RV} (hm:UI args=false) (h:rD P O f (.undef :: args) S0 r):D1 P O f args S0 r:=by
 cases args with
 | nil=>exact h
 | cons x r=>cases x <;> first | exact h | (simp [UI] at hm; done)
theorem s7 {ι':Ix} {av avb avl:Av} {x:AV} {v:Value} (h:MA ι av avb w x v) (hx:x.free=true):MA ι' av avl w x v:=by
  cases x <;> first
    | exact h
    | (simp [AV.free,AV.free0] at hx; done)
    | (obtain ⟨us,hv,hc⟩:=h
       exact ⟨us,hv,ID (pH hc fun y hy=>y5.1 hx y hy)⟩)
theorem xT {av avb:Av}:∀ {cs:List AV} {us:List Value} {b off:Nat},aD av w cs us->(∀ (j:Nat) (u:Value),us[j]?=some u->w.cell? ⟨b,off + j,none⟩=some u/\¬ avb b (off + j))->gC av avb w cs b off
 | [],_,_,_,_,_=>by simp [gC]
 | x :: r,_,b,off,h,hj=>by
  simp only [aD] at h;obtain ⟨u,sa,rfl,h0,h1,h⟩:=h;simp only [gC];have h2:=hj 0 u rfl;refine ⟨⟨u,h2.1,h0,h1⟩,h2.2,xT h fun j v hv=>?_⟩;have:=hj (j + 1) v (by simpa using hv);rw [show off + 1 + j=off + (j + 1) from by omega];exact this
section
variable (R:MB P O nt B F0 da w0 D s a w ι Θ) {avl:Av}
include R avl
theorem MT {cl:Cl} {y x:AV} (hB:∀ b o,avl b o->RC ι Θ b o) (hsep:∀ t n b o,ι t n=some b->ι.ob t n=none->(∃ sz off len cap,y=.ref t n sz off len cap)->¬ avl b o) {v:Value} {ι':Ix} (hY:MA ι (EC da ι Θ) (RC ι Θ) w y v) (h:mS s cl y=some x) (nb:∀ t n,y=.ptr t n 0->ι' 0 0=ι t n):MA ι' (EC da ι Θ) avl w x v:=by
 unfold mS at h;split at h
 ·rename_i t n sz off len cap;split at h
  ·cases hm:s.mem t n with
   | none=>rw [hm] at h; cases h
   | some r =>
    rw [hm,V] at h;cases hr:sD r sz off len with
    | none=>rw [hr] at h; cases h
    | some m =>
     rw [hr] at h;cases h;obtain ⟨b,hb,sb,cc,rf,_,hv⟩:=qH.1 hY;obtain ⟨nc,b',cur,ty,ua,na,ka,_⟩:=R.rows t n r hm;rw [hb] at ua;injection ua with ua
     subst ua;obtain ⟨h1,h2,us,hl,pd⟩:=BK ka na hr;subst h1;exact ⟨_,cc,hv,yC sb rf,fun c hc c' df=>(h2 c hc).trans (h2 c' df).symm,fun _=>⟨b,off,rfl,CJ.2 (xT hl fun j u hj=>⟨pd j u hj,hsep t n b _ hb nc ⟨_,_,_,_,rfl⟩⟩)⟩⟩
  ·cases h
 ·cases h;obtain ⟨a',c,hv,hc,hu,hs⟩:=hY;refine ⟨a',c,hv,hc,hu,fun h0=>?_⟩;obtain ⟨b,off,ha,hr⟩:=hs h0;exact ⟨b,off,ha,NL.held (BA.refl _ _) (BA.less hB) _ _ _ hr⟩
 ·cases h;obtain ⟨b,off,hv,hc⟩:=hY;exact ⟨b,off,hv,gC.held (BA.refl _ _) (BA.less hB) _ _ _ hc⟩
 ·rename_i t n off;split at h
  ·rename_i hc;cases h;obtain ⟨h0,_,_⟩:=hc;subst h0;obtain ⟨b,hb,hv⟩:=zG.1 hY;exact ⟨b,(nb t n rfl).trans hb,hv⟩
  ·cases h
 ·split at h
  ·rename_i hf;cases h;exact s7 hY hf
  ·cases h
theorem lend_rep (cf:∀ b o,avl b o->∃ t n H,ι.ob t n=some H/\H b) {cl:Cl} {y x:AV} {v:Value} {ι':Ix} (hY:MA ι (EC da ι Θ) (RC ι Θ) w y v) (h:mS s cl y=some x) (nb:∀ t n,y=.ptr t n 0->ι' 0 0=ι t n):MA ι' (EC da ι Θ) avl w x v :=
 MT R (fun b o h=>.inl (.inr (cf b o h))) (fun t n b o hb nc _ h=>by
  obtain ⟨t',n',H,ho,hH⟩:=cf _ _ h;obtain ⟨e1,e2⟩:=((R.obs _ _ _ ho).1 _ hH).2.2.1 _ _ hb;rw [e1,e2,ho] at nc;cases nc) hY h nb
theorem lendP_rep (cf:∀ b o,avl b o->∃ t n H,ι.ob t n=some H/\H b) {cl:Cl} {y x:AV} {v:Value} {ι':Ix} (hY:kV ι (EC da ι Θ) (RC ι Θ) w y v) (h:gP s cl y=some x):kV ι' (EC da ι Θ) avl w x v:=by
 have hB:∀ b o,avl b o->RC ι Θ b o:=fun b o h=>.inl (.inr (cf b o h))
 unfold gP at h;split at h
 ·rename_i t n off;split at h
  ·split at h
   ·rename_i r hm;split at h
    ·rename_i ta;cases h;obtain ⟨b,hb,hv⟩:=hY;obtain ⟨nc,b',cur,ty,ua,na,ka,_⟩:=R.rows t n r hm;rw [hb] at ua;injection ua with ua
     subst ua;have fc:=tF off ka.rep;rw [<- List.map_drop] at fc;have le:∀ x∈(r.drop off).map (·.v),x.free0=true:=fun x hx=>by
      grind
     refine ⟨b,off,hv,xT (pH fc le) fun j u hu=>⟨?_,fun h=>?_⟩⟩
     ·rw [yR] at hu;have hj:off + j<r.length:=by
       grind
      rw [List.getElem?_take_of_lt hj] at hu;simp only [World.cell?,na];simp_all
     ·obtain ⟨t',n',H,ho,hH⟩:=cf _ _ h;obtain ⟨e1,e2⟩:=((R.obs _ _ _ ho).1 _ hH).2.2.1 _ _ hb;simp_all
    ·cases h
   ·cases h
  ·cases h
 ·cases h;obtain ⟨b,off,hv,hc⟩:=hY;exact ⟨b,off,hv,gC.held (BA.refl _ _) (BA.less hB) _ _ _ hc⟩
 ·cases h;exact hY
 ·cases h
end
theorem gR (R:MB P O nt B F0 da w0 D s a w ι Θ) {avl:Av} (cf:∀ b o,avl b o->∃ t n H,ι.ob t n=some H/\H b) {cl:Cl} {ι':Ix}:∀ {ys xs:List AV} {us:List Value},GG ι (EC da ι Θ) (RC ι Θ) w ys us->cD s cl ys=some xs->GG ι' (EC da ι Θ) avl w xs us
 | [],xs,us,hY,h=>by
  injection h with h;subst h;exact hY
 | y :: r,xs,us,hY,h=>by
  obtain ⟨u,sa,rfl,h0,hY⟩:=hY;unfold cD at h;split at h
  ·rename_i v vs hv hr;injection h with h;subst h;exact ⟨u,sa,rfl,lendP_rep R cf h0 hv,gR R cf hY hr⟩
  ·cases h
theorem lendF_rep (R:MB P O nt B F0 da w0 D s a w ι Θ) {avl:Av} (cf:∀ b o,avl b o->∃ t n H,ι.ob t n=some H/\H b) {cl:Cl} {y x:AV} {v:Value} {ι':Ix} (hY:MA ι (EC da ι Θ) (RC ι Θ) w y v) (h:PF s cl y=some x) (nb:∀ t n,y=.ptr t n 0->ι' 0 0=ι t n):MA ι' (EC da ι Θ) avl w x v:=by
 unfold PF at h;split at h
 ·rename_i f cs;obtain ⟨ws,hw,h⟩:=yf.1 h;subst h;obtain ⟨us,hv,hc⟩:=hY;exact ⟨us,hv,gR R cf hc hw⟩
 ·exact lend_rep R cf hY h nb
theorem fZ {ι':Ix} {av avl:Av}:∀ {xs:List AV} {us:List Value},(∀ x∈xs,x.capOk=true)->GG ι' av avl w xs us->CL ι' av avl w xs us
 | [],_,_,h=>h
 | x :: r,_,hc,h=>by
  obtain ⟨u,sa,rfl,h0,h⟩:=h;refine ⟨u,sa,rfl,?_,fZ (fun y hy=>hc y (yr _ hy)) h⟩;have:=hc x (yl);cases x <;> first | (simp [AV.capOk] at this; done) | exact h0
theorem FU {ι':Ix} {av avl:Av}:∀ {xs ys:List AV} {us vs:List Value},CL ι' av avl w xs us->CL ι' av avl w ys vs->CL ι' av avl w (xs++ys) (us++vs)
 | [],_,_,_,h,h'=>by cases h; exact h'
 | x :: r,_,_,_,h,h'=>by
  obtain ⟨u,sa,rfl,h0,h⟩:=h;exact ⟨u,sa++_,rfl,h0,FU h h'⟩
theorem NT {cl:Cl}:∀ {ys xs:List AV},cD s cl ys=some xs->∀ x∈xs,x.capOk=true
 | [],xs,h=>by injection h with h; subst h; intro x hx; cases hx
 | y :: r,xs,h=>by
  unfold cD at h;split at h
  ·rename_i v vs hv hr;injection h with h;subst h;intro x hx;rcases yh.1 hx with rfl | hx
   ·unfold gP at hv;split at hv
    ·split at hv
     ·split at hv
      ·split at hv
       ·injection hv with hv; subst hv; rfl
       ·cases hv
      ·cases hv
     ·cases hv
    ·injection hv with hv; subst hv; rfl
    ·injection hv with hv; subst hv; rfl
    ·cases hv
   ·exact NT hr x hx
  ·cases h
theorem ZK (R:MB P O nt B F0 da w0 D s a w ι Θ) {avl:Av} (cf:∀ b o,avl b o->∃ t n H,ι.ob t n=some H/\H b) {cl:Cl} {ι':Ix}:∀ {Xs:List Operand} {xs:List FB} {vs:List AV},MG Xs=some xs->jE s cl xs=some vs->(∀ x∈xs,∀ t n,x.get s=.ptr t n 0->ι' 0 0=ι t n)->CL ι' (EC da ι Θ) avl w vs (Xs.map a.eval)
 | [],xs,vs,h,hl,_=>by
  injection h with h;subst h;injection hl with hl;subst hl;rfl
 | X :: Xs,xs,vs,h,hl,nb=>by
  unfold MG at h;split at h
  ·rename_i x l hx hr;injection h with h;subst h;unfold jE at hl;split at hl
   ·rename_i v bv hv ze;injection hl with hl;subst hl;exact ⟨_,_,rfl,lendF_rep R cf (R.opd hx).1 hv (nb x (yl)),ZK R cf hr ze fun y hy=>nb y (yr _ hy)⟩
   ·cases hl
  ·cases h
theorem named_rep {p d n:Nat} {ι':Ix} {av avb:Av} {x:AV} {v:Value} (h:z9 p av w x v) (hp:ι' d n=some p) (hx:x.backN=true):MA ι' av avb w (x.named d n) v:=by
 have one:∀ {x:AV} {u:Value},bT p av w x u->NA ι' av w (if x.isObj then .ptr d n 0 else x) u:=fun {x u} h=>by
  unfold bT at h;split at h
  ·rename_i ho; rw [if_pos ho]; exact ⟨p,hp,h⟩
  ·rename_i ho; rw [if_neg ho]; exact FK h
 have oneU:∀ {x:AV} {u:Value},bT p av w x u->MO ι' av w (if x.isObj then .ptr d n 0 else x) u:=fun {x u} h=>by
  unfold bT at h;split at h
  ·rename_i ho; rw [if_pos ho]; exact ⟨p,hp,h⟩
  ·rename_i ho; rw [if_neg ho]; exact HG h
 have all:∀ {xs:List AV} {us:List Value},BL p av w xs us->UG ι' av w (xs.map fun v=>if v.isObj then .ptr d n 0 else v) us:=by
  intro xs
  induction xs with
  | nil=>intro us h; simpa [BL,UG] using h
  | cons x r ih =>
   intro us h;simp only [BL] at h;obtain ⟨u,sa,rfl,h0,h⟩:=h;exact ⟨u,sa,rfl,oneU h0,ih h⟩
 cases x with
 | tup vs =>
  obtain ⟨us,hv,hc⟩:=h;exact ⟨us,hv,all hc⟩
 | ptr t' n' off =>
  have h1:=one (x:=.ptr t' n' off) h;have h2:(AV.ptr t' n' off).isObj=true:=hx;simp only [h2,if_true] at h1;show MA ι' av avb w (if (AV.ptr t' n' off).isObj then .ptr d n 0 else .ptr t' n' off) v;rw [if_pos h2];exact h1
 | _=>simp [AV.backN,AV.isObj] at hx
theorem bT.held {p:Nat} {av gb:Av} {w w':World} (h:BA av gb w w') {x:AV} {v:Value} (hr:bT p av w x v):bT p gb w' x v:=by
 unfold bT at hr ⊢;split at hr
 ·rename_i ho; rw [if_pos ho]; exact hr
 ·rename_i ho; rw [if_neg ho]; exact oE.held h _ _ hr
theorem z9.held {p:Nat} {av gb:Av} {w w':World} (h:BA av gb w w') {x:AV} {v:Value} (hr:z9 p av w x v):z9 p gb w' x v:=by
 have all:∀ {xs:List AV} {us:List Value},BL p av w xs us->BL p gb w' xs us:=by
  intro xs
  induction xs with
  | nil=>intro us h; exact h
  | cons x r ih =>
   intro us h';simp only [BL] at h' ⊢;obtain ⟨u,sa,rfl,h0,h'⟩:=h';exact ⟨u,sa,rfl,bT.held h h0,ih h'⟩
 cases x <;> first | exact bT.held h hr | (obtain ⟨us,hv,hc⟩:=hr; exact ⟨us,hv,all hc⟩)
theorem MB.turnObj (R:MB P O nt B F0 da w0 D s a w ι Θ) {t n p:Nat} {H H':Nat->Prop} {S':AV} (hp:ι t n=some p) (nb:ι.ob t n=some H) (wc:O.at_ S' H' p w') (tj:G3 ι S' p w') (hH:∀ b,H' b->H b\/w.heap.size<=b) (hk:xD H w w') :
  ∃ ι':Ix,MB P O nt B F0 da w0 D (s.setObj t n S') a w' ι' Θ/\BA (fun b o=>EC da ι Θ b o\/H' b) (EC da ι' Θ) w' w':=by
 obtain ⟨nn,pt⟩:=R.obs t n H nb;have uh:∀ t' n' H1,(if t'=t/\n'=n then some H' else ι.ob t' n')=some H1->(t'=t/\n'=n/\H1=H')\/(¬ (t'=t/\n'=n)/\ι.ob t' n'=some H1):=fun t' n' H1 h=>by
  grind
 have oi:∀ b o,b<w.heap.size->RC ⟨ι.f,fun t' n'=>if t'=t/\n'=n then some H' else ι.ob t' n',ι.z⟩ Θ b o->RC ι Θ b o:=fun b o hb h=>h.imp (fun h=>h.imp id fun ⟨t',n',H1,h1,h2⟩=>by
  rcases uh _ _ _ h1 with ⟨e1,e2,e3⟩ | ⟨_,h1⟩
  ·subst e3;rcases hH b h2 with h3 | h3
   ·exact ⟨t,n,H,nb,h3⟩
   ·omega
  ·exact ⟨t',n',H1,h1,h2⟩) id
 have rg:∀ t1 n1 b1 H1,ι t1 n1=some b1->ι.ob t1 n1=some H1->(⟨ι.f,fun t' n'=>if t'=t/\n'=n then some H' else ι.ob t' n',ι.z⟩:Ix) t1 n1=some b1/\∃ H2,(⟨ι.f,fun t' n'=>if t'=t/\n'=n then some H' else ι.ob t' n',ι.z⟩:Ix).ob t1 n1=some H2:=fun t1 n1 b1 H1 g1 g2=>⟨g1,by
  by_cases e:t1=t/\n1=n
  ·exact ⟨H',by simp only [if_pos e]⟩
  ·exact ⟨H1,by simp only [if_neg e]; exact g2⟩⟩
 have rb:∀ b o u,w.cell? ⟨b,o,none⟩=some u->¬ H b->w'.cell? ⟨b,o,none⟩=some u:=fun b o u hc hn=>(World.cell?_of_block (w:=w) (a:=⟨b,o,none⟩) (hk.block b (cI hc) hn)).trans hc
 have hB:BA (RC ι Θ) (RC ⟨ι.f,fun t' n'=>if t'=t/\n'=n then some H' else ι.ob t' n',ι.z⟩ Θ) w w':=⟨fun b o u hc hn=>⟨rb b o u hc fun h=>hn (.inl (.inr ⟨t,n,H,nb,h⟩)),fun h=>hn (oi b o (cI hc) h)⟩⟩;have hA:BA (EC da ι Θ) (EC da ⟨ι.f,fun t' n'=>if t'=t/\n'=n then some H' else ι.ob t' n',ι.z⟩ Θ) w w':=⟨fun b o u hc hn=>⟨rb b o u hc fun h=>hn (.inr (.inl (.inr ⟨t,n,H,nb,h⟩))),fun h=>hn (h.imp id (oi b o (cI hc)))⟩⟩;have jr:=R.lowB;have ic:=hk.size;have henv:∀ t1,MA ⟨ι.f,fun t' n'=>if t'=t/\n'=n then some H' else ι.ob t' n',ι.z⟩ (EC da ⟨ι.f,fun t' n'=>if t'=t/\n'=n then some H' else ι.ob t' n',ι.z⟩ Θ) (RC ⟨ι.f,fun t' n'=>if t'=t/\n'=n then some H' else ι.ob t' n',ι.z⟩ Θ) w' (s.env t1).v (a.tmps.getD t1 undef):=fun t1=>MA.held (ι:=ι) (ι':=⟨ι.f,fun t' n'=>if t'=t/\n'=n then some H' else ι.ob t' n',ι.z⟩) ⟨fun _ _ _ h=>h,fun _ _ _ _=>rfl⟩ hA hB _ _ (R.env t1)
 have hgen:∀ t1,MA ⟨ι.f,fun t' n'=>if t'=t/\n'=n then some H' else ι.ob t' n',ι.z⟩ (EC da ⟨ι.f,fun t' n'=>if t'=t/\n'=n then some H' else ι.ob t' n',ι.z⟩ Θ) (RC ⟨ι.f,fun t' n'=>if t'=t/\n'=n then some H' else ι.ob t' n',ι.z⟩ Θ) w' (s.gh t1).v (F0.g t1):=fun t1=>MA.held (ι:=ι) (ι':=⟨ι.f,fun t' n'=>if t'=t/\n'=n then some H' else ι.ob t' n',ι.z⟩) ⟨fun _ _ _ h=>h,fun _ _ _ _=>rfl⟩ hA hB _ _ (R.gen t1)
 refine ⟨⟨ι.f,fun t' n'=>if t'=t/\n'=n then some H' else ι.ob t' n',ι.z⟩,⟨R.defers,R.size,henv,R.ann,fun t' n' r hr=>?_,fun t' n' b h=>?_,R.inj,fun k o h=>?_,R.tinj,R.apart,R.out,(fun p' h=>⟨(R.pin p' h).1,by
  rcases (R.pin p' h).2 with hr0 | ⟨H1,h1⟩
  ·exact .inl hr0
  refine .inr ?_;show ∃ H2,(if 0=t/\0=n then some H' else ι.ob 0 0)=some H2;split
  ·exact ⟨_,rfl⟩
  ·exact ⟨H1,h1⟩⟩),?_,R.base,fun t' n' S1 h=>?_,fun t' n' H1 h=>?_,hgen,R.gann⟩,?_⟩
 ·obtain ⟨h0,b,cur,ty,h1,h2,h3,h8⟩:=R.rows t' n' r hr;have oa:¬ (t'=t/\n'=n):=fun e=>by rw [e.1,e.2,nb] at h0; cases h0
  have hbn:¬ H b:=fun hb=>oa ((nn b hb).2.2.1 t' n' h1)
  exact ⟨by simp only [if_neg oa]; exact h0,b,cur,ty,h1,(hk.block b (OA h2) hbn).trans h2,h3.held ⟨fun _ _ _ h=>h,fun _ _ _ _=>rfl⟩ hA (fun _ _ h=>h),h8⟩
 ·obtain ⟨h1,h2,h3⟩:=R.mine t' n' b h;exact ⟨h1,by omega,h3⟩
 ·obtain ⟨h1,h2,h3,h4,lb,h5,h6⟩:=R.tok k o h;exact ⟨h1,h2,h3,h4,lb,(hk.block _ (OA h5) (R.apob h nb)).trans h5,h6⟩
 ·refine R.kept.trans hk fun i hi h=>?_
  have:=R.base
  grind
 ·simp only [pA.setObj] at h;split at h
  ·rename_i e;injection h with h;subst h;exact ⟨p,H',by rw [e.1,e.2]; exact hp,by simp only [if_pos e],wc,tj.keep rg fun x hx=>hx⟩
  ·rename_i e;obtain ⟨p1,H1,h1,h2,h3,h4⟩:=R.objs t' n' S1 h;have so:∀ b,H1 b->¬ H b:=fun b hb ua=>e ((nn b ua).2.2.2.2 t' n' H1 h2 hb)
   exact ⟨p1,H1,h1,by simp only [if_neg e]; exact h2,O.keep h3 (fun b hb=>hk.block b (O.lt h3 hb) (so b hb)) ic,h4.keep rg fun x hx=>(hk.block _ (OA hx) (so _ (O.main h3))).trans hx⟩
 ·rcases uh _ _ _ h with ⟨e1,e2,e3⟩ | ⟨e,h⟩
  ·subst e1; subst e2; subst e3;refine ⟨fun b hb=>?_,pt⟩;rcases hH b hb with h1 | h1
   ·grind
   ·refine ⟨.inl (by omega),O.lt wc hb,fun t1 n1 h2=>?_,fun k o h2 e=>?_,fun t1 n1 H2 h2 h3=>?_⟩
    ·have:=(R.mine _ _ _ h2).2.1; omega
    ·obtain ⟨_,_,_,_,lb,h5,_⟩:=R.tok k o h2; have:=OA h5; omega
    ·rcases uh _ _ _ h2 with ⟨e1,e2,_⟩ | ⟨_,h2⟩
     ·omega
     ·have:=((R.obs _ _ _ h2).1 b h3).2.1; omega
  ·obtain ⟨h1,h2⟩:=R.obs t' n' H1 h;refine ⟨fun b hb=>?_,h2⟩;obtain ⟨g1,g2,g3,g4,g5⟩:=h1 b hb;refine ⟨g1,by omega,g3,g4,fun t1 n1 H2 h2 h3=>?_⟩;rcases uh _ _ _ h2 with ⟨e1,e2,e3⟩ | ⟨_,h2⟩
   ·subst e3;rcases hH b h3 with h4 | h4
    ·have:=g5 t n H nb h4;omega
    ·omega
   ·exact g5 t1 n1 H2 h2 h3
 ·refine BA.less fun b o h=>?_
  rcases h with h | h | h
  ·exact .inl (.inl h)
  ·rcases h with h | ⟨t1,n1,H2,h2,h3⟩
   ·exact .inl (.inr (.inl (.inl h)))
   ·rcases uh _ _ _ h2 with ⟨_,_,e3⟩ | ⟨_,h2⟩
    ·grind
    ·exact .inl (.inr (.inl (.inr ⟨t1,n1,H2,h2,h3⟩)))
  ·exact .inl (.inr (.inr h))
theorem MB.newObj (R:MB P O nt B F0 da w0 D s a w ι Θ) {d p:Nat} {H:Nat->Prop} {S:AV} (hb:Below w.heap.size w w') (hD:¬ D d) (wc:O.at_ S H p w') (tj:G3 ι S p w') (hH:∀ b,H b->w.heap.size<=b) :
  ∃ ι':Ix,MB P O nt B F0 da w0 (fun t=>D t\/t=d) (s.setObj d s.next S) a w' ι' Θ/\ι' d s.next=some p/\BA (fun b o=>EC da ι Θ b o\/H b) (EC da ι' Θ) w' w':=by
 have jr:=R.lowB;have ic:=hb.size;have hpH:=hH p (O.main wc);have wd:ι d s.next=none:=by
  cases h:ι d s.next with
  | none=>rfl
  | some b =>
   rcases (R.mine _ _ _ h).2.2 with h1 | h1
   ·omega
   ·simp_all
 have zd:ι.ob d s.next=none:=by
  cases h:ι.ob d s.next with
  | none=>rfl
  | some b =>
   rcases (R.obs _ _ _ h).2 with h1 | h1
   ·omega
   ·simp_all
 have hmemn:s.mem d s.next=none:=by
  cases h:s.mem d s.next with
  | none=>rfl
  | some r=>obtain ⟨_,b,cur,ty,h1,_⟩:=R.rows _ _ _ h; rw [wd] at h1; cases h1
 obtain ⟨ι',hι'⟩:∃ ι':Ix,ι'=⟨fun t' n'=>if t'=d/\n'=s.next then some p else ι t' n',fun t' n'=>if t'=d/\n'=s.next then some H else ι.ob t' n',ι.z⟩:=⟨_,rfl⟩;have hf:∀ t' n' b,ι' t' n'=some b->(t'=d/\n'=s.next/\b=p)\/(¬ (t'=d/\n'=s.next)/\ι t' n'=some b):=fun t' n' b h=>by
  subst hι'
  grind
 have ho:∀ t' n' H1,ι'.ob t' n'=some H1->(t'=d/\n'=s.next/\H1=H)\/(¬ (t'=d/\n'=s.next)/\ι.ob t' n'=some H1):=fun t' n' H1 h=>by
  subst hι'
  grind
 have tc:∀ t n b,ι t n=some b->ι' t n=some b:=fun t n b h=>by
  subst hι'
  grind
 have xo:∀ t n H1,¬ (t=d/\n=s.next)->ι.ob t n=H1->ι'.ob t n=H1:=fun t n H1 e h=>by
  simp_all
 have wb:ι' d s.next=some p:=by
  simp_all
 have kt:ι'.ob d s.next=some H:=by subst hι'; simp
 have rg:∀ t1 n1 b1 H1,ι t1 n1=some b1->ι.ob t1 n1=some H1->ι' t1 n1=some b1/\∃ H2,ι'.ob t1 n1=some H2:=fun t1 n1 b1 H1 g1 g2=>⟨tc _ _ _ g1,H1,xo _ _ _ (fun e=>by rw [e.1,e.2,zd] at g2; cases g2) g2⟩
 have dv:∀ b,ι'.z b=ι.z b:=fun b=>by subst hι'; rfl
 have sb:Ix.Le ι ι':=⟨tc,fun _ _ _ _=>dv _⟩;clear hι';have oi:∀ b o,b<w.heap.size->RC ι' Θ b o->RC ι Θ b o:=fun b o fk h=>h.imp (fun h=>by
  rcases h with ⟨t',n',h⟩ | ⟨t',n',H1,h,h2⟩
  ·rcases hf _ _ _ h with ⟨_,_,e⟩ | ⟨_,h⟩
   ·omega
   ·exact .inl ⟨t',n',h⟩
  ·rcases ho _ _ _ h with ⟨_,_,e⟩ | ⟨_,h⟩
   ·subst e; have:=hH b h2; omega
   ·exact .inr ⟨t',n',H1,h,h2⟩) id
 have hB:BA (RC ι Θ) (RC ι' Θ) w w':=BA.grown (fun b ua=>hb.block b ua) oi;have hA:BA (EC da ι Θ) (EC da ι' Θ) w w':=BA.grown (fun b ua=>hb.block b ua) fun b o fk h=>h.imp id (oi b o fk)
 refine ⟨ι',⟨R.defers,R.size,fun t=>MA.held sb hA hB _ _ (R.env t),R.ann,fun t' n' r hr=>?_,fun t' n' b h=>?_,fun t n t' n' b h h'=>?_,fun k o h=>?_,R.tinj,fun k o t n h h'=>?_,R.out,fun p h=>⟨tc _ _ _ (R.pin p h).1,by
  rcases (R.pin p h).2 with hr0 | ⟨H1,h1⟩
  ·exact .inl ⟨hr0.1,(sb.z _ _ _ (R.pin p h).1).trans hr0.2⟩
  refine .inr ?_;by_cases e:0=d/\0=s.next
  ·exact ⟨H,by rw [<- e.1,<- e.2] at kt; exact kt⟩
  ·exact ⟨H1,xo _ _ _ e h1⟩⟩,R.kept.trans_below hb,R.base,fun t' n' S1 h=>?_,fun t' n' H1 h=>?_,fun t=>MA.held sb hA hB _ _ (R.gen t),R.gann⟩,wb,?_⟩
 ·obtain ⟨h0,b,cur,ty,h1,h2,h3,h8,h9⟩:=R.rows t' n' r hr;have oa:¬ (t'=d/\n'=s.next):=fun e=>by
   simp_all
  exact ⟨xo _ _ _ oa h0,b,cur,ty,tc _ _ _ h1,(hb.block b (OA h2)).trans h2,h3.held sb hA (fun _ _ h=>h),h8,h9.trans (dv _).symm⟩
 ·rcases hf _ _ _ h with ⟨e1,e2,e⟩ | ⟨_,h⟩
  ·subst e;exact ⟨.inl (by omega),O.lt wc (O.main wc),.inr ⟨e2,.inr e1⟩⟩
  ·obtain ⟨h1,h2,h3⟩:=R.mine t' n' b h;exact ⟨h1,by omega,h3.imp id fun ⟨e,d⟩=>⟨e,.inl d⟩⟩
 ·rcases hf _ _ _ h with ⟨e1,e2,e⟩ | ⟨_,h⟩ <;> rcases hf _ _ _ h' with ⟨g1,g2,g⟩ | ⟨_,h'⟩
  ·omega
  ·have:=(R.mine _ _ _ h').2.1; omega
  ·have:=(R.mine _ _ _ h).2.1; omega
  ·exact R.inj t n t' n' b h h'
 ·obtain ⟨h1,h2,h3,h4,lb,h5,h6⟩:=R.tok k o h;exact ⟨h1,h2,h3,h4,lb,(hb.block _ (OA h5)).trans h5,h6⟩
 ·obtain ⟨_,_,_,_,lb,h5,_⟩:=R.tok k o h;have fa:=OA h5;rcases hf _ _ _ h' with ⟨_,_,e⟩ | ⟨_,h'⟩
  ·omega
  ·exact R.apart k o t n h h'
 ·simp only [pA.setObj] at h;split at h
  ·rename_i e;injection h with h;subst h;exact ⟨p,H,by rw [e.1,e.2]; exact wb,by rw [e.1,e.2]; exact kt,wc,tj.keep rg fun x hx=>hx⟩
  ·rename_i e;obtain ⟨p1,H1,h1,h2,h3,h4⟩:=R.objs t' n' S1 h;exact ⟨p1,H1,tc _ _ _ h1,xo _ _ _ e h2,O.keep h3 (fun b ua=>hb.block b (O.lt h3 ua)) ic,h4.keep rg fun x hx=>(hb.block _ (OA hx)).trans hx⟩
 ·rcases ho _ _ _ h with ⟨e1,e2,e⟩ | ⟨_,h⟩
  ·subst e;refine ⟨fun b ua=>⟨.inl (by have:=hH b ua; omega),O.lt wc ua,fun t1 n1 h2=>?_,fun k o h2 e=>?_,fun t1 n1 H2 h2 h3=>?_⟩,.inr ⟨e2,.inr e1⟩⟩
   ·have:=hH b ua;rcases hf _ _ _ h2 with ⟨g1,g2,_⟩ | ⟨_,h2⟩
    ·omega
    ·have:=(R.mine _ _ _ h2).2.1; omega
   ·have:=hH b ua;obtain ⟨_,_,_,_,lb,h5,_⟩:=R.tok k o h2; have:=OA h5; omega
   ·have:=hH b ua;rcases ho _ _ _ h2 with ⟨g1,g2,_⟩ | ⟨_,h2⟩
    ·omega
    ·have:=((R.obs _ _ _ h2).1 b h3).2.1; omega
  ·obtain ⟨h1,h2⟩:=R.obs t' n' H1 h;refine ⟨fun b ua=>?_,h2.imp id fun ⟨e,d⟩=>⟨e,.inl d⟩⟩;obtain ⟨g1,g2,g3,g4,g5⟩:=h1 b ua;refine ⟨g1,by omega,fun t1 n1 h2=>?_,g4,fun t1 n1 H2 h2 h3=>?_⟩
   ·grind
   ·grind
 ·refine BA.less fun b o h=>?_
  rcases h with h | h | h
  ·exact .inl (.inl h)
  ·rcases h with ⟨t',n',h⟩ | ⟨t',n',H1,h,h2⟩
   ·rcases hf _ _ _ h with ⟨_,_,e⟩ | ⟨_,h⟩
    ·subst e; exact .inr (O.main wc)
    ·exact .inl (.inr (.inl (.inl ⟨t',n',h⟩)))
   ·rcases ho _ _ _ h with ⟨_,_,e⟩ | ⟨_,h⟩
    ·simp_all
    ·exact .inl (.inr (.inl (.inr ⟨t',n',H1,h,h2⟩)))
  ·exact .inl (.inr (.inr h))
theorem MP {s:pA} {cl:Cl}:∀ {xs:List FB} {vs:List AV},jE s cl xs=some vs->UI vs=false
 | [],vs,h=>by injection h with h; subst h; rfl
 | x :: r,vs,h=>by
  unfold jE at h;split at h
  ·rename_i v us hv hr;injection h with h;subst h;cases v with
   | undef =>
    exfalso;unfold PF at hv;split at hv
    ·obtain ⟨_,_,hv⟩:=yf.1 hv; cases hv
    unfold mS at hv;split at hv
    ·split at hv
     ·obtain ⟨_,_,hv⟩:=yf.1 hv; cases hv
     ·cases hv
    ·injection hv with hv; cases hv
    ·injection hv with hv; cases hv
    ·split at hv
     ·injection hv with hv; cases hv
     ·cases hv
    ·split at hv
     ·rename_i hf; injection hv with hv; rw [hv] at hf; cases hf
     ·cases hv
   | _=>rfl
  ·cases h
section
variable (R:MB P O nt B F0 da w0 D s a w ι Θ) {call:aB} (wa:∀ f args S r,call f args S=some r->rD P O f args S r)
include R call wa
theorem op_call {f:FuncId} {Xs:Array Operand} {ts:Array TypeId} {xs:List FB} (hx:MG Xs.toList=some xs) (ho:o.op=.call { callee:=.value (.func f),args:=Xs,argTypes:=ts }) (hd:∀ d,o.dst=some d->d<nt) (hD:∀ d,o.dst=some d->¬ D d) {cl:Cl} {xe:qA × tD} (hr:(K.call cl f xs).run call s=some xe) {g} {s':pA} (he:EA.eff ⟨o.dst,.call cl f xs,g⟩ s xe=some s')
  {Kn:Act->World->Prop} {Q:Exit->Act->World->Prop} (hK:∀ a' w',QD P O nt B F0 da w0 (fun t=>D t\/o.dst=some t) s' a' w'->Kn a' w'):o.wp P a w Kn Q:=by
 simp only [K.run] at hr;obtain ⟨vs,hl,hr⟩:=y7.1 hr;have ld:(Xs.toList.map a.eval).toArray=Xs.map a.eval:=by rw [<- Array.toList_map,yX]
 have run:∀ {S0:Option AV} {r:RV},A1 P O f vs S0 r->(execOp a.eval o).run P w=.ok (.enter f (Xs.map a.eval)) w:=fun h=>by
  simp only [execOp,ho,resolve,Act.eval,Deferred.ofValue,Sem.run_bind,Sem.run_pure,Result.andThen_ok,invoke];have:=h.1 (#[]++Xs.map a.eval++#[]) w;simp_all
 have oe:∀ b o,EC da ι Θ b o->b<w.heap.size:=fun b o h=>R.low h
 split at hr
 ·rename_i ji;have nob:∀ x∈xs,∀ t n,x.get s=.ptr t n 0->False:=fun x hx t n h=>by
   have:(t,n)∈bJ s xs:=List.mem_filterMap.2 ⟨x,hx,by rw [h]⟩;simp_all
  have oc:=ZK (ι':=Ix.none) (avl:=fun _ _=>False) R (fun _ _ h=>h.elim) hx hl fun x hx t n h=>(nob x hx t n h).elim
  obtain ⟨r,hc,hr⟩:=y7.1 hr;have la:=(rD.of (MP hl)).1 (wa f vs none r hc);obtain ⟨r1,r2⟩:=r;unfold Oper.wp;rw [run la,Oper.upon_enter];cases r2 with
  | none =>
   simp only at hr;split at hr
   ·cases hr;simp only [EA.eff] at he;cases he;have hC:=la.2 (EC da ι Θ) w _ oe oc;rw [ld] at hC;refine hC.mono ?_;rintro e w' ⟨v,rfl,hv,hb⟩;have R':MB P O nt B F0 da w0 D s a w' ι Θ:=R.grow (fun b ua=>hb.block b ua) hb.size (R.kept.trans_below hb);exact hK _ _ ⟨ι,Θ,(R'.putN (x:=⟨_,.no⟩) hd (pN hv) trivial).more fun _ h=>.inl h⟩
   ·cases hr
  | some S' =>
   simp only at hr;split at hr
   ·rename_i jo;cases hr;simp only [EA.eff] at he;split at he
    ·cases he
    ·rename_i d ba;cases he;have hC:=la.2 (EC da ι Θ) w _ oe oc;rw [ld] at hC;refine hC.mono ?_;rintro e w' ⟨v,p,H',rfl,hv,wc,hH,hb⟩;obtain ⟨ι',R2,hι,sd⟩:=R.newObj (d:=d) hb (hD d ba) wc (G3.no jo.2.2) hH;rw [ba];refine hK _ _ ⟨ι',Θ,(R2.put (x:=⟨_,.no⟩) (hd d ba) (named_rep (z9.held sd hv) hι jo.1) trivial).more fun t h=>h.imp id fun e=>by rw [ba,e]⟩
   ·cases hr
 ·rename_i t n sj;obtain ⟨r,hc,hr⟩:=y7.1 hr;obtain ⟨r1,r2⟩:=r;cases r2 with
  | none=>cases hr
  | some S' =>
   simp only at hr;split at hr
   ·rename_i aa;cases hr;simp only [EA.eff] at he;cases he;obtain ⟨S,hS⟩:=Option.isSome_iff_exists.1 aa.2.1;rw [hS] at hc;have la:=(rD.of (MP hl)).1 (wa f vs (some S) _ hc);obtain ⟨p,H,hp,nb,wc,_⟩:=R.objs t n S hS;have oc:=ZK (ι':=Ix.one p) (avl:=fun b _=>H b) R (fun b _ h=>⟨t,n,H,nb,h⟩) hx hl fun x hx t' n' h=>by
     have:(t',n')∈bJ s xs:=List.mem_filterMap.2 ⟨x,hx,by rw [h]⟩;rw [sj] at this;have:=yO.1 this;injection this with e1 e2;rw [e1,e2,hp];rfl
    unfold Oper.wp;rw [run la,Oper.upon_enter];have hC:=la.2 (EC da ι Θ) w _ p H oe (fun b o h=>.inr (.inl (.inr ⟨t,n,H,nb,h⟩))) wc oc;rw [ld] at hC;refine hC.mono ?_;rintro e w' ⟨v,H',rfl,hv,ai,hH,hk⟩;obtain ⟨ι',R',sd⟩:=R.turnObj hp nb ai (G3.no aa.2.2) hH hk;refine hK _ _ ⟨ι',Θ,(R'.putN (x:=⟨_,.no⟩) hd (pN (oE.held sd _ _ hv)) trivial).more fun _ h=>.inl h⟩
   ·cases hr
 ·cases hr
theorem op_callv {tf:Nat} {Xs:Array Operand} {ts:Array TypeId} {xs:List FB} (hx:MG Xs.toList=some xs) (ho:o.op=.call { callee:=.value (.tmp tf),args:=Xs,argTypes:=ts }) (hd:∀ d,o.dst=some d->d<nt) {cl:Cl} {xe:qA × tD} (hr:(K.callv cl (.t tf) xs).run call s=some xe) {g} {s':pA} (he:EA.eff ⟨o.dst,.callv cl (.t tf) xs,g⟩ s xe=some s')
  {Kn:Act->World->Prop} {Q:Exit->Act->World->Prop} (hK:∀ a' w',QD P O nt B F0 da w0 (fun t=>D t\/o.dst=some t) s' a' w'->Kn a' w'):o.wp P a w Kn Q:=by
 simp only [K.run,FB.get] at hr;have hF:=R.env tf;split at hr
 ·rename_i f cs sq;rw [sq] at hF;obtain ⟨us,bd,kj⟩:=hF;split at hr
  ·rename_i vs ws hl hw ji;have oe:∀ b o,EC da ι Θ b o->b<w.heap.size:=fun b o h=>R.low h
   have nob:∀ x∈xs,∀ t n,x.get s=.ptr t n 0->False:=fun x hx t n h=>by
    have:(t,n)∈bJ s xs:=List.mem_filterMap.2 ⟨x,hx,by rw [h]⟩;simp_all
   have oc:=ZK (ι':=Ix.none) (avl:=fun _ _=>False) R (fun _ _ h=>h.elim) hx hl fun x hx t n h=>(nob x hx t n h).elim
   have hcaps:=fZ (NT hw) (gR (ι':=Ix.none) (avl:=fun _ _=>False) R (fun _ _ h=>h.elim) kj hw);have ta:=FU oc hcaps;obtain ⟨r,hc,hr⟩:=y7.1 hr;have hm:UI (vs++ws)=false:=by
    cases vs with
    | cons v r=>have:=MP hl; cases v <;> first | rfl | exact this
    | nil =>
     cases ws with
     | nil=>rfl
     | cons v r =>
      have:=NT hw v (yl);cases v <;> first | rfl | (simp [AV.capOk] at this; done)
   have la:=(rD.of hm).1 (wa f (vs++ws) none r hc);obtain ⟨r1,r2⟩:=r;cases r2 with
   | some S'=>cases hr
   | none =>
    simp only at hr;split at hr
    ·cases hr;simp only [EA.eff] at he;cases he;have ld:(Xs.toList.map a.eval++us.toList).toArray=Xs.map a.eval++us:=by
      simp_all
     have run:(execOp a.eval o).run P w=.ok (.enter f (Xs.map a.eval++us)) w:=by
      have hev:a.eval (.tmp tf)=.func (.func f) #[] us:=bd;simp only [execOp,ho,resolve,hev,Deferred.ofValue,Sem.run_bind,Sem.run_pure,Result.andThen_ok,invoke];have:=la.1 (#[]++Xs.map a.eval++us) w;simp_all
     unfold Oper.wp;rw [run,Oper.upon_enter];have hC:=la.2 (EC da ι Θ) w _ oe ta;rw [ld] at hC;refine hC.mono ?_;rintro e w' ⟨v,rfl,hv,hb⟩;have R':MB P O nt B F0 da w0 D s a w' ι Θ:=R.grow (fun b ua=>hb.block b ua) hb.size (R.kept.trans_below hb);exact hK _ _ ⟨ι,Θ,(R'.putN (x:=⟨_,.no⟩) hd (pN hv) trivial).more fun _ h=>.inl h⟩
    ·cases hr
  ·cases hr
 ·cases hr
end
theorem val_rstr (R:MB P O nt B F0 da w0 D s a w ι Θ) {t t':TypeId} {k:IntKind} (ht:P.underlying t=some (.int k)) (ht':P.underlying t'=some .string) {X:Operand} {x:FB} (hx:opd X=some x) (ho:o.op=.convert t t' X)
  {call} {y:qA} {e:tD} (hr:(K.rstr x).run call s=some (y,e)):e=.none/\KR P da a w ι Θ o y:=by
 have hX:=(R.opd hx).1;simp only [K.run] at hr;split at hr
 ·rename_i k' n hy;injection hr with hr; injection hr with h1 h2; subst h1; subst h2;rw [hy,jB] at hX;exact ⟨rfl,.string (Utf8.encode n),by simp [execOp,ho,convert,run_underlying ht,run_underlying ht',hX,Conv.intToString],by rw [wH],trivial⟩
 ·cases hr
theorem CR {av:Av}:∀ {m:List (List AV)} {bs:List UInt8} {us:List Value},bytesOf m=some bs->aD av w m.flatten us->∃ ns:List Int,us=ns.map (Value.int .u8)/\bs=ns.map (fun n=>UInt8.ofNat n.toNat)/\∀ c∈m,c.length=1
 | [],bs,us,hb,h=>by
  injection hb with hb;subst hb;cases h;exact ⟨[],rfl,rfl,by simp⟩
 | c :: r,bs,us,hb,h=>by
  unfold bytesOf at hb;split at hb
  ·rename_i n l hr;injection hb with hb;subst hb;simp only [yF,List.cons_append,List.nil_append,aD] at h;obtain ⟨u,sa,rfl,h0,_,h⟩:=h;obtain ⟨ns,e1,e2,e3⟩:=CR hr h;refine ⟨n :: ns,?_,by rw [e2]; rfl,?_⟩
   ·simp only [oE] at h0;rw [h0,e1]; rfl
   ·intro c hc;rcases yh.1 hc with rfl | hc
    ·rfl
    ·exact e3 c hc
  ·cases hb
theorem G0:∀ (ns:List Int) (acc:ByteArray),ns.foldl (fun r n=>r.push (UInt8.ofNat n.toNat)) acc=⟨acc.data++(ns.map fun n=>UInt8.ofNat n.toNat).toArray⟩
 | [],acc=>by simp
 | n :: r,acc=>by
  rw [List.foldl_cons,G0 r];congr 1;apply Array.ext';simp [ByteArray.push]
theorem val_bstr (R:MB P O nt B F0 da w0 D s a w ι Θ) {t t' e':TypeId} (ht:P.underlying t=some (.slice e')) (wg:P.underlying e'=some (.int .u8)) (ht':P.underlying t'=some .string) {X:Operand} {x:FB} (hx:opd X=some x) (ho:o.op=.convert t t' X)
  {call} {cl:Cl} {y:qA} {e:tD} (hr:(K.bstr cl x).run call s=some (y,e)):e=.none/\KR P da a w ι Θ o y:=by
 have hX:=(R.opd hx).1;simp only [K.run] at hr;split at hr
 ·rename_i m hm;obtain ⟨bs,tv,hr⟩:=yf.1 hr;injection hr with h1 h2; subst h1; subst h2;have hlen1:∀ c∈m,c.length=1:=by
   clear hX hm hr
   induction m generalizing bs with
   | nil=>simp
   | cons c r ih =>
    unfold bytesOf at tv
    grind
  obtain ⟨us,fc,hl,A,c,hv,hc,rb⟩:=tM R hX hm (sz:=1) (by omega) hlen1;obtain ⟨ns,e1,e2,_⟩:=CR tv fc;refine ⟨rfl,.string ⟨bs.toArray⟩,?_,by rw [wH],trivial⟩;have hns:ns.length=m.length:=by rw [e1] at hl; simpa using hl
  simp only [execOp,ho,hv,Sem.run_bind];rw [run_convert_bytes_string w t t' e' A m.length c ht wg ht'];cases A with
  | none =>
   rcases yK m.length with h0 | h0
   ·have:ns=[]:=yS (by omega);subst this;subst e2;simp [Conv.bytesToString];rfl
   ·simp_all
  | some a' =>
   have bn:(loadCells a' m.length).run P w=.ok (ns.map (Value.int .u8)).toArray w:=by
    have:=run_loadCells_list (P:=P) w a' (ns.map (Value.int .u8)) (fun j v hj=>by
     have nh:j<m.length:=by
      grind
     obtain ⟨b,off,hA,_,_,ad⟩:=rb (by omega);cases hA;rw [Addr.add_lit];rw [<- e1] at hj;exact ad j v hj)
    simp_all
   rw [run_bytesToString w a' m.length c ns bn,G0];simp_all
 ·cases hr
theorem iZ {t e:TypeId} {z n:Nat} (ht:P.underlying t=some (.array n e)) (hz:wC P e=some z) {b off:Nat} {L H:Option Operand} {l h:Nat} (hl:AW a 0 L (L.map a.eval,l)) (hh:AW a n H (H.map a.eval,h)) (h1:l<=h) (h2:h<=n) :
  (Instr.sliceAt t (.pointer (some ⟨b,off,none⟩)) (L.map a.eval) (H.map a.eval) none).run P w=.ok (.slice (some (if n=l then ⟨b,off,none⟩ else ⟨b,off + l * z,none⟩)) (h - l) (n - l)) w:=by
 cases L with
 | none =>
  obtain ⟨_,rfl⟩:=hl;cases H with
  | none =>
   obtain ⟨_,rfl⟩:=hh;simp [Instr.sliceAt,Instr.sureAddr,Instr.sliceBounds,run_underlying ht,kC hz,Addr.add_lit]
  | some x =>
   obtain ⟨_,k,i,hx,h0,rfl⟩:=hh;have:0<=i/\i<=(n:Int):=⟨h0,by omega⟩;simp [Instr.sliceAt,Instr.sureAddr,Instr.sliceBounds,Instr.sliceBound,run_underlying ht,kC hz,hx,asIntOf,this,Addr.add_lit]
 | some y =>
  obtain ⟨_,k',i',hy,nf,rfl⟩:=hl;cases H with
  | none =>
   obtain ⟨_,rfl⟩:=hh;have:0<=i'/\i'<=(h:Int):=⟨nf,by omega⟩;simp [Instr.sliceAt,Instr.sureAddr,Instr.sliceBounds,Instr.sliceBound,run_underlying ht,kC hz,hy,asIntOf,this,Addr.add_lit]
  | some x =>
   obtain ⟨_,k,i,hx,h0,rfl⟩:=hh;have h3:0<=i/\i<=(n:Int):=⟨h0,by omega⟩;have h4:0<=i'/\i'<=i:=⟨nf,by omega⟩;have h5:((i.toNat:Nat):Int)=i:=by omega
   simp [Instr.sliceAt,Instr.sureAddr,Instr.sliceBounds,Instr.sliceBound,run_underlying ht,kC hz,hy,hx,asIntOf,h3,h4,h5,Addr.add_lit]
section
variable (R:MB P O nt B F0 da w0 D s a w ι Θ)
include R
theorem val_aslc {t e':TypeId} {n z:Nat} (ht:P.underlying t=some (.array n e')) (hz:wC P e'=some z) {X:Operand} {L H:Option Operand} {x:FB} {l h:Option FB} (hx:opd X=some x) (hl:LV L=some l) (hh:LV H=some h)
  (ho:o.op=.slice t X L H none) {call} {cl:Cl} {y:qA} {e:tD} (hr:(K.aslc cl n z x l h).run call s=some (y,e)):e=.none/\KR P da a w ι Θ o y:=by
 have hX:=(R.opd hx).1;simp only [K.run] at hr;split at hr
 ·rename_i t' n' off hy;split at hr
  ·rename_i lo hi r hlo tr hm;have hL:=gK R hl hlo;have hH:=gK R hh tr;rw [hy,zG] at hX;obtain ⟨b,hb,hv⟩:=hX;obtain ⟨_,b',cur,ty,ua,na,ka,_,tp⟩:=R.rows t' n' r hm;rw [hb] at ua;injection ua with ua;subst ua;split at hr
   ·rename_i aa;obtain ⟨h1,h2,ec,h3,_⟩:=aa;have ca:=iZ (w:=w) (b:=b) (off:=off) ht hz hL hH h1 h2;split at hr
    ·rename_i heq;injection hr with hr; injection hr with e1 e2; subst e1; subst e2;refine ⟨rfl,.slice (some (if n=lo then ⟨b,off,none⟩ else ⟨b,off + lo * z,none⟩)) (hi - lo) (n - lo),by simp only [execOp,ho,hv,Option.map_none,Sem.run_bind,ca,Result.andThen_ok,Sem.run_pure],?_,trivial⟩;simp only [mD,oE];refine ⟨some (if n=lo then ⟨b,off,none⟩ else ⟨b,off + lo * z,none⟩),n - lo,by rw [heq]; simp,by simp,by simp,by simp,fun _=>⟨by simp,by simp⟩⟩
    ·rename_i oa;injection hr with hr; injection hr with e1 e2; subst e1; subst e2;refine ⟨rfl,.slice (some (if n=lo then ⟨b,off,none⟩ else ⟨b,off + lo * z,none⟩)) (hi - lo) (n - lo),by simp only [execOp,ho,hv,Option.map_none,Sem.run_bind,ca,Result.andThen_ok,Sem.run_pure],?_,trivial⟩;rw [qH];refine ⟨b,hb,by omega,n - lo,yn _,?_,by rw [if_neg (by omega)]⟩;have:(n - lo) * z + lo * z=n * z:=by rw [<- Nat.add_mul]; congr 1; omega
     have:=ka.1;omega
   ·cases hr
  ·cases hr
 ·cases hr
theorem val_mkf {f:FuncId} {fs Xs:Array Operand} (hfs:fs.size=0) {xs:List FB} (hx:MG Xs.toList=some xs) (ho:o.op=.makeFunc (.func f) fs Xs)
  {call} {y:qA} {e:tD} (hr:(K.mkf f xs).run call s=some (y,e)):e=.none/\KR P da a w ι Θ o y:=by
 simp only [K.run] at hr;split at hr
 ·rename_i ta;injection hr with hr; injection hr with e1 e2; subst e1; subst e2;have key:∀ {Xs:List Operand} {xs:List FB},MG Xs=some xs->xs.all (fun x=>(x.get s).capOk)=true->GG ι (EC da ι Θ) (RC ι Θ) w (xs.map (·.get s)) (Xs.map a.eval):=by
   intro Xs
   induction Xs with
   | nil=>intro xs h _; injection h with h; subst h; rfl
   | cons X r ih =>
    intro xs h hc;unfold MG at h;split at h
    ·rename_i x l h1 h2;cases h;simp only [List.all_cons,y8] at hc;refine ⟨_,_,rfl,?_,ih h2 hc.2⟩;have hX:=(R.opd h1).1;have hk:=hc.1;show kV ι (EC da ι Θ) (RC ι Θ) w (x.get s) (a.eval X);cases hg:x.get s <;> rw [hg] at hX hk <;> first | exact hX | (simp [AV.capOk] at hk; done)
    ·cases h
  have hfs0:fs=#[]:=Array.eq_empty_of_size_eq_zero hfs;refine ⟨rfl,.func (.func f) #[] (Xs.map a.eval),by simp [execOp,ho,Instr.makeFunc,hfs0],⟨Xs.map a.eval,rfl,?_⟩,trivial⟩;simp_all
 ·cases hr
theorem MB.turnRow {t n b:Nat} (hb:ι t n=some b) (nc:ι.ob t n=none) {r:List qA} {new:Array Value} {pp:TypeId} (wc:w'.heap[b]?=some (.cells new pp (0,0))) (hk:xD (fun k=>k=b) w w') (ka:WD ι Θ (EC da ι Θ) w' r new) (di:B<=b\/F0.r b) (hnz:new.size=ι.z b) :
  MB P O nt B F0 da w0 D (s.setRow t n r) a w' ι Θ:=by
 have oa:∀ b',b'<w.heap.size->b'≠b->w'.heap[b']?=w.heap[b']?:=fun b' h1 h=>hk.block b' h1 h
 have hB:BA (RC ι Θ) (RC ι Θ) w w':=⟨fun b' o u hc hn=>by
  have:b'≠b:=fun e=>hn (.inl (.inl ⟨t,n,e ▸ hb⟩))
  exact ⟨(World.cell?_of_block (w:=w) (a:=⟨b',o,none⟩) (oa b' (cI hc) this)).trans hc,hn⟩⟩
 have hA:BA (EC da ι Θ) (EC da ι Θ) w w':=⟨fun b' o u hc hn=>by
  have:b'≠b:=fun e=>hn (.inr (.inl (.inl ⟨t,n,e ▸ hb⟩)))
  exact ⟨(World.cell?_of_block (w:=w) (a:=⟨b',o,none⟩) (oa b' (cI hc) this)).trans hc,hn⟩⟩
 have dt:=R.mine t n b hb;have ic:=hk.size;refine ⟨R.defers,R.size,fun t=>MA.held (Ix.Le.refl _) hA hB _ _ (R.env t),R.ann,fun t' n' r' hr=>?_,fun t n b h=>?_,R.inj,fun k o h=>?_,R.tinj,R.apart,R.out,R.pin,?_,R.base,fun t' n' S h=>?_,fun t n H h=>(R.obs t n H h).grow ic,fun t=>MA.held (Ix.Le.refl _) hA hB _ _ (R.gen t),R.gann⟩
 ·simp only [pA.setRow] at hr;split at hr
  ·rename_i e;simp_all
  ·rename_i e;obtain ⟨h0,b',lb,pp,h1,h2,h3,h4⟩:=R.rows t' n' r' hr;have:b'≠b:=fun e'=>e (R.inj _ _ _ _ _ (e' ▸ h1) hb)
   exact ⟨h0,b',lb,pp,h1,(oa b' (OA h2) this).trans h2,h3.held (Ix.Le.refl _) hA (fun _ _ h=>h),h4⟩
 ·obtain ⟨h1,h2,h3⟩:=R.mine t n b h;exact ⟨h1,by omega,h3⟩
 ·obtain ⟨h1,h2,h3,h4,lb,h5,h6⟩:=R.tok k o h;have:o.g≠b:=fun e=>R.apart k o t n h (e ▸ hb)
  grind
 ·refine R.kept.trans hk fun i hi h=>?_
  subst h;rcases dt.1 with h | h
  ·have:=R.base; omega
  ·exact h
 ·obtain ⟨p,H,h1,h2,h3,h4⟩:=R.objs t' n' S h;have so:∀ b',H b'->b'≠b:=fun b' hH e=>by
   subst e;have:=((R.obs _ _ _ h2).1 _ hH).2.2.1 t n hb;simp_all
  exact ⟨p,H,h1,h2,O.keep h3 (fun b' hH=>oa b' (O.lt h3 hH) (so b' hH)) ic,h4.keep (fun t n b H h g=>⟨h,H,g⟩) fun x hx=>(oa _ (OA hx) (so _ (O.main h3))).trans hx⟩
end
theorem aX (R:MB P O nt B F0 da w0 D s a w ι Θ) {t n p z:Nat} (hp:ι t n=some p) (hz:ι.z p=z) {cl:Cl}:∀ {Xs:List Operand} {xs:List FB} {vs:List AV},MG Xs=some xs->kD s cl t n xs=some vs->CL (Ix.row p z) (EC da ι Θ) (fun b _=>b=p) w vs (Xs.map a.eval)
 | [],xs,vs,h,hl=>by
  injection h with h;subst h;injection hl with hl;subst hl;rfl
 | X :: Xs,xs,vs,h,hl=>by
  unfold MG at h;split at h
  ·rename_i x l hx hr;injection h with h;subst h;unfold kD at hl;split at hl
   ·rename_i v bv hv ze;injection hl with hl;subst hl;refine ⟨_,_,rfl,?_,aX R hp hz hr ze⟩;have hX:=(R.opd hx).1;have hB:∀ (b o:Nat),b=p->RC ι Θ b o:=fun b o h=>.inl (.inl ⟨t,n,h ▸ hp⟩)
    unfold DG at hv;split at hv
    ·rename_i t' n' off hg;split at hv
     ·rename_i e;injection hv with hv;subst hv;rw [hg,e.1,e.2] at hX;obtain ⟨b,hb,hv⟩:=zG.1 hX;rw [hp] at hb;injection hb with hb;subst hb;exact ⟨p,rfl,hv⟩
     ·cases hv
    ·rename_i t' n' sz off len cap hg;split at hv
     ·rename_i e;injection hv with hv;subst hv;rw [hg,e.1,e.2] at hX;obtain ⟨b,hb,h1,c,h2,h3,hv⟩:=qH.1 hX;rw [hp] at hb;injection hb with hb;subst hb;exact ⟨p,rfl,h1,c,h2,by rw [hz] at h3; exact h3,hv⟩
     ·rename_i e;rw [hg] at hX;refine MT R hB (fun t1 n1 b o ry _ ⟨sz1,off1,len1,cap1,hy⟩ h=>e ?_) hX hv fun t n h=>by cases h
      injection hy with e1 e2;subst h;exact R.inj _ _ _ _ _ (by rw [e1,e2]; exact ry) hp
    ·rename_i f cs hg;split at hv
     ·rename_i hc;injection hv with hv;subst hv;rw [hg,List.isEmpty_iff.1 hc] at hX;exact hX
     ·cases hv
    ·rename_i y h1 h2 h3;exact MT R hB (fun t1 n1 b o _ _ ⟨sz1,off1,len1,cap1,hy⟩=>absurd hy (h2 _ _ _ _ _ _)) hX hv fun t n h=>absurd h (h1 _ _ _)
   ·cases hl
  ·cases h
theorem row_ofz {av:Av} {cs:List AV} {us:List Value} (h:aD av w cs us) {cur:Array Value} (hc:∀ (j:Nat) (u:Value),us[j]?=some u->cur[j]?=some u):WD ι Θ av w (cs.map fun v=>⟨v,eC v⟩) cur:=by
 have h0:=row_of (ι:=ι) (Θ:=Θ) h hc;refine ⟨by simpa using h0.1,fun j x hx=>?_⟩;rw [yc] at hx;obtain ⟨v,hv,rfl⟩:=yf.1 hx;obtain ⟨u,h1,h2,h3,_⟩:=h0.2 j ⟨v,.no⟩ (by rw [yc,hv]; rfl);refine ⟨u,h1,h2,h3,?_⟩;unfold eC;split
 ·rename_i b l hh;simp only at h3;obtain ⟨A,c,hv,_,_,hn,_⟩:=(by simpa [NA,oE] using h3:oE av w (.sl true _) u);obtain ⟨rfl,e1,rfl⟩:=hn rfl;exact ⟨none,0,by rw [hv,e1]⟩
 ·trivial
theorem op_callr (R:MB P O nt B F0 da w0 D s a w ι Θ) {call:aB} (wa:∀ f args S r,call f args S=some r->rD P O f args S r) {f:FuncId} {Xs:Array Operand} {ts:Array TypeId} {xs:List FB} (hx:MG Xs.toList=some xs) (ho:o.op=.call { callee:=.value (.func f),args:=Xs,argTypes:=ts }) (hd:∀ d,o.dst=some d->d<nt) {cl:Cl} {xe:qA × tD} (hr:(K.callr cl f xs).run call s=some xe) {g} {s':pA} (he:EA.eff ⟨o.dst,.callr cl f xs,g⟩ s xe=some s')
  {Kn:Act->World->Prop} {Q:Exit->Act->World->Prop} (hK:∀ a' w',QD P O nt B F0 da w0 (fun t=>D t\/o.dst=some t) s' a' w'->Kn a' w'):o.wp P a w Kn Q:=by
 simp only [K.run] at hr;split at hr
 ·rename_i t n _;split at hr
  ·split at hr
   ·rename_i r vs hm hl;split at hr
    ·rename_i ta;obtain ⟨q,hc,hr⟩:=y7.1 hr;split at hr
     ·rename_i cs hq;split at hr
      ·rename_i aa;cases hr;simp only [EA.eff] at he;cases he;obtain ⟨q1,q2⟩:=q;simp only at hq;subst hq;obtain ⟨nc,p,cur,ty,hp,na,ka,di,tp⟩:=R.rows t n r hm;have la:F1 P f vs (some (.agg (r.map (·.v)))) (q1,some (.agg cs)):=wa f (.undef :: .undef :: vs) _ _ hc;have le:∀ x∈r.map (·.v),x.free0=true:=fun x hx=>by
        grind
       have ld:(Xs.toList.map a.eval).toArray=Xs.map a.eval:=by rw [<- Array.toList_map,yX]
       have run:(execOp a.eval o).run P w=.ok (.enter f (Xs.map a.eval)) w:=by
        simp only [execOp,ho,resolve,Act.eval,Deferred.ofValue,Sem.run_bind,Sem.run_pure,Result.andThen_ok,invoke];have:=la.1 (#[]++Xs.map a.eval++#[]) w;simp_all
       unfold Oper.wp;rw [run,Oper.upon_enter];have hC:=la.2 (EC da ι Θ) w _ p cur ty (fun b o h=>R.low h) (fun o=>.inr (.inl (.inl ⟨t,n,hp⟩))) na (by simpa using ka.1) (by simpa using pH ka.rep le) (aX R hp tp.symm hx hl);rw [ld] at hC;refine hC.mono ?_;rintro e w' ⟨v,lb,pp,rfl,hv,xm,ic,fc,hk⟩;have xh:WD ι Θ (EC da ι Θ) w' (cs.map fun v=>⟨v,eC v⟩) lb:=row_ofz fc fun j u hu=>by
        grind
       have R':=R.turnRow hp nc xm hk xh di (ic.trans tp);exact hK _ _ ⟨ι,Θ,(R'.putN (x:=⟨_,.no⟩) hd (pN hv) trivial).more fun _ h=>.inl h⟩
      ·cases hr
     ·cases hr
    ·cases hr
   ·cases hr
  ·cases hr
 ·cases hr
end
end
section
open Go Go.RowKit
section
variable {P:Program} {O:uH} {nt B:Nat} {F0:SO} {da:Av} {w0:World} {D:Nat->Prop} {s:pA} {a:Act} {w w':World} {ι:Ix} {Θ:NK} {o:Oper}
theorem PN {av:Av} {x:AV} (h:x.scal=true):oE av w x x.scalV/\x.scalV.oneCell'=true:=by
 cases x <;> first | (simp [AV.scal] at h; done) | exact ⟨rfl,rfl⟩
theorem UU {av:Av}:∀ {cs:List AV},cs.all AV.scal=true->aD av w cs (cs.map AV.scalV)
 | [],_=>rfl
 | x :: r,h=>by
  simp only [List.all_cons,y8] at h;exact ⟨_,_,rfl,(PN h.1).1,(PN (av:=av) (w:=w) h.1).2,UU h.2⟩
theorem zN {av:Av} {x:AV} (h:x.flat=true):oE av w x x.flatV:=by
 cases x with
 | agg cs=>exact ⟨_,rfl,by simpa using UU (av:=av) (w:=w) h⟩
 | int k n=>exact (PN (x:=.int k n) rfl).1
 | bool b=>exact (PN (x:=.bool b) rfl).1
 | str b=>exact (PN (x:=.str b) rfl).1
 | _=>simp [AV.flat,AV.scal] at h
theorem flat_S {av avb:Av} {x:AV} (h:x.flat=true):MA ι av avb w x x.flatV:=by
 have h1:=zN (av:=av) (w:=w) h;cases x with
 | agg cs=>obtain ⟨us,hv,hc⟩:=h1; exact ⟨us,hv,ID hc⟩
 | _=>first | exact h1 | (simp [AV.flat,AV.scal] at h; done)
theorem dS {av avb:Av} {x:AV} {v:Value} (hf:x.flat=true) (h:MA ι av avb w x v):v=x.flatV:=by
 cases x with
 | agg cs =>
  obtain ⟨us,hv,hc⟩:=h;subst hv;have key:∀ {cs:List AV} {us:List Value},cs.all AV.scal=true->KA ι av w cs us->us=cs.map AV.scalV:=by
   intro cs
   induction cs with
   | nil=>intro us _ h; simpa [KA] using h
   | cons x r ih =>
    intro us hf h;simp only [KA] at h;obtain ⟨u,sa,rfl,h0,_,h⟩:=h;simp only [List.all_cons,y8] at hf;rw [yj,ih hf.2 h];congr 1;cases x <;> first | exact h0 | (simp [AV.scal] at hf; done)
  have:=key hf hc;show Value.agg us=.agg (cs.map AV.scalV).toArray;rw [<- this,yX]
 | int k n=>exact h
 | bool b=>exact h
 | str b=>exact h
 | _=>simp [AV.flat,AV.scal] at hf
theorem avC_flat {v:Value} {x:AV} (h:avC v=some x) (hf:x.flat=true):v=x.flatV :=
 dS (ι:=Ix.none) (av:=fun _ _=>False) (avb:=fun _ _=>False) (w:=default) hf (avC_rep h _ _ _ _)
theorem E9 (a b:ByteArray):(a == b)=decide (a=b):=by
 obtain ⟨a⟩:=a;obtain ⟨b⟩:=b;rw [Bool.eq_iff_iff];simp only [decide_eq_true_eq,ByteArray.mk.injEq];exact beq_iff_eq (α:=Array UInt8)
def fG {κ:Type} [DecidableEq κ] (L:List (κ × Value)) (n:κ) (m:Nat):Option (Nat × Value):=((L.map (·.1)).idxOf? n).bind fun i=>(L[i]?).map fun p=>(m + i,p.2)
theorem wN {κ:Type} [DecidableEq κ] (p:κ × Value) (L:List (κ × Value)) (n:κ) (m:Nat):fG (p :: L) n m=if n=p.1 then some (m,p.2) else fG L n (m + 1):=by
 unfold fG;simp only [yj,List.idxOf?_cons];by_cases hk:n=p.1
 ·subst hk; simp
 ·have hb:(p.1 == n)=false:=by simpa using fun e:p.1=n=>hk e.symm
  simp only [hb,hk,if_false];cases hi:List.idxOf? n (List.map (fun x=>x.1) L) with
  | none=>simp
  | some i=>simp [Nat.add_assoc,Nat.add_comm 1 i]
theorem wV (k:IntKind) (n:Int):∀ (es:List MapEntry) (L:List (Int × Value)) (m:Nat),es.map (fun e=>(e.key,e.val))=L.map (fun p=>(Value.int k p.1,p.2)) →
   Instr.findNow (.int k) (.int k n) es m=some (fG L n m)
 | [],[],m,_=>by simp [Instr.findNow,fG]
 | [],_ :: _,_,h=>by simp at h
 | _ :: _,[],_,h=>by simp at h
 | e :: es,p :: L,m,h=>by
  simp only [yj,List.cons.injEq,Prod.mk.injEq] at h;obtain ⟨⟨h1,h2⟩,h3⟩:=h;have ih:=wV k n es L (m + 1) h3;have hs:Instr.sameNow (.int k) (.int k n) e.key=some (n == p.1):=by rw [h1]; simp [Instr.sameNow]
  simp only [Instr.findNow,hs,wN];by_cases hk:n=p.1
  ·subst hk; simp [h2]
  ·have ua:(n == p.1)=false:=by simpa using hk
   simp only [ua,ih,hk,if_false]
theorem eV (n:ByteArray):∀ (es:List MapEntry) (L:List (ByteArray × Value)) (m:Nat),es.map (fun e=>(e.key,e.val))=L.map (fun p=>(Value.string p.1,p.2)) →
   Instr.findNow .string (.string n) es m=some (fG L n m)
 | [],[],m,_=>by simp [Instr.findNow,fG]
 | [],_ :: _,_,h=>by simp at h
 | _ :: _,[],_,h=>by simp at h
 | e :: es,p :: L,m,h=>by
  simp only [yj,List.cons.injEq,Prod.mk.injEq] at h;obtain ⟨⟨h1,h2⟩,h3⟩:=h;have ih:=eV n es L (m + 1) h3;have hs:Instr.sameNow .string (.string n) e.key=some (decide (n=p.1)):=by
   rw [h1];simp only [Instr.sameNow,E9]
  simp only [Instr.findNow,hs,wN];by_cases hk:n=p.1
  ·subst hk; simp [h2]
  ·simp only [hk,decide_false,ih,if_false]
theorem F2 {T:TypeId} {k:IntKind} (u:P.underlying T=some (.int k)):BO P T (fun n:Int=>Value.int k n) where
 check empty n w:=by
  have hq:∀ (d:Nat),(Instr.checkKey empty (d + 1) T (.int k n)).run P w=.ok () w:=fun d=>by simp [Instr.checkKey,run_underlying u]
  exact hq 9999
 find n es L w h:=by
  simp only [Instr.findKey,Sem.run_bind,run_underlying u,Result.andThen_ok,wV k n es L 0 h,fG,yH,Sem.run_pure]
 same n:=by
  have hq:∀ (d:Nat),Instr.sameBits (d + 1) (.int k n) (.int k n)=true:=fun d=>by simp [Instr.sameBits]
  exact hq 9999
theorem G2 {T:TypeId} (u:P.underlying T=some .string):BO P T Value.string where
 check empty n w:=by
  have hq:∀ (d:Nat),(Instr.checkKey empty (d + 1) T (.string n)).run P w=.ok () w:=fun d=>by simp [Instr.checkKey,run_underlying u]
  exact hq 9999
 find n es L w h:=by
  simp only [Instr.findKey,Sem.run_bind,run_underlying u,Result.andThen_ok,eV n es L 0 h,fG,yH,Sem.run_pure]
 same n:=by
  have hq:∀ (d:Nat),Instr.sameBits (d + 1) (.string n) (.string n)=true:=fun d=>by simp [Instr.sameBits,E9]
  exact hq 9999
structure HQ (ty:KTy) (κ:Type) [DecidableEq κ] (ke:κ->Value) (kx:κ->AV):Prop where
 val:∀ a,(kx a).flatV=ke a
 eq:∀ a b,AO (kx a) (kx b)=decide (a=b)
 of:∀ x,SG ty x=true->∃ a,x=kx a
 flat:∀ a,(kx a).flat=true
section
variable {κ:Type} [DecidableEq κ] {ke:κ->Value} {kx:κ->AV} {ty:KTy}
theorem NZ (K:HQ ty κ ke kx) (n:κ):∀ M:List (κ × AV),TI (M.map fun p=>[kx p.1,p.2]) (kx n)=tL M n
 | []=>rfl
 | p :: r=>by
  simp only [yj,TI,tL,K.eq,decide_eq_true_eq,NZ K n r];by_cases h:p.1=n
  ·rw [if_pos h,if_pos h.symm]
  ·rw [if_neg h,if_neg fun e=>h e.symm]
theorem MZ (K:HQ ty κ ke kx) (n:κ) (v:AV):∀ M:List (κ × AV),TG (M.map fun p=>[kx p.1,p.2]) (kx n) v=(uZ M n v).map fun p=>[kx p.1,p.2]
 | []=>rfl
 | p :: r=>by
  simp only [yj,TG,uZ,K.eq,decide_eq_true_eq,MZ K n v r];by_cases h:p.1=n
  ·rw [if_pos h,if_pos h.symm]; rfl
  ·rw [if_neg h,if_neg fun e=>h e.symm]; rfl
theorem JW (g:AV->Value) (n:κ):∀ M:List (κ × AV),tL (M.map fun p=>(p.1,g p.2)) n=(tL M n).map g
 | []=>rfl
 | p :: r=>by
  simp only [yj,tL,JW g n r];split <;> rfl
theorem J8 (g:AV->Value) (n:κ) (v:AV):∀ M:List (κ × AV),uZ (M.map fun p=>(p.1,g p.2)) n (g v)=(uZ M n v).map fun p=>(p.1,g p.2)
 | []=>rfl
 | p :: r=>by
  simp only [yj,uZ,J8 g n v r];split <;> rfl
theorem CZ (K:HQ ty κ ke kx):∀ L:List (List AV),cJ ty L=true->∃ M:List (κ × AV),L=M.map (fun p=>[kx p.1,p.2])/\∀ p∈M,p.2.flat=true
 | [],_=>⟨[],rfl,fun _ h=>by cases h⟩
 | e :: r,h=>by
  unfold cJ at h;simp only [List.all_cons,y8] at h;obtain ⟨M,hM,hf⟩:=CZ K r h.2;have h1:=h.1;split at h1
  ·rename_i k v;simp only [y8] at h1;obtain ⟨n,rfl⟩:=K.of k h1.1;exact ⟨(n,v) :: M,by rw [hM]; rfl,fun p hp=>by
    rcases yh.1 hp with rfl | hp
    ·exact h1.2
    ·exact hf p hp⟩
  ·cases h1
theorem BZ (K:HQ ty κ ke kx) (M:List (κ × AV)):(M.map fun p=>[kx p.1,p.2]).map entV=(M.map fun p=>(p.1,p.2.flatV)).map fun p=>(ke p.1,p.2):=by
 rw [y0,y0];apply ym;intro p _;simp [entV,K.val]
end
theorem XT (k:IntKind):HQ (.some k) Int (fun n=>Value.int k n) (fun n=>.int k n) where
 val _:=rfl
 eq a b:=by simp [AO]
 of x h:=by
  cases x <;> first | (simp [SG] at h; done) | (simp only [SG,decide_eq_true_eq] at h; subst h; exact ⟨_,rfl⟩)
 flat _:=rfl
theorem CT:HQ .none ByteArray Value.string AV.str where
 val _:=rfl
 eq a b:=by simp [AO]
 of x h:=by
  cases x <;> first | (simp [SG] at h; done) | exact ⟨_,rfl⟩
 flat _:=rfl
inductive KV where
 | i (k:IntKind) (n:Int)
 | s (b:ByteArray)
 deriving DecidableEq
def KV.av:KV->AV
 | .i k n=>.int k n
 | .s b=>.str b
def KV.kd:KV->Option IntKind
 | .i k _=>some k
 | .s _=>none
abbrev AKey (l:List (Option IntKind)):={ a:List KV // a.map KV.kd=l }
theorem ZZ:∀ a b:List KV,fR (a.map KV.av) (b.map KV.av)=decide (a=b)
 | [],[]=>rfl
 | [],b :: r=>by cases b <;> rfl
 | a :: r,[]=>by cases a <;> rfl
 | a :: r,b :: r'=>by
  have ih:=ZZ r r';cases a <;> cases b <;> simp [KV.av,fR,ih,Bool.decide_and]
theorem LT:∀ (l:List (Option IntKind)) (cs:List AV),uL l cs=true->∃ a:List KV,a.map KV.kd=l/\cs=a.map KV.av
 | [],[],_=>⟨[],rfl,rfl⟩
 | [],_ :: _,h=>by simp [uL] at h
 | k :: r,[],h=>by cases k <;> simp [uL] at h
 | k :: r,c :: cs,h=>by
  cases k with
  | none =>
   cases c <;> simp only [uL] at h <;> first | (cases h; done) | skip
   rename_i b;obtain ⟨a,h1,h2⟩:=LT r cs h;exact ⟨.s b :: a,by simp [KV.kd,h1],by simp [KV.av,h2]⟩
  | some k =>
   cases c <;> simp only [uL] at h <;> first | (cases h; done) | skip
   rename_i k' n;simp only [y8,decide_eq_true_eq] at h;obtain ⟨rfl,h⟩:=h;obtain ⟨a,h1,h2⟩:=LT r cs h;exact ⟨.i k n :: a,by simp [KV.kd,h1],by simp [KV.av,h2]⟩
theorem kv_scal (a:List KV):(a.map KV.av).all AV.scal=true:=by
 simp only [List.all_map,y5];intro x _;cases x <;> rfl
theorem ZT (l:List (Option IntKind)):HQ (.agg l) (AKey l) (fun a=>.agg ((a.1.map KV.av).map AV.scalV).toArray) (fun a=>.agg (a.1.map KV.av)) where
 val _:=rfl
 eq a b:=by
  simp only [AO,ZZ];by_cases h:a.1=b.1
  ·rw [decide_eq_true h,decide_eq_true (Subtype.ext h)]
  ·rw [decide_eq_false h,decide_eq_false fun e=>h (congrArg Subtype.val e)]
 of x h:=by
  cases x <;> first | (simp [SG] at h; done) | skip
  rename_i cs;obtain ⟨a,h1,h2⟩:=LT l cs h;exact ⟨⟨a,h1⟩,by rw [h2]⟩
 flat a:=kv_scal a.1
theorem eqC_kv:∀ a b:List KV,a.map KV.kd=b.map KV.kd->eL ((a.map KV.kd).map IK) (a.map KV.av) (b.map KV.av)=some (decide (a=b))
 | [],[],_=>rfl
 | [],_ :: _,h=>by simp at h
 | _ :: _,[],h=>by simp at h
 | a :: r,b :: r',h=>by
  simp only [yj,List.cons.injEq] at h;have ih:=eqC_kv r r' h.2;cases a <;> cases b <;> simp only [KV.kd,reduceCtorEq,Option.some.injEq,false_and] at h
  ·obtain ⟨rfl,h⟩:=h;rename_i n m;by_cases e:n=m
   ·subst e; simp [KV.kd,KV.av,IK,eL,ih,-y0]
   ·simp [KV.kd,KV.av,IK,eL,e]
  ·rename_i n m;by_cases e:n=m
   ·subst e; simp [KV.kd,KV.av,IK,eL,ih,-y0]
   ·simp [KV.kd,KV.av,IK,eL,e]
theorem DP {t:TypeId} {ks:List Nat} (h:rR P t=some ks):BG P 8 t=some ks/\RJ P t=some true:=by
 unfold rR at h;split at h
 ·cases h
 ·split at h
  ·rename_i jl; exact ⟨h,by simp [RJ,jl]⟩
  ·rename_i jl; exact ⟨h,by simp [RJ,jl]⟩
  ·cases h
theorem equal_kv {T:TypeId} {l:List (Option IntKind)} (ht:rR P T=some (l.map IK)) (a b:AKey l) (w:World) :
  (Op.equal T (.agg ((a.1.map KV.av).map AV.scalV).toArray) (.agg ((b.1.map KV.av).map AV.scalV).toArray)).run P w=.ok (decide (a=b)) w:=by
 obtain ⟨hk,hA⟩:=DP ht;have he:=eqC_kv a.1 b.1 (a.2.trans b.2.symm);rw [a.2] at he;have hd:decide (a.1=b.1)=decide (a=b):=by
  by_cases h:a.1=b.1
  ·rw [decide_eq_true h,decide_eq_true (Subtype.ext h)]
  ·rw [decide_eq_false h,decide_eq_false fun e=>h (congrArg Subtype.val e)]
 rw [hd] at he;have hl:∀ c:AKey l,KA Ix.none (fun _ _=>False) w (c.1.map KV.av) (((c.1.map KV.av).map AV.scalV).toArray.toList.take (l.map IK).length):=fun c=>by
  rw [yD (by simp [<- c.2])];exact ID (UU (kv_scal c.1))
 exact (SU (ι:=Ix.none) (av:=fun _ _=>False) (fun t ks h=>BT 7 t ks h) 9992 hk hA (hl a) (hl b) he).2
theorem JN (em:Bool) (w:World):∀ (n:Nat) (t:TypeId) (ks:List Nat),BG P n t=some ks->∀ (d:Nat) (us:Array Value) (off:Nat),off + ks.length<=us.size->(∃ a,(part t us off).run P w=.ok a w/\(Instr.checkKey em (d + n) t a).run P w=.ok () w)/\(RJ P t=some true->off=0->(Instr.checkKey em (d + n) t (.agg us)).run P w=.ok () w)
 | 0,_,_,h=>by cases h
 | n + 1,t,ks,hk=>by
  intro d us off sb;have whole:RJ P t=some true->∀ vs:Array Value,ks.length<=vs.size->wC P t=some ks.length/\(Instr.checkKey em (d + (n + 1)) t (.agg vs)).run P w=.ok () w:=by
   intro hA vs hvs;unfold BG at hk;split at hk
   ·rename_i k jc;unfold RJ at hA;unfold WY at jc;split at jc <;> first | (cases jc; done) | (rename_i ht _; rw [ht] at hA; injection hA with hA; cases hA) | (rename_i ht; rw [ht] at hA; injection hA with hA; cases hA)
   ·split at hk
    ·rename_i m e ht;obtain ⟨l,hl,hk⟩:=y7.1 hk;split at hk
     ·rename_i hc;injection hk with hk;subst hk;obtain ⟨i,hi⟩:=cS hc.2.1;refine ⟨hc.2.2,?_⟩;have ic:i.size=l.length:=by
       have:=hc.2.1;simp only [wC,hi,yx,Option.some.injEq] at this;exact this
      have kh:(yg m l).flatten.length=m * l.length:=by simp
      rw [show d + (n + 1)=(d + n) + 1 from rfl,Instr.checkKey];simp only [Sem.run_bind,run_underlying ht,Result.andThen_ok];simp only [Std.Legacy.Range.forIn_eq_forIn_range',Std.Legacy.Range.size,Nat.sub_zero,Nat.add_one_sub_one,Nat.div_one];have each:∀ j∈List.range' 0 m,∃ a,(part e vs (j * P.cellsOf e)).run P w=.ok a w/\(Instr.checkKey em (d + n) e a).run P w=.ok () w:=fun j hj=>by
       have hjm:j<m:=by simpa using hj
       refine (JN em w n e l hl d vs (j * P.cellsOf e) ?_).1;rw [hc.1,<- yu];rw [kh] at hvs;exact yC (Y00 _ hjm) hvs
      generalize List.range' 0 m=is at each
      induction is with
      | nil=>simp
      | cons j is ih =>
       obtain ⟨a,p1,p2⟩:=each j (by simp);simp only [List.forIn_cons,Sem.run_bind,run_sizeOf w hi,Result.andThen_ok,p1,p2,Sem.run_pure];exact ih (fun y hy=>each y (by simp [hy]))
     ·cases hk
    ·rename_i fs ht;split at hk
     ·cases hk
     ·obtain ⟨l,hl,hk⟩:=y7.1 hk;split at hk
      ·rename_i hc;injection hk with hk;subst hk;refine ⟨hc,?_⟩;rw [show d + (n + 1)=(d + n) + 1 from rfl,Instr.checkKey];simp only [Sem.run_bind,run_underlying ht,Result.andThen_ok];rw [<- Array.forIn_toList];have go:∀ (L:List Field) (i:Nat) (l:List Nat),CP (BG P n) i L=some l->i + l.length<=vs.size->∀ f∈L,f.name≠"_"/\∃ a,(part f.type vs f.offset).run P w=.ok a w/\(Instr.checkKey em (d + n) f.type a).run P w=.ok () w:=by
        intro L
        induction L with
        | nil=>intro i l _ _ f hf; cases hf
        | cons g L ih =>
         intro i l hl sb f hf;unfold CP at hl;obtain ⟨l1,h1,hl⟩:=y7.1 hl;split at hl
         ·rename_i hn;obtain ⟨l2,h2,rfl⟩:=yf.1 hl;rw [yp] at sb;rcases yh.1 hf with rfl | hf
          ·exact ⟨hn.1,(JN em w n _ l1 h1 d vs f.offset (by rw [hn.2]; omega)).1⟩
          ·exact ih (i + l1.length) l2 h2 (by omega) f hf
         ·cases hl
       have each:=go fs.toList 0 l hl (by omega);clear go hl;generalize fs.toList=L at each
       induction L with
       | nil=>simp
       | cons f L ih =>
        obtain ⟨hn,a,p1,p2⟩:=each f (by simp);simp only [List.forIn_cons,Sem.run_bind,hn,ne_eq,not_false_eq_true,if_true,Result.andThen_ok,p1,p2,Sem.run_pure];exact ih (fun y hy=>each y (by simp [hy]))
      ·cases hk
    ·cases hk
  refine ⟨?_,fun hA h0=>(whole hA us (by omega)).2⟩;by_cases hA:RJ P t=some true
  ·obtain ⟨h1,h2⟩:=whole hA (us.extract off (off + ks.length)) (by simp; omega);exact ⟨_,(RR hA h1 us off).1,h2⟩
  ·have zc:=hk;unfold BG at hk;split at hk
   ·rename_i k jc;injection hk with hk;subst hk;simp only [yE,List.length_nil] at sb;have hu:us[off]?=some us[off]:=Y03 (by omega);have hp:=(B8 (w:=w) 0 jc hu hu).1;refine ⟨_,hp,?_⟩;unfold WY at jc;rw [show d + (n + 1)=(d + n) + 1 from rfl];split at jc
    ·rename_i ht _; simp [Instr.checkKey,run_underlying ht]
    ·rename_i ht _; simp [Instr.checkKey,run_underlying ht]
    ·rename_i ht _; simp [Instr.checkKey,run_underlying ht]
    ·cases jc
   ·split at hk
    ·rename_i ht; exact absurd (by simp [RJ,ht]) hA
    ·rename_i ht; exact absurd (by simp [RJ,ht]) hA
    ·cases hk
theorem find_kv {T:TypeId} {l:List (Option IntKind)} (ht:rR P T=some (l.map IK)) (a:AKey l) (w:World):∀ (es:List MapEntry) (L:List (AKey l × Value)) (m:Nat),es.map (fun e=>(e.key,e.val))=L.map (fun p=>(Value.agg ((p.1.1.map KV.av).map AV.scalV).toArray,p.2)) →
  (Instr.findAsking T (.agg ((a.1.map KV.av).map AV.scalV).toArray) es m).run P w=.ok (fG L a m) w
 | [],[],m,_=>by simp [Instr.findAsking,fG]
 | [],_ :: _,_,h=>by simp at h
 | _ :: _,[],_,h=>by simp at h
 | e :: es,p :: L,m,h=>by
  simp only [yj,List.cons.injEq,Prod.mk.injEq] at h;obtain ⟨⟨h1,h2⟩,h3⟩:=h;have ih:=find_kv ht a w es L (m + 1) h3;have he:=equal_kv (P:=P) ht a p.1 w;simp only [Instr.findAsking,Sem.run_bind,h1,he,Result.andThen_ok,wN,Sem.run_ite];by_cases hk:a=p.1
  ·simp [hk,h2]
  ·simp [hk,ih,-y0]
theorem D2 {T:TypeId} {l:List (Option IntKind)} (ht:rR P T=some (l.map IK)):BO P T (fun a:AKey l=>Value.agg ((a.1.map KV.av).map AV.scalV).toArray) where
 check empty a w:=by
  obtain ⟨hk,hA⟩:=DP ht;exact (JN empty w 8 T _ hk 9992 _ 0 (by simp [<- a.2])).2 hA rfl
 find a es L w h:=by
  have hu:∃ desc,P.underlying T=some desc/\∀ x e,Instr.sameNow desc (.agg x) e=none:=by
   obtain ⟨hk,hA⟩:=DP ht;unfold RJ at hA;cases hd:P.underlying T with
   | none=>rw [hd] at hA; cases hA
   | some desc =>
    refine ⟨desc,rfl,fun x e=>?_⟩;cases desc <;> rfl
  obtain ⟨desc,hu,hn⟩:=hu;cases es with
  | nil =>
   cases L with
   | nil=>simp [Instr.findKey,run_underlying hu,Instr.findNow]
   | cons=>simp at h
  | cons e es =>
   have:=find_kv ht a w (e :: es) L 0 h;simp only [Instr.findKey,Sem.run_bind,run_underlying hu,Result.andThen_ok,Instr.findNow,hn,this,fG,yH]
 same a:=by
  have hq:∀ l:List KV,(((l.map KV.av).map AV.scalV).zip ((l.map KV.av).map AV.scalV)).all (fun (x,y)=>Instr.sameBits 9999 x y)=true:=by
   intro l
   induction l with
   | nil=>rfl
   | cons c r ih =>
    simp only [yj,List.zip_cons_cons,List.all_cons,ih,Bool.and_true];cases c <;> simp [KV.av,AV.scalV,Instr.sameBits,E9]
  show Instr.sameBits (9999 + 1) _ _=true;simp only [Instr.sameBits,beq_self_eq_true,Bool.true_and];exact hq a.1
theorem zero_run {e:TypeId} {z:AV} (h:((P.info? e).bind (·.zero)).bind avC=some z) (w:World):∃ zv,(zeroValue e).run P w=.ok zv w/\avC zv=some z:=by
 obtain ⟨zv,h1,h2⟩:=y7.1 h;obtain ⟨i,hi,hz⟩:=y7.1 h1;exact ⟨zv,by simp [zeroValue,typeInfo,hi,hz],h2⟩
theorem H7 {κ:Type} [DecidableEq κ] {ke:κ->Value} {kx:κ->AV} {ty:KTy} (R:MB P O nt B F0 da w0 D s a w ι Θ) (K:HQ ty κ ke kx) {t n:Nat} {v:Value} (hv:MA ι (EC da ι Θ) (RC ι Θ) w (.mp t n) v) {L:List (List AV)} (hL:(s.obj t n).bind BH=some L) (hk:cJ ty L=true) :
  ∃ (b:Nat) (H:Nat->Prop) (M:List (κ × AV)),v=.map (some b)/\ι t n=some b/\ι.ob t n=some H/\(∀ x,H x ↔ x=b)/\L=M.map (fun p=>[kx p.1,p.2])/\(∀ p∈M,p.2.flat=true)/\QO ke w b (M.map fun p=>(p.1,p.2.flatV))/\∃ es clock,w.heap[b]?=some (.map es clock)/\X1 es clock:=by
 obtain ⟨b,hb,rfl⟩:=hv;obtain ⟨S,hS,hm⟩:=y7.1 hL;obtain ⟨p,H,hp,nb,wc,_⟩:=R.objs t n S hS;rw [hb] at hp;injection hp with hp;subst hp;have lv:S=FG L:=by
  unfold BH at hm;split at hm
  ·injection hm with hm; subst hm; rfl
  ·cases hm
 subst lv;obtain ⟨hH,es,clock,he,jf,jb⟩:=(O.maps L H b w).1 wc;obtain ⟨M,rfl,hf⟩:=CZ K L hk;exact ⟨b,H,M,rfl,hb,nb,hH,rfl,hf,⟨es,clock,he,jf.trans (BZ K M)⟩,es,clock,he,jb⟩
theorem GZ {κ:Type} [DecidableEq κ]:∀ {M:List (κ × AV)} {n:κ} {x:AV},(∀ p∈M,p.2.flat=true)->tL M n=some x->x.flat=true
 | [],_,_,_,h=>by cases h
 | p :: r,n,x,hf,h=>by
  unfold tL at h;split at h
  ·injection h with h; subst h; exact hf p yl
  ·exact GZ (fun q hq=>hf q (yr _ hq)) h
theorem lX {κ:Type} [DecidableEq κ] {ke:κ->Value} {kx:κ->AV} {ty:KTy} (R:MB P O nt B F0 da w0 D s a w ι Θ) (K:HQ ty κ ke kx) {T kT eT:TypeId} (KL:BO P kT ke) (hT:P.underlying T=some (.map kT eT)) {zero:AV} (hz:((P.info? eT).bind (·.zero)).bind avC=some zero) (hzf:zero.flat=true)
  {X I:Operand} {y i:FB} (hx:opd X=some y) (hi:opd I=some i) {ok:Bool} (ho:o.op=.lookup T X I ok) {t n:Nat} (hy:y.get s=.mp t n) {L:List (List AV)} (hL:(s.obj t n).bind BH=some L) (hk:cJ ty L=true) (bc:SG ty (i.get s)=true) :
  KR P da a w ι Θ o ⟨if ok then .tup [(TI L (i.get s)).getD zero,.bool (TI L (i.get s)).isSome] else (TI L (i.get s)).getD zero,.no⟩:=by
 have hX:=(R.opd hx).1;have hI:=(R.opd hi).1;rw [hy] at hX;obtain ⟨b,H,M,hv,hb,nb,hH,rfl,hf,wc,_⟩:=H7 R K hX hL hk;obtain ⟨k,hkx⟩:=K.of _ bc;rw [hkx] at hI ⊢;have hkf:(kx k).flat=true:=K.flat k;have hIv:a.eval I=ke k:=(dS hkf hI).trans (K.val k);obtain ⟨zv,hzr,hzc⟩:=zero_run hz w;have hzv:=avC_flat hzc hzf;rw [NZ K];have md:(tL (M.map fun p=>(p.1,p.2.flatV)) k).getD zv=((tL M k).getD zero).flatV:=by
  rw [JW,hzv];cases tL M k <;> rfl
 have wi:((tL M k).getD zero).flat=true:=by
  cases hg:tL M k with
  | none=>exact hzf
  | some x=>exact GZ hf hg
 cases ok with
 | false =>
  have ca:=wc.lookup KL hT hzr k;rw [md] at ca;refine ⟨((tL M k).getD zero).flatV,by simp only [execOp,ho,hv,hIv,Sem.run_bind,ca,Result.andThen_ok,Sem.run_pure],?_,trivial⟩;exact flat_S wi
 | true =>
  have ca:=wc.lookup_ok KL hT hzr k;rw [md] at ca;have il:(tL (M.map fun p=>(p.1,p.2.flatV)) k).isSome=(tL M k).isSome:=by rw [JW]; cases tL M k <;> rfl
  rw [il] at ca;refine ⟨.tuple #[((tL M k).getD zero).flatV,.bool (tL M k).isSome],by simp only [execOp,ho,hv,hIv,Sem.run_bind,ca,Result.andThen_ok,Sem.run_pure],?_,trivial⟩;refine ⟨_,rfl,_,_,rfl,?_,_,_,rfl,rfl,rfl⟩;exact HG (zN wi)
theorem QO.updateS {κ:Type} [DecidableEq κ] {P:Program} {T kT eT:TypeId} {ke:κ->Value} {w:World} {m:Nat} {L:List (κ × Value)} (h:QO ke w m L) (K:BO P kT ke) (hT:P.underlying T=some (.map kT eT)) {es0:Array MapEntry} {cl0:Nat} (h0:w.heap[m]?=some (.map es0 cl0)) (jb:X1 es0 cl0) (k:κ) (v:Value) :
  ∃ es clock,(Instr.mapUpdate T (.map (some m)) (ke k) v).run P w=.ok () { w with heap:=w.heap.setIfInBounds m (.map es clock) }/\es.toList.map (fun e=>(e.key,e.val))=(uZ L k v).map (fun p=>(ke p.1,p.2))/\X1 es clock:=by
 obtain ⟨es,clock,h1,h2⟩:=h;rw [h1] at h0;injection h0 with h0;injection h0 with e1 e2;subst e1;subst e2;obtain ⟨s1,s2⟩:=jb;have hg:(getObj m).run P w=.ok (.map es clock) w:=by simp [getObj,Sem.run,h1]
 have hf:=K.find k es.toList L w h2;have hi:=idx_set L k v;have hl:es.toList.length=L.length:=by simpa using congrArg List.length h2
 cases hq:(L.map (·.1)).idxOf? k with
 | none =>
  rw [hq] at hf hi;refine ⟨es.push { key:=ke k,val:=v,born:=clock },clock + 1,?_,by rw [hi]; simp [h2],by simp [s1],fun i h=>?_⟩
  case refine_2 =>
   simp only [Array.size_push] at h;simp only [Array.getElem_push];split
   ·exact s2 _ _
   ·show clock=i;omega
  case refine_1 =>
   simp only [Instr.mapUpdate,Sem.run_bind,run_underlying hT,Result.andThen_ok,hg,K.check,hf,Option.bind_none];simp [setObj,Sem.run,h1]
 | some i =>
  rw [hq] at hf hi;have og:i<L.length:=by have:=List.idxOf?_eq_some_iff.1 hq; simpa using this.1
  have hk:(L[i]).1=k:=by have:=List.idxOf?_eq_some_iff.1 hq; simpa using this.2.1
  have bg:i<es.size:=by
   have:es.size=L.length:=by simpa using hl
   omega
  have bc:(es[i]).key=ke k:=by
   have:=congrArg (fun l=>(l[i]?).map (·.1)) h2;simp only [yc,Array.getElem?_toList,Y03 bg,yx,y4 og,hk,Option.some.injEq] at this;exact this
  refine ⟨es.modify i fun e=>{ e with key:=ke k,val:=v },clock,?_,?_,by simp [s1],fun j h=>?_⟩
  case refine_3 =>
   simp only [Array.getElem_modify];split <;> exact s2 _ _
  case refine_1 =>
   have hL:L[i]?=some L[i]:=y4 og;have he:es[i]?=some es[i]:=Y03 bg;simp only [Instr.mapUpdate,Sem.run_bind,run_underlying hT,Result.andThen_ok,hg,K.check,hf,V,hL,yx,he,Option.getD_some,bc];simp [Instr.keyThatStays,K.same,setObj,Sem.run,h1]
  case refine_2 =>
   rw [hi];apply List.ext_getElem?;intro j;have hj:=congrArg (fun l=>l[j]?) h2;simp only [yc,Array.getElem?_toList] at hj;simp only [yc,Array.getElem?_toList,Array.getElem?_modify,List.getElem?_set];by_cases hij:i=j
   ·subst hij;simp [Y03 bg,og]
   ·simp only [if_neg hij];exact hj
theorem QN {κ:Type} [DecidableEq κ] {ke:κ->Value} {kx:κ->AV} {ty:KTy} (R:MB P O nt B F0 da w0 D s a w ι Θ) (K:HQ ty κ ke kx) {T kT eT:TypeId} (KL:BO P kT ke) (hT:P.underlying T=some (.map kT eT))
  {X I Y:Operand} {x i y:FB} (hx:opd X=some x) (hi:opd I=some i) (hyo:opd Y=some y) (ho:o.op=.mapUpdate T X I Y\/o.op=.insert T X I Y) (hd:∀ d,o.dst=some d->d<nt) {t n:Nat} (mc:x.get s=.mp t n) {L:List (List AV)} (hL:(s.obj t n).bind BH=some L) (hk:cJ ty L=true) (bc:SG ty (i.get s)=true) (hvf:(y.get s).flat=true) :
  ∃ w',(execOp a.eval o).run P w=.ok .skip w'/\QD P O nt B F0 da w0 D ((s.setObj t n (FG (TG L (i.get s) (y.get s)))).put o.dst ⟨.undef,.no⟩) (a.put o.dst undef) w':=by
 have hX:=(R.opd hx).1;have hI:=(R.opd hi).1;have hY:=dS hvf (R.opd hyo).1;rw [mc] at hX;obtain ⟨b,H,M,hv,hb,nb,hH,rfl,hf,wc,es0,cl0,hes0,kw⟩:=H7 R K hX hL hk;obtain ⟨k,hkx⟩:=K.of _ bc;rw [hkx] at hI ⊢;have hkf:(kx k).flat=true:=K.flat k;have hIv:a.eval I=ke k:=(dS hkf hI).trans (K.val k);have fa:=wc.lt;obtain ⟨es,clock,ca,jf,jb⟩:=wc.updateS KL hT hes0 kw k (y.get s).flatV;rw [J8] at jf;have ai:O.at_ (FG (TG (M.map fun p=>[kx p.1,p.2]) (kx k) (y.get s))) H b { w with heap:=w.heap.setIfInBounds b (.map es clock) }:=by
  refine (O.maps _ _ _ _).2 ⟨hH,es,clock,by simp [fa],?_,jb⟩;rw [MZ K,BZ K];exact jf
 have ej:xD H w { w with heap:=w.heap.setIfInBounds b (.map es clock) }:=⟨rfl,rfl,rfl,by simp,fun j _ hn=>by
  have:j≠b:=fun e=>hn ((hH j).2 e)
  simp only [Array.getElem?_setIfInBounds];rw [if_neg fun e:b=j=>this e.symm]⟩
 obtain ⟨ι',R2,_⟩:=R.turnObj hb nb ai (G3.no rfl) (fun x hx=>.inl hx) ej;refine ⟨_,by rcases ho with ho | ho <;> simp only [execOp,ho,hv,hIv,hY,Sem.run_bind,ca,Result.andThen_ok,Sem.run_pure],ι',Θ,R2.putN (x:=⟨.undef,.no⟩) hd trivial trivial⟩
section
variable (R:MB P O nt B F0 da w0 D s a w ι Θ)
include R
theorem op_mkm {T:TypeId} (ho:o.op=.makeMap T none) {d:Nat} (ba:o.dst=some d) (hd:d<nt) (hD:¬ D d) :
  ∃ v w',(execOp a.eval o).run P w=.ok (.value v) w'/\QD P O nt B F0 da w0 (fun t=>D t\/t=d) ((s.setObj d s.next (FG [])).put (some d) ⟨.mp d s.next,.no⟩) (a.put o.dst v) w':=by
 have ca:(execOp a.eval o).run P w=.ok (.value (.map (some w.heap.size))) (w.alloc (.map #[] 0)):=by
  simp [execOp,ho,Instr.makeMap]
 have hb:Below w.heap.size w (w.alloc (.map #[] 0)):=Below.alloc (Below.refl _ _) (yn _) _;obtain ⟨ι',R2,hι,_⟩:=R.newObj (d:=d) (p:=w.heap.size) (H:=fun b=>b=w.heap.size) (S:=FG []) hb hD ((O.maps _ _ _ _).2 ⟨fun b=>Iff.rfl,#[],0,xR rfl,rfl,rfl,fun i h=>absurd h (by simp)⟩) (G3.no rfl) (fun b h=>Nat.le_of_eq h.symm);rw [ba];exact ⟨_,_,ca,ι',Θ,R2.put (x:=⟨.mp d s.next,.no⟩) hd ⟨_,hι,rfl⟩ trivial⟩
theorem op_rng {T kT eT:TypeId} (hT:P.underlying T=some (.map kT eT)) {X:Operand} {x:FB} (hx:opd X=some x) (ho:o.op=.range T X) {t n:Nat} (mc:x.get s=.mp t n) {L:List (List AV)} (hL:(s.obj t n).bind BH=some L) {d:Nat} (ba:o.dst=some d) (hd:d<nt) (hD:¬ D d) :
  ∃ v w',(execOp a.eval o).run P w=.ok (.value v) w'/\QD P O nt B F0 da w0 (fun t=>D t\/t=d) ((s.setObj d s.next (SY t n L.length [])).put (some d) ⟨.ptr d s.next 0,.no⟩) (a.put o.dst v) w':=by
 have hX:=(R.opd hx).1;rw [mc] at hX;obtain ⟨b,hb,hv⟩:=hX;obtain ⟨S,hS,hm⟩:=y7.1 hL;obtain ⟨p,H,hp,nb,wc,_⟩:=R.objs t n S hS;rw [hb] at hp;injection hp with hp;subst hp;have lv:S=FG L:=by
  unfold BH at hm;split at hm
  ·injection hm with hm; subst hm; rfl
  ·cases hm
 subst lv;obtain ⟨hH,es,clock,he,jf,hc,_⟩:=(O.maps L H b w).1 wc;have ia:es.size=L.length:=by simpa using congrArg List.length jf
 have hg:(getObj b).run P w=.ok (.map es clock) w:=by simp [getObj,Sem.run,he]
 have ca:(execOp a.eval o).run P w=.ok (.value (.pointer (some ⟨w.heap.size,0,none⟩))) (w.alloc (.mapIter (some b) clock #[] clock)):=by
  simp only [execOp,ho,hv,Instr.range,Sem.run_bind,run_underlying hT,Result.andThen_ok,hg,Sem.run_pure,run_newObj_alloc]
 have fk:Below w.heap.size w (w.alloc (.mapIter (some b) clock #[] clock)):=Below.alloc (Below.refl _ _) (yn _) _;obtain ⟨ι',R2,hι,_⟩:=R.newObj (d:=d) (p:=w.heap.size) (H:=fun b=>b=w.heap.size) (S:=SY t n L.length []) fk hD ((O.iters _ _ _ _ (by rw [tW]; rfl)).2 ⟨fun b=>Iff.rfl,by simp⟩) (fun tm nm N seen e=>by
  rw [tW] at e;injection e with e;injection e with g1 e;injection e with g2 e;injection e with g3 g4;subst g1; subst g2; subst g3; subst g4;exact ⟨b,H,hb,nb,by rw [<- ia,<- hc]; exact xR rfl⟩) (fun b h=>Nat.le_of_eq h.symm)
 rw [ba];exact ⟨_,_,ca,ι',Θ,R2.put (x:=⟨.ptr d s.next 0,.no⟩) hd ⟨_,hι,rfl⟩ trivial⟩
theorem val_ent {X:Operand} {x:FB} (hx:opd X=some x) (ho:o.op=.entry X) {t n tm nm N:Nat} {seen:List Nat} (mc:x.get s=.ptr t n 0) (hi:(s.obj t n).bind xV=some (tm,nm,N,seen)) {L:List (List AV)} (hL:(s.obj tm nm).bind BH=some L) {i:Nat} (hl:seen.getLast?=some i) (hN:L.length=N) {y v:AV} (ep:L[i]?=some [y,v]) (kh:(y.flat&&v.flat)=true) :
  KR P da a w ι Θ o ⟨.tup [y,v],.no⟩:=by
 have hX:=(R.opd hx).1;rw [mc] at hX;obtain ⟨q,hq,hv⟩:=hX;obtain ⟨S,hS,dk⟩:=y7.1 hi;obtain ⟨p,H,hp,nb,wc,tj⟩:=R.objs t n S hS;rw [hq] at hp;injection hp with hp;subst hp;obtain ⟨m,Hm,hm,hobm,na⟩:=tj tm nm N seen dk;obtain ⟨S2,hS2,aq⟩:=y7.1 hL;obtain ⟨p2,H2,ck,pt,py,_⟩:=R.objs tm nm S2 hS2;rw [hm] at ck;injection ck with ck;subst ck;have lv:S2=FG L:=by
  unfold BH at aq;split at aq
  ·injection aq with aq; subst aq; rfl
  ·cases aq
 subst lv;obtain ⟨hH2,es,clock,he,jf,hc,jb⟩:=(O.maps L H2 m w).1 py;have dz:es.size=N:=by rw [<- hN]; simpa using congrArg List.length jf
 have hgq:(getObj q).run P w=.ok (.mapIter (some m) N seen.toArray N) w:=by simp [getObj,Sem.run,na]
 have ru:(getObj m).run P w=.ok (.map es clock) w:=by simp [getObj,Sem.run,he]
 have gj:i<es.size:=by
  have:=(yb.1 ep).1;omega
 have jo:seen.toArray.back?=some i:=by simpa using hl
 have hfind:es.find? (fun e=>e.born == i)=some es[i]:=by
  rw [Array.find?_eq_some_iff_getElem];refine ⟨by simp [jb i gj],i,gj,rfl,fun j hj=>?_⟩;simp only [jb j (by omega),Bool.not_eq_true'];simp;omega
 have hkv:es[i].key=y.flatV/\es[i].val=v.flatV:=by
  have:=congrArg (fun l=>l[i]?) jf;simp only [yc,ep,Array.getElem?_toList,Y03 gj,yx,Option.some.injEq,entV] at this;exact ⟨congrArg Prod.fst this,congrArg Prod.snd this⟩
 rw [y8] at kh;have ad:(clock != N)=false:=by simp [hc,dz]
 refine ⟨.tuple #[y.flatV,v.flatV],?_,?_,trivial⟩
 ·simp only [execOp,ho,hv,Instr.entry,Sem.run_bind,hgq,ru,jo,Result.andThen_ok,ad,yq,if_false,hfind,hkv.1,hkv.2,Sem.run_pure]
 ·exact ⟨_,rfl,_,_,rfl,HG (zN kh.1),_,_,rfl,HG (zN kh.2),rfl⟩
end
theorem avOf_nilP {v:Value} (h:UY v=some .nilP):v=.pointer none:=by
 unfold UY at h;split at h <;> first | rfl | (injection h with h; cases h; done) | (cases h; done)
theorem avOf_nil {v:Value} (h:UY v=some (.sl true [])):v=.slice none 0 0:=by
 unfold UY at h;split at h <;> first | rfl | (injection h with h; cases h; done) | (cases h; done)
theorem isBld_eq {l:List AV} (h:isBld l=true):l=[.nilP,.sl true []]:=by
 unfold isBld at h;split at h
 ·rfl
 ·cases h
theorem avAll_bld {vs:List Value} (h:GK vs=some [.nilP,.sl true []]):vs=[.pointer none,.slice none 0 0]:=by
 cases vs with
 | nil=>cases h
 | cons v r =>
  simp only [GK] at h;split at h
  ·rename_i x l hx hl;injection h with h;injection h with h1 h2;subst h1;subst h2;cases r with
   | nil=>cases hl
   | cons v' r' =>
    simp only [GK] at hl;split at hl
    ·rename_i x' l' wj tq;injection hl with hl;injection hl with h1 h2;subst h1;subst h2;cases r' with
     | nil=>rw [avOf_nilP hx,avOf_nil wj]
     | cons v'' r'' =>
      simp only [GK] at tq;split at tq <;> cases tq
    ·cases hl
  ·cases h
section
variable (R:MB P O nt B F0 da w0 D s a w ι Θ)
include R
theorem op_mkb {T e:TypeId} (lc:bldEl P T=some e) (ho:o.op=.alloc T) {d:Nat} (ba:o.dst=some d) (hd:d<nt) (hD:¬ D d) :
  ∃ v w',(execOp a.eval o).run P w=.ok (.value v) w'/\QD P O nt B F0 da w0 (fun t=>D t\/t=d) ((s.setObj d s.next (bldAV T e ⟨#[]⟩)).put (some d) ⟨.ptr d s.next 0,.no⟩) (a.put o.dst v) w':=by
 obtain ⟨l,hl,hb⟩:∃ l,TJ P T=some l/\isBld l=true:=by
  unfold bldEl at lc;split at lc
  ·rename_i h; exact yf.1 h
  ·cases lc
 obtain ⟨z,i,hi,zm,hrz,xj⟩:=QG hl w;rw [isBld_eq hb] at xj;have hzc:z.cells=#[.pointer none,.slice none 0 0]:=by
  apply Array.ext';exact avAll_bld xj
 have ca:(execOp a.eval o).run P w=.ok (.value (.pointer (some ⟨w.heap.size,0,none⟩))) (w.alloc (.cells #[.pointer none,.slice none 0 0] T)):=by
  simp [execOp,ho,Instr.alloc,newVar,newRow,hrz,hzc]
 have hb:Below w.heap.size w (w.alloc (.cells #[.pointer none,.slice none 0 0] T)):=Below.alloc (Below.refl _ _) (yn _) _;obtain ⟨ι',R2,hι,_⟩:=R.newObj (d:=d) (p:=w.heap.size) (H:=fun b=>b=w.heap.size) (S:=bldAV T e ⟨#[]⟩) hb hD ((O.blds _ _ _ _ _ _).2 ⟨.slice none 0 0,.pointer none,xR rfl,.inl rfl,World.ownsRowF_nil _ _ _ _,by simp [Value.ownBlock],fun b=>by simp [Value.ownBlock]⟩) (G3.no rfl) (fun b h=>Nat.le_of_eq h.symm);rw [ba];exact ⟨_,_,ca,ι',Θ,R2.put (x:=⟨.ptr d s.next 0,.no⟩) hd ⟨_,hι,rfl⟩ trivial⟩
theorem op_mlen {T:TypeId} {kT eT:TypeId} (hT:P.underlying T=some (.map kT eT)) {X:Operand} {x:FB} (hx:opd X=some x) (ho:o.op=.call { callee:=.builtin .len,args:=#[X],argTypes:=#[T] }) {t n:Nat} (mc:x.get s=.mp t n) {L:List (List AV)} (hL:(s.obj t n).bind BH=some L) :
  KR P da a w ι Θ o ⟨.int .i64 L.length,.no⟩:=by
 have hX:=(R.opd hx).1;rw [mc] at hX;obtain ⟨b,hb,hv⟩:=hX;obtain ⟨S,hS,hm⟩:=y7.1 hL;obtain ⟨p,H,hp,nb,wc,_⟩:=R.objs t n S hS;rw [hb] at hp;injection hp with hp;subst hp;have lv:S=FG L:=by
  unfold BH at hm;split at hm
  ·injection hm with hm; subst hm; rfl
  ·cases hm
 subst lv;obtain ⟨hH,es,clock,he,jf,_⟩:=(O.maps L H b w).1 wc;have ia:es.size=L.length:=by simpa using congrArg List.length jf
 have hg:(getObj b).run P w=.ok (.map es clock) w:=by simp [getObj,Sem.run,he]
 refine ⟨.int .i64 L.length,?_,by rw [jB],trivial⟩;simp [execOp,ho,resolve,invoke,builtin,Builtin.len_,run_underlying hT,hv,hg,goInt,ia]
theorem MB.turnNew {t n p:Nat} {H H':Nat->Prop} {S':AV} (hp:ι t n=some p) (nb:ι.ob t n=some H) (wc:O.at_ S' H' p w') (tj:G3 ι S' p w') (hH:∀ b,H' b->H b\/w.heap.size<=b) (hk:xD H w w')
  {d g:Nat} (hD:¬ D d) (hg:w.heap.size<=g) (hgH:¬ H' g) {cur:Array Value} {ty:TypeId} (hgw:w'.heap[g]?=some (.cells cur ty (0,0))) {l:List AV} (hl:l.all AV.scal=true) (ae:∀ (j:Nat) (x:AV),l[j]?=some x->cur[j]?=some x.scalV) (kj:l.length<=cur.size) :
  ∃ ι':Ix,MB P O nt B F0 da w0 (fun j=>D j\/j=d) ((s.setObj t n S').setRow d s.next (l.map (⟨·,.no⟩))) a w' ι' Θ/\ι' d s.next=some g/\ι'.z g=cur.size:=by
 obtain ⟨nn,pt⟩:=R.obs t n H nb;have gw:=OA hgw;have wd:ι d s.next=none:=by
  cases h:ι d s.next with
  | none=>rfl
  | some b =>
   rcases (R.mine _ _ _ h).2.2 with h1 | h1
   ·omega
   ·exact absurd h1.2 hD
 have zd:ι.ob d s.next=none:=by
  cases h:ι.ob d s.next with
  | none=>rfl
  | some b =>
   rcases (R.obs _ _ _ h).2 with h1 | h1
   ·omega
   ·exact absurd h1.2 hD
 have hnd:¬ (t=d/\n=s.next):=fun e=>by rw [e.1,e.2,wd] at hp; cases hp
 obtain ⟨ι',hι'⟩:∃ ι':Ix,ι'=⟨fun t' n'=>if t'=d/\n'=s.next then some g else ι t' n',fun t' n'=>if t'=t/\n'=n then some H' else ι.ob t' n',fun b=>if b=g then cur.size else ι.z b⟩:=⟨_,rfl⟩;have hf:∀ t' n' b,ι' t' n'=some b->(t'=d/\n'=s.next/\b=g)\/(¬ (t'=d/\n'=s.next)/\ι t' n'=some b):=fun t' n' b h=>by
  subst hι';have h':(if t'=d/\n'=s.next then some g else ι t' n')=some b:=h;split at h'
  ·rename_i e; injection h' with h'; exact .inl ⟨e.1,e.2,h'.symm⟩
  ·rename_i e; exact .inr ⟨e,h'⟩
 have uh:∀ t' n' H1,ι'.ob t' n'=some H1->(t'=t/\n'=n/\H1=H')\/(¬ (t'=t/\n'=n)/\ι.ob t' n'=some H1):=fun t' n' H1 h=>by
  subst hι';simp only at h;split at h
  ·rename_i e; injection h with h; exact .inl ⟨e.1,e.2,h.symm⟩
  ·rename_i e; exact .inr ⟨e,h⟩
 have tc:∀ t n b,ι t n=some b->ι' t n=some b:=fun t n b h=>by
  subst hι';show (if t=d/\n=s.next then some g else ι t n)=some b;split
  ·rename_i e; rw [e.1,e.2,wd] at h; cases h
  ·exact h
 have wb:ι' d s.next=some g:=by subst hι'; show (if d=d/\s.next=s.next then some g else ι d s.next)=_; rw [if_pos ⟨rfl,rfl⟩]
 have bw:ι'.ob t n=some H':=by subst hι'; simp
 have rt:∀ t' n',¬ (t'=t/\n'=n)->ι'.ob t' n'=ι.ob t' n':=fun t' n' e=>by subst hι'; simp only [if_neg e]
 have hzg:ι'.z g=cur.size:=by subst hι'; simp
 have rg:∀ t1 n1 b1 H1,ι t1 n1=some b1->ι.ob t1 n1=some H1->ι' t1 n1=some b1/\∃ H2,ι'.ob t1 n1=some H2:=fun t1 n1 b1 H1 g1 g2=>⟨tc _ _ _ g1,by
  by_cases e:t1=t/\n1=n
  ·exact ⟨H',by rw [e.1,e.2]; exact bw⟩
  ·exact ⟨H1,by rw [rt _ _ e]; exact g2⟩⟩
 have sb:Ix.Le ι ι':=⟨tc,fun t n b h=>by
  have:=(R.mine t n b h).2.1;subst hι';show (if b=g then cur.size else ι.z b)=ι.z b;rw [if_neg (by omega)]⟩
 clear hι';have ic:=hk.size;have jr:=R.lowB;have oi:∀ b o,b<w.heap.size->RC ι' Θ b o->RC ι Θ b o:=fun b o hb h=>h.imp (fun h=>h.imp (fun ⟨t',n',h⟩=>by
  rcases hf _ _ _ h with ⟨_,_,e⟩ | ⟨_,h⟩
  ·omega
  ·exact ⟨t',n',h⟩) fun ⟨t',n',H1,h1,h2⟩=>by
  rcases uh _ _ _ h1 with ⟨e1,e2,e3⟩ | ⟨_,h1⟩
  ·subst e3;rcases hH b h2 with h3 | h3
   ·exact ⟨t,n,H,nb,h3⟩
   ·omega
  ·exact ⟨t',n',H1,h1,h2⟩) id
 have rb:∀ b o u,w.cell? ⟨b,o,none⟩=some u->¬ H b->w'.cell? ⟨b,o,none⟩=some u:=fun b o u hc hn=>(World.cell?_of_block (w:=w) (a:=⟨b,o,none⟩) (hk.block b (cI hc) hn)).trans hc
 have hB:BA (RC ι Θ) (RC ι' Θ) w w':=⟨fun b o u hc hn=>⟨rb b o u hc fun h=>hn (.inl (.inr ⟨t,n,H,nb,h⟩)),fun h=>hn (oi b o (cI hc) h)⟩⟩;have hA:BA (EC da ι Θ) (EC da ι' Θ) w w':=⟨fun b o u hc hn=>⟨rb b o u hc fun h=>hn (.inr (.inl (.inr ⟨t,n,H,nb,h⟩))),fun h=>hn (h.imp id (oi b o (cI hc)))⟩⟩;refine ⟨ι',⟨R.defers,R.size,fun j=>MA.held sb hA hB _ _ (R.env j),R.ann,fun t' n' r hr=>?_,fun t' n' b h=>?_,fun t1 n1 t2 n2 b h h'=>?_,fun k o h=>?_,R.tinj,fun k o t' n' h h'=>?_,R.out,fun p' h=>⟨tc _ _ _ (R.pin p' h).1,?_⟩,?_,R.base,fun t' n' S1 h=>?_,fun t' n' H1 h=>?_,fun j=>MA.held sb hA hB _ _ (R.gen j),R.gann⟩,wb,hzg⟩
 ·simp only [pA.setRow] at hr;split at hr
  ·rename_i e;injection hr with hr;subst hr;have hoo:ι'.ob t' n'=none:=by
    rw [rt t' n' (fun e'=>hnd ⟨e'.1.symm.trans e.1,e'.2.symm.trans e.2⟩),e.1,e.2];exact zd
   refine ⟨hoo,g,cur,ty,by rw [e.1,e.2]; exact wb,hgw,⟨by simpa using kj,fun j x hx=>?_⟩,by omega,hzg.symm⟩;rw [yc] at hx;cases hj:l[j]? with
   | none=>rw [hj] at hx; cases hx
   | some y =>
    rw [hj] at hx;injection hx with hx;subst hx;have hy:=y5.1 hl y (yk hj);have hr:=PN (av:=EC da ι' Θ) (w:=w') hy;exact ⟨_,ae j y hj,hr.2,FK hr.1,trivial⟩
  ·have ze:s.mem t' n'=some r:=hr;obtain ⟨h0,b,lb,pp,h1,h2,h3,h8,h9⟩:=R.rows t' n' r ze;have oa:¬ (t'=t/\n'=n):=fun e=>by rw [e.1,e.2,nb] at h0; cases h0
   have hbn:¬ H b:=fun hb=>oa ((nn b hb).2.2.1 t' n' h1)
   exact ⟨by rw [rt _ _ oa]; exact h0,b,lb,pp,tc _ _ _ h1,(hk.block b (OA h2) hbn).trans h2,h3.held sb hA (fun _ _ h=>h),h8,h9.trans (sb.z _ _ _ h1).symm⟩
 ·rcases hf _ _ _ h with ⟨e1,e2,e3⟩ | ⟨_,h⟩
  ·subst e3;exact ⟨.inl (by omega),gw,.inr ⟨e2,.inr e1⟩⟩
  ·obtain ⟨h1,h2,h3⟩:=R.mine t' n' b h;exact ⟨h1,by omega,h3.imp id fun ⟨e,d⟩=>⟨e,.inl d⟩⟩
 ·rcases hf _ _ _ h with ⟨e1,e2,e3⟩ | ⟨_,h⟩ <;> rcases hf _ _ _ h' with ⟨f1,f2,f3⟩ | ⟨_,h'⟩
  ·exact ⟨e1.trans f1.symm,e2.trans f2.symm⟩
  ·have:=(R.mine _ _ _ h').2.1; omega
  ·have:=(R.mine _ _ _ h).2.1; omega
  ·exact R.inj _ _ _ _ _ h h'
 ·obtain ⟨h1,h2,h3,h4,lb,h5,h6⟩:=R.tok k o h;exact ⟨h1,h2,h3,h4,lb,(hk.block _ (OA h5) (R.apob h nb)).trans h5,h6⟩
 ·obtain ⟨_,_,_,_,lb,h5,_⟩:=R.tok k o h;have fa:=OA h5;rcases hf _ _ _ h' with ⟨_,_,e⟩ | ⟨_,h'⟩
  ·omega
  ·exact R.apart k o t' n' h h'
 ·rcases (R.pin p' h).2 with hr0 | ⟨H1,h1⟩
  ·exact .inl ⟨hr0.1,(sb.z _ _ _ (R.pin p' h).1).trans hr0.2⟩
  refine .inr ?_;by_cases e:0=t/\0=n
  ·exact ⟨H',by rw [<- e.1,<- e.2] at bw; exact bw⟩
  ·exact ⟨H1,by rw [rt _ _ e]; exact h1⟩
 ·refine R.kept.trans hk fun i hi h=>?_
  have:=R.base;rcases (nn i h).1 with h1 | h1
  ·omega
  ·exact h1
 ·simp only [pA.setRow,pA.setObj] at h;split at h
  ·rename_i e;injection h with h;subst h;exact ⟨p,H',by rw [e.1,e.2]; exact tc _ _ _ hp,by rw [e.1,e.2]; exact bw,wc,tj.keep rg fun x hx=>hx⟩
  ·rename_i e;obtain ⟨p1,H1,h1,h2,h3,h4⟩:=R.objs t' n' S1 h;have so:∀ b,H1 b->¬ H b:=fun b hb ua=>e ((nn b ua).2.2.2.2 t' n' H1 h2 hb)
   exact ⟨p1,H1,tc _ _ _ h1,by rw [rt _ _ e]; exact h2,O.keep h3 (fun b hb=>hk.block b (O.lt h3 hb) (so b hb)) ic,h4.keep rg fun x hx=>(hk.block _ (OA hx) (so _ (O.main h3))).trans hx⟩
 ·rcases uh _ _ _ h with ⟨e1,e2,e3⟩ | ⟨e,h⟩
  ·subst e1; subst e2; subst e3;refine ⟨fun b hb=>?_,pt.imp id fun ⟨e,d⟩=>⟨e,.inl d⟩⟩;have hbg:b≠g:=fun e=>hgH (e ▸ hb)
   rcases hH b hb with h1 | h1
   ·obtain ⟨g1,g2,g3,g4,g5⟩:=nn b h1;refine ⟨g1,by omega,fun t1 n1 h2=>?_,g4,fun t1 n1 H2 h2 h3=>?_⟩
    ·rcases hf _ _ _ h2 with ⟨_,_,e⟩ | ⟨_,h2⟩
     ·exact absurd e hbg
     ·exact g3 t1 n1 h2
    ·rcases uh _ _ _ h2 with ⟨e1,e2,_⟩ | ⟨_,h2⟩
     ·exact ⟨e1,e2⟩
     ·exact g5 t1 n1 H2 h2 h3
   ·refine ⟨.inl (by omega),O.lt wc hb,fun t1 n1 h2=>?_,fun k o h2 e=>?_,fun t1 n1 H2 h2 h3=>?_⟩
    ·rcases hf _ _ _ h2 with ⟨_,_,e⟩ | ⟨_,h2⟩
     ·exact absurd e hbg
     ·have:=(R.mine _ _ _ h2).2.1; omega
    ·obtain ⟨_,_,_,_,lb,h5,_⟩:=R.tok k o h2; have:=OA h5; omega
    ·rcases uh _ _ _ h2 with ⟨e1,e2,_⟩ | ⟨_,h2⟩
     ·exact ⟨e1,e2⟩
     ·have:=((R.obs _ _ _ h2).1 b h3).2.1; omega
  ·obtain ⟨h1,h2⟩:=R.obs t' n' H1 h;refine ⟨fun b hb=>?_,h2.imp id fun ⟨e,d⟩=>⟨e,.inl d⟩⟩;obtain ⟨g1,g2,g3,g4,g5⟩:=h1 b hb;refine ⟨g1,by omega,fun t1 n1 h2=>?_,g4,fun t1 n1 H2 h2 h3=>?_⟩
   ·rcases hf _ _ _ h2 with ⟨_,_,e'⟩ | ⟨_,h2⟩
    ·omega
    ·exact g3 t1 n1 h2
   ·rcases uh _ _ _ h2 with ⟨e1,e2,e3⟩ | ⟨_,h2⟩
    ·subst e3;rcases hH b h3 with h4 | h4
     ·have:=g5 t n H nb h4;exact absurd ⟨this.1.symm,this.2.symm⟩ e
     ·omega
    ·exact g5 t1 n1 H2 h2 h3
theorem op_callf {call:aB} (wa:∀ f args S r,call f args S=some r->rD P O f args S r) {f:FuncId} {Xs:Array Operand} {ts:Array TypeId} {xs:List FB} (hx:MG Xs.toList=some xs) (ho:o.op=.call { callee:=.value (.func f),args:=Xs,argTypes:=ts }) (hd:∀ d,o.dst=some d->d<nt) (hD:∀ d,o.dst=some d->¬ D d) {cl:Cl} {sz:Nat} (ic:0<sz) {xe:qA × tD} (hr:(K.callf cl f sz xs).run call s=some xe) {g} {s':pA} (he:EA.eff ⟨o.dst,.callf cl f sz xs,g⟩ s xe=some s')
  {Kn:Act->World->Prop} {Q:Exit->Act->World->Prop} (hK:∀ a' w',QD P O nt B F0 da w0 (fun t=>D t\/o.dst=some t) s' a' w'->Kn a' w'):o.wp P a w Kn Q:=by
 simp only [K.run] at hr;obtain ⟨vs,hl,hr⟩:=y7.1 hr;have ld:(Xs.toList.map a.eval).toArray=Xs.map a.eval:=by rw [<- Array.toList_map,yX]
 have oe:∀ b o,EC da ι Θ b o->b<w.heap.size:=fun b o h=>R.low h
 split at hr
 ·rename_i t n sj;obtain ⟨r,hc,hr⟩:=y7.1 hr;split at hr
  ·rename_i l S';split at hr
   ·rename_i aa;obtain ⟨il,ud,hscal,hni⟩:=aa;obtain ⟨S,hS⟩:=Option.isSome_iff_exists.1 il;rw [hS] at hc;have la:D1 P O f vs (some S) (.sl false l,some S'):=rD.own (MP hl) (wa f (.undef :: vs) (some S) _ hc);obtain ⟨p,H,hp,nb,wc,_⟩:=R.objs t n S hS;have oc:=ZK (ι':=Ix.one p) (avl:=fun b _=>H b) R (fun b _ h=>⟨t,n,H,nb,h⟩) hx hl fun x hx t' n' h=>by
     have:(t',n')∈bJ s xs:=List.mem_filterMap.2 ⟨x,hx,by rw [h]⟩;rw [sj] at this;have:=yO.1 this;injection this with e1 e2;rw [e1,e2,hp];rfl
    have ca:(execOp a.eval o).run P w=.ok (.enter f (Xs.map a.eval)) w:=by
     simp only [execOp,ho,resolve,Act.eval,Deferred.ofValue,Sem.run_bind,Sem.run_pure,Result.andThen_ok,invoke];have:=la.1 (#[]++Xs.map a.eval++#[]) w;simp only [Array.empty_append,Array.append_empty] at this ⊢;exact this
    unfold Oper.wp;rw [ca,Oper.upon_enter];have hC:=la.2 (EC da ι Θ) w _ p H oe (fun b o h=>.inr (.inl (.inr ⟨t,n,H,nb,h⟩))) wc oc;rw [ld] at hC;refine hC.mono ?_;rintro e w' ⟨v,H',rfl,hv,ai,hH,hk⟩;split at hr
    ·rename_i mr;injection hr with hr;subst hr;simp only [EA.eff] at he;injection he with he;subst he;have pg:l=[]:=by simpa using mr
     subst pg;obtain ⟨ι',R',sd⟩:=R.turnObj hp nb ai (G3.no hni) hH hk;have hv':∃ A c,v=.slice A 0 c/\(A=none->c=0):=by
      rcases hv with ⟨_,A,c,h1,h2⟩ | ⟨g,c,cur,ty,h1,_⟩
      ·exact ⟨A,c,h1,h2⟩
      ·exact ⟨_,c,h1,fun h=>by cases h⟩
     obtain ⟨A,c,rfl,hA⟩:=hv';refine hK _ _ ⟨ι',Θ,(R'.putN (x:=⟨.sl false [],.no⟩) hd ?_ trivial).more fun _ h=>.inl h⟩;rw [mD];simp only [oE,List.length_nil];exact ⟨A,c,rfl,Nat.zero_le _,(fun x hx=>by cases hx),(fun h=>by cases h),fun _=>⟨hA,fun h=>absurd h (Nat.lt_irrefl 0)⟩⟩
    ·rename_i mr;injection hr with hr;subst hr;cases ba:o.dst with
     | none=>simp [EA.eff,ba] at he
     | some d =>
      simp only [EA.eff,ba] at he;injection he with he;subst he;have oa:l≠[]:=fun h=>mr (by simp [h])
      have db:0<l.length:=List.length_pos_iff.2 oa;rcases hv with ⟨h0,_⟩ | ⟨g,c,cur,ty,rfl,h2,h3,h4,h5,h6,h7⟩
      ·exact absurd h0 oa
      ·have tp:=h6 sz ud db;have kh:l.flatten.length=l.length * sz:=by
        have hind:∀ q:List (List AV),gB sz q=true->q.flatten.length=q.length * sz:=fun q=>by
         induction q with
         | nil=>simp
         | cons c r ih =>
          intro h;rw [aR] at h;simp only [y8,decide_eq_true_eq] at h;rw [yF,yp,ih h.2,h.1,yE,yu];omega
        exact hind l ud
       have hsc:l.flatten.all AV.scal=true:=by
        rw [List.all_flatten];exact hscal
       obtain ⟨ι',R',hι,hz⟩:=R.turnNew (d:=d) (g:=g) hp nb ai (G3.no hni) hH hk (hD d ba) h2 h3 h4 hsc h7 (by rw [kh]; exact yC (Y00 _ h5) tp);refine hK _ _ ⟨ι',Θ,?_⟩;rw [ba];exact (R'.put (x:=⟨.ref d s.next sz 0 l.length l.length,.no⟩) (hd d ba) ⟨g,hι,yn _,c,h5,by rw [hz,yH]; exact tp,rfl⟩ trivial).more fun t h=>h.imp id fun e=>by rw [e]
   ·cases hr
  ·cases hr
 ·cases hr
end
end
end
section
open Go Go.RowKit
section
variable {P:Program} {O:uH} {nt B:Nat} {F0:SO} {da:Av} {w0:World} {D:Nat->Prop} {s:pA} {a:Act} {w w':World} {ι:Ix} {Θ:NK} {o:Oper}
theorem NB (R:MB P O nt B F0 da w0 D s a w ι Θ) {x:qA} {e:tD} (hv:e=.none/\KR P da a w ι Θ o x) (hd:∀ d,o.dst=some d->d<nt) {k:K} {g} {s':pA} (he:EA.eff ⟨o.dst,k,g⟩ s (x,e)=some s')
  {Kn:Act->World->Prop} {Q:Exit->Act->World->Prop} (hK:∀ a' w',QD P O nt B F0 da w0 D s' a' w'->Kn a' w'):o.wp P a w Kn Q:=by
 obtain ⟨rfl,v,ca,hS,hA⟩:=hv;simp only [EA.eff] at he;cases he;unfold Oper.wp;rw [ca,Oper.upon_value];exact hK _ _ ⟨ι,Θ,R.putN hd hS hA⟩
theorem run_wp {s':pA} (h:∃ v w',(execOp a.eval o).run P w=.ok (.value v) w'/\QD P O nt B F0 da w0 D s' (a.put o.dst v) w')
  {Kn:Act->World->Prop} {Q:Exit->Act->World->Prop} (hK:∀ a' w',QD P O nt B F0 da w0 D s' a' w'->Kn a' w'):o.wp P a w Kn Q:=by
 obtain ⟨v,w',ca,hR⟩:=h;unfold Oper.wp;rw [ca,Oper.upon_value];simp_all
theorem BC {α β:Type} {x:Option α} {f:α->β} {z:β} (h:x.map f=some z):∃ a,x=some a/\f a=z:=by
 simp_all
theorem opd_one {xs:Array Operand} {x':FB} (hx:MG xs.toList=some [x']):∃ X,xs=#[X]/\opd X=some x':=by
 obtain ⟨l⟩:=xs
 match l,hx with
 | [X],hx =>
  unfold MG at hx
  grind
 | [],hx=>simp [MG] at hx
 | X :: Y :: r,hx =>
  unfold MG at hx;split at hx
  ·rename_i y l hy hl;injection hx with hx;injection hx with h1 h2;subst h2;unfold MG at hl
   grind
  ·cases hx
theorem op_sound (R:MB P O nt B F0 da w0 D s a w ι Θ) {call:aB} (wa:∀ f args S r,call f args S=some r->rD P O f args S r) {cl:Cl} {mu:Option Bool} {nest:Bool} {k:K} (hk:A9 P cl mu o.op nest=some k) (jn:mu≠none->o.dst≠none) (hd:∀ d,o.dst=some d->d<nt) (hD:∀ d,o.dst=some d->(isA k||KT k)=true->¬ D d)
  {xe:qA × tD} (hr:k.run call s=some xe) {g} {s':pA} (he:EA.eff ⟨o.dst,k,g⟩ s xe=some s')
  {Kn:Act->World->Prop} {Q:Exit->Act->World->Prop} (hK:∀ a' w',QD P O nt B F0 da w0 (fun t=>D t\/o.dst=some t) s' a' w'->Kn a' w'):o.wp P a w Kn Q:=by
 have rd:∀ a' w',QD P O nt B F0 da w0 D s' a' w'->Kn a' w':=fun a' w' ⟨ι',Θ',h⟩=>hK a' w' ⟨ι',Θ',h.more fun _ h=>.inl h⟩
 have wb:∀ d,o.dst=some d->(∃ v w',(execOp a.eval o).run P w=.ok (.value v) w'/\QD P O nt B F0 da w0 (fun t=>D t\/t=d) s' (a.put o.dst v) w')->o.wp P a w Kn Q:=fun d ba h =>
  run_wp h fun a' w' ⟨ι',Θ',h⟩=>hK a' w' ⟨ι',Θ',h.more fun t h=>h.imp id fun e=>by rw [ba,e]⟩
 obtain ⟨x,e⟩:=xe;cases eb:o.op <;> rw [eb] at hk <;> simp only [A9] at hk
 case move X=>obtain ⟨y,hy,rfl⟩:=BC hk; simp only [K.run] at hr; injection hr with hr; injection hr with h1 h2; subst h1; subst h2; exact NB R ⟨rfl,val_mv R hy (.inl eb)⟩ hd he rd
 case assign X=>obtain ⟨y,hy,rfl⟩:=BC hk; simp only [K.run] at hr; injection hr with hr; injection hr with h1 h2; subst h1; subst h2; exact NB R ⟨rfl,val_mv R hy (.inr eb)⟩ hd he rd
 case pick C X Y =>
  split at hk
  ·rename_i c x' y' hc hx hy;cases hk;simp only [K.run] at hr;split at hr
   ·rename_i t ht;injection hr with hr; injection hr with h1 h2; subst h1; subst h2;exact NB R ⟨rfl,val_pick R hc hx hy eb ht⟩ hd he rd
   ·cases hr
  ·cases hk
 case alloc t =>
  split at hk
  case h_2 =>
   obtain ⟨el,lc,rfl⟩:=BC hk;simp only [K.run] at hr;injection hr with hr; injection hr with h1 h2; subst h1; subst h2;cases ba:o.dst with
   | none=>simp [EA.eff,ba] at he
   | some d =>
    simp only [EA.eff,ba] at he;cases he;exact wb d ba (op_mkb R lc eb ba (hd d ba) (hD d ba rfl))
  obtain ⟨z,hz,rfl⟩:=BC hk;cases ba:o.dst with
  | none=>simp [K.run] at hr; obtain ⟨rfl,rfl⟩:=hr; simp [EA.eff,ba] at he
  | some d=>exact wb d ba (op_alloc R hz eb ba (hd d ba) (hD d ba rfl) hr he)
 case box t X =>
  split at hk
  ·rename_i z x' hz hx;cases hk;cases ba:o.dst with
   | none =>
    simp only [K.run] at hr;split at hr
    ·split at hr
     ·injection hr with hr; injection hr with h1 h2; subst h1; subst h2; simp [EA.eff,ba] at he
     ·cases hr
    ·split at hr
     ·injection hr with hr; injection hr with h1 h2; subst h1; subst h2; simp [EA.eff,ba] at he
     ·cases hr
   | some d=>exact wb d ba (op_boxE R hx eb ba (hd d ba) (hD d ba rfl) hr he)
  ·cases hk
 case build t ps =>
  split at hk
  ·rename_i fs z ys ht hz hy;split at hk
   ·rename_i pl wo;obtain ⟨zs,zj,rfl⟩:=BC hk;obtain ⟨zv,i,hi,zm,_,hl⟩:=QG hz w;refine NB R (I1 R hl (pl:=(pl.toArray[·]?)) ?_ hy zj eb hr) hd he rd;simp [Program.built,hi,ht,zm,wo]
   ·cases hk
  ·rename_i n el z ys ht hz hy;split at hk
   ·rename_i ie bg;obtain ⟨zs,zj,rfl⟩:=BC hk;obtain ⟨zv,i,hi,zm,_,hl⟩:=QG hz w;refine NB R (I1 R hl (pl:=fun i=>some (i * ie.size,ie.size)) ?_ hy zj eb hr) hd he rd;simp [Program.built,hi,ht,zm,bg]
   ·cases hk
  ·cases hk
 case buildSlice t n ps =>
  split at hk
  ·rename_i el ys ht hy;split at hk
   ·rename_i z kk hz hs;split at hk
    ·rename_i hc;cases mu with
     | none =>
      simp only at hk;cases hk;obtain ⟨rfl,v,w',ca,R',hS,hA⟩:=op_bsl R ht hz hs hc.1 hc.2.1 hc.2.2 hy eb hr;simp only [EA.eff] at he;cases he;unfold Oper.wp;rw [ca,Oper.upon_value];exact rd _ _ ⟨ι,Θ,R'.putN hd hS hA⟩
     | some m =>
      simp only at hk;cases hk;cases ba:o.dst with
      | none=>exact absurd ba (jn (by simp))
      | some d=>exact wb d ba (op_bslr R ht hz hs hc.1 hc.2.1 hc.2.2 hy eb ba (hd d ba) (hD d ba rfl) hr he)
    ·cases hk
   ·cases hk
  ·cases hk
 case load t X =>
  split at hk
  ·rename_i ag z y hA hz hx;cases hk;exact NB R (val_load R hA hz hx eb hr) hd he rd
  ·cases hk
 case store t X Y =>
  split at hk
  ·rename_i ag z x' y' hA hz hx hy;split at hk
   ·rename_i my;cases hk;obtain ⟨w',ca,hR⟩:=op_store R hz (by simpa using my) hx hy eb hd hr he;unfold Oper.wp;rw [ca,Oper.upon_skip];simp_all
   ·cases hk
  ·cases hk
 case nilCheck X=>obtain ⟨y,hy,rfl⟩:=BC hk; exact NB R (val_nilchk R hy eb hr) hd he rd
 case binOp op t X Y t' =>
  split at hk
  ·rename_i x' y' hx hy;split at hk
   ·cases hk;simp only [K.run] at hr;obtain ⟨v,hv,hr⟩:=BC hr;injection hr with h1 h2; subst h1; subst h2
    refine NB R ⟨rfl,val_bin R (fun hb=>?_) hx hy eb hv⟩ hd he rd
    grind
   ·split at hk
    ·split at hk
     ·rename_i el ht; injection hk with hk; subst hk; exact NB R (sW R (neg:=false) (ptr:=false) ⟨el,ht⟩ hx hy eb hr) hd he rd
     ·rename_i el ht; injection hk with hk; subst hk; exact NB R (sW R (neg:=false) (ptr:=true) ⟨el,ht⟩ hx hy eb hr) hd he rd
     ·obtain ⟨ks,ht,rfl⟩:=BC hk; exact NB R (val_eqa R (neg:=false) ht hx hy eb hr) hd he rd
    ·split at hk
     ·rename_i el ht; injection hk with hk; subst hk; exact NB R (sW R (neg:=true) (ptr:=false) ⟨el,ht⟩ hx hy eb hr) hd he rd
     ·rename_i el ht; injection hk with hk; subst hk; exact NB R (sW R (neg:=true) (ptr:=true) ⟨el,ht⟩ hx hy eb hr) hd he rd
     ·obtain ⟨ks,ht,rfl⟩:=BC hk; exact NB R (val_eqa R (neg:=true) ht hx hy eb hr) hd he rd
    ·cases hk
  ·cases hk
 case unOp op t X =>
  split at hk
  ·obtain ⟨y,hy,rfl⟩:=BC hk; exact NB R (val_un R hy eb hr) hd he rd
  ·cases hk
 case convert t t' X =>
  split at hk
  ·rename_i j kk x' h1 h2 hx; injection hk with hk; subst hk; exact NB R (w9 R (k:=some kk) ⟨⟨j,h1⟩,h2⟩ hx eb hr) hd he rd
  ·rename_i x' h1 h2 hx; injection hk with hk; subst hk; exact NB R (w9 R (k:=none) ⟨h1,h2⟩ hx eb hr) hd he rd
  ·rename_i j x' h1 h2 hx; injection hk with hk; subst hk; exact NB R (val_rstr R h1 h2 hx eb hr) hd he rd
  ·rename_i el x' h1 h2 hx;split at hk
   ·rename_i h3;split at hk
    ·injection hk with hk; subst hk; exact NB R (val_bstr R h1 h3 h2 hx eb hr) hd he rd
    ·cases hk
   ·cases hk
  ·cases hk
 case makeSlice t L C =>
  split at hk
  ·rename_i el l c ht hl hc;split at hk
   ·rename_i z i hz hi;split at hk
    ·rename_i aa;cases hk;cases ba:o.dst with
     | none =>
      simp only [K.run] at hr;split at hr
      ·split at hr
       ·injection hr with hr; injection hr with h1 h2; subst h1; subst h2; simp [EA.eff,ba] at he
       ·cases hr
      ·cases hr
     | some d=>exact wb d ba (op_mks R ht hi hz aa.1 hl hc eb ba (hd d ba) (hD d ba rfl) hr he)
    ·cases hk
   ·cases hk
  ·cases hk
 case slice t X L H M =>
  split at hk
  ·rename_i x' l h m hx hl hh hm;split at hk
   ·rename_i ht;cases hk;cases M with
    | none=>injection hm with hm; subst hm; exact NB R (val_slc R (str:=true) ht hx hl hh eb hr) hd he rd
    | some M=>simp only [LV] at hm; obtain ⟨m',_,rfl⟩:=BC hm; simp [K.run] at hr
   ·rename_i el ht;split at hk
    ·rename_i dv;obtain ⟨z,hz,rfl⟩:=BC hk;rw [y8] at dv;exact NB R (val_slz R ht hz dv.1 dv.2 hx eb hr) hd he rd
    ·obtain ⟨z,hz,rfl⟩:=BC hk;cases M with
     | none=>injection hm with hm; subst hm; exact NB R (val_slc R (str:=false) ⟨el,ht,hz⟩ hx hl hh eb hr) hd he rd
     | some M=>simp only [LV] at hm; obtain ⟨m',_,rfl⟩:=BC hm; simp [K.run] at hr
   ·rename_i n' el ht;cases M with
    | none =>
     injection hm with hm; subst hm;obtain ⟨z,hz,rfl⟩:=BC hk;exact NB R (val_aslc R ht hz hx hl hh eb hr) hd he rd
    | some M=>simp only [LV] at hm; obtain ⟨m',_,rfl⟩:=BC hm; cases hk
   ·cases hk
  ·cases hk
 case fieldAddr t X i =>
  split at hk
  ·rename_i fs x' ht hx;split at hk
   ·rename_i f hf;split at hk
    ·rename_i n hn; injection hk with hk; subst hk; exact NB R (val_faddr R ht hf hn hx eb hr) hd he rd
    ·cases hk
   ·cases hk
  ·cases hk
 case field t X i =>
  split at hk
  ·rename_i fs x' ht hx;split at hk
   ·rename_i f hf;split at hk
    ·rename_i ag z hA hz; injection hk with hk; subst hk; exact NB R (val_field R ht hf hA hz hx eb hr) hd he rd
    ·cases hk
   ·cases hk
  ·cases hk
 case indexAddr t X I =>
  split at hk
  ·rename_i el x' i' ht hx hi;obtain ⟨z,hz,rfl⟩:=BC hk;exact NB R (val_iaddr R ht hz hx hi eb hr) hd he rd
  ·rename_i n' e x' i' ht hx hi;obtain ⟨z,hz,rfl⟩:=BC hk;exact NB R (val_aaddr R ht hz hx hi eb hr) hd he rd
  ·cases hk
 case index t X I =>
  split at hk
  ·rename_i x' i' ht hx hi;cases hk;exact NB R (val_index R ht hx hi eb hr) hd he rd
  ·cases hk
 case makeMap t r =>
  split at hk
  ·rename_i kT eT ht;obtain ⟨ty,tb,rfl⟩:=BC hk;simp only [K.run] at hr;injection hr with hr; injection hr with h1 h2; subst h1; subst h2;cases ba:o.dst with
   | none=>simp [EA.eff,ba] at he
   | some d =>
    simp only [EA.eff,ba] at he;cases he;have h:=op_mkm R eb ba (hd d ba) (hD d ba rfl);exact wb d ba h
  ·cases hk
 case entry X =>
  obtain ⟨x',hx,rfl⟩:=BC hk;simp only [K.run] at hr;split at hr
  ·rename_i t' n mc;split at hr
   ·rename_i tm nm N seen hi;split at hr
    ·rename_i L i hL hl;split at hr
     ·rename_i hN;split at hr
      ·rename_i y v ep;split at hr
       ·rename_i kh;injection hr with hr; injection hr with h1 h2; subst h1; subst h2;exact NB R ⟨rfl,val_ent R hx eb mc hi hL hl hN ep kh⟩ hd he rd
       ·cases hr
      ·cases hr
     ·cases hr
    ·cases hr
   ·cases hr
  ·cases hr
 case range t X =>
  split at hk
  ·rename_i kT eT ht;obtain ⟨x',hx,rfl⟩:=BC hk;simp only [K.run] at hr;split at hr
   ·rename_i t' n mc;split at hr
    ·rename_i L hL;injection hr with hr; injection hr with h1 h2; subst h1; subst h2;cases ba:o.dst with
     | none=>simp [EA.eff,ba] at he
     | some d =>
      simp only [EA.eff,ba] at he;cases he;have h:=op_rng R ht hx eb mc hL ba (hd d ba) (hD d ba rfl);exact wb d ba h
    ·cases hr
   ·cases hr
  ·cases hk
 case lookup t X I ok =>
  split at hk
  ·rename_i kT eT x' i' ht hx hi;split at hk
   ·rename_i ty z tb hz;cases hk;simp only [K.run] at hr;split at hr
    ·rename_i t' n mc;split at hr
     ·rename_i L hL;split at hr
      ·rename_i aa;injection hr with hr; injection hr with h1 h2; subst h1; subst h2;unfold rX at tb;split at tb
       ·rename_i kk ub;cases tb;exact NB R ⟨rfl,lX R (XT kk) (F2 ub) ht hz aa.2.2 hx hi eb mc hL aa.1 aa.2.1⟩ hd he rd
       ·rename_i ub;cases tb;exact NB R ⟨rfl,lX R CT (G2 ub) ht hz aa.2.2 hx hi eb mc hL aa.1 aa.2.1⟩ hd he rd
       ·obtain ⟨l,_,tb⟩:=y7.1 tb;split at tb
        ·rename_i kh;cases tb;exact NB R ⟨rfl,lX R (ZT l) (D2 kh.1) ht hz aa.2.2 hx hi eb mc hL aa.1 aa.2.1⟩ hd he rd
        ·cases tb
      ·cases hr
     ·cases hr
    ·cases hr
   ·cases hk
  ·cases hk
 case mapUpdate t X I Y =>
  split at hk
  ·rename_i kT eT x' i' y' ht hx hi hy;obtain ⟨ty,tb,rfl⟩:=BC hk;simp only [K.run] at hr;split at hr
   ·rename_i t' n mc;split at hr
    ·rename_i L hL;split at hr
     ·rename_i aa;injection hr with hr; injection hr with h1 h2; subst h1; subst h2;simp only [EA.eff] at he;cases he;have key:∃ w',(execOp a.eval o).run P w=.ok .skip w'/\QD P O nt B F0 da w0 D ((s.setObj t' n (FG (TG L (i'.get s) (y'.get s)))).put o.dst ⟨.undef,.no⟩) (a.put o.dst undef) w':=by
       unfold rX at tb;split at tb
       ·rename_i kk ub;cases tb;exact QN R (XT kk) (F2 ub) ht hx hi hy (.inl eb) hd mc hL aa.1 aa.2.1 aa.2.2
       ·rename_i ub;cases tb;exact QN R CT (G2 ub) ht hx hi hy (.inl eb) hd mc hL aa.1 aa.2.1 aa.2.2
       ·obtain ⟨l,_,tb⟩:=y7.1 tb;split at tb
        ·rename_i kh;cases tb;exact QN R (ZT l) (D2 kh.1) ht hx hi hy (.inl eb) hd mc hL aa.1 aa.2.1 aa.2.2
        ·cases tb
      obtain ⟨w',ca,hR⟩:=key;unfold Oper.wp;rw [ca,Oper.upon_skip];simp_all
     ·cases hr
    ·cases hr
   ·cases hr
  ·cases hk
 case insert t X I Y =>
  split at hk
  ·rename_i kT eT x' i' y' ht hx hi hy;obtain ⟨ty,tb,rfl⟩:=BC hk;simp only [K.run] at hr;split at hr
   ·rename_i t' n mc;split at hr
    ·rename_i L hL;split at hr
     ·rename_i aa;injection hr with hr; injection hr with h1 h2; subst h1; subst h2;simp only [EA.eff] at he;cases he;have key:∃ w',(execOp a.eval o).run P w=.ok .skip w'/\QD P O nt B F0 da w0 D ((s.setObj t' n (FG (TG L (i'.get s) (y'.get s)))).put o.dst ⟨.undef,.no⟩) (a.put o.dst undef) w':=by
       unfold rX at tb;split at tb
       ·rename_i kk ub;cases tb;exact QN R (XT kk) (F2 ub) ht hx hi hy (.inr eb) hd mc hL aa.1 aa.2.1 aa.2.2
       ·rename_i ub;cases tb;exact QN R CT (G2 ub) ht hx hi hy (.inr eb) hd mc hL aa.1 aa.2.1 aa.2.2
       ·obtain ⟨l,_,tb⟩:=y7.1 tb;split at tb
        ·rename_i kh;cases tb;exact QN R (ZT l) (D2 kh.1) ht hx hi hy (.inr eb) hd mc hL aa.1 aa.2.1 aa.2.2
        ·cases tb
      obtain ⟨w',ca,hR⟩:=key;unfold Oper.wp;rw [ca,Oper.upon_skip];simp_all
     ·cases hr
    ·cases hr
   ·cases hr
  ·cases hk
 case extract X i=>obtain ⟨y,hy,rfl⟩:=BC hk; exact NB R (val_ext R hy eb hr) hd he rd
 case call c =>
  obtain ⟨callee,xs,ts⟩:=c;cases callee with
  | invoke r m=>cases hk
  | value f =>
   cases f with
   | func f =>
    have plain:(MG xs.toList).map (.call cl f)=some k->o.wp P a w Kn Q:=fun hk=>by
     obtain ⟨ys,hy,rfl⟩:=BC hk;exact op_call R wa hy eb hd (fun d h=>hD d h rfl) hr he hK
    cases mu with
    | none=>exact plain hk
    | some b =>
     cases b with
     | true =>
      obtain ⟨ys,hy,rfl⟩:=BC (show (MG xs.toList).map (.callr cl f)=some k from hk);exact op_callr R wa hy eb hd hr he hK
     | false =>
      have zc:(match P.funcs[f]? with
       | some fn=>(match fn.resultTypes.toList with
        | [t]=>(match P.underlying t with
         | some (.slice e)=>(match wC P e,MG xs.toList with
          | some z,some xs=>if 0<z then some (K.callf cl f z xs) else none
          | _,_=>none)
         | _=>none)
        | _=>none)
       | none=>none)=some k:=hk
      clear hk;split at zc
      ·split at zc
       ·split at zc
        ·split at zc
         ·rename_i z ys hz hy;split at zc
          ·rename_i db;injection zc with zc;subst zc;exact op_callf R wa hy eb hd (fun d h=>hD d h rfl) db hr he hK
          ·cases zc
         ·cases zc
        ·cases zc
       ·cases zc
      ·cases zc
   | tmp tf =>
    obtain ⟨ys,hy,rfl⟩:=BC hk;exact op_callv R wa hy eb hd hr he hK
   | _=>cases hk
  | builtin b =>
  cases b
  case len =>
   simp only at hk;split at hk
   ·rename_i x' t hx jl;have hts:ts=#[t]:=by have h0:=congrArg List.toArray jl; rwa [yX] at h0
    subst hts;obtain ⟨X,hX,wj⟩:=opd_one hx;subst hX;split at hk
    ·rename_i ht; injection hk with hk; subst hk; exact NB R (val_len R (str:=true) ht wj eb hr) hd he rd
    ·rename_i el ht; injection hk with hk; subst hk; exact NB R (val_len R (str:=false) ⟨el,ht⟩ wj eb hr) hd he rd
    ·rename_i kT eT ht;cases hk;simp only [K.run] at hr;split at hr
     ·rename_i t n mc;split at hr
      ·rename_i L hL;injection hr with hr; injection hr with h1 h2; subst h1; subst h2;exact NB R ⟨rfl,op_mlen R ht wj eb mc hL⟩ hd he rd
      ·cases hr
     ·cases hr
    ·cases hk
   ·cases hk
  case clear =>
   simp only at hk;split at hk
   ·rename_i x' t hx jl;have hts:ts=#[t]:=by have h0:=congrArg List.toArray jl; rwa [yX] at h0
    subst hts;obtain ⟨X,hX,wj⟩:=opd_one hx;subst hX;split at hk
    ·rename_i el ht;obtain ⟨z,hz,rfl⟩:=BC hk;exact run_wp (op_clr R ht hz wj eb hd hr he) rd
    ·cases hk
   ·cases hk
  case max =>
   simp only at hk;split at hk
   ·rename_i X Y ge;have hX:xs=#[X,Y]:=by rw [<- yX (xs:=xs),ge]
    subst hX;split at hk
    ·rename_i x' y' hx hy;injection hk with hk; subst hk;simp only [K.run] at hr;obtain ⟨v,hv,hr⟩:=BC hr;injection hr with h1 h2; subst h1; subst h2;exact NB R ⟨rfl,val_mm R (mx:=true) hx hy eb hv⟩ hd he rd
    ·cases hk
   ·cases hk
  case min =>
   simp only at hk;split at hk
   ·rename_i X Y ge;have hX:xs=#[X,Y]:=by rw [<- yX (xs:=xs),ge]
    subst hX;split at hk
    ·rename_i x' y' hx hy;injection hk with hk; subst hk;simp only [K.run] at hr;obtain ⟨v,hv,hr⟩:=BC hr;injection hr with h1 h2; subst h1; subst h2;exact NB R ⟨rfl,val_mm R (mx:=false) hx hy eb hv⟩ hd he rd
    ·cases hk
   ·cases hk
  case append =>
   simp only at hk;split at hk
   ·rename_i x' y' t t' hx jl;split at hk
    ·rename_i htt';subst htt';have hts:ts=#[t,t]:=by have h0:=congrArg List.toArray jl; rwa [yX] at h0
     subst hts;obtain ⟨X,Y,hX,wj,ku⟩:∃ X Y,xs=#[X,Y]/\opd X=some x'/\opd Y=some y':=by
      obtain ⟨l⟩:=xs;have key:∀ {r:List Operand} {ys:List FB},MG r=some ys->r.length=ys.length/\∀ j (h:j<r.length),opd r[j]=ys[j]?:=by
       intro r
       induction r with
       | nil=>intro ys h; injection h with h; subst h; exact ⟨rfl,fun j h=>by simp at h⟩
       | cons X r ih =>
        intro ys h;unfold MG at h
        grind
      obtain ⟨h1,h2⟩:=key hx
      match l,h1,h2 with
      | [X,Y],_,h2=>exact ⟨X,Y,rfl,h2 0 (by simp),h2 1 (by simp)⟩
     subst hX;split at hk
     ·rename_i el ht;split at hk
      ·rename_i i z hi hz;split at hk
       ·rename_i aa;injection hk with hk;cases mu with
        | some m =>
         cases ba:o.dst with
         | none=>exact absurd ba (jn (by simp))
         | some d =>
          cases m with
          | true =>
           cases nest with
           | true=>simp only [if_true] at hk; subst hk; exact wb d ba (b3 R ht hi hz aa.1 aa.2 wj ku eb ba (hd d ba) (hD d ba rfl) hr he)
           | false=>simp only [yq,if_false] at hk; subst hk; exact wb d ba (op_appm R ht hi hz aa.1 aa.2 wj ku eb ba (hd d ba) (hD d ba rfl) hr he)
          | false=>simp only at hk; subst hk; exact wb d ba (op_appf R ht hi hz aa.1 aa.2 wj ku eb ba (hd d ba) (hD d ba rfl) hr he)
        | none =>
        simp only at hk;subst hk;cases ba:o.dst with
        | none =>
         have:∃ A,e=.app A 0:=by
          simp only [K.run] at hr
          grind
         obtain ⟨A,rfl⟩:=this;simp [EA.eff,ba] at he
        | some d=>exact run_wp (op_app R ht hi hz aa.1 aa.2 wj ku eb ba (hd d ba) hr he) rd
       ·cases hk
      ·cases hk
     ·cases hk
    ·cases hk
   ·cases hk
  all_goals cases hk
 case makeFunc fn fs Xs =>
  cases fn with
  | func f =>
   simp only at hk;split at hk
   ·rename_i h0;obtain ⟨ys,hy,rfl⟩:=BC hk;exact NB R (val_mkf R h0 hy eb hr) hd he rd
   ·cases hk
  | _=>cases hk
 all_goals cases hk
end
end
section
section
variable {call:aB} {s s' s1 s2:pA}
inductive Tr where
 | id
 | row (t n:Nat) (r:List qA)
 | an (A:An) (d:Nat)
 | obj (t n:Nat) (S:AV)
 | rn (k:Option (Nat × Nat)) (t n:Nat) (r:List qA)
 | ob2 (t n:Nat) (S:AV) (d m:Nat) (r:List qA)
def Tr.ap:Tr->pA->pA
 | .id,s=>s
 | .row t n r,s=>s.setRow t n r
 | .an A d,s=>(s.stripA A).strip d
 | .obj t n S,s=>s.setObj t n S
 | .rn k t n r,s=>(s.killO k).setRow t n r
 | .ob2 t n S d m r,s=>(s.setObj t n S).setRow d m r
def Tr.f:Tr->An->An
 | .an A d,x=>match A with
  | .own k _=>(x.strip k).strip d
  | _=>x.strip d
 | _,x=>x
theorem Tr.ends (T:Tr):K3 T.f:=by
 cases T with
 | an A d =>
  have h:∀ k j e,(An.own j e).strip k≠.ex:=fun k j e=>by simp only [An.strip]; split <;> simp
  have h':∀ k k' j e,((An.own j e).strip k).strip k'≠.ex:=fun k k' j e=>by
   by_cases hj:j=k
   ·simp [An.strip,hj]
   ·rw [show (An.own j e).strip k=An.own j e from if_neg hj];exact h k' j e
  cases A with
  | own k e=>exact ⟨rfl,rfl,fun j e=>h' k d j e⟩
  | no=>exact ⟨rfl,rfl,fun j e=>h d j e⟩
  | ex=>exact ⟨rfl,rfl,fun j e=>h d j e⟩
 | _=>exact ⟨rfl,rfl,fun _ _ h=>by cases h⟩
theorem Tr.ap_an (A:An) (d:Nat) (s:pA):(Tr.an A d).ap s=s.mapAn (Tr.an A d).f:=by
 cases A with
 | own k e=>simp [Tr.ap,pA.stripA,pA.strip,pA.mapAn,qA.strip,Tr.f,Function.comp_def]
 | no=>rfl
 | ex=>rfl
def EA.runG (call:aB) (o:EA) (s:pA):Option (qA × tD) :=
 match o.guard with
 | none=>o.op.run call s
 | some (t,want)=>match (s.env t).v with
  | .bool b=>if b=want then o.op.run call s else some (⟨.tup [],.no⟩,.none)
  | .tup []=>some (⟨.tup [],.no⟩,.none)
  | _=>none
def EA.effT (o:EA) (next:Nat):qA × tD->Option (Tr × qA)
 | (x,.none)=>some (.id,x)
 | (x,.new r)=>match o.dst with
  | none=>none
  | some d=>some (.row d next r,⟨match x.v with | .ref _ _ sz off l c=>.ref d next sz off l c | _=>.ptr d next 0,.no⟩)
 | (x,.set t n r)=>some (.row t n r,x)
 | (x,.app a _)=>match o.dst with
  | none=>none
  | some d=>some (.an a d,⟨x.v,match x.a with | .own _ e=>.own d e | a=>a⟩)
 | (x,.obj t n S)=>some (.obj t n S,x)
 | (x,.mk S)=>match o.dst with
  | none=>none
  | some d=>some (.obj d next S,⟨x.v.named d next,.no⟩)
 | (x,.ob2 t n S r)=>match o.dst with
  | none=>none
  | some d=>some (.ob2 t n S d next r,⟨match x.v with | .ref _ _ sz off l c=>.ref d next sz off l c | _=>.ptr d next 0,.no⟩)
 | (x,.rn k r)=>match o.dst with
  | none=>none
  | some d=>some (.rn k d next r,⟨match x.v with | .ref _ _ sz off l c=>.ref d next sz off l c | _=>.ptr d next 0,.no⟩)
theorem nO (o:EA) (s:pA):o.step call s=(o.runG call s).bind fun p=>(o.effT s.next p).map fun q=>(q.1.ap s).put o.dst q.2:=by
 have h:∀ p,o.eff s p=(o.effT s.next p).map fun q=>(q.1.ap s).put o.dst q.2:=by
  rintro ⟨x,e⟩;cases e with
  | none=>rfl
  | new r=>simp only [EA.eff,EA.effT]; cases o.dst <;> rfl
  | set t n r=>rfl
  | app a k=>simp only [EA.eff,EA.effT]; cases o.dst <;> rfl
  | obj t n S=>rfl
  | mk S=>simp only [EA.eff,EA.effT]; cases o.dst <;> rfl
  | rn k r=>simp only [EA.eff,EA.effT]; cases o.dst <;> rfl
  | ob2 t n S r=>simp only [EA.eff,EA.effT]; cases o.dst <;> rfl
 have hf:o.eff s=fun p=>(o.effT s.next p).map fun q=>(q.1.ap s).put o.dst q.2:=funext h
 unfold EA.step EA.runG;rw [<- hf];cases o.guard with
 | none=>rfl
 | some p =>
  obtain ⟨t,want⟩:=p;simp only;generalize (s.env t).v=y;cases y with
  | bool b=>simp only; split <;> rfl
  | tup l=>cases l <;> rfl
  | _=>rfl
theorem bO (k:K) {x:qA} {e:tD} (h:k.run call s=some (x,e)):match e with
    | .none=>True
    | .new _=>isA k=true
    | .set t _ _=>isS k=true/\∃ c,k.cl=some c/\c.okPtr t=true
    | .app _ _=>isT k=true
    | .obj _ _ _=>KT k=true/\isR k=false
    | .mk _=>KT k=true/\isR k=false
    | .rn _ _=>isM k=true
    | .ob2 _ _ _ _=>KT k=true/\isR k=false/\isA k=true:=by
  have hn:e=.none->(match e with
    | .none=>True
    | .new _=>isA k=true
    | .set t _ _=>isS k=true/\∃ c,k.cl=some c/\c.okPtr t=true
    | .app _ _=>isT k=true
    | .obj _ _ _=>KT k=true/\isR k=false
    | .mk _=>KT k=true/\isR k=false
    | .rn _ _=>isM k=true
    | .ob2 _ _ _ _=>KT k=true/\isR k=false/\isA k=true):=fun h=>by subst h; trivial
  cases k with
  | callh nt x xs=>cases h
  | nxt x=>cases h
  | ent x =>
    simp only [K.run] at h;split at h
    · split at h
      · split at h
        · split at h
          · split at h
            · split at h
              · injection h with h; injection h with _ h; exact hn h.symm
              · cases h
            · cases h
          · cases h
        · cases h
      · cases h
    · cases h
  | slz x =>
    simp only [K.run] at h;split at h <;> first | (cases h; done) | (injection h with h; injection h with _ h; exact hn h.symm)
  | rng x =>
    simp only [K.run] at h;split at h
    · split at h
      · injection h with h; injection h with _ h; subst h; exact ⟨rfl,rfl⟩
      · cases h
    · cases h
  | alloc z=>simp only [K.run] at h; injection h with h; injection h with _ h; subst h; rfl
  | box z x =>
    simp only [K.run] at h;split at h <;> split at h <;> first | (cases h; done) | (injection h with h; injection h with _ h; subst h; rfl)
  | mks z b zs l c =>
    simp only [K.run] at h;split at h
    · split at h
      · injection h with h; injection h with _ h; subst h; rfl
      · cases h
    · cases h
  | clr cl z x =>
    simp only [K.run] at h;split at h
    · injection h with h; injection h with _ h; subst h; trivial
    · rename_i t n sz off ln _ _
      split at h
      · rename_i la
        obtain ⟨r,_,h⟩:=yf.1 h;injection h with _ h;subst h;exact ⟨rfl,cl,rfl,la.1⟩
      · cases h
    · cases h
  | store cl g z x y =>
    simp only [K.run] at h;split at h
    · split at h
      · rename_i t n off _ la
        obtain ⟨r,_,h⟩:=yf.1 h;injection h with _ h;subst h;exact ⟨rfl,cl,rfl,la⟩
      · cases h
    · cases h
  | app cl e z b x y =>
    simp only [K.run] at h;split at h
    · split at h
      · split at h
        · cases h
        · split at h
          · injection h with h; injection h with _ h; subst h; rfl
          · cases h
        · injection h with h; injection h with _ h; subst h; rfl
      · cases h
    · cases h
  | appf cl e z b x y =>
    simp only [K.run] at h;split at h
    · split at h
      · split at h
        · split at h
          · injection h with h; injection h with _ h; exact hn h.symm
          · injection h with h; injection h with _ h; subst h; rfl
        · cases h
      · cases h
    · cases h
  | appm cl e z b x y =>
    simp only [K.run] at h;split at h
    · split at h
      · split at h
        · split at h
          · injection h with h; injection h with _ h; exact hn h.symm
          · injection h with h; injection h with _ h; subst h; rfl
        · cases h
      · cases h
    · split at h
      · split at h
        · injection h with h; injection h with _ h; subst h; rfl
        · cases h
      · cases h
    · cases h
  | appn cl e z b x y =>
    simp only [K.run] at h;split at h
    · split at h
      · split at h
        · injection h with h; injection h with _ h; subst h; rfl
        · cases h
      · cases h
    · split at h
      · split at h
        · injection h with h; injection h with _ h; subst h; rfl
        · cases h
      · cases h
    · cases h
  | bslr sz z n ps =>
    simp only [K.run] at h;split at h
    · injection h with h; injection h with _ h; subst h; rfl
    · cases h
  | bad=>simp only [K.run] at h; cases h
  | mkm=>simp only [K.run] at h; injection h with h; injection h with _ h; subst h; exact ⟨rfl,rfl⟩
  | mkb T e=>simp only [K.run] at h; injection h with h; injection h with _ h; subst h; exact ⟨rfl,rfl⟩
  | mget ok ty z x k =>
    simp only [K.run] at h;split at h
    · split at h
      · split at h
        · injection h with h; injection h with _ h; exact hn h.symm
        · cases h
      · cases h
    · cases h
  | mset ty x k v =>
    simp only [K.run] at h;split at h
    · split at h
      · split at h
        · injection h with h; injection h with _ h; subst h; exact ⟨rfl,rfl⟩
        · cases h
      · cases h
    · cases h
  | mlen x =>
    simp only [K.run] at h;split at h
    · split at h
      · injection h with h; injection h with _ h; exact hn h.symm
      · cases h
    · cases h
  | mv x=>simp only [K.run] at h; injection h with h; injection h with _ h; exact hn h.symm
  | pick c a b =>
    simp only [K.run] at h;split at h
    · injection h with h; injection h with _ h; exact hn h.symm
    · cases h
  | build z ps =>
    simp only [K.run] at h;split at h
    · obtain ⟨r,_,h⟩:=yf.1 h; injection h with _ h; exact hn h.symm
    · cases h
  | bsl z n ps =>
    simp only [K.run] at h;split at h
    · injection h with h; injection h with _ h; exact hn h.symm
    · cases h
  | load cl g z x =>
    simp only [K.run] at h;split at h
    · split at h
      · obtain ⟨r,_,h⟩:=yf.1 h; injection h with _ h; exact hn h.symm
      · cases h
    · split at h
      · cases h
      · obtain ⟨r,_,h⟩:=yf.1 h; injection h with _ h; exact hn h.symm
    · split at h
      · cases h
      · obtain ⟨r,_,h⟩:=yf.1 h; injection h with _ h; exact hn h.symm
    · cases h
  | mm b x y=>simp only [K.run] at h; obtain ⟨r,_,h⟩:=yf.1 h; injection h with _ h; exact hn h.symm
  | bin op b x y=>simp only [K.run] at h; obtain ⟨r,_,h⟩:=yf.1 h; injection h with _ h; exact hn h.symm
  | eqa n ks x y =>
    simp only [K.run] at h;split at h
    · obtain ⟨r,_,h⟩:=yf.1 h; injection h with _ h; exact hn h.symm
    · cases h
  | eqn n p x y =>
    simp only [K.run] at h;split at h <;> first | (cases h; done) | (obtain ⟨r,_,h⟩:=yf.1 h; injection h with _ h; exact hn h.symm)
  | un op x =>
    simp only [K.run] at h;split at h <;> first | (cases h; done) | (injection h with h; injection h with _ h; exact hn h.symm)
  | conv o x =>
    simp only [K.run] at h;split at h <;> first | (cases h; done) | (injection h with h; injection h with _ h; exact hn h.symm)
  | slc st z x lo hi mx =>
    cases mx with
    | some m=>simp [K.run] at h
    | none =>
      simp only [K.run] at h;split at h
      · cases h
      · split at h <;> first
          | (cases h; done)
          | (split at h
             · split at h
               · (try split at h) <;> (injection h with h; injection h with _ h; exact hn h.symm)
               · cases h
             · cases h)
  | faddr o x =>
    simp only [K.run] at h;split at h <;> first | (cases h; done) | (injection h with h; injection h with _ h; exact hn h.symm)
  | field g o z x =>
    simp only [K.run] at h;split at h
    · obtain ⟨r,_,h⟩:=yf.1 h; injection h with _ h; exact hn h.symm
    · cases h
  | aaddr l z x i =>
    simp only [K.run] at h;split at h
    · split at h
      · split at h <;> first | (cases h; done) | (injection h with h; injection h with _ h; exact hn h.symm)
      · cases h
    · cases h
  | iaddr z x i =>
    simp only [K.run] at h;split at h
    · split at h
      · obtain ⟨r,_,h⟩:=y7.1 h; split at h <;> first | (cases h; done) | (injection h with h; injection h with _ h; exact hn h.symm)
      · obtain ⟨r,_,h⟩:=y7.1 h; split at h <;> first | (cases h; done) | (injection h with h; injection h with _ h; exact hn h.symm)
      · split at h <;> first | (cases h; done) | (injection h with h; injection h with _ h; exact hn h.symm)
      · cases h
    · cases h
  | index x i =>
    simp only [K.run] at h;split at h
    · obtain ⟨r,_,h⟩:=yf.1 h; injection h with _ h; exact hn h.symm
    · cases h
  | ext x i =>
    simp only [K.run] at h;split at h
    · obtain ⟨r,_,h⟩:=yf.1 h; injection h with _ h; exact hn h.symm
    · cases h
  | call cl f xs =>
    simp only [K.run] at h;obtain ⟨vs,_,h⟩:=y7.1 h;split at h
    · obtain ⟨r,_,h⟩:=y7.1 h
      split at h
      · split at h <;> first | (cases h; done) | (injection h with h; injection h with _ h; exact hn h.symm)
      · split at h <;> first | (cases h; done) | (injection h with h; injection h with _ h; subst h; exact ⟨rfl,rfl⟩)
    · obtain ⟨r,_,h⟩:=y7.1 h
      split at h
      · cases h
      · split at h <;> first | (cases h; done) | (injection h with h; injection h with _ h; subst h; exact ⟨rfl,rfl⟩)
    · cases h
  | callf cl f z xs =>
    simp only [K.run] at h;obtain ⟨vs,_,h⟩:=y7.1 h;split at h
    · obtain ⟨r,_,h⟩:=y7.1 h
      split at h
      · split at h
        · split at h
          · injection h with h; injection h with _ h; subst h; exact ⟨rfl,rfl⟩
          · injection h with h; injection h with _ h; subst h; exact ⟨rfl,rfl,rfl⟩
        · cases h
      · cases h
    · cases h
  | callr cl f xs =>
    simp only [K.run] at h;split at h
    · split at h
      · rename_i la
        split at h
        · split at h
          · obtain ⟨q,_,h⟩:=y7.1 h
            split at h
            · split at h
              · injection h with h; injection h with _ h; subst h
                exact ⟨rfl,cl,rfl,la⟩
              · cases h
            · cases h
          · cases h
        · cases h
      · cases h
    · cases h
  | rstr x =>
    simp only [K.run] at h;split at h <;> first | (cases h; done) | (injection h with h; injection h with _ h; exact hn h.symm)
  | bstr cl x =>
    simp only [K.run] at h;split at h
    · obtain ⟨r,_,h⟩:=yf.1 h; injection h with _ h; exact hn h.symm
    · cases h
  | aslc cl l z x lo hi =>
    simp only [K.run] at h;split at h
    · split at h
      · split at h
        · split at h <;> (injection h with h; injection h with _ h; exact hn h.symm)
        · cases h
      · cases h
    · cases h
  | mkf f xs =>
    simp only [K.run] at h;split at h
    · injection h with h; injection h with _ h; exact hn h.symm
    · cases h
  | callv cl x xs =>
    simp only [K.run] at h;split at h
    · split at h
      · obtain ⟨r,_,h⟩:=y7.1 h
        split at h
        · split at h <;> first | (cases h; done) | (injection h with h; injection h with _ h; exact hn h.symm)
        · cases h
      · cases h
    · cases h
  | len st x =>
    simp only [K.run] at h;split at h <;> first
      | (cases h; done)
      | (split at h <;> first | (cases h; done) | (injection h with h; injection h with _ h; exact hn h.symm))
  | nilchk x =>
    simp only [K.run] at h;split at h <;> first | (cases h; done) | (injection h with h; injection h with _ h; exact hn h.symm)
def Tr.of (T:Tr) (o:EA):Prop:=match T with
 | .id=>True
 | .row t _ _=>(isA o.op=true/\o.dst=some t)\/(isS o.op=true/\∃ c,o.op.cl=some c/\c.okPtr t=true)
 | .an _ d=>isT o.op=true/\o.dst=some d
 | .obj _ _ _=>KT o.op=true/\isR o.op=false
 | .rn ..=>isM o.op=true
 | .ob2 _ _ _ d _ _=>(KT o.op=true/\isR o.op=false/\isA o.op=true)/\o.dst=some d
theorem D8 (o:EA) {x:qA} {e:tD} (h:o.runG call s=some (x,e)) {n:Nat} {T:Tr} {v:qA} (ht:o.effT n (x,e)=some (T,v)):T.of o:=by
 have key:o.op.run call s=some (x,e)\/e=.none:=by
  unfold EA.runG at h;split at h
  ·exact .inl h
  ·split at h
   ·split at h
    ·exact .inl h
    ·injection h with h; injection h with _ h; exact .inr h.symm
   ·injection h with h; injection h with _ h; exact .inr h.symm
   ·cases h
 cases e with
 | none=>simp only [EA.effT] at ht; injection ht with ht; injection ht with h1 _; subst h1; trivial
 | new r =>
  have:=bO o.op (key.resolve_right (by simp));simp only [EA.effT] at ht;split at ht
  ·cases ht
  ·rename_i d hd; injection ht with ht; injection ht with h1 _; subst h1; exact .inl ⟨this,hd⟩
 | set t n r =>
  have:=bO o.op (key.resolve_right (by simp));simp only [EA.effT] at ht;injection ht with ht; injection ht with h1 _; subst h1;exact .inr this
 | app a k =>
  have:=bO o.op (key.resolve_right (by simp));simp only [EA.effT] at ht;split at ht
  ·cases ht
  ·rename_i d hd; injection ht with ht; injection ht with h1 _; subst h1; exact ⟨this,hd⟩
 | obj t n S =>
  have:=bO o.op (key.resolve_right (by simp));simp only [EA.effT] at ht;injection ht with ht; injection ht with h1 _; subst h1;exact this
 | mk S =>
  have:=bO o.op (key.resolve_right (by simp));simp only [EA.effT] at ht;split at ht
  ·cases ht
  ·injection ht with ht; injection ht with h1 _; subst h1; exact this
 | rn k r =>
  have:=bO o.op (key.resolve_right (by simp));simp only [EA.effT] at ht;split at ht
  ·cases ht
  ·injection ht with ht; injection ht with h1 _; subst h1; exact this
 | ob2 t n S r =>
  have:=bO o.op (key.resolve_right (by simp));simp only [EA.effT] at ht;split at ht
  ·cases ht
  ·rename_i d hd; injection ht with ht; injection ht with h1 _; subst h1; exact ⟨this,hd⟩
theorem get_put {o:FB} {d:Option Nat} {x:qA} (h:∀ n,o=.t n->d≠some n):o.get (s.put d x)=o.get s/\o.an (s.put d x)=o.an s:=by
 cases d with
 | none=>exact ⟨rfl,rfl⟩
 | some d =>
  cases o with
  | c v=>exact ⟨rfl,by cases v <;> first | rfl | (rename_i b l; cases b <;> rfl)⟩
  | t n =>
   have:n≠d:=fun e=>h n rfl (by rw [e])
   simp [FB.get,FB.an,pA.put,this]
theorem looks_opds {o:EA} {n:Nat} {x:FB} (h:x∈o.op.opds) (hx:x=.t n):n∈o.looks:=by
 unfold EA.looks;refine List.mem_append_left _ (List.mem_filterMap.2 ⟨x,h,?_⟩);rw [hx]
theorem KN {x y:EA} (h:x.clear y=true):(∀ n,x.dst=some n->n ∉ y.looks)/\(∀ n,x.dst=some n->y.dst≠some n):=by
 unfold EA.clear at h;constructor
 ·intro n hn;rw [hn] at h;simp at h;exact h.1
 ·intro n hn;rw [hn] at h;simp at h;exact h.2
theorem pT {y:EA} {d:Option Nat} {v:qA} (h:∀ n,d=some n->n ∉ y.looks):y.runG call (s.put d v)=y.runG call s:=by
 have h1:y.op.run call (s.put d v)=y.op.run call s:=uQ _ (fun o ho=>get_put fun n hn hd=>h n hd (looks_opds ho hn)) (fun t n _=>by cases d <;> rfl) (fun _=>by cases d <;> rfl);unfold EA.runG;rw [h1];cases hg:y.guard with
 | none=>rfl
 | some p =>
  obtain ⟨t,want⟩:=p;have:t∈y.looks:=by unfold EA.looks; rw [hg]; simp
  have he:((s.put d v).env t)=s.env t:=by
   cases d with
   | none=>rfl
   | some d =>
    have:t≠d:=fun e=>h d rfl (e ▸ this)
    simp [pA.put,this]
  simp only [he]
def Tr.off (T:Tr) (o:EA):Prop:=match T with
 | .id=>True
 | .row t _ _=>¬ o.op.reads t
 | .an _ _=>isT o.op=false
 | .obj _ _ _=>KT o.op=false
 | .rn ..=>False
 | .ob2 _ _ _ d _ _=>KT o.op=false/\¬ o.op.reads d
def Tr.act (T:Tr) (p:qA × tD):qA × tD:=match T with
 | .an _ _=>(p.1.mapAn T.f,p.2.mapAn T.f)
 | _=>p
theorem runG_tr {y:EA} {T:Tr} (h:T.off y):y.runG call (T.ap s)=(y.runG call s).map T.act:=by
 cases T with
 | rn=>exact absurd h id
 | ob2 t n S d m r =>
  have h1:y.op.run call ((s.setObj t n S).setRow d m r)=y.op.run call s:=uQ _ (fun o ho=>by
   cases o with
   | t n=>exact ⟨rfl,rfl⟩
   | c v=>exact ⟨rfl,by cases v <;> first | rfl | (rename_i b l; cases b <;> rfl)⟩) (fun t' n' hr=>by
   simp only [pA.setRow,pA.setObj];rw [if_neg];rintro ⟨e,_⟩;exact h.2 (e ▸ hr)) (fun ho=>by
    have h':KT y.op=false:=h.1;rw [h'] at ho; cases ho)
  have:y.runG call ((Tr.ob2 t n S d m r).ap s)=y.runG call s:=by
   unfold EA.runG Tr.ap;rw [h1];rfl
  have h2:(Tr.act (.ob2 t n S d m r):qA × tD->qA × tD)=id:=rfl;rw [this,h2,Option.map_id];rfl
 | id =>
  have:(Tr.act .id:qA × tD->qA × tD)=id:=rfl;rw [this,Option.map_id];rfl
 | row t n r =>
  have h1:y.op.run call (s.setRow t n r)=y.op.run call s:=uQ _ (fun o ho=>by
   cases o with
   | t n=>exact ⟨rfl,rfl⟩
   | c v=>exact ⟨rfl,by cases v <;> first | rfl | (rename_i b l; cases b <;> rfl)⟩) (fun t' n' hr=>by
   simp only [pA.setRow];rw [if_neg];rintro ⟨e,_⟩;exact h (e ▸ hr)) (fun _=>rfl)
  have:y.runG call ((Tr.row t n r).ap s)=y.runG call s:=by
   unfold EA.runG Tr.ap;rw [h1];rfl
  have h2:(Tr.act (.row t n r):qA × tD->qA × tD)=id:=rfl;rw [this,h2,Option.map_id];rfl
 | obj t n S =>
  have h1:y.op.run call (s.setObj t n S)=y.op.run call s:=uQ _ (fun o ho=>by
   cases o with
   | t n=>exact ⟨rfl,rfl⟩
   | c v=>exact ⟨rfl,by cases v <;> first | rfl | (rename_i b l; cases b <;> rfl)⟩) (fun t' n' hr=>rfl) (fun ho=>by
    have h':KT y.op=false:=h;rw [h'] at ho; cases ho)
  have:y.runG call ((Tr.obj t n S).ap s)=y.runG call s:=by
   unfold EA.runG Tr.ap;rw [h1];rfl
  have h2:(Tr.act (.obj t n S):qA × tD->qA × tD)=id:=rfl;rw [this,h2,Option.map_id];rfl
 | an A d =>
  rw [Tr.ap_an];have h1:=run_mapAn (call:=call) (s:=s) (Tr.ends (.an A d)) y.op h;unfold EA.runG;rw [h1];cases y.guard with
  | none=>rfl
  | some p =>
   obtain ⟨t,want⟩:=p;simp only [pA.mapAn];generalize (s.env t).v=y;cases y with
   | bool b =>
    simp only;split
    ·rfl
    ·simp [Tr.act,qA.mapAn,tD.mapAn,(Tr.ends (.an A d)).no]
   | tup l=>cases l <;> simp [Tr.act,qA.mapAn,tD.mapAn,(Tr.ends (.an A d)).no]
   | _=>rfl
theorem B7 {x y:EA} (h:nI x y=true):nI y x=true:=by
 unfold nI at h ⊢;simp only [y8] at h ⊢;obtain ⟨⟨⟨⟨⟨⟨⟨m1,m2⟩,h1⟩,h0⟩,h2⟩,h3⟩,h4⟩,h5⟩:=h;refine ⟨⟨⟨⟨⟨⟨⟨m2,m1⟩,by rw [Bool.or_comm]; exact h1⟩,by rw [Bool.or_comm (!KT y.op),Bool.and_comm]; exact h0⟩,?_⟩,h4⟩,h3⟩,?_⟩
 ·cases hc:x.op.cl with
  | none=>cases y.op.cl <;> rfl
  | some c =>
   cases hd:y.op.cl with
   | none=>rfl
   | some d =>
    rw [hc,hd] at h2;simp only [Bool.or_eq_true] at h2 ⊢;refine h2.imp (fun h=>by rw [Bool.or_comm]; exact h) fun h=>?_
    cases c <;> cases d <;> first | rfl | exact h | (simp at h ⊢; exact fun e=>h e.symm) | (simp at h)
 ·simp only [Bool.or_eq_true] at h5 ⊢;rcases h5 with (h | h) | h
  ·exact .inl (.inr h)
  ·exact .inl (.inl h)
  ·exact .inr (by simp at h ⊢; exact fun e=>h e.symm)
theorem off_of {T:Tr} {x y:EA} (h:T.of x) (la:nI x y=true):T.off y:=by
 unfold nI at la;simp only [y8] at la;obtain ⟨⟨⟨⟨⟨⟨⟨m1,m2⟩,h1⟩,h0⟩,h2⟩,h3⟩,h4⟩,h5⟩:=la;cases T with
 | id=>trivial
 | rn k t n r =>
  have h':isM x.op=true:=h;rw [h'] at m1;cases m1
 | ob2 t n S d m r =>
  obtain ⟨⟨g1,g2,ha⟩,hd⟩:=h;rw [g1,g2] at h0;refine ⟨by simpa using h0,fun hr=>?_⟩;unfold K.reads at hr;rw [ha,hd] at h3;cases ad:y.op.cl with
  | none=>rw [ad] at hr; exact hr
  | some c =>
   rw [ad] at hr h3;cases c with
   | any=>simp at h3
   | imm=>exact hr
   | root r=>simp at h3; exact h3 hr
   | out L=>simp only [Bool.not_true,Bool.false_or] at h3 hr; rw [h3] at hr; cases hr
 | an A d =>
  have:=h.1;rw [this] at h1;show isT y.op=false;simpa using h1
 | obj t n S =>
  obtain ⟨g1,g2⟩:KT x.op=true/\isR x.op=false:=h;rw [g1,g2] at h0;show KT y.op=false;simpa using h0
 | row t n r =>
  intro hr;unfold K.reads at hr;rcases h with ⟨ha,hd⟩ | ⟨hs,hc⟩
  ·rw [ha,hd] at h3;cases ad:y.op.cl with
   | none=>rw [ad] at hr; exact hr
   | some c =>
    rw [ad] at hr h3;cases c with
    | any=>simp at h3
    | imm=>exact hr
    | root r=>simp at h3; exact h3 hr
    | out L=>simp only [Bool.not_true,Bool.false_or] at h3 hr; rw [h3] at hr; cases hr
  ·cases ad:y.op.cl with
   | none=>rw [ad] at hr; exact hr
   | some c =>
    rw [ad] at hr;obtain ⟨c0,hc,hp⟩:=hc;rw [hc,ad,hs] at h2;cases c0 with
    | imm=>simp [Cl.okPtr] at hp
    | any=>cases c <;> first | exact hr | (simp at h2)
    | root r0 =>
     simp [Cl.okPtr] at hp;subst hp;cases c with
     | imm=>exact hr
     | any=>simp at h2
     | root r=>simp at h2; exact h2 hr
     | out L=>simp at h2 hr; exact hr h2
    | out L0 =>
     simp [Cl.okPtr] at hp;cases c with
     | imm=>exact hr
     | any=>simp at h2
     | root r=>simp at h2 hr; subst hr; exact hp h2
     | out L=>simp at h2
theorem row_ne {t n t' n':Nat} {r r':List qA} {x y:EA} (h:(Tr.row t n r).of x) (h':(Tr.row t' n' r').of y) (la:nI x y=true):t≠t':=by
 unfold nI at la;simp only [y8] at la;obtain ⟨⟨⟨⟨⟨⟨⟨m1,m2⟩,h1⟩,h0⟩,h2⟩,h3⟩,h4⟩,h5⟩:=la;rintro rfl;rcases h with ⟨ha,hd⟩ | ⟨hs,hc⟩ <;> rcases h' with ⟨pu,up⟩ | ⟨ei,df⟩
 ·rw [ha,pu,hd,up] at h5; simp at h5
 ·rw [ha,hd] at h3;obtain ⟨c,df,hp⟩:=df;rw [df] at h3;cases c <;> simp [Cl.okPtr] at h3 hp <;> first | exact h3 hp.symm | exact hp h3
 ·rw [pu,up] at h4;obtain ⟨c,hc,hp⟩:=hc;rw [hc] at h4;cases c <;> simp [Cl.okPtr] at h4 hp <;> first | exact h4 hp.symm | exact hp h4
 ·obtain ⟨c,hc,hp⟩:=hc;obtain ⟨c',df,hp'⟩:=df;rw [hc,df,hs] at h2;cases c <;> cases c' <;> simp [Cl.okPtr] at h2 hp hp'
  ·subst hp; subst hp'; exact h2 rfl
  ·subst hp; exact hp' h2
  ·subst hp'; exact hp h2
def Tr.conj (T:Tr):Tr->Tr
 | .row t n r=>match T with
  | .an A d=>.row t n (r.map (qA.mapAn (Tr.an A d).f))
  | _=>.row t n r
 | .ob2 t n S d m r=>match T with
  | .an A d'=>.ob2 t n S d m (r.map (qA.mapAn (Tr.an A d').f))
  | _=>.ob2 t n S d m r
 | T'=>T'
def Tr.actS (T:Tr) (v:qA):qA:=match T with
 | .an A d=>v.mapAn (Tr.an A d).f
 | _=>v
theorem r7 {T:Tr} {o:EA} {n:Nat} {p:qA × tD} {T':Tr} {v:qA} (h:o.effT n p=some (T',v)) (hT:(∃ A d,T=.an A d)->∀ A d,T'≠.an A d) (hR:∀ k t m r,T'≠.rn k t m r):o.effT n (T.act p)=some (T.conj T',T.actS v):=by
 obtain ⟨x,e⟩:=p;cases T with
 | id=>rw [show Tr.id.act (x,e)=(x,e) from rfl,h]; cases T' <;> rfl
 | row t m r=>rw [show (Tr.row t m r).act (x,e)=(x,e) from rfl,h]; cases T' <;> rfl
 | obj t m S=>rw [show (Tr.obj t m S).act (x,e)=(x,e) from rfl,h]; cases T' <;> rfl
 | rn k t m r=>rw [show (Tr.rn k t m r).act (x,e)=(x,e) from rfl,h]; cases T' <;> rfl
 | ob2 t n S d m r=>rw [show (Tr.ob2 t n S d m r).act (x,e)=(x,e) from rfl,h]; cases T' <;> rfl
 | an A d =>
  cases e with
  | none=>simp only [EA.effT] at h; injection h with h; injection h with h1 h2; subst h1; subst h2; rfl
  | new r =>
   simp only [EA.effT] at h;split at h
   ·cases h
   ·rename_i d' hd;injection h with h; injection h with h1 h2; subst h1; subst h2;simp only [Tr.act,EA.effT,tD.mapAn,hd,Tr.conj,Tr.actS,qA.mapAn,(Tr.ends (.an A d)).no]
  | set t m r =>
   simp only [EA.effT] at h;injection h with h; injection h with h1 h2; subst h1; subst h2;simp only [Tr.act,EA.effT,tD.mapAn,Tr.conj,Tr.actS,qA.mapAn,(Tr.ends (.an A d)).no]
  | app a k =>
   simp only [EA.effT] at h;split at h
   ·cases h
   ·injection h with h; injection h with h1 h2; subst h1; exact absurd rfl (hT ⟨A,d,rfl⟩ _ _)
  | obj t m S =>
   simp only [EA.effT] at h;injection h with h; injection h with h1 h2; subst h1; subst h2;rfl
  | mk S =>
   simp only [EA.effT] at h;split at h
   ·cases h
   ·rename_i d' hd;injection h with h; injection h with h1 h2; subst h1; subst h2;simp only [Tr.act,EA.effT,tD.mapAn,hd,Tr.conj,Tr.actS,qA.mapAn,(Tr.ends (.an A d)).no]
  | rn k r =>
   simp only [EA.effT] at h;split at h
   ·cases h
   ·injection h with h; injection h with h1 h2; exact absurd h1.symm (hR _ _ _ _)
  | ob2 t n S r =>
   simp only [EA.effT] at h;split at h
   ·cases h
   ·rename_i d' hd;injection h with h; injection h with h1 h2; subst h1; subst h2;simp only [Tr.act,EA.effT,tD.mapAn,hd,Tr.conj,Tr.actS,qA.mapAn,(Tr.ends (.an A d)).no]
theorem NC {d d':Option Nat} (h:∀ n,d=some n->d'≠some n) (v v':qA):(s.put d v).put d' v'=(s.put d' v').put d v:=by
 cases d with
 | none=>rfl
 | some d =>
  cases d' with
  | none=>rfl
  | some d' =>
   have:d≠d':=fun e=>h d rfl (by rw [e])
   simp only [pA.put];congr 1;funext t;by_cases h1:t=d'
   ·by_cases h2:t=d
    ·exact absurd (h2.symm.trans h1) this
    ·rw [h1]; simp only [if_true]; rw [if_neg (fun e=>this e.symm)]
   ·simp [h1]
theorem GI (f:An->An) (d:Option Nat) (v:qA):(s.put d v).mapAn f=(s.mapAn f).put d (v.mapAn f):=by
 cases d with
 | none=>rfl
 | some d =>
  simp only [pA.put,pA.mapAn];congr 1;funext t;by_cases h:t=d <;> simp [h,qA.mapAn]
theorem RL (f:An->An) (t n:Nat) (r:List qA):(s.setRow t n r).mapAn f=(s.mapAn f).setRow t n (r.map (qA.mapAn f)):=by
 simp only [pA.setRow,pA.mapAn];congr 1;funext t' n';by_cases h:t'=t/\n'=n
 ·simp only [h,and_self,if_true,yx]; rfl
 ·simp [h]
theorem AC (d:Option Nat) (v:qA) (t n:Nat) (r:List qA):(s.put d v).setRow t n r=(s.setRow t n r).put d v:=by cases d <;> rfl
theorem PP {t n t' n':Nat} (h:t≠t') (r r':List qA):(s.setRow t n r).setRow t' n' r'=(s.setRow t' n' r').setRow t n r:=by
 simp only [pA.setRow];congr 1;funext a b;by_cases h1:a=t'
 ·have:¬ (a=t/\b=n):=fun e=>h (e.1.symm.trans h1)
  simp [this]
 ·have:¬ (a=t'/\b=n'):=fun e=>h1 e.1
  simp [this]
theorem iE (d:Option Nat) (v:qA) (t n:Nat) (S:AV):(s.put d v).setObj t n S=(s.setObj t n S).put d v:=by cases d <;> rfl
theorem EL (f:An->An) (t n:Nat) (S:AV):(s.setObj t n S).mapAn f=(s.mapAn f).setObj t n S:=rfl
theorem eR (t n:Nat) (r:List qA) (t' n':Nat) (S:AV):(s.setRow t n r).setObj t' n' S=(s.setObj t' n' S).setRow t n r:=rfl
theorem i4 {t n:Nat} {S:AV} {d m:Nat} {r:List qA} {o:EA} (h:(Tr.ob2 t n S d m r).of o):(Tr.row d m r).of o:=.inl ⟨h.1.2.2,h.2⟩
theorem next_tr (T:Tr) (s:pA) (d:Option Nat) (v:qA):((T.ap s).put d v).next=s.next:=by
 have:(T.ap s).next=s.next:=by
  cases T with
  | an A d=>rw [Tr.ap_an]; rfl
  | rn k t n r=>cases k <;> rfl
  | _=>rfl
 cases d <;> exact this
theorem commute0 {x y:EA} (sk:NJ x y=true) (la:nI x y=true) (h1:x.step call s=some s1) (h2:y.step call s1=some s2):∃ nq,y.step call s=some nq/\x.step call nq=some s2:=by
 unfold NJ at sk;simp only [y8] at sk;obtain ⟨a1,a2⟩:=KN sk.1;obtain ⟨a3,a4⟩:=KN sk.2;rw [nO] at h1 h2;obtain ⟨p,hp,h1⟩:=y7.1 h1;obtain ⟨⟨Tx,vx⟩,hx,h1⟩:=yf.1 h1;obtain ⟨q,hq,h2⟩:=y7.1 h2;obtain ⟨⟨Ty,vy⟩,hy,h2⟩:=yf.1 h2;simp only at h1 h2;subst h1;have ofx:Tx.of x:=D8 x (x:=p.1) (e:=p.2) hp hx;have offy:=off_of ofx la;rw [pT a1,runG_tr offy] at hq;obtain ⟨q0,hq0,rfl⟩:=yf.1 hq;rw [next_tr] at hy
 -- y in the first state
 have fi:∃ Ty0 vy0,y.effT s.next q0=some (Ty0,vy0):=by
  obtain ⟨u,e⟩:=q0;cases e with
  | none=>exact ⟨_,_,rfl⟩
  | new r =>
   cases hd:y.dst with
   | none =>
    exfalso;cases Tx <;> simp [Tr.act,EA.effT,tD.mapAn,hd] at hy
   | some d=>exact ⟨.row d s.next r,_,by simp only [EA.effT,hd]; rfl⟩
  | set t n r=>exact ⟨_,_,rfl⟩
  | obj t n S=>exact ⟨_,_,rfl⟩
  | mk S =>
   cases hd:y.dst with
   | none =>
    exfalso;cases Tx <;> simp [Tr.act,EA.effT,tD.mapAn,hd] at hy
   | some d=>exact ⟨.obj d s.next S,_,by simp only [EA.effT,hd]; rfl⟩
  | app a k =>
   cases hd:y.dst with
   | none =>
    exfalso;cases Tx <;> simp [Tr.act,EA.effT,tD.mapAn,hd] at hy
   | some d=>exact ⟨.an a d,_,by simp only [EA.effT,hd]; rfl⟩
  | rn k r =>
   cases hd:y.dst with
   | none =>
    exfalso;cases Tx <;> simp [Tr.act,EA.effT,tD.mapAn,hd] at hy
   | some d=>exact ⟨.rn k d s.next r,_,by simp only [EA.effT,hd]; rfl⟩
  | ob2 t n S r =>
   cases hd:y.dst with
   | none =>
    exfalso;cases Tx <;> simp [Tr.act,EA.effT,tD.mapAn,hd] at hy
   | some d=>exact ⟨.ob2 t n S d s.next r,_,by simp only [EA.effT,hd]; rfl⟩
 obtain ⟨Ty0,vy0,fi⟩:=fi;have ofy:Ty0.of y:=D8 y (x:=q0.1) (e:=q0.2) hq0 fi;have offx:=off_of ofy (B7 la);have notT:∀ A d A' d',Tx=.an A d->Ty0=.an A' d'->False:=fun A d A' d' e e'=>by
  subst e; subst e';have:=ofy.1;rw [show isT y.op=false from offy] at this;cases this
 have noM:∀ {T:Tr} {o:EA},T.of o->isM o.op=false->∀ k t m r,T≠.rn k t m r:=fun h hm k t m r e=>by
  subst e;have h':isM _=true:=h;rw [hm] at h';cases h'
 have hMx:isM x.op=false:=by unfold nI at la; simp only [y8] at la; simpa using la.1.1.1.1.1.1.1
 have hMy:isM y.op=false:=by unfold nI at la; simp only [y8] at la; simpa using la.1.1.1.1.1.1.2
 have nx:=noM ofx hMx;have ny:=noM ofy hMy;have hyc:=r7 (T:=Tx) fi (hR:=ny) (fun ⟨A,d,e⟩ A' d' e'=>notT A d A' d' e e');rw [hyc] at hy;injection hy with hy;injection hy with e1 e2;subst e1; subst e2;have hxc:=r7 (T:=Ty0) hx (hR:=nx) (fun ⟨A,d,e⟩ A' d' e'=>notT A' d' A d e' e);refine ⟨(Ty0.ap s).put y.dst vy0,by rw [nO,hq0,V,fi]; rfl,?_⟩;rw [nO,pT a3,runG_tr offx,hp];simp only [yx,V,next_tr,hxc];rw [<- h2];congr 1;have notO:∀ t n S t' n' S',Tx=.obj t n S->Ty0=.obj t' n' S'->False:=fun t n S t' n' S' e e'=>by
  subst e; subst e';have h1:KT y.op=true:=ofy.1;rw [show KT y.op=false from offy] at h1;cases h1
 cases Tx with
 | rn=>exact absurd rfl (nx _ _ _ _)
 | id =>
  cases Ty0 with
  | rn=>exact absurd rfl (ny _ _ _ _)
  | ob2 t n S d m r=>simp only [Tr.ap,Tr.conj,Tr.actS]; rw [iE,AC]; exact (NC a2 _ _).symm
  | id=>exact (NC a2 _ _).symm
  | row t n r=>simp only [Tr.ap,Tr.conj,Tr.actS]; rw [AC]; exact (NC a2 _ _).symm
  | an A d =>
   simp only [Tr.conj,Tr.actS,Tr.ap_an,GI];exact (NC a2 _ _).symm
  | obj t n S=>simp only [Tr.ap,Tr.conj,Tr.actS]; rw [iE]; exact (NC a2 _ _).symm
 | row t n r =>
  cases Ty0 with
  | rn=>exact absurd rfl (ny _ _ _ _)
  | ob2 t' n' S d m r' =>
   have oa:=row_ne (x:=x) (y:=y) ofx (i4 ofy) la;simp only [Tr.ap,Tr.conj,Tr.actS];rw [AC,iE,AC,eR,PP oa];exact (NC a2 _ _).symm
  | id=>simp only [Tr.ap,Tr.conj,Tr.actS]; rw [AC]; exact (NC a2 _ _).symm
  | row t' n' r' =>
   simp only [Tr.ap,Tr.conj,Tr.actS];rw [AC,AC,PP (row_ne ofx ofy la)];exact (NC a2 _ _).symm
  | an A d =>
   simp only [Tr.conj,Tr.actS,Tr.ap_an,GI];simp only [Tr.ap,RL,AC];exact (NC a2 _ _).symm
  | obj t' n' S =>
   simp only [Tr.ap,Tr.conj,Tr.actS];rw [iE,AC];exact (NC a2 _ _).symm
 | an A d =>
  cases Ty0 with
  | rn=>exact absurd rfl (ny _ _ _ _)
  | ob2 t' n' S d' m r' =>
   simp only [Tr.conj,Tr.actS,Tr.ap_an,GI];simp only [Tr.ap,RL,EL,iE,AC];exact (NC a2 _ _).symm
  | id =>
   simp only [Tr.conj,Tr.actS,Tr.ap_an,GI];exact (NC a2 _ _).symm
  | row t' n' r' =>
   simp only [Tr.conj,Tr.actS,Tr.ap_an,GI];simp only [Tr.ap,RL,AC];exact (NC a2 _ _).symm
  | an A' d'=>exact (notT A d A' d' rfl rfl).elim
  | obj t' n' S =>
   simp only [Tr.conj,Tr.actS,Tr.ap_an,GI];simp only [Tr.ap,EL,iE];exact (NC a2 _ _).symm
 | obj t n S =>
  cases Ty0 with
  | rn=>exact absurd rfl (ny _ _ _ _)
  | ob2 t' n' S' d m r'=>exact absurd ofy.1.1 (by rw [show KT y.op=false from offy]; decide)
  | id=>simp only [Tr.ap,Tr.conj,Tr.actS]; rw [iE]; exact (NC a2 _ _).symm
  | row t' n' r' =>
   simp only [Tr.ap,Tr.conj,Tr.actS];rw [AC,iE];exact (NC a2 _ _).symm
  | an A d =>
   simp only [Tr.conj,Tr.actS,Tr.ap_an,GI];simp only [Tr.ap,EL,iE];exact (NC a2 _ _).symm
  | obj t' n' S'=>exact (notO t n S t' n' S' rfl rfl).elim
 | ob2 t n S d m r =>
  have hyO:KT y.op=false:=offy.1;cases Ty0 with
  | rn=>exact absurd rfl (ny _ _ _ _)
  | id=>simp only [Tr.ap,Tr.conj,Tr.actS]; rw [iE,AC]; exact (NC a2 _ _).symm
  | row t' n' r' =>
   have oa:=row_ne (x:=x) (y:=y) (i4 ofx) ofy la;simp only [Tr.ap,Tr.conj,Tr.actS];rw [AC,iE,AC,<- eR,PP oa];exact (NC a2 _ _).symm
  | an A d' =>
   simp only [Tr.conj,Tr.actS,Tr.ap_an,GI];simp only [Tr.ap,RL,EL,iE,AC];exact (NC a2 _ _).symm
  | obj t' n' S'=>exact absurd ofy.1 (by rw [hyO]; decide)
  | ob2 t' n' S' d' m' r'=>exact absurd ofy.1.1 (by rw [hyO]; decide)
def Tr.kl (T:Tr) (w:qA):qA:=match T with
 | .rn (some p) _ _ _=>w.kill p.1 p.2
 | _=>w
theorem isN_eff {k:K} (hk:isN k=true) {v:qA} {e:tD} (h:k.run call s=some (v,e)):e=.none\/(∃ r,e=.new r)\/∃ q r,e=.rn q r:=by
 cases k with
 | appm cl e' z b x y =>
  simp only [K.run] at h;split at h
  ·split at h
   ·split at h
    ·split at h
     ·injection h with h; injection h with _ h; exact .inl h.symm
     ·injection h with h; injection h with _ h; exact .inr (.inl ⟨_,h.symm⟩)
    ·cases h
   ·cases h
  ·split at h
   ·split at h
    ·injection h with h; injection h with _ h; exact .inr (.inr ⟨_,_,h.symm⟩)
    ·cases h
   ·cases h
  ·cases h
 | appn cl e' z b x y =>
  simp only [K.run] at h;split at h
  ·split at h
   ·split at h
    ·injection h with h; injection h with _ h; exact .inr (.inl ⟨_,h.symm⟩)
    ·cases h
   ·cases h
  ·split at h
   ·split at h
    ·injection h with h; injection h with _ h; exact .inr (.inr ⟨_,_,h.symm⟩)
    ·cases h
   ·cases h
  ·cases h
 | _=>cases hk
theorem isN_tr {x:EA} (hk:isN x.op=true) {p:qA × tD} (hp:x.runG call s=some p) {n:Nat} {T:Tr} {v:qA} (ht:x.effT n p=some (T,v)):T=.id\/(∃ t m r,T=.row t m r)\/∃ q t m r,T=.rn q t m r:=by
 have he:p.2=.none\/(∃ r,p.2=.new r)\/∃ q r,p.2=.rn q r:=by
  unfold EA.runG at hp;split at hp
  ·exact isN_eff hk (v:=p.1) (e:=p.2) hp
  ·split at hp
   ·split at hp
    ·exact isN_eff hk (v:=p.1) (e:=p.2) hp
    ·injection hp with hp; subst hp; exact .inl rfl
   ·injection hp with hp; subst hp; exact .inl rfl
   ·cases hp
 obtain ⟨v0,e⟩:=p;rcases he with he | ⟨r,he⟩ | ⟨q,r,he⟩
 ·simp only at he; subst he; injection ht with ht; injection ht with h1 _; exact .inl h1.symm
 ·simp only at he;subst he;simp only [EA.effT] at ht;split at ht
  ·cases ht
  ·injection ht with ht; injection ht with h1 _; exact .inr (.inl ⟨_,_,_,h1.symm⟩)
 ·simp only at he;subst he;simp only [EA.effT] at ht;split at ht
  ·cases ht
  ·injection ht with ht; injection ht with h1 _; exact .inr (.inr ⟨_,_,_,_,h1.symm⟩)
theorem U2 {T:Tr} (h:T=.id\/(∃ t m r,T=.row t m r)\/∃ q t m r,T=.rn q t m r) (s:pA) (d:Nat) (w:qA):T.ap (s.put (some d) w)=(T.ap s).put (some d) (T.kl w)/\∀ z,(T.ap s).env z=T.kl (s.env z):=by
 rcases h with rfl | ⟨t,m,r,rfl⟩ | ⟨q,t,m,r,rfl⟩
 ·exact ⟨rfl,fun _=>rfl⟩
 ·exact ⟨rfl,fun _=>rfl⟩
 ·cases q with
  | none=>exact ⟨rfl,fun _=>rfl⟩
  | some p =>
   refine ⟨?_,fun _=>rfl⟩;simp only [Tr.ap,pA.killO,pA.kill,pA.put,pA.setRow,Tr.kl];congr 1;funext j;by_cases hj:j=d <;> simp [hj]
theorem isMv_eq {y:EA} (h:isMv y=true):∃ d z,y=⟨d,.mv (.t z),none⟩:=by
 obtain ⟨d,k,g⟩:=y;unfold isMv at h;simp only at h;split at h
 ·exact ⟨_,_,rfl⟩
 ·cases h
theorem Z6 {x y:EA} (sk:NJ x y=true) (hx:isN x.op=true) (hy:isMv y=true):(∀ s s1 s2,x.step call s=some s1->y.step call s1=some s2->∃ nq,y.step call s=some nq/\x.step call nq=some s2)/\∀ s s1 s2,y.step call s=some s1->x.step call s1=some s2->∃ nq,x.step call s=some nq/\y.step call nq=some s2:=by
 obtain ⟨d,z,rfl⟩:=isMv_eq hy;unfold NJ at sk;simp only [y8] at sk;obtain ⟨a1,a2⟩:=KN sk.1;obtain ⟨a3,a4⟩:=KN sk.2;have hz:∀ n,x.dst=some n->n≠z:=fun n hn e=>a1 n hn (by subst e; simp [EA.looks,K.opds])
 have hyr:∀ s:pA,(⟨d,.mv (.t z),none⟩:EA).step call s=some (s.put d ⟨(s.env z).v,(s.env z).a⟩):=fun _=>rfl
 have key:∀ (s:pA) (p:qA × tD) (T:Tr) (v:qA),x.runG call s=some p->x.effT s.next p=some (T,v)->(T.ap (s.put d (s.env z))).put x.dst v=((T.ap s).put x.dst v).put d ((((T.ap s).put x.dst v).env z))/\x.step call (s.put d (s.env z))=some ((T.ap (s.put d (s.env z))).put x.dst v):=fun s p T v hp hT=>by
  have hk:=isN_tr hx hp hT;constructor
  ·have he:((T.ap s).put x.dst v).env z=T.kl (s.env z):=by
    cases hd:x.dst with
    | none=>exact (U2 hk s 0 v).2 z
    | some n =>
     simp only [pA.put];rw [if_neg (fun e=>hz n hd e.symm)];exact (U2 hk s 0 v).2 z
   rw [he];cases d with
   | none=>rfl
   | some d =>
    rw [(U2 hk s d _).1];exact (NC (fun n hn e=>a4 n hn e) _ _)
  ·rw [nO,pT (fun n hn=>a3 n hn),hp];have hn:(s.put d (s.env z)).next=s.next:=by cases d <;> rfl
   simp only [V,hn,hT,yx]
 refine ⟨fun s s1 s2 h1 h2=>?_,fun s s1 s2 h1 h2=>?_⟩
 ·rw [nO] at h1;obtain ⟨p,hp,h1⟩:=y7.1 h1;obtain ⟨⟨T,v⟩,hT,h1⟩:=yf.1 h1;simp only at h1;rw [hyr] at h2;injection h2 with h2;refine ⟨_,hyr s,?_⟩;obtain ⟨k1,k2⟩:=key s p T v hp hT;have k2':x.step call (s.put d ⟨(s.env z).v,(s.env z).a⟩)=some ((T.ap (s.put d (s.env z))).put x.dst v):=k2;rw [k2',k1,<- h2,<- h1]
 ·rw [hyr] at h1;injection h1 with h1;subst h1;have eo:x.step call (s.put d (s.env z))=some s2:=h2;rw [nO,pT (fun n hn=>a3 n hn)] at eo;obtain ⟨p,hp,eo⟩:=y7.1 eo;obtain ⟨⟨T,v⟩,hT,eo⟩:=yf.1 eo;have hn:(s.put d (s.env z)).next=s.next:=by cases d <;> rfl
  rw [hn] at hT;obtain ⟨k1,_⟩:=key s p T v hp hT;refine ⟨(T.ap s).put x.dst v,by rw [nO,hp]; simp only [V,hT,yx],?_⟩;rw [hyr,<- eo];simp only;rw [k1]
theorem Q4 {x y:EA} (h:NJ x y=true):NJ y x=true:=by
 unfold NJ at h ⊢;rw [Bool.and_comm];exact h
theorem commute {x y:EA} (sk:NJ x y=true) (la:tO x y=true) (h1:x.step call s=some s1) (h2:y.step call s1=some s2):∃ nq,y.step call s=some nq/\x.step call nq=some s2:=by
 unfold tO at la;simp only [Bool.or_eq_true,y8] at la;rcases la with h | ⟨h,h'⟩ | ⟨h,h'⟩
 ·exact commute0 sk h h1 h2
 ·exact (Z6 (Q4 sk) h' h).2 s s1 s2 h1 h2
 ·exact (Z6 sk h' h).1 s s1 s2 h1 h2
end
end
section
open Go Go.RowKit
section
variable {P:Program} {O:uH} {nt B:Nat} {F0:SO} {da:Av} {w0:World} {s s':pA} {a:Act} {w w':World} {ι:Ix} {Θ:NK} {call:aB} {lh:LH} {Q:Exit->Act->World->Prop}
def gsh (nt:Nat) (a:Act) (g:Nat->Value):Nat->Value:=fun t=>if t<nt then a.tmps.getD t undef else g (t - nt)
def SO.wait (F0:SO) (nt:Nat) (a:Act):SO:=⟨F0.b,F0.p,F0.r,F0.z,gsh nt a F0.g⟩
def pA.bare (s:pA):pA:={ s with env:=fun _=>⟨.undef,.no⟩ }
def N3 (P:Program) (O:uH) (B:Nat) (F0:SO) (da:Av) (w0:World) (s:pA) (w:World) (ι:Ix) (Θ:NK):Prop:=MB P O 0 B F0 da w0 (fun _=>False) s.bare ⟨#[],[]⟩ w ι Θ
def nH (ι:Ix) (Θ:NK) (av avb:Av) (w:World):List qA->List Value->Prop
 | [],us=>us=[]
 | x :: r,us=>∃ u sa,us=u :: sa/\MA ι av avb w x.v u/\LL Θ x.a u/\nH ι Θ av avb w r sa
theorem GR {av avb:Av}:∀ {xs ys:List qA} {us vs:List Value},nH ι Θ av avb w xs us->nH ι Θ av avb w ys vs->nH ι Θ av avb w (xs++ys) (us++vs)
 | [],_,_,_,h,h'=>by simp only [nH] at h; subst h; exact h'
 | x :: r,_,_,_,h,h'=>by
  simp only [nH] at h;obtain ⟨u,sa,rfl,h0,h1,h⟩:=h;exact ⟨u,sa++_,rfl,h0,h1,GR h h'⟩
def K1 (P:Program) (O:uH) (hp:HpT):Prop:=∀ f xs s k r,hp f xs s k=some r->(∀ vs w,(callFunc f vs).run P w=.ok (.enter f vs) w) ∧
 ∀ (B:Nat) (F0:SO) (da:Av) (w0 w:World) (ι:Ix) (Θ:NK) (us:List Value) (E:Ending->World->Prop),N3 P O B F0 da w0 s w ι Θ->nH ι Θ (EC da ι Θ) (RC ι Θ) w xs us →
  (∀ y s' w' ι' Θ' v,N3 P O B F0 da w0 s' w' ι' Θ'->MA ι' (EC da ι' Θ') (RC ι' Θ') w' y.v v->LL Θ' y.a v->k y s'=some r->E (.returned v) w')->Calls P f us.toArray w E
theorem MB.wait {D:Nat->Prop} (R:MB P O nt B F0 da w0 D s a w ι Θ):N3 P O B (F0.wait nt a) da w0 (s.enter nt) w ι Θ :=
 ⟨rfl,rfl,fun _=>trivial,fun _=>trivial,R.rows,fun t n b h=>let ⟨h1,h2,h3⟩:=R.mine t n b h; ⟨h1,h2,.inl (by simp only [pA.bare,pA.enter]; rcases h3 with h | h <;> omega)⟩,R.inj,R.tok,R.tinj,R.apart,R.out,R.pin,R.kept,R.base,R.objs,fun t n H h=>let ⟨h1,h2⟩:=R.obs t n H h; ⟨h1,.inl (by simp only [pA.bare,pA.enter]; rcases h2 with h | h <;> omega)⟩,fun t=>by
  simp only [pA.bare,pA.enter,SO.wait,gsh];split
  ·exact R.env t
  ·exact R.gen _,fun t=>by
  simp only [pA.bare,pA.enter,SO.wait,gsh];split
  ·exact R.ann t
  ·exact R.gann _⟩
theorem MB.resume {D D':Nat->Prop} {s':pA} {ι':Ix} {Θ':NK} (R:MB P O nt B F0 da w0 D s a w ι Θ) (R':N3 P O B (F0.wait nt a) da w0 s' w' ι' Θ'):MB P O nt B F0 da w0 D' (s'.leave nt) a w' ι' Θ' :=
 ⟨R.defers,R.size,fun t=>by
  have:=R'.gen t;simp only [pA.bare,SO.wait,gsh] at this;simp only [pA.leave];split
  ·rename_i h; rw [if_pos h] at this; exact this
  ·trivial,fun t=>by
  have:=R'.gann t;simp only [pA.bare,SO.wait,gsh] at this;simp only [pA.leave];split
  ·rename_i h; rw [if_pos h] at this; exact this
  ·trivial,R'.rows,fun t n b h=>let ⟨h1,h2,h3⟩:=R'.mine t n b h; ⟨h1,h2,h3.imp id fun h=>h.2.elim⟩,R'.inj,R'.tok,R'.tinj,R'.apart,R'.out,R'.pin,R'.kept,R'.base,R'.objs,fun t n H h=>let ⟨h1,h2⟩:=R'.obs t n H h; ⟨h1,h2.imp id fun h=>h.2.elim⟩,fun t=>by
  have:=R'.gen (t + nt);simp only [pA.bare,SO.wait,gsh] at this;rw [if_neg (by omega),Nat.add_sub_cancel] at this;exact this,fun t=>by
  have:=R'.gann (t + nt);simp only [pA.bare,SO.wait,gsh] at this;rw [if_neg (by omega),Nat.add_sub_cancel] at this;exact this⟩
theorem LR {D:Nat->Prop} (R:MB P O nt B F0 da w0 D s a w ι Θ):∀ {Xs:List Operand} {xs:List FB},MG Xs=some xs->nH ι Θ (EC da ι Θ) (RC ι Θ) w (wP s xs) (Xs.map a.eval)
 | [],xs,h=>by injection h with h; subst h; rfl
 | X :: Xs,xs,h=>by
  unfold MG at h;split at h
  ·rename_i x l hx hl;injection h with h;subst h;exact ⟨_,_,rfl,(R.opd hx).1,(R.opd hx).2,LR R hl⟩
  ·cases h
theorem F6 {av avb:Av}:∀ {cs:List AV} {us:List Value},GG ι av avb w cs us->nH ι Θ av avb w (cs.map (⟨·,.no⟩)) us
 | [],_,h=>h
 | x :: r,_,h=>by
  simp only [GG] at h;obtain ⟨u,sa,rfl,h0,h⟩:=h;refine ⟨u,sa,rfl,?_,trivial,F6 h⟩;cases x with
  | bp cs=>exact h0
  | int k n=>exact OD (x:=.int k n) h0
  | bool b=>exact OD (x:=.bool b) h0
  | str b=>exact OD (x:=.str b) h0
  | nilP=>exact OD (x:=.nilP) h0
  | ptr t n o=>exact OD (x:=.ptr t n o) h0
  | ip cs=>exact OD (x:=.ip cs) h0
  | sl n l=>exact OD (x:=.sl n l) h0
  | bl l=>exact OD (x:=.bl l) h0
  | ref a b c d e f=>exact OD (x:=.ref a b c d e f) h0
  | mp t n=>exact OD (x:=.mp t n) h0
  | fn f cs=>exact OD (x:=.fn f cs) h0
  | agg cs=>exact OD (x:=.agg cs) h0
  | tup cs=>exact OD (x:=.tup cs) h0
  | undef=>trivial
theorem o8 {D:Nat->Prop} (R:MB P O nt B F0 da w0 D s a w ι Θ) {lh:LH} (xg:K1 P O lh.h) {o:Oper} {hs:Nat->Bool} {nt':Nat} {x:FB} {xs:List FB} (hk:RZ nt hs o.op=some (.callh nt' x xs)) (hd:∀ d,o.dst=some d->d<nt) {k:pA->Option RV} {r:RV} (hr:OO lh o.dst nt' x xs s k=some r)
  {Kn:Act->World->Prop} {Q:Exit->Act->World->Prop} (hK:∀ s' a' w',QD P O nt B F0 da w0 (fun t=>D t\/o.dst=some t) s' a' w'->k s'=some r->Kn a' w'):o.wp P a w Kn Q:=by
 have go:∀ {f:FuncId} {Xs:Array Operand} {cs:List AV} {us:List Value},nt'=nt->MG Xs.toList=some xs->GG ι (EC da ι Θ) (RC ι Θ) w cs us->lh.h f (wP s xs++cs.map (⟨·,.no⟩)) (s.enter nt) (fun y s'=>k ((s'.leave nt).put o.dst y))=some r->((∀ vs w,(callFunc f vs).run P w=.ok (.enter f vs) w)->(execOp a.eval o).run P w=.ok (.enter f (Xs.map a.eval++us.toArray)) w)->o.wp P a w Kn Q:=fun {f Xs cs us} hn hx kj hh run=>by
  obtain ⟨h1,h2⟩:=xg _ _ _ _ _ hh;unfold Oper.wp;rw [run h1,Oper.upon_enter];have ld:(Xs.toList.map a.eval++us).toArray=Xs.map a.eval++us.toArray:=by
   apply Array.ext';simp
  rw [<- ld];refine h2 B (F0.wait nt a) da w0 w ι Θ _ _ R.wait (GR (LR R hx) (F6 kj)) fun y s' w' ι' Θ' v R' hv ha oj=>?_
  exact hK _ _ _ ⟨ι',Θ',((R.resume (D':=D) R').putN hd hv ha).more fun _ h=>.inl h⟩ oj
 unfold RZ at hk;split at hk
 ·rename_i f Xs ts ho;split at hk
  ·obtain ⟨l,hl,hk⟩:=yf.1 hk;injection hk with hn hx ge;subst hx;subst ge;simp only [OO,FB.get] at hr;refine go (cs:=[]) (us:=[]) hn.symm hl rfl (by rw [hn]; exact hr) fun fd=>?_
   simp only [execOp,ho,resolve,Act.eval,Deferred.ofValue,Sem.run_bind,Sem.run_pure,Result.andThen_ok,invoke];have:=fd (#[]++Xs.map a.eval++#[]) w;simp only [Array.empty_append,Array.append_empty] at this ⊢;exact this
  ·cases hk
 ·rename_i tf Xs ts ho;split at hk
  ·obtain ⟨l,hl,hk⟩:=yf.1 hk;injection hk with hn hx ge;subst hx;subst ge;simp only [OO,FB.get] at hr;split at hr
   ·rename_i f cs sq;have hF:=R.env tf;rw [sq] at hF;obtain ⟨us,bd,kj⟩:=hF;refine go (cs:=cs) (us:=us.toList) hn.symm hl kj (by rw [hn]; exact hr) fun fd=>?_
    have hev:a.eval (.tmp tf)=.func (.func f) #[] us:=bd;simp only [execOp,ho,resolve,hev,Deferred.ofValue,Sem.run_bind,Sem.run_pure,Result.andThen_ok,invoke];have:=fd (#[]++Xs.map a.eval++us) w;simp only [Array.empty_append] at this ⊢;exact this
   ·cases hr
  ·cases hk
 ·obtain ⟨_,_,h⟩:=yf.1 hk; cases h
 ·cases hk
theorem qT {f:Nat->Option RV} {z:Option RV} {r:RV} (l:List Nat) (h:Q3 f z l=some r):(l=[]->z=some r)/\∀ i∈l,f i=some r:=by
 match l,h with
 | [],h=>exact ⟨fun _=>h,fun i hi=>absurd hi (by simp)⟩
 | [a],h=>exact ⟨fun e=>(by cases e),fun i hi=>(by rw [yO.1 hi]; exact h)⟩
 | a :: b :: l,h =>
  have h':(open Classical in if ∀ x∈b :: l,f x=f a then f a else none)=some r:=h;split at h'
  ·rename_i hc;refine ⟨fun e=>(by cases e),fun i hi=>?_⟩;rcases yh.1 hi with hi | hi
   ·rw [hi]; exact h'
   ·exact (hc i hi).trans h'
  ·cases h'
theorem TR {f:Nat->Option RV} {z:Option RV} {r:RV} (l:List Nat) (h0:l=[]->z=some r) (h:∀ i∈l,f i=some r):Q3 f z l=some r:=by
 match l,h0,h with
 | [],h0,_=>exact h0 rfl
 | [a],_,h=>exact h a yl
 | a :: b :: l,_,h =>
  show (open Classical in if ∀ x∈b :: l,f x=f a then f a else none)=some r;rw [if_pos fun x hx=>(h x (yr _ hx)).trans (h a yl).symm];exact h a yl
theorem op_nxt {D:Nat->Prop} (R:MB P O nt B F0 da w0 D s a w ι Θ) {o:Oper} {X:Operand} {x:FB} (hx:opd X=some x) (ho:o.op=.next X false) (hd:∀ d,o.dst=some d->d<nt) {k:pA->Option RV} {r:RV} (hr:IS o.dst x s k=some r)
  {Kn:Act->World->Prop} {Q:Exit->Act->World->Prop} (hK:∀ s' a' w',QD P O nt B F0 da w0 (fun t=>D t\/o.dst=some t) s' a' w'->k s'=some r->Kn a' w'):o.wp P a w Kn Q:=by
 unfold IS at hr;split at hr
 case h_2=>cases hr
 rename_i t n mc;split at hr
 case h_2=>cases hr
 rename_i tm nm N seen hi;split at hr
 case h_2=>cases hr
 rename_i L hL;split at hr
 case isFalse=>cases hr
 rename_i hN;have hX:=(R.opd hx).1;rw [mc] at hX;obtain ⟨q,hq,hv⟩:=hX;obtain ⟨S,hS,dk⟩:=y7.1 hi;obtain ⟨p,H,hp,nb,wc,tj⟩:=R.objs t n S hS;rw [hq] at hp;injection hp with hp;subst hp;obtain ⟨m,Hm,hm,hobm,na⟩:=tj tm nm N seen dk;obtain ⟨hH,fa⟩:=(O.iters S H q w (by rw [dk]; rfl)).1 wc;obtain ⟨S2,hS2,aq⟩:=y7.1 hL;obtain ⟨p2,H2,ck,pt,py,_⟩:=R.objs tm nm S2 hS2;rw [hm] at ck;injection ck with ck;subst ck;have lv:S2=FG L:=by
  unfold BH at aq;split at aq
  ·injection aq with aq; subst aq; rfl
  ·cases aq
 subst lv;obtain ⟨hH2,es,clock,he,jf,hc,jb⟩:=(O.maps L H2 m w).1 py;have dz:es.size=N:=by rw [<- hN]; simpa using congrArg List.length jf
 obtain ⟨h1,h2⟩:=qT _ hr;have hgq:(getObj q).run P w=.ok (.mapIter (some m) N seen.toArray N) w:=by simp [getObj,Sem.run,na]
 have ru:(getObj m).run P w=.ok (.map es clock) w:=by simp [getObj,Sem.run,he]
 have ss:∀ i (hi:i<es.size),(es[i]∈es.filter (fun e=>!seen.toArray.contains e.born) ↔ (!seen.contains i)=true):=fun i hi=>by
  rw [Array.mem_filter,jb i hi];simp
 have px:(!seen.toArray.isEmpty&&!es.isEmpty&&es.all (fun x=>decide (x.born>=N)))=false:=by
  cases mr:es.isEmpty with
  | true=>simp
  | false =>
   have h0:0<es.size:=by
    rcases yK es.size with h0 | h0
    ·simp [Array.isEmpty,h0] at mr
    ·exact h0
   have:es.all (fun x=>decide (x.born>=N))=false:=by
    rw [Bool.eq_false_iff];intro ta;rw [Array.all_eq_true] at ta;have:=ta 0 h0;rw [jb 0 h0] at this;simp at this;omega
   simp [this]
 have ra:∀ x∈es.filter (fun e=>!seen.toArray.contains e.born),x.born<N:=fun x hx=>by
  have wj:x∈es:=(Array.mem_filter.1 hx).1;obtain ⟨i,ac,rfl⟩:=Array.mem_iff_getElem.1 wj;rw [jb i ac];omega
 generalize hLf:es.filter (fun e=>!seen.toArray.contains e.born)=Lf at ra ss;have e1:Lf.filter (fun x=>decide (x.born<N))=Lf:=Array.filter_eq_self.2 fun x hx=>by simpa using ra x hx
 have e2:Lf.filter (fun x=>decide (x.born>=N))=#[]:=by
  rw [Array.filter_eq_empty_iff];intro x hx;have:=ra x hx;simp;omega
 unfold Oper.wp;by_cases h0:Lf.size=0
 ·have hz:Lf=#[]:=Array.eq_empty_of_size_eq_zero h0;have mt:(List.range N).filter (fun i=>!seen.contains i)=[]:=by
   refine List.eq_nil_iff_forall_not_mem.2 fun i ac=>?_
   have ga:i<es.size:=by have:=(List.mem_filter.1 ac).1; rw [dz]; exact List.mem_range.1 this
   have:=(ss i ga).2 (List.mem_filter.1 ac).2;rw [hz] at this;simp at this
  have ca:(execOp a.eval o).run P w=.ok (.value (.tuple #[.bool false])) w:=by
   simp only [execOp,ho,hv,Instr.next,Sem.run_bind,hgq,ru,Result.andThen_ok,px,yq,if_false,hLf,e1,e2,hz,Array.append_empty];simp [choose,Sem.run,Question.forced]
  rw [ca,Oper.upon_value];exact hK _ _ _ ⟨ι,Θ,(R.putN hd (x:=⟨.tup [.bool false],.no⟩) ⟨_,rfl,_,_,rfl,rfl,rfl⟩ trivial).more fun _ h=>.inl h⟩ (h1 mt)
 ·have oa:Lf.isEmpty=false:=by simp [Array.isEmpty,h0]
  obtain ⟨j,w1,hj,jk,hch⟩:∃ (j:Nat) (w1:World),j<Lf.size/\(w1=w\/w1=w.drew)/\(choose (Question.mapNext Lf.size)).run P w=.ok j w1:=by
   by_cases hf:Lf.size<=1
   ·exact ⟨0,w,by omega,.inl rfl,by simp [choose,Sem.run,Question.forced,hf]⟩
   ·exact ⟨_,w.drew,Nat.mod_lt _ (by omega),.inr rfl,by
     simp only [choose,Sem.run,Question.forced,decide_eq_true_eq,hf,if_false,Question.cut];rfl⟩
  have hjm:Lf[j]∈Lf:=by simp
  have hje:Lf[j]∈es:=by
   have:∀ x,x∈Lf->x∈es:=fun x hx=>by rw [<- hLf] at hx; exact (Array.mem_filter.1 hx).1
   exact this _ hjm
  obtain ⟨i,gj,jz⟩:=Array.mem_iff_getElem.1 hje;have ac:i∈(List.range N).filter fun i=>!seen.contains i:=List.mem_filter.2 ⟨List.mem_range.2 (by rw [<- dz]; exact gj),(ss i gj).1 (by rw [jz]; exact hjm)⟩
  have hborn:Lf[j].born=i:=by rw [<- jz]; exact jb i gj
  have hk:=h2 i ac;split at hk
  case h_2=>cases hk
  rename_i y v ep;split at hk
  case isFalse=>cases hk
  rename_i kh;rw [y8] at kh;have hkv:Lf[j].key=y.flatV/\Lf[j].val=v.flatV:=by
   have:=congrArg (fun l=>l[i]?) jf;simp only [yc,ep,Array.getElem?_toList,Y03 gj,yx,Option.some.injEq,entV] at this;rw [<- jz];exact ⟨congrArg Prod.fst this,congrArg Prod.snd this⟩
  have cu:w1.heap=w.heap:=by rcases jk with rfl | rfl <;> rfl
  have hq1:w1.heap[q]?=some (.mapIter (some m) N seen.toArray N):=by rw [cu]; exact na
  have xt:(setObj q (.mapIter (some m) N (seen.toArray.push i) clock)).run P w1=.ok () { w1 with heap:=w1.heap.setIfInBounds q (.mapIter (some m) N (seen.toArray.push i) clock) }:=by
   simp [setObj,Sem.run,hq1]
  have ca:(execOp a.eval o).run P w=.ok (.value (.tuple #[.bool true,y.flatV,v.flatV])) { w1 with heap:=w1.heap.setIfInBounds q (.mapIter (some m) N (seen.toArray.push i) clock) }:=by
   simp only [execOp,ho,hv,Instr.next,Sem.run_bind,hgq,ru,Result.andThen_ok,px,yq,if_false,hLf,e1,e2,oa,Array.append_empty,Array.empty_append,Array.size_map,hch,Array.getElem?_map,Y03 hj,yx,hborn,xt,Sem.run_pure,hkv.1,hkv.2]
  rw [ca,Oper.upon_value];have R1:MB P O nt B F0 da w0 D s a w1 ι Θ:=R.grow (fun b _=>by rw [cu]) (by rw [cu]; exact yn _) (by rcases jk with rfl | rfl; exact R.kept; exact R.kept.drew);have ai:O.at_ (SY tm nm N (seen++[i])) H q { w1 with heap:=w1.heap.setIfInBounds q (.mapIter (some m) N (seen.toArray.push i) clock) }:=(O.iters _ _ _ _ (by rw [tW]; rfl)).2 ⟨hH,by simp; rw [cu]; exact fa⟩;have ej:xD H w1 { w1 with heap:=w1.heap.setIfInBounds q (.mapIter (some m) N (seen.toArray.push i) clock) }:=⟨rfl,rfl,rfl,by simp,fun j' _ hn=>by
   have:j'≠q:=fun e=>hn ((hH j').2 e)
   simp only [Array.getElem?_setIfInBounds];rw [if_neg fun e:q=j'=>this e.symm]⟩
  have htie':G3 ι (SY tm nm N (seen++[i])) q { w1 with heap:=w1.heap.setIfInBounds q (.mapIter (some m) N (seen.toArray.push i) clock) }:=fun tm' nm' N' seen' e=>by
   rw [tW] at e;injection e with e;injection e with g1 e;injection e with g2 e;injection e with g3 g4;subst g1; subst g2; subst g3; subst g4;refine ⟨m,Hm,hm,hobm,?_⟩;have hlt1:q<w1.heap.size:=by rw [cu]; exact fa
   simp [hlt1,hc,dz]
  obtain ⟨ι',R2,_⟩:=R1.turnObj hq nb ai htie' (fun b hb=>.inl hb) ej;refine hK _ _ _ ⟨ι',Θ,(R2.putN hd (x:=⟨.tup [.bool true,y,v],.no⟩) ?_ trivial).more fun _ h=>.inl h⟩ hk;exact ⟨_,rfl,_,_,rfl,rfl,_,_,rfl,HG (zN kh.1),_,_,rfl,HG (zN kh.2),rfl⟩
structure B3 (P:Program) (nt:Nat) (ops:Array Oper) (o:Oper) (c:EA):Prop where
 dst:c.dst=o.dst
 op:(isH c.op=false/\∃ cl mu b q,X6 P cl mu b q o.op=some c.op/\(mu≠none->o.dst≠none))\/∃ hs,RZ nt hs o.op=some c.op
 lt:∀ d,o.dst=some d->d<nt
 guard:match o.guard with
  | none=>c.guard=none
  | some (g,want)=>∃ t,(ops[g]?).bind (·.dst)=some t/\c.guard=some (t,want)
theorem NU {boxes:List Nat} {all:List Oper} {draw:Bool}:∀ {ops:List Oper} {cs:List EA},rS P boxes nt all draw ops=some cs->cs.length=ops.length/\∀ (i:Nat) (o:Oper),ops[i]?=some o->∃ c,cs[i]?=some c/\B3 P nt all.toArray o c
 | [],cs,h=>by injection h with h; subst h; exact ⟨rfl,fun i o ho=>by simp at ho⟩
 | o :: r,cs,h=>by
  unfold rS at h;split at h
  ·rename_i k l hk hl;split at h
   ·rename_i fa;have ga:∀ d,o.dst=some d->d<nt:=fun d hd=>by rw [hd] at fa; simpa [dstOk] using fa
    obtain ⟨h1,h2⟩:=NU hl;have XN:∀ c,cs=c :: l->B3 P nt all.toArray o c->cs.length=(o :: r).length/\∀ (i:Nat) (o':Oper),(o :: r)[i]?=some o'->∃ c,cs[i]?=some c/\B3 P nt all.toArray o' c:=fun c e hc=>by
     subst e;refine ⟨by simp [h1],fun i o' ho=>?_⟩;cases i with
     | zero=>simp at ho; subst ho; exact ⟨c,rfl,hc⟩
     | succ i=>simpa using h2 i o' (by simpa using ho)
    have jn:(match o.dst with | some d=>if boxes.contains (nt + 1 + (2 * d + 1)) then some true else if boxes.contains (nt + 1 + 2 * d) then some false else none | none=>none)≠none->o.dst≠none:=fun h e=>by rw [e] at h; exact h rfl
    have eb:(isH k=false/\∃ cl mu b q,X6 P cl mu b q o.op=some k/\(mu≠none->o.dst≠none))\/∃ hs,RZ nt hs o.op=some k:=by
     split at hk
     ·rename_i k' zc;injection hk with hk;exact .inr ⟨_,hk ▸ zc⟩
     ·obtain ⟨h1,h2⟩:=Option.filter_eq_some_iff.1 hk;exact .inl ⟨by simpa using h2,_,_,_,_,h1,jn⟩
    cases hg:o.guard with
    | none =>
     simp only [hg] at h;injection h with h;exact XN _ h.symm ⟨rfl,eb,ga,by rw [hg]⟩
    | some p =>
     obtain ⟨g,want⟩:=p;simp only [hg] at h;split at h
     ·rename_i t ht;injection h with h;exact XN _ h.symm ⟨rfl,eb,ga,by rw [hg]; exact ⟨t,by simpa using ht,rfl⟩⟩
     ·cases h
   ·cases h
  ·cases h
section
variable {D:Nat->Prop} (R:QD P O nt B F0 da w0 D s a w) (wa:∀ f args S r,call f args S=some r->rD P O f args S r)
include D R wa
theorem step_sound {ops:Array Oper} {i:Nat} {o:Oper} {c:EA} (ho:ops[i]?=some o) (ok:B3 P nt ops o c) (hD:∀ d,o.dst=some d->(isA c.op||KT c.op)=true->¬ D d) (eb:∃ cl mu b q,X6 P cl mu b q o.op=some c.op/\(mu≠none->o.dst≠none)) (hs:c.step call s=some s')
  {Kn:Act->World->Prop} (hK:∀ a' w',QD P O nt B F0 da w0 (fun t=>D t\/o.dst=some t) s' a' w'->Kn a' w'):wpOp P ops Q i Kn a w:=by
 obtain ⟨ι,Θ,R⟩:=R;obtain ⟨cl,mu,b,q,eb,jn⟩:=eb;obtain ⟨cd,cop,cg⟩:=c;have ba:cd=o.dst:=ok.dst;subst ba;have main:cop.run call s≠none->(cop.run call s).bind (EA.eff ⟨o.dst,cop,cg⟩ s)=some s'->o.wp P a w Kn Q:=fun _ h=>by
  obtain ⟨xe,hx,he⟩:=y7.1 h;unfold X6 at eb;split at eb
  ·rename_i k hk;injection eb with eb;subst eb;exact op_sound R wa hk jn ok.lt hD hx he hK
  ·split at eb
   ·injection eb with eb;subst eb;cases hx
   ·cases eb
 have main':(cop.run call s).bind (EA.eff ⟨o.dst,cop,cg⟩ s)=some s'->o.wp P a w Kn Q:=fun h=>main (fun e=>by rw [e] at h; cases h) h
 unfold wpOp;simp only [ho];have mw:MA ι (EC da ι Θ) (RC ι Θ) w (.tup []) undef:=⟨#[],rfl,rfl⟩;have hg:=ok.guard;cases zp:o.guard with
 | none =>
  rw [zp] at hg;simp only at hg;subst hg;have:Region.wanted o (yielded ops a.tmps)=true:=by simp [Region.wanted,zp]
  rw [if_pos this];exact .inl (main' hs)
 | some p =>
  obtain ⟨g,want⟩:=p;rw [zp] at hg;obtain ⟨t,ht,hg⟩:=hg;simp only at hg;subst hg;unfold EA.step at hs;simp only at hs;split at hs
  ·rename_i b hb;have hr:=R.env t;rw [hb,OB] at hr;have hy:yielded ops a.tmps g=some b:=by
    unfold yielded;rw [ht];simp only [V];rw [Y02] at hr;cases hh:a.tmps[t]? with
    | none=>rw [hh] at hr; simp [undef] at hr
    | some v=>rw [hh] at hr; simp only [Option.getD_some] at hr; subst hr; rfl
   have hw:Region.wanted o (yielded ops a.tmps)=(b == want):=by
    simp only [Region.wanted,zp,hy];cases b <;> cases want <;> rfl
   rw [hw];split at hs
   ·rename_i e;subst e;rw [if_pos (by simp)];exact .inl (main' hs)
   ·rename_i e;injection hs with hs;subst hs;rw [if_neg (by simpa using e)];exact hK _ _ ⟨ι,Θ,(R.putN ok.lt (x:=⟨.tup [],.no⟩) mw trivial).more fun _ h=>.inl h⟩
  ·rename_i hb;have hr:=R.env t;rw [hb] at hr;obtain ⟨us,hv,pd⟩:=hr;have hy:yielded ops a.tmps g=none:=by
    unfold yielded;rw [ht];simp only [V];rw [Y02] at hv;cases hh:a.tmps[t]? with
    | none=>rfl
    | some v=>rw [hh] at hv; simp only [Option.getD_some] at hv; subst hv; rfl
   have hw:Region.wanted o (yielded ops a.tmps)=false:=by
    simp only [Region.wanted,zp,hy];cases want <;> rfl
   rw [hw];injection hs with hs;subst hs;rw [if_neg (by decide)];exact hK _ _ ⟨ι,Θ,(R.putN ok.lt (x:=⟨.tup [],.no⟩) mw trivial).more fun _ h=>.inl h⟩
  ·cases hs
theorem fV (xg:K1 P O lh.h) {ops:Array Oper} {i:Nat} {o:Oper} {c:EA} (ho:ops[i]?=some o) (ok:B3 P nt ops o c) (hD:∀ d,o.dst=some d->(isA c.op||KT c.op)=true->¬ D d) {k:pA->Option RV} {r:RV} (hs:c.stepK call lh s k=some r)
  {Kn:Act->World->Prop} (hK:∀ s' a' w',QD P O nt B F0 da w0 (fun t=>D t\/o.dst=some t) s' a' w'->k s'=some r->Kn a' w'):wpOp P ops Q i Kn a w:=by
 rcases ok.op with ⟨hH,eb⟩ | ⟨ei,eb⟩
 ·have hb:(c.step call s).bind k=some r:=by
   unfold EA.stepK at hs;split at hs
   ·rename_i h; rw [h] at hH; cases hH
   ·rename_i h; rw [h] at hH; cases hH
   ·exact hs
  obtain ⟨s1,h1,h2⟩:=y7.1 hb;exact step_sound R wa ho ok hD eb h1 fun a' w' R'=>hK s1 a' w' R' h2
 ·obtain ⟨cd,cop,cg⟩:=c;have ba:cd=o.dst:=ok.dst;subst ba;simp only at eb;obtain ⟨ι,Θ,R⟩:=R;obtain ⟨st,jb,main'⟩:∃ st,EA.stepK call lh ⟨o.dst,cop,cg⟩ s k=UH s o.dst cg st k/\(st=some r->o.wp P a w Kn Q):=by
   have ki:=eb;unfold RZ at ki;split at ki
   ·split at ki
    ·obtain ⟨_,_,h⟩:=yf.1 ki; subst h; exact ⟨_,rfl,fun h=>o8 R xg eb ok.lt h hK⟩
    ·cases ki
   ·split at ki
    ·obtain ⟨_,_,h⟩:=yf.1 ki; subst h; exact ⟨_,rfl,fun h=>o8 R xg eb ok.lt h hK⟩
    ·cases ki
   ·rename_i X hox;obtain ⟨x,hx,h⟩:=yf.1 ki;subst h;exact ⟨_,rfl,fun h=>op_nxt R hx hox ok.lt h hK⟩
   ·cases ki
  rw [jb] at hs;unfold wpOp;simp only [ho];have mw:MA ι (EC da ι Θ) (RC ι Θ) w (.tup []) undef:=⟨#[],rfl,rfl⟩;have hg:=ok.guard;cases zp:o.guard with
  | none =>
   rw [zp] at hg;simp only at hg;subst hg;have:Region.wanted o (yielded ops a.tmps)=true:=by simp [Region.wanted,zp]
   rw [if_pos this];exact .inl (main' hs)
  | some p =>
   obtain ⟨g,want⟩:=p;rw [zp] at hg;obtain ⟨t,ht,hg⟩:=hg;simp only at hg;subst hg;unfold UH at hs;simp only at hs;split at hs
   ·rename_i b hb;have hr:=R.env t;rw [hb,OB] at hr;have hy:yielded ops a.tmps g=some b:=by
     unfold yielded;rw [ht];simp only [V];rw [Y02] at hr;cases hh:a.tmps[t]? with
     | none=>rw [hh] at hr; simp [undef] at hr
     | some v=>rw [hh] at hr; simp only [Option.getD_some] at hr; subst hr; rfl
    have hw:Region.wanted o (yielded ops a.tmps)=(b == want):=by
     simp only [Region.wanted,zp,hy];cases b <;> cases want <;> rfl
    rw [hw];split at hs
    ·rename_i e;subst e;rw [if_pos (by simp)];exact .inl (main' hs)
    ·rename_i e;rw [if_neg (by simpa using e)];exact hK _ _ _ ⟨ι,Θ,(R.putN ok.lt (x:=⟨.tup [],.no⟩) mw trivial).more fun _ h=>.inl h⟩ hs
   ·rename_i hb;have hr:=R.env t;rw [hb] at hr;obtain ⟨us,hv,pd⟩:=hr;have hy:yielded ops a.tmps g=none:=by
     unfold yielded;rw [ht];simp only [V];rw [Y02] at hv;cases hh:a.tmps[t]? with
     | none=>rfl
     | some v=>rw [hh] at hv; simp only [Option.getD_some] at hv; subst hv; rfl
    have hw:Region.wanted o (yielded ops a.tmps)=false:=by
     simp only [Region.wanted,zp,hy];cases want <;> rfl
    rw [hw];rw [if_neg (by decide)];exact hK _ _ _ ⟨ι,Θ,(R.putN ok.lt (x:=⟨.tup [],.no⟩) mw trivial).more fun _ h=>.inl h⟩ hs
   ·cases hs
end
theorem QD.next {D:Nat->Prop} (R:QD P O nt B F0 da w0 D s a w):QD P O nt B F0 da w0 (fun _=>False) { s with next:=s.next + 1 } a w:=by
 obtain ⟨ι,Θ,R⟩:=R;exact ⟨ι,Θ,R.defers,R.size,R.env,R.ann,R.rows,fun t n b h=>let ⟨h1,h2,h3⟩:=R.mine t n b h; ⟨h1,h2,.inl (by rcases h3 with h | h <;> simp only <;> omega)⟩,R.inj,R.tok,R.tinj,R.apart,R.out,R.pin,R.kept,R.base,R.objs,fun t n H h=>let ⟨h1,h2⟩:=R.obs t n H h; ⟨h1,.inl (by rcases h2 with h | h <;> simp only <;> omega)⟩,R.gen,R.gann⟩
theorem HW {cs:List EA} (h:gS cs=true) {i j:Nat} {x y:EA} (hx:cs[i]?=some x) (hy:cs[j]?=some y) (oa:i≠j) (hA:(isA y.op||KT y.op)=true) (il:y.dst.isSome=true):x.dst≠y.dst:=by
 have hj:=(yb.1 hy).1;have hi:=(yb.1 hx).1;have h1:=y5.1 h j (List.mem_range.2 hj);rw [hy] at h1;simp only [hA,il,Bool.true_and,Bool.not_true,Bool.false_or] at h1;have h2:=y5.1 h1 i (List.mem_range.2 hi);rw [hx] at h2;simp only [Bool.or_eq_true] at h2;rcases h2 with h2 | h2
 ·exact absurd (by simpa using h2) oa
 ·simpa using h2
theorem P0 {ops:Array Oper} {cs:List EA} (wa:∀ f args S r,call f args S=some r->rD P O f args S r) (xg:K1 P O lh.h) (la:∀ (i:Nat) (o:Oper),ops[i]?=some o->∃ c,cs[i]?=some c/\B3 P nt ops o c) (ia:cs.length=ops.size) (hf:gS cs=true) {k:pA->Option RV} {r:RV} :
  ∀ (n i:Nat) (s:pA) (a:Act) (w:World),i + n=ops.size->QD P O nt B F0 da w0 (fun t=>∃ j c,j<i/\cs[j]?=some c/\c.dst=some t) s a w->IF call lh (cs.drop i) s k=some r →
   (∀ s' a' w',QD P O nt B F0 da w0 (fun _=>True) s' a' w'->k s'=some r->Q .normal a' w')->wpOps P ops Q (List.range' i n) a w
 | 0,i,s,a,w,hi,R,hr,hQ=>by
  have:cs.drop i=[]:=ye (by omega);rw [this] at hr;obtain ⟨ι,Θ,R⟩:=R;exact hQ s a w ⟨ι,Θ,R.more fun _ _=>trivial⟩ hr
 | n + 1,i,s,a,w,hi,R,hr,hQ=>by
  have fa:i<ops.size:=by omega
  obtain ⟨c,hc,ok⟩:=la i ops[i] (Y03 fa);have ad:i<cs.length:=by omega
  have hci:cs[i]=c:=(yb.1 hc).2;rw [y9 ad,hci] at hr;unfold IF at hr;rw [List.range'_succ,wpOps_cons];refine fV R wa xg (Y03 fa) ok (fun d hd hA ⟨j,c',hj,df,up⟩=>?_) hr fun s' a' w' R' hk=>?_
  ·exact HW hf df hc (by omega) hA (by rw [ok.dst,hd]; rfl) (by rw [up,ok.dst,hd])
  ·refine P0 wa xg la ia hf n (i + 1) s' a' w' (by omega) ?_ hk hQ;obtain ⟨ι,Θ,R'⟩:=R';refine ⟨ι,Θ,R'.more fun t ht=>?_⟩;rcases ht with ⟨j,c',hj,df,up⟩ | ht
   ·exact ⟨j,c',by omega,df,up⟩
   ·exact ⟨i,c,by omega,hc,by rw [ok.dst,ht]⟩
end
end
section
open Go Go.RowKit
section
variable {P:Program} {O:uH} {nt B:Nat} {F0:SO} {da:Av} {w0:World} {s s':pA} {a:Act} {w w':World} {call:aB} {lh:LH} {Q:Exit->Act->World->Prop}
noncomputable def kK (call:aB) (lh:LH) (cs:List EA):List Nat->pA->(pA->Option RV)->Option RV
 | [],s,k=>k s
 | i :: r,s,k=>match cs[i]? with
  | some c=>c.stepK call lh s fun s=>kK call lh cs r s k
  | none=>none
theorem lY (cs:List EA) (k:pA->Option RV):∀ (n i:Nat) (s:pA),i + n=cs.length->IF call lh (cs.drop i) s k=kK call lh cs (List.range' i n) s k
 | 0,i,s,h=>by rw [ye (by omega)]; rfl
 | n + 1,i,s,h=>by
  have fa:i<cs.length:=by omega
  rw [y9 fa,List.range'_succ];unfold IF kK;rw [y4 fa];simp only;congr 1;funext s1;exact lY cs k n (i + 1) s1 (by omega)
theorem rH {c:EA} (h:isH c.op=false) (s:pA) (k:pA->Option RV):c.stepK call lh s k=(c.step call s).bind k:=by
 unfold EA.stepK;split
 ·rename_i e; rw [e] at h; cases h
 ·rename_i e; rw [e] at h; cases h
 ·rfl
theorem isM_H {k:K} (h:isM k=false):isH k=false:=by
 cases k <;> first | rfl | cases h
theorem pair_H {x y:EA} (h:tO x y=true):isH x.op=false/\isH y.op=false:=by
 have hN:∀ {k:K},isN k=true->isH k=false:=fun {k} h=>by cases k <;> first | rfl | cases h
 have hV:∀ {o:EA},isMv o=true->isH o.op=false:=fun h=>by obtain ⟨d,z,rfl⟩:=isMv_eq h; rfl
 unfold tO at h;simp only [Bool.or_eq_true,y8] at h;rcases h with h | ⟨h,h'⟩ | ⟨h,h'⟩
 ·unfold nI at h;simp only [y8] at h;exact ⟨isM_H (by simpa using h.1.1.1.1.1.1.1),isM_H (by simpa using h.1.1.1.1.1.1.2)⟩
 ·exact ⟨hV h,hN h'⟩
 ·exact ⟨hN h',hV h⟩
theorem bubble0 {cs:List EA} {i:Nat} {c:EA} (hc:cs[i]?=some c) (hH:isH c.op=false) {L2:List Nat} {k:pA->Option RV} {r:RV}:∀ {L1:List Nat} {s:pA},(∀ r∈L1,∃ cr,cs[r]?=some cr/\NJ cr c=true/\tO cr c=true)->kK call lh cs (L1++i :: L2) s k=some r →
  ∃ s1,c.step call s=some s1/\kK call lh cs (L1++L2) s1 k=some r
 | [],s,_,h=>by
  simp only [List.nil_append,kK,hc,rH hH] at h;obtain ⟨s1,h1,h2⟩:=y7.1 h;exact ⟨s1,h1,h2⟩
 | q :: L1,s,hL,h=>by
  obtain ⟨cr,hr,ha,ho⟩:=hL q (yl);simp only [List.cons_append,kK,hr,rH (pair_H ho).1] at h;obtain ⟨s1,h1,h2⟩:=y7.1 h;obtain ⟨s2,h3,h4⟩:=bubble0 hc hH (fun q hq=>hL q (yr _ hq)) h2;obtain ⟨nq,h5,h6⟩:=commute ha ho h1 h3;refine ⟨nq,h5,?_⟩;simp only [List.cons_append,kK,hr,rH (pair_H ho).1,h6,V];exact h4
theorem bubble {cs:List EA} {i:Nat} {c:EA} (hc:cs[i]?=some c) {L2:List Nat} {k:pA->Option RV} {r:RV} {L1:List Nat} {s:pA} (hL:∀ r∈L1,∃ cr,cs[r]?=some cr/\NJ cr c=true/\tO cr c=true) (h:kK call lh cs (L1++i :: L2) s k=some r) :
  c.stepK call lh s (fun s1=>kK call lh cs (L1++L2) s1 k)=some r:=by
 cases L1 with
 | nil=>simpa only [List.nil_append,kK,hc] using h
 | cons q L1 =>
  obtain ⟨cr,hr,ha,ho⟩:=hL q (yl);have hH:=(pair_H ho).2;obtain ⟨s1,h1,h2⟩:=bubble0 hc hH hL h;rw [rH hH,h1,V];exact h2
theorem p0 {o:Oper} {e:Nat}:e∈UK o ↔ ∃ d∈o.after,Region.binds .any d=true/\d.on=e:=by
 unfold UK;rw [List.mem_filterMap];constructor
 ·rintro ⟨d,hd,h⟩;split at h
  ·rename_i hb; injection h with h; exact ⟨d,by simpa using hd,hb,h⟩
  ·cases h
 ·rintro ⟨d,hd,hb,rfl⟩;exact ⟨d,by simpa using hd,by rw [if_pos hb]⟩
theorem bf_spec {ops:List Oper} {bf:List Nat} (h:bfOk ops bf=true) {i:Nat} {o:Oper} (ho:ops[i]?=some o):(∀ e∈UK o,e<i)/\∀ r,r<i->(bf.getD i 0).testBit r=true->∃ e∈UK o,e=r\/(r<e/\(bf.getD e 0).testBit r=true):=by
 have hi:=(yb.1 ho).1;have h1:=y5.1 h i (List.mem_range.2 hi);rw [ho] at h1;simp only [y8] at h1;refine ⟨fun e he=>by simpa using y5.1 h1.1 e he,fun r hr hb=>?_⟩;have h2:=y5.1 h1.2 r (List.mem_range.2 hr);simp only [hb,Bool.not_true,Bool.false_or,List.any_eq_true,Bool.or_eq_true,beq_iff_eq,y8,decide_eq_true_eq] at h2;exact h2
theorem xZ {ops:List Oper} {bf:List Nat} (h:bfOk ops bf=true) {L:List Nat} (ad:∀ (j:Nat) (o:Oper),ops[j]?=some o->j ∉ L->∀ e∈UK o,e ∉ L):∀ (n i:Nat) (o:Oper),i<n->ops[i]?=some o->(∀ e∈UK o,e ∉ L)->∀ r,r<i->(bf.getD i 0).testBit r=true->r ∉ L
 | 0,i,o,hn,_,_,_,_,_=>by omega
 | n + 1,i,o,hn,ho,hed,r,hr,hb=>by
  obtain ⟨h1,h2⟩:=bf_spec h ho;obtain ⟨e,he,hor⟩:=h2 r hr hb;rcases hor with rfl | ⟨jg,hbe⟩
  ·exact hed _ he
  ·have hei:=h1 e he;have fa:i<ops.length:=(yb.1 ho).1;have hoe:ops[e]?=some ops[e]:=y4 (by omega);exact xZ h ad n e _ (by omega) hoe (ad e _ hoe (hed e he)) r jg hbe
theorem draw_pair {ops:List Oper} {cs:List EA} (h:OT ops cs=true) {i j:Nat} (hj:j<ops.length) (hij:i<j) (hb:((LP ops).getD j 0).testBit i=false):∃ x y,cs[i]?=some x/\cs[j]?=some y/\NJ x y=true/\tO x y=true:=by
 unfold OT at h;simp only [y8] at h;have h1:=y5.1 h.2 j (List.mem_range.2 hj);have h2:=y5.1 h1 i (List.mem_range.2 hij);rw [hb,Bool.false_or] at h2;split at h2
 ·rename_i x y hx hy;simp only [y8] at h2;exact ⟨x,y,hx,hy,h2.1,h2.2⟩
 ·cases h2
theorem lZ {ops:Array Oper} {cs:List EA} (wa:∀ f args S r,call f args S=some r->rD P O f args S r) (xg:K1 P O lh.h) (la:∀ (i:Nat) (o:Oper),ops[i]?=some o->∃ c,cs[i]?=some c/\B3 P nt ops o c) (ia:cs.length=ops.size) (hf:gS cs=true) (hdr:OT ops.toList cs=true) {k:pA->Option RV} {r:RV}
  (hQ:∀ s' a' w',QD P O nt B F0 da w0 (fun _=>True) s' a' w'->k s'=some r->Q .normal a' w') :
  ∀ (fuel:Nat) (L:List Nat) (listed:Array Bool) (s:pA) (a:Act) (w:World),L.length=fuel->(∀ i,i<ops.size->(listed.getD i true=false ↔ i∈L))->listed.size=ops.size->L.Pairwise (·<·)->(∀ i∈L,i<ops.size) →
   (∀ (j:Nat) (o:Oper),ops.toList[j]?=some o->j ∉ L->∀ e∈UK o,e ∉ L)->QD P O nt B F0 da w0 (fun t=>∃ j c,j ∉ L/\cs[j]?=some c/\c.dst=some t) s a w->kK call lh cs L s k=some r->wpAny P .any ops Q fuel listed a w
 | 0,L,listed,s,a,w,hl,hlist,ic,_,_,_,R,hr=>by
  have:L=[]:=yS hl;subst this;refine ⟨?_,?_⟩
  ·refine List.eq_nil_iff_forall_not_mem.2 fun i hi=>?_
   obtain ⟨mw,o,ho,_⟩:=mem_ready.1 hi;have ac:=(Array.getElem?_eq_some_iff.1 ho).1;have:=(hlist i ac).1 mw;cases this
  ·obtain ⟨ι,Θ,R⟩:=R;exact hQ s a w ⟨ι,Θ,R.more fun _ _=>trivial⟩ hr
 | fuel + 1,L,listed,s,a,w,hl,hlist,ic,hsort,fe,ad,R,hr=>by
  have hbf:bfOk ops.toList (LP ops.toList)=true:=by
   unfold OT at hdr;simp only [y8] at hdr;exact hdr.1
  refine ⟨fun mt=>?_,fun i hi=>?_⟩
  ·exfalso;cases L with
   | nil=>simp at hl
   | cons i0 L0 =>
    have zi:=fe i0 (yl);have ho:ops.toList[i0]?=some ops[i0]:=by simp [zi]
    have ra:i0∈Region.ready .any ops listed:=by
     refine mem_ready.2 ⟨(hlist i0 zi).2 (yl),ops[i0],Y03 zi,fun e he hb=>?_⟩;have fa:=(bf_spec hbf ho).1 e.on (p0.2 ⟨e,he,hb,rfl⟩);have hnot:e.on ∉ i0 :: L0:=fun hm=>by
      rcases yh.1 hm with h | h
      ·omega
      ·have:=(List.pairwise_cons.1 hsort).1 _ h; omega
     have h1:listed.getD e.on true≠false:=fun h=>hnot ((hlist e.on (by omega)).1 h)
     have hs:e.on<listed.size:=by omega
     simp only [Y02,Y03 hs,Option.getD_some] at h1 ⊢;simpa using h1
    rw [mt] at ra;cases ra
  ·obtain ⟨mw,o,ho,hed⟩:=mem_ready.1 hi;have ac:=(Array.getElem?_eq_some_iff.1 ho).1;have hiL:=(hlist i ac).1 mw;have hol:ops.toList[i]?=some o:=by simpa using ho
   have hedL:∀ e∈UK o,e ∉ L:=fun e he=>by
    obtain ⟨d,hd,hb,rfl⟩:=p0.1 he;have h1:=hed d hd hb;intro hm;have fa:=fe _ hm;have h2:=(hlist _ fa).2 hm;have hs:d.on<listed.size:=by omega
    simp only [Y02,Y03 hs,Option.getD_some] at h1 h2;rw [h1] at h2;cases h2
   obtain ⟨L1,L2,rfl⟩:=List.append_of_mem hiL;obtain ⟨c,hc,ok⟩:=la i o ho;have lg:=List.pairwise_append.1 hsort;have hL1:∀ r∈L1,∃ cr,cs[r]?=some cr/\NJ cr c=true/\tO cr c=true:=fun r hr=>by
    have ut:r<i:=lg.2.2 r hr i (yl);have hbit:((LP ops.toList).getD i 0).testBit r=false:=by
     cases hb:((LP ops.toList).getD i 0).testBit r with
     | false=>rfl
     | true=>exact absurd (List.mem_append_left _ hr) (xZ hbf ad (i + 1) i o (by omega) hol hedL r ut hb)
    obtain ⟨x,y,hx,hy,h1,h2⟩:=draw_pair hdr (by simpa using ac) ut hbit;rw [hc] at hy;injection hy with hy;subst hy;exact ⟨x,hx,h1,h2⟩
   have h1:=bubble hc hL1 hr;have hnd:i ∉ L1++L2:=fun hm=>by
    rcases yw.1 hm with h | h
    ·have:=lg.2.2 i h i (yl); omega
    ·have:=(List.pairwise_cons.1 lg.2.1).1 i h; omega
   have tc:∀ j,j ∉ L1++i :: L2 ↔ (j ∉ L1++L2/\j≠i):=fun j=>by
    simp only [yw,yh,not_or];exact ⟨fun ⟨h1,h2,h3⟩=>⟨⟨h1,h3⟩,h2⟩,fun ⟨⟨h1,h3⟩,h2⟩=>⟨h1,h2,h3⟩⟩
   refine fV R wa xg ho ok (fun d hd hA ⟨j,c',hj,df,up⟩=>?_) h1 fun s1 a' w' R' h2=>?_
   ·have:j≠i:=((tc j).1 hj).2;exact HW hf df hc this hA (by rw [ok.dst,hd]; rfl) (by rw [up,ok.dst,hd])
   ·refine lZ wa xg la ia hf hdr hQ fuel (L1++L2) (listed.setIfInBounds i true) s1 a' w' (by simp at hl ⊢; omega) (fun j hj=>?_) (by simpa using ic) ?_ (fun j hj=>fe j ?_) (fun j o' ho' hj e he hm=>?_) ?_ h2
    ·have hjs:j<listed.size:=by omega
     by_cases e:i=j
     ·subst e;simp only [Y02,Array.getElem?_setIfInBounds,if_true,hjs,Option.getD_some];exact ⟨fun h=>by simp at h,fun h=>absurd h hnd⟩
     ·simp only [Y02,Array.getElem?_setIfInBounds,if_neg e];have:=hlist j hj;simp only [Y02] at this;rw [this];simp only [yw,yh];exact ⟨fun h=>by rcases h with h | h | h; exact .inl h; exact absurd h.symm e; exact .inr h,fun h=>by rcases h with h | h; exact .inl h; exact .inr (.inr h)⟩
    ·exact List.pairwise_append.2 ⟨lg.1,(List.pairwise_cons.1 lg.2.1).2,fun x hx y hy=>lg.2.2 x hx y (yr _ hy)⟩
    ·rcases yw.1 hj with h | h
     ·exact List.mem_append_left _ h
     ·exact List.mem_append_right _ (yr _ h)
    ·have jd:e∈L1++i :: L2:=by
      rcases yw.1 hm with h | h
      ·exact List.mem_append_left _ h
      ·exact List.mem_append_right _ (yr _ h)
     by_cases e':j=i
     ·subst e';rw [hol] at ho';injection ho' with ho';subst ho';exact hedL e he jd
     ·exact ad j o' ho' ((tc j).2 ⟨hj,e'⟩) e he jd
    ·obtain ⟨ι,Θ,R'⟩:=R';refine ⟨ι,Θ,R'.more fun t ht=>?_⟩;rcases ht with ⟨j,c',hj,df,up⟩ | ht
     ·exact ⟨j,c',((tc j).1 hj).1,df,up⟩
     ·exact ⟨i,c,hnd,hc,by rw [ok.dst,ht]⟩
theorem E3 (hm:P.follows .mixedOrders=true) (wa:∀ f args S r,call f args S=some r->rD P O f args S r) (xg:K1 P O lh.h) {boxes:List Nat} {id:Nat} {ops:Array Oper} {draw:Bool} {cs:List EA} (hc:rS P boxes nt ops.toList draw ops.toList=some cs) (hf:gS cs=true) (hd:draw=true->OT ops.toList cs=true)
  (R:QD P O nt B F0 da w0 (fun _=>False) s a w) {k:pA->Option RV} {r:RV} (hr:IF call lh cs s k=some r) (hQ:∀ s' a' w',QD P O nt B F0 da w0 (fun _=>False) { s' with next:=s'.next + 1 } a' w'->k s'=some r->Q .normal a' w'):(Code.region id ops draw).wp P Q a w:=by
 obtain ⟨ia,ci⟩:=NU hc;have et:cs.length=ops.size:=by simpa using ia
 have la:∀ (i:Nat) (o:Oper),ops[i]?=some o->∃ c,cs[i]?=some c/\B3 P nt ops o c:=fun i o ho=>by
  have:=ci i o (by simpa using ho);rw [yX] at this;exact this
 have hQ':∀ s' a' w',QD P O nt B F0 da w0 (fun _=>True) s' a' w'->k s'=some r->Q .normal a' w':=fun s' a' w' h hk=>hQ s' a' w' h.next hk
 cases draw with
 | false =>
  refine wp_region ?_;rw [List.range_eq_range'];refine P0 wa xg la et hf ops.size 0 s a w (by omega) ?_ (by simpa using hr) hQ';obtain ⟨ι,Θ,R⟩:=R;exact ⟨ι,Θ,R.more fun _ h=>h.elim⟩
 | true =>
  refine wp_region_any hm ?_;have ca:kK call lh cs (List.range' 0 ops.size) s k=some r:=by
   rw [<- et,<- lY cs k cs.length 0 s (by omega)];simpa using hr
  refine lZ wa xg la et hf (hd rfl) hQ' ops.size (List.range' 0 ops.size) _ s a _ (by simp) (fun i hi=>?_) (by simp) List.pairwise_lt_range' (fun i hi=>?_) (fun j o ho hj=>?_) ?_ ca
  ·simp [hi]
  ·simpa using hi
  ·have:=(yb.1 ho).1;exact absurd (by simpa using this) (by simpa using hj)
  ·obtain ⟨ι,Θ,R⟩:=R;exact ⟨ι,Θ,(R.grow (w':=w.drew) (fun _ _=>rfl) (yn _) R.kept.drew).more fun _ h=>h.elim⟩
end
end
section
open Go Go.RowKit
section
variable {P:Program} {O:uH} {nt B:Nat} {F0:SO} {da:Av} {w0:World} {s s':pA} {a:Act} {w w':World} {call:aB} {lp:LH}
def exOf:Ex->Exit
 | .nrm=>.normal
 | .exit id=>.exit id
 | .ret=>.ret
def LpOk (P:Program) (O:uH) (N:Nat) (lp:LpT):Prop :=
 ∀ (boxes:List Nat) (nt B:Nat) (F0:SO) (da:Av) (w0:World) (code:Code) (b:C) (s:pA) (k:Ex->pA->Option RV) (r:RV) (a:Act) (w:World) (Q:Exit->Act->World->Prop),comp P boxes nt code=some b->lp b s k=some r->QD P O nt B F0 da w0 (fun _=>False) s a w →
  (∀ e s' a' w',QD P O nt B F0 da w0 (fun _=>False) s' a' w'->k e s'=some r->Q (exOf e) a' w')->Code.rounds P code Q N a w
theorem aF (hm:P.follows .mixedOrders=true) (wa:∀ f args S r,call f args S=some r->rD P O f args S r) {N:Nat} (oh:LpOk P O N lp.l) (xg:K1 P O lp.h) {boxes:List Nat} :
  ∀ (code:Code) (c:C) (s:pA) (k:Ex->pA->Option RV) (r:RV) (a:Act) (w:World) (Q:Exit->Act->World->Prop),comp P boxes nt code=some c->c.run call lp s k=some r->QD P O nt B F0 da w0 (fun _=>False) s a w →
   (∀ e s' a' w',QD P O nt B F0 da w0 (fun _=>False) s' a' w'->k e s'=some r->Q (exOf e) a' w')->code.wp P Q a w
 | .skip,c,s,k,r,a,w,Q,hc,hr,R,hk=>by
  injection hc with hc;subst hc;exact wp_skip (hk .nrm s a w R hr)
 | .seq x y,c,s,k,r,a,w,Q,hc,hr,R,hk=>by
  unfold comp at hc;split at hc
  ·rename_i cx cy hx hy;injection hc with hc;subst hc;refine wp_seq (aF hm wa oh xg x cx s _ r a w _ hx hr R fun e s' a' w' R' he=>?_);cases e with
   | nrm=>exact aF hm wa oh xg y cy s' k r a' w' Q hy he R' hk
   | exit id=>exact hk _ _ _ _ R' he
   | ret=>exact hk _ _ _ _ R' he
  ·cases hc
 | .region id ops draw,c,s,k,r,a,w,Q,hc,hr,R,hk=>by
  unfold comp at hc;split at hc
  ·rename_i cs kj;split at hc
   ·rename_i la;injection hc with hc;subst hc;simp only [y8,Bool.or_eq_true] at la;simp only [C.run] at hr;exact E3 hm wa xg kj la.1 (fun h=>by rcases la.2 with h' | h'; rw [h] at h'; cases h'; exact h') R hr fun s' a' w' R' zc=>hk .nrm _ _ _ R' zc
   ·cases hc
  ·cases hc
 | .cond x t e,c,s,k,r,a,w,Q,hc,hr,R,hk=>by
  unfold comp at hc;split at hc
  ·rename_i cx ct ce hx ht he;injection hc with hc;subst hc;simp only [C.run] at hr;split at hr
   ·rename_i b hb;have hv:a.eval x=.bool b:=by
     obtain ⟨ι,Θ,R⟩:=R;have:=(R.opd hx).1
     rwa [hb,OB] at this
    cases b with
    | true=>exact wp_cond_true hv (aF hm wa oh xg t ct s k r a w Q ht (by simpa using hr) R hk)
    | false=>exact wp_cond_false hv (aF hm wa oh xg e ce s k r a w Q he (by simpa using hr) R hk)
   ·cases hr
  ·cases hc
 | .block id b,c,s,k,r,a,w,Q,hc,hr,R,hk=>by
  unfold comp at hc;obtain ⟨cb,hb,rfl⟩:=yf.1 hc;refine wp_block (aF hm wa oh xg b cb s _ r a w _ hb hr R fun e s' a' w' R' he=>?_);cases e with
  | nrm=>exact hk _ _ _ _ R' he
  | ret=>exact hk _ _ _ _ R' he
  | exit j =>
   simp only at he;show Exit.inBlock id Q (.exit j) a' w';unfold Exit.inBlock;split at he
   ·rename_i e; simp only [e,if_true]; exact hk _ _ _ _ R' he
   ·rename_i e; simp only [e,if_false]; exact hk _ _ _ _ R' he
 | .loop b,c,s,k,r,a,w,Q,hc,hr,R,hk=>by
  unfold comp at hc;obtain ⟨cb,hb,rfl⟩:=yf.1 hc;exact wp_loop_rounds N (oh boxes nt B F0 da w0 b cb s k r a w Q hb hr R hk)
 | .exit id,c,s,k,r,a,w,Q,hc,hr,R,hk=>by
  injection hc with hc;subst hc;exact wp_exit (hk (.exit id) s a w R hr)
 | .ret,c,s,k,r,a,w,Q,hc,hr,R,hk=>by
  injection hc with hc;subst hc;exact wp_ret (hk .ret s a w R hr)
 | .scope b,c,s,k,r,a,w,Q,hc,hr,R,hk=>by
  unfold comp at hc;refine wp_scope_straight (aF hm wa oh xg b c s k r a w _ hc hr R fun e s' a' w' R' he=>?_);have:=hk _ _ _ _ R' he;cases e <;> exact this
 | .rangeFunc ..,_,_,_,_,_,_,_,hc,_,_,_=>by cases hc
 | .label _,_,_,_,_,_,_,_,hc,_,_,_=>by cases hc
 | .goto _,_,_,_,_,_,_,_,hc,_,_,_=>by cases hc
 | .refuse _,_,_,_,_,_,_,_,hc,_,_,_=>by cases hc
theorem rep_of_S {ι:Ix} {av:Av} {x:AV} {v:Value} (h:MA ι av (fun _ _=>False) w x v) (hx:x.free=true):oE av w x v:=by
  cases x <;> first
    | exact h
    | (simp [AV.free,AV.free0] at hx; done)
    | (obtain ⟨us,hv,hc⟩:=h
       exact ⟨us,hv,pH hc fun y hy=>y5.1 hx y hy⟩)
theorem JU {av:Av}:∀ {xs:List AV} {us:List Value},DN av w xs us->us.length=xs.length
 | [],_,h=>by simp only [DN] at h; subst h; rfl
 | x :: r,_,h=>by
  simp only [DN] at h;obtain ⟨u,sa,rfl,_,h⟩:=h;simp [JU h]
theorem DR {p:Nat} {av:Av}:∀ {xs:List AV} {us:List Value},BL p av w xs us->us.length=xs.length
 | [],_,h=>by simp only [BL] at h; subst h; rfl
 | x :: r,_,h=>by
  simp only [BL] at h;obtain ⟨u,sa,rfl,_,h⟩:=h;simp [DR h]
def iN (ι:Ix) (av avb:Av) (w:World):List AV->List Value->Prop
 | [],us=>us=[]
 | x :: r,us=>∃ u sa,us=u :: sa/\MA ι av avb w x u/\iN ι av avb w r sa
theorem MA.toRep {ι:Ix} {av gb avb:Av} {x:AV} {v:Value} (h:MA ι av avb w x v) (hx:x.free=true) (sd:∀ b o,gb b o->av b o):oE gb w x v :=
 oE.held (BA.less sd) _ _ (rep_of_S (s7 (ι':=ι) h hx) hx)
theorem iN.toT {ι:Ix} {av gb avb:Av} (sd:∀ b o,gb b o->av b o):∀ {xs:List AV} {us:List Value},iN ι av avb w xs us->(∀ v∈xs,v.free=true)->DN gb w xs us
 | [],_,h,_=>h
 | x :: r,_,h,hf=>by
  simp only [iN] at h;obtain ⟨u,sa,rfl,h0,h⟩:=h;exact ⟨u,sa,rfl,h0.toRep (hf x yl) sd,h.toT sd fun v hv=>hf v (yr _ hv)⟩
theorem unname_ptr {t n:Nat} {x:AV} (h:(IJ t n x).isObj=true):x=.ptr t n 0:=by
 cases x with
 | ptr t' n' o =>
  simp only [IJ] at h;split at h
  ·rename_i e; obtain ⟨rfl,rfl,rfl⟩:=e; rfl
  ·cases h
 | _=>cases h
theorem q9 {t n:Nat} {x:AV} (h:(IJ t n x).free=true):IJ t n x=x:=by
 cases x with
 | ptr t' n' o =>
  simp only [IJ] at h;split at h <;> cases h
 | _=>rfl
theorem iN.toO {ι:Ix} {av gb avb:Av} {t n p:Nat} (hp:ι t n=some p) (sd:∀ b o,gb b o->av b o):∀ {xs:List AV} {us:List Value},iN ι av avb w xs us->(∀ v∈xs,((IJ t n v).free||(IJ t n v).isObj)=true)->BL p gb w (xs.map (IJ t n)) us
 | [],_,h,_=>h
 | x :: r,_,h,hf=>by
  simp only [iN] at h;obtain ⟨u,sa,rfl,h0,h⟩:=h;refine ⟨u,sa,rfl,?_,h.toO hp sd fun v hv=>hf v (yr _ hv)⟩;have h1:=hf x yl;unfold bT;split
  ·rename_i ho;have:=unname_ptr ho;subst this;obtain ⟨b,hb,hv⟩:=h0;rw [hp] at hb;injection hb with hb;rw [hv,hb]
  ·rename_i ho;have ax:(IJ t n x).free=true:=by
    rcases Bool.or_eq_true_iff.1 h1 with h | h
    ·exact h
    ·exact absurd h ho
   have aj:=q9 ax;rw [aj] at ax ⊢;exact h0.toRep ax sd
def avF (s:pA) (av:Av) (ι:Ix):Av:=fun b o=>av b o/\¬ ∃ t n r,s.mem t n=some r/\ι t n=some b
theorem NA.frz1 {D:Nat->Prop} {ι:Ix} {Θ:NK} (R:MB P O nt B F0 da w0 D s a w ι Θ) {x:AV} {u:Value} (h:NA ι (EC da ι Θ) w x u):NA ι (avF s (EC da ι Θ) ι) w (x.frz1 s) u:=by
 have less:BA (EC da ι Θ) (avF s (EC da ι Θ) ι) w w:=BA.less fun b o h=>h.1
 have same:=NA.held (Ix.Le.refl ι) less x u h;cases x with
 | ref t n sz off len c =>
  simp only [AV.frz1];split
  ·rename_i l hl;obtain ⟨r,hm,hl⟩:=y7.1 hl;obtain ⟨b,hb,sb,cc,rf,hz,hv⟩:=h;obtain ⟨nc,b',cur,ty,ua,na,ka,_⟩:=R.rows t n r hm;rw [hb] at ua;injection ua with ua;subst ua;obtain ⟨h1,h2,us,hL,pd⟩:=BK ka na hl;subst h1;show oE _ w (.sl false l) u;simp only [oE];refine ⟨_,cc,hv,yC sb rf,fun x hx y hy=>(h2 x hx).trans (h2 y hy).symm,(fun h=>by cases h),fun _=>⟨fun h=>(by cases h),fun _=>⟨b,off,rfl,?_⟩⟩⟩;rw [mF];exact DK (aD.held less _ _ hL) fun j u hj=>⟨pd j u hj,fun h=>h.2 ⟨t,n,r,hm,hb⟩⟩
  ·exact same
 | _=>exact same
theorem KA.frz1 {D:Nat->Prop} {ι:Ix} {Θ:NK} (R:MB P O nt B F0 da w0 D s a w ι Θ):∀ {xs:List AV} {us:List Value},KA ι (EC da ι Θ) w xs us->KA ι (avF s (EC da ι Θ) ι) w (xs.map (AV.frz1 s)) us
 | [],_,h=>h
 | x :: r,_,h=>by
  simp only [KA] at h;obtain ⟨u,sa,rfl,h0,h1,h⟩:=h;exact ⟨u,sa,rfl,h0.frz1 R,h1,h.frz1 R⟩
theorem NA.frz {D:Nat->Prop} {ι:Ix} {Θ:NK} (R:MB P O nt B F0 da w0 D s a w ι Θ) {x:AV} {u:Value} (h:NA ι (EC da ι Θ) w x u):NA ι (avF s (EC da ι Θ) ι) w (x.frz0 s) u:=by
 have less:BA (EC da ι Θ) (avF s (EC da ι Θ) ι) w w:=BA.less fun b o h=>h.1
 have same:=NA.held (Ix.Le.refl ι) less x u h;cases x with
 | ref t n sz off len c =>
  simp only [AV.frz0];split
  ·rename_i l hl;obtain ⟨r,hm,hl⟩:=y7.1 hl;obtain ⟨b,hb,sb,cc,rf,hz,hv⟩:=h;obtain ⟨nc,b',cur,ty,ua,na,ka,_⟩:=R.rows t n r hm;rw [hb] at ua;injection ua with ua;subst ua;obtain ⟨h1,h2,us,hL,pd⟩:=BK ka na hl;subst h1;show oE _ w (.sl false l) u;simp only [oE];refine ⟨_,cc,hv,yC sb rf,fun x hx y hy=>(h2 x hx).trans (h2 y hy).symm,(fun h=>by cases h),fun _=>⟨fun h=>(by cases h),fun _=>⟨b,off,rfl,?_⟩⟩⟩;rw [mF];exact DK (aD.held less _ _ hL) fun j u hj=>⟨pd j u hj,fun h=>h.2 ⟨t,n,r,hm,hb⟩⟩
  ·split
   ·rename_i l hl;obtain ⟨r,hm,hl⟩:=y7.1 hl;obtain ⟨l0,pg,hl⟩:=y7.1 hl;split at hl
    ·rename_i le;injection hl with hl;subst hl;obtain ⟨b,hb,sb,cc,rf,hz,hv⟩:=h;obtain ⟨nc,b',cur,ty,ua,na,ka,_⟩:=R.rows t n r hm;rw [hb] at ua;injection ua with ua;subst ua;obtain ⟨h1,h2,us,hL,pd⟩:=OP ka na pg;subst h1;have hL1:=KA.frz1 R hL;rw [List.map_flatten] at hL1;have hL2:=pH hL1 fun x hx=>y5.1 le x hx
     show oE _ w (.sl false _) u;simp only [oE];refine ⟨_,cc,by rw [yo]; exact hv,by rw [yo]; exact yC sb rf,fun x hx y hy=>?_,(fun h=>by cases h),fun _=>⟨fun h=>(by cases h),fun _=>⟨b,off,rfl,?_⟩⟩⟩
     ·obtain ⟨x',wj,rfl⟩:=yA.1 hx;obtain ⟨y',ku,rfl⟩:=yA.1 hy;rw [yo,yo,h2 x' wj,h2 y' ku]
     ·rw [mF];exact DK hL2 fun j u hj=>⟨pd j u hj,fun h=>h.2 ⟨t,n,r,hm,hb⟩⟩
    ·cases hl
   ·exact same
 | _=>exact same
theorem KA.frz {D:Nat->Prop} {ι:Ix} {Θ:NK} (R:MB P O nt B F0 da w0 D s a w ι Θ):∀ {xs:List AV} {us:List Value},KA ι (EC da ι Θ) w xs us->KA ι (avF s (EC da ι Θ) ι) w (xs.map (AV.frz0 s)) us
 | [],_,h=>h
 | x :: r,_,h=>by
  simp only [KA] at h;obtain ⟨u,sa,rfl,h0,h1,h⟩:=h;exact ⟨u,sa,rfl,h0.frz R,h1,h.frz R⟩
theorem MA.frz {D:Nat->Prop} {ι:Ix} {Θ:NK} (R:MB P O nt B F0 da w0 D s a w ι Θ) {x:AV} {u:Value} (h:MA ι (EC da ι Θ) (RC ι Θ) w x u):MA ι (avF s (EC da ι Θ) ι) (RC ι Θ) w (x.frz s) u:=by
 have less:BA (EC da ι Θ) (avF s (EC da ι Θ) ι) w w:=BA.less fun b o h=>h.1
 have same:=MA.held (Ix.Le.refl ι) less (BA.refl _ _) x u h;cases x with
 | agg cs=>obtain ⟨us,hv,hc⟩:=h; exact ⟨us,hv,hc.frz R⟩
 | ref t n sz off len c =>
  have:=NA.frz R (x:=.ref t n sz off len c) h;show MA _ _ _ w (AV.frz0 s (.ref t n sz off len c)) u;generalize hy:AV.frz0 s (.ref t n sz off len c)=y at this ⊢;simp only [AV.frz0] at hy;split at hy
  ·subst hy; exact this
  ·split at hy <;> (subst hy; exact this)
 | _=>exact same
theorem iN.frz {D:Nat->Prop} {ι:Ix} {Θ:NK} (R:MB P O nt B F0 da w0 D s a w ι Θ):∀ {xs:List AV} {us:List Value},iN ι (EC da ι Θ) (RC ι Θ) w xs us->iN ι (avF s (EC da ι Θ) ι) (RC ι Θ) w (xs.map (AV.frz s)) us
 | [],_,h=>h
 | x :: r,_,h=>by
  simp only [iN] at h;obtain ⟨u,sa,rfl,h0,h⟩:=h;exact ⟨u,sa,rfl,h0.frz R,h.frz R⟩
def mP (us:List Value):Value:=if h:us.toArray.size=1 then us.toArray[0] else .tuple us.toArray
theorem qY {av:Av}:∀ {xs:List AV} {us:List Value},DN av w xs us->oE av w (ZV xs) (mP us)
 | [],us,h=>by simp only [DN] at h; subst h; exact ⟨#[],rfl,rfl⟩
 | [x],us,h=>by
  simp only [DN] at h;obtain ⟨u,sa,rfl,h0,rfl⟩:=h;exact h0
 | x :: y :: r,us,h=>by
  have hl:=JU h;have:¬ us.toArray.size=1:=by simp; simp at hl; omega
  unfold mP;rw [dif_neg this];exact ⟨_,rfl,h⟩
theorem pack_repN {p:Nat} {av:Av}:∀ {xs:List AV} {us:List Value},BL p av w xs us->(∀ v∈xs,(v.free||v.isObj)=true)->z9 p av w (ZV xs) (mP us)
 | [],us,h,_=>by simp only [BL] at h; subst h; exact ⟨#[],rfl,rfl⟩
 | [x],us,h,hf=>by
  simp only [BL] at h;obtain ⟨u,sa,rfl,h0,rfl⟩:=h;have:=hf x yl;cases x with
  | tup vs=>cases this
  | _=>exact h0
 | x :: y :: r,us,h,_=>by
  have hl:=DR h;have:¬ us.toArray.size=1:=by simp; simp at hl; omega
  unfold mP;rw [dif_neg this];exact ⟨_,rfl,h⟩
def lO (tmps:Array Value):ResultVar->Sem Value
 | .tmp t=>pure (tmps.getD t undef)
 | .cell b t=>do loadVar t (<- asAddr (tmps.getD b undef))
theorem pW {D:Nat->Prop} {ι:Ix} {Θ:NK} (R:MB P O nt B F0 da w0 D s a w ι Θ):∀ {rs:List ResultVar} {cs:List ResC} {vs:List AV},QL P rs=some cs->tT s cs=some vs →
  ∃ us,(rs.mapM (lO a.tmps)).run P w=Result.ok us w/\iN ι (EC da ι Θ) (RC ι Θ) w vs us
 | [],cs,vs,h,hr=>by
  injection h with h;subst h;injection hr with hr;subst hr;exact ⟨[],by simp,rfl⟩
 | .tmp t :: rs,cs,vs,h,hr=>by
  unfold QL at h;obtain ⟨l,hl,rfl⟩:=yf.1 h;simp only [tT] at hr;obtain ⟨bv,hv,rfl⟩:=yf.1 hr;obtain ⟨us,hu,hT⟩:=pW R hl hv;refine ⟨a.tmps.getD t undef :: us,by rw [List.mapM_cons]; simp only [lO,Sem.run_bind,Sem.run_pure,Result.andThen_ok,hu],_,us,rfl,R.env t,hT⟩
 | .cell b t :: rs,cs,vs,h,hr=>by
  unfold QL at h;split at h
  ·rename_i ag z l hA hz hl;injection h with h;subst h;simp only [tT] at hr;split at hr
   ·rename_i t' n off hb;cases hm:s.mem t' n with
    | none=>rw [hm] at hr; cases hr
    | some row =>
     rw [hm,V] at hr;obtain ⟨x,hx,hr⟩:=y7.1 hr;obtain ⟨bv,hv,rfl⟩:=yf.1 hr;obtain ⟨us,hu,hT⟩:=pW R hl hv;have hv:=R.env b;rw [hb,zG] at hv;obtain ⟨bb,hbb,hv⟩:=hv;obtain ⟨ji,b',cur,ty,ua,na,ka,_⟩:=R.rows t' n row hm;rw [hbb] at ua;injection ua with ua;subst ua;have rb:∀ (j:Nat) (u:Value),((cur.toList.take row.length).drop off)[j]?=some u->w.cell? ⟨bb,off + j,none⟩=some u:=fun j u hu=>by
      rw [cell_of_row w bb (off + j) cur ty (0,0) na];rw [yR,yV] at hu;split at hu
      ·simpa using hu
      ·cases hu
     have fc:=tF off ka.rep;have hi:jG ag z ((row.map (·.v)).drop off)=some x.v:=by
      cases ag with
      | true =>
       simp only [wB,if_true] at hx;split at hx
       ·rename_i sb;injection hx with hx;subst hx;simp only [jG,if_true,List.length_drop,yo];rw [if_pos (by omega)];simp [yM,List.map_drop]
       ·cases hx
      | false =>
       simp only [wB,yq,if_false] at hx;simp [jG,yR,hx]
     obtain ⟨u,ca,hS,_⟩:=jP (P:=P) (avb:=RC ι Θ) hA hz fc rb hi;refine ⟨u :: us,by rw [List.mapM_cons]; simp only [lO,Sem.run_bind,hv,asAddr,Sem.run_pure,Result.andThen_ok,ca,hu],_,us,rfl,hS,hT⟩
   ·cases hr
  ·cases h
structure nA (P:Program) (f:FuncId) (c:qB):Prop where
 enter:∀ xs w,(callFunc f xs).run P w=.ok (.enter f xs) w
 fn:∃ fn,P.funcs[f]?=some fn/\BU P c.mu fn=some c
theorem GU {ι:Ix} {av avl:Av}:∀ {xs:List AV} {us:List Value},CL ι av avl w xs us->us.length=xs.length
 | [],_,h=>by simp only [CL] at h; subst h; rfl
 | x :: r,_,h=>by
  simp only [CL] at h;obtain ⟨u,sa,rfl,_,h⟩:=h;simp [GU h]
theorem M3 {ι:Ix} {av avl:Av}:∀ {xs:List AV} {us:List Value} (_:CL ι av avl w xs us) (t:Nat),MA ι av avl w (xs.getD t .undef) (us.getD t undef)
 | [],_,_,_=>by simp [MA]
 | x :: r,_,h,t=>by
  simp only [CL] at h;obtain ⟨u,sa,rfl,h0,h⟩:=h;cases t with
  | zero=>simpa using h0
  | succ t=>simpa using M3 h t
section
variable {vs:List Value} {args:List AV}
include vs args
theorem JT {ι:Ix} {av avl:Av} {np:Nat} (h:CL ι av avl w args vs) (hl:args.length=np) (hn:np<=nt):(vs.toArray++Array.replicate (nt - vs.toArray.size) undef).size=nt:=by
 have:=GU h;simp;omega
theorem MW {ι ι':Ix} {av gb avb avl:Av} {S0:Option AV} (h:CL ι av avl w args vs) (hι:Ix.Le ι ι') (hA:BA av gb w w) (hB:BA avl avb w w) (t:Nat) :
  MA ι' gb avb w ((pA.init args S0).env t).v ((vs.toArray++Array.replicate (nt - vs.toArray.size) undef).getD t undef):=by
 have h1:=MA.held hι hA hB _ _ (M3 h t);have h2:(vs.toArray++Array.replicate (nt - vs.toArray.size) undef).getD t undef=vs.getD t undef:=by
  simp only [Y02,List.getD_eq_getElem?_getD,Array.getElem?_append,List.size_toArray,List.getElem?_toArray];split
  ·rfl
  ·rename_i se;rw [yP (by omega)];simp only [Array.getElem?_replicate];split <;> rfl
 rw [h2];exact h1
theorem LZ {av:Av} {np:Nat} (h:CL Ix.none av (fun _ _=>False) w args vs) (sd:∀ b o,av b o->b<w.heap.size) (hl:args.length=np) (hn:np<=nt) :
  QD P O nt w.heap.size ⟨fun _=>False,none,fun _=>False,0,fun _=>undef⟩ av w (fun _=>False) (pA.init args none) { tmps:=vs.toArray++Array.replicate (nt - vs.toArray.size) undef,defers:=[] } w:=by
 have nu:∀ b o,RC Ix.none (fun _=>none) b o->False:=fun b o h=>by rcases h with (⟨t,n,h⟩ | ⟨t,n,H,h,_⟩) | ⟨k,ow,h,_⟩ <;> cases h
 have hA:BA av (EC av Ix.none (fun _=>none)) w w:=BA.less fun b o h=>h.resolve_right (nu b o)
 have hB:BA (fun _ _=>False) (RC Ix.none (fun _=>none)) w w:=BA.less fun b o h=>nu b o h
 exact ⟨Ix.none,fun _=>none,rfl,JT h hl hn,fun t=>MW h (Ix.Le.refl _) hA hB t,fun t=>trivial,fun t n r h=>(by cases h),fun t n b h=>(by cases h),fun _ _ _ _ _ h=>(by cases h),fun _ _ h=>(by cases h),fun _ _ _ _ h=>(by cases h),fun _ _ _ _ h=>(by cases h),sd,fun _ h=>(by cases h),xD.refl _ _,rfl,fun t n S h=>(by simp [pA.init] at h),fun t n H h=>(by cases h),fun _=>trivial,fun _=>trivial⟩
theorem init_some {av:Av} {np p:Nat} {H:Nat->Prop} {S:AV} (h:CL (Ix.one p) av (fun b _=>H b) w args vs) (sd:∀ b o,av b o->b<w.heap.size) (hH:∀ b o,H b->av b o) (wc:O.at_ S H p w) (hni:Z7 S=true) (hl:args.length=np) (hn:np<=nt) :
  QD P O nt w.heap.size ⟨H,some p,fun _=>False,0,fun _=>undef⟩ av w (fun _=>False) (pA.init args (some S)) { tmps:=vs.toArray++Array.replicate (nt - vs.toArray.size) undef,defers:=[] } w:=by
 obtain ⟨ι,hι⟩:∃ ι:Ix,ι=⟨fun t n=>if t=0/\n=0 then some p else none,fun t n=>if t=0/\n=0 then some H else none,fun _=>0⟩:=⟨_,rfl⟩;have hf:∀ t n b,ι t n=some b->t=0/\n=0/\b=p:=fun t n b h=>by
  subst hι;have h':(if t=0/\n=0 then some p else none)=some b:=h;split at h'
  ·rename_i e; injection h' with h'; exact ⟨e.1,e.2,h'.symm⟩
  ·cases h'
 have ho:∀ t n H1,ι.ob t n=some H1->t=0/\n=0/\H1=H:=fun t n b h=>by
  subst hι;simp only at h;split at h
  ·rename_i e; injection h with h'; exact ⟨e.1,e.2,h'.symm⟩
  ·cases h
 have h0:ι 0 0=some p:=by subst hι; rfl
 have h1:ι.ob 0 0=some H:=by subst hι; rfl
 have tc:∀ t n b,Ix.one p t n=some b->ι t n=some b:=fun t n b h=>by subst hι; exact h
 have sb:Ix.Le (Ix.one p) ι:=⟨tc,fun _ _ _ _=>by subst hι; rfl⟩;clear hι;have hpH:=O.main wc;have nu:∀ b o,RC ι (fun _=>none) b o->H b:=fun b o h=>by
  rcases h with (⟨t,n,h⟩ | ⟨t,n,H1,h,hb⟩) | ⟨k,ow,h,_⟩
  ·rw [(hf _ _ _ h).2.2]; exact hpH
  ·rw [(ho _ _ _ h).2.2] at hb; exact hb
  ·cases h
 have hA:BA av (EC av ι (fun _=>none)) w w:=BA.less fun b o h=>h.elim id fun h=>hH b o (nu b o h)
 refine ⟨ι,fun _=>none,rfl,JT h hl hn,fun t=>?_,fun t=>trivial,fun t n r h=>(by cases h),fun t n b h=>?_,fun t n t' n' b h h'=>?_,fun _ _ h=>(by cases h),fun _ _ _ _ h=>(by cases h),fun _ _ _ _ h=>(by cases h),sd,fun q h=>?_,xD.refl _ _,rfl,fun t n S1 h=>?_,fun t n H1 h=>?_,fun _=>trivial,fun _=>trivial⟩
 ·exact MW h sb hA (BA.less fun b o h=>nu b o h) t
 ·obtain ⟨rfl,rfl,rfl⟩:=hf _ _ _ h;exact ⟨.inr hpH,O.lt wc hpH,.inl (by simp [pA.init])⟩
 ·obtain ⟨rfl,rfl,_⟩:=hf _ _ _ h;obtain ⟨rfl,rfl,_⟩:=hf _ _ _ h';exact ⟨rfl,rfl⟩
 ·injection h with h;subst h;exact ⟨h0,.inr ⟨H,h1⟩⟩
 ·simp only [pA.init] at h;split at h
  ·rename_i e;injection h with h;subst h;exact ⟨p,H,by rw [e.1,e.2]; exact h0,by rw [e.1,e.2]; exact h1,wc,G3.no hni⟩
  ·cases h
 ·obtain ⟨rfl,rfl,rfl⟩:=ho _ _ _ h;refine ⟨fun b hb=>⟨.inr hb,O.lt wc hb,fun t' n' h=>?_,fun _ _ h=>(by cases h),fun t' n' H' h _=>?_⟩,.inl (by simp [pA.init])⟩
  ·obtain ⟨rfl,rfl,_⟩:=hf _ _ _ h; exact ⟨rfl,rfl⟩
  ·obtain ⟨rfl,rfl,_⟩:=ho _ _ _ h; exact ⟨rfl,rfl⟩
end
theorem init_row {vs:List Value} {args cs:List AV} {av:Av} {np p:Nat} {cur:Array Value} {ty:TypeId} (h:CL (Ix.row p cur.size) av (fun b _=>b=p) w args vs) (sd:∀ b o,av b o->b<w.heap.size) (sk:∀ o,av p o) (na:w.heap[p]?=some (.cells cur ty (0,0))) (kj:cs.length<=cur.size) (fc:aD av w cs (cur.toList.take cs.length)) (hl:args.length=np) (hn:np<=nt) :
  QD P O nt w.heap.size ⟨fun b=>b=p,some p,fun b=>b=p,cur.size,fun _=>undef⟩ av w (fun _=>False) (pA.initR args cs) { tmps:=vs.toArray++Array.replicate (nt - vs.toArray.size) undef,defers:=[] } w:=by
 have hf:∀ t n b,(Ix.row p cur.size) t n=some b->t=0/\n=0/\b=p:=fun t n b h=>by
  have h':(if t=0/\n=0 then some p else none)=some b:=h;split at h'
  ·rename_i e; injection h' with h'; exact ⟨e.1,e.2,h'.symm⟩
  ·cases h'
 have nu:∀ b o,RC (Ix.row p cur.size) (fun _=>none) b o->b=p:=fun b o h=>by
  rcases h with (⟨t,n,h⟩ | ⟨t,n,H1,h,hb⟩) | ⟨k,ow,h,_⟩
  ·exact (hf _ _ _ h).2.2
  ·cases h
  ·cases h
 have hA:BA av (EC av (Ix.row p cur.size) (fun _=>none)) w w:=BA.less fun b o h=>h.elim id fun h=>nu b o h ▸ sk o
 refine ⟨Ix.row p cur.size,fun _=>none,rfl,JT h hl hn,fun t=>?_,fun t=>trivial,fun t n r h=>?_,fun t n b h=>?_,fun t n t' n' b h h'=>?_,fun _ _ h=>(by cases h),fun _ _ _ _ h=>(by cases h),fun _ _ _ _ h=>(by cases h),sd,fun q h=>?_,xD.refl _ _,rfl,fun t n S1 h=>(by cases h),fun t n H1 h=>(by cases h),fun _=>trivial,fun _=>trivial⟩
 ·exact MW (S0:=none) h (Ix.Le.refl _) hA (BA.less fun b o h=>nu b o h) t
 ·simp only [pA.initR] at h;split at h
  ·rename_i e;injection h with h;subst h;refine ⟨rfl,p,cur,ty,by rw [e.1,e.2]; rfl,na,row_ofz (aD.held hA _ _ fc) fun j u hu=>?_,.inr rfl,rfl⟩;have hj:j<cs.length:=by
    have:=(yb.1 hu).1;rw [yz] at this;omega
   rw [List.getElem?_take_of_lt hj] at hu;simpa using hu
  ·cases h
 ·obtain ⟨rfl,rfl,rfl⟩:=hf _ _ _ h;exact ⟨.inr rfl,OA na,.inl (by simp [pA.initR])⟩
 ·obtain ⟨rfl,rfl,_⟩:=hf _ _ _ h;obtain ⟨rfl,rfl,_⟩:=hf _ _ _ h';exact ⟨rfl,rfl⟩
 ·injection h with h;subst h;exact ⟨rfl,.inl ⟨rfl,rfl⟩⟩
theorem MB.drop0 {D:Nat->Prop} {ι:Ix} {Θ:NK} (R:MB P O nt B F0 da w0 D s a w ι Θ):MB P O nt B F0 da w0 D s.drop0 a w ι Θ :=
 ⟨R.defers,R.size,R.env,R.ann,fun t n r h=>by
  simp only [pA.drop0] at h;split at h
  ·cases h
  ·exact R.rows t n r h,R.mine,R.inj,R.tok,R.tinj,R.apart,R.out,R.pin,R.kept,R.base,R.objs,R.obs,R.gen,R.gann⟩
theorem row_sound (hm:P.follows .mixedOrders=true) {call:aB} {lp:LH} {N:Nat} (wa:∀ f args S r,call f args S=some r->rD P O f args S r) (oh:LpOk P O N lp.l) (xg:K1 P O lp.h) {f:FuncId} {fn:Func} {c:qB} (fd:∀ xs w,(callFunc f xs).run P w=.ok (.enter f xs) w) (sq:P.funcs[f]?=some fn) (ee:BU P c.mu fn=some c) {rest cs:List AV} {r:RV} (ia:rest.length=c.np)
  (h:c.code.run call lp (pA.initR rest cs) (WL c cs.length)=some r):F1 P f rest (some (.agg cs)) r:=by
 unfold BU at ee;split at ee
 ·cases ee
 ·rename_i code tk;split at ee
  ·rename_i cc rr rf hrr;split at ee
   ·rename_i aa;injection ee with ee;obtain ⟨mu,jn⟩:∃ mu,mu=c.mu:=⟨_,rfl⟩;rw [<- jn] at ee rf;clear jn;subst ee;have ot:fn.params.size + fn.nfree<=fn.ntmps:=aa;refine ⟨fd,?_⟩;obtain ⟨r1,r2⟩:=r
    match r2,h with
    | some (.agg cv),h =>
     intro av w vs p cur ty sd sk na sb fc oc;refine calls_of_wp sq tk ?_;refine aF hm wa oh xg code cc _ _ _ _ w _ rf h (init_row oc sd sk na sb fc ia ot) fun e s' a' w' R' he=>?_
     have uk:e=.nrm\/e=.ret:=by
      cases e with
      | nrm=>exact .inl rfl
      | ret=>exact .inr rfl
      | exit id=>cases he
     have wg:∃ xs,tT s' rr=some xs/\DI cs.length s' (xs.map (AV.frz s'.drop0))=some (r1,some (.agg cv)):=by
      rcases uk with rfl | rfl <;> exact y7.1 he
     obtain ⟨xs,ge,bd⟩:=wg;obtain ⟨ι,Θ,R'⟩:=R';obtain ⟨us,pd,hT'⟩:=pW R' hrr ge;have md:(results fn a'.tmps).run P w'=.ok (mP us) w':=by
      have he:results fn a'.tmps=(do let vs <- fn.results.mapM (lO a'.tmps); pure (if h:vs.size=1 then vs[0] else .tuple vs)):=rfl;rw [he,Array.mapM_eq_mapM_toList];simp only [Sem.run_bind,Sem.run_map,pd,Result.andThen_ok,Sem.run_pure];rfl
     have hs:=hT'.frz R'.drop0;unfold DI at bd;split at bd
     ·rename_i ta;obtain ⟨row,dl,bd⟩:=y7.1 bd;split at bd
      ·rename_i aa;injection bd with bd;injection bd with hfv1 hfv2;injection hfv2 with hfv2;injection hfv2 with hfv2;subst hfv1;subst hfv2;obtain ⟨nc,b,lb,pp,hb,xm,ka,_,hz⟩:=R'.rows 0 0 row dl;obtain ⟨hpp,hpz⟩:=R'.pin p rfl;rw [hpp] at hb;injection hb with hb;subst hb;have hz':ι.z p=cur.size:=by
        rcases hpz with ⟨_,h⟩ | ⟨H,h⟩
        ·exact h
        ·rw [h] at nc; cases nc
       have tc:∀ b o,av b o->avF s'.drop0 (EC av ι Θ) ι b o:=fun b o h=>⟨.inl h,fun ⟨t,n,r,hm,hb⟩=>by
        simp only [pA.drop0] at hm;split at hm
        ·cases hm
        ·rename_i hn;obtain ⟨_,b',_,_,ua,_,_,di,_⟩:=R'.rows t n r hm;rw [hb] at ua;injection ua with ua;subst ua;rcases di with di | di
         ·have:=sd _ _ h; omega
         ·have:b=p:=di;subst this;exact hn (R'.inj _ _ _ _ _ hb hpp)⟩
       have post:a'.defers=[]/\∃ v,(results fn a'.tmps).run P w'=.ok v w'/\∃ v' cur'' ty'',Ending.returned v=.returned v'/\oE av w' (ZV (xs.map (AV.frz s'.drop0))) v'/\w'.heap[p]?=some (.cells cur'' ty'' (0,0))/\cur''.size=cur.size/\aD av w' (row.map fun x=>AV.frz0 s'.drop0 x.v) (cur''.toList.take (row.map fun x=>AV.frz0 s'.drop0 x.v).length)/\xD (fun b=>b=p) w w':=by
        refine ⟨R'.defers,_,md,_,lb,pp,rfl,qY (hs.toT tc fun v hv=>y5.1 ta v hv),xm,hz.trans hz',?_,R'.kept⟩;have h1:=ka.rep.frz R'.drop0;rw [y0] at h1;have h2:=pH h1 fun x hx=>y5.1 aa.1 x hx
        rw [yo];exact aD.held (BA.less tc) _ _ h2
       rcases uk with rfl | rfl <;> exact post
      ·cases bd
     ·cases bd
    | none,h=>trivial
    | some (.int ..),h=>trivial
    | some (.bool _),h=>trivial
    | some (.str _),h=>trivial
    | some .nilP,h=>trivial
    | some (.ptr ..),h=>trivial
    | some (.ip _),h=>trivial
    | some (.bp _),h=>trivial
    | some (.sl ..),h=>trivial
    | some (.bl _),h=>trivial
    | some (.ref ..),h=>trivial
    | some (.mp ..),h=>trivial
    | some (.fn ..),h=>trivial
    | some (.tup _),h=>trivial
    | some .undef,h=>trivial
   ·cases ee
  ·cases ee
theorem tY {D:Nat->Prop} {ι:Ix} {Θ:NK} (R:MB P O nt B F0 da w0 D s a w ι Θ):∀ {rs:List ResultVar} {cs:List ResC} {vs:List qA},QL P rs=some cs->zO s cs=some vs →
  ∃ us,(rs.mapM (lO a.tmps)).run P w=Result.ok us w/\nH ι Θ (EC da ι Θ) (RC ι Θ) w vs us
 | [],cs,vs,h,hr=>by
  injection h with h;subst h;injection hr with hr;subst hr;exact ⟨[],by simp,rfl⟩
 | .tmp t :: rs,cs,vs,h,hr=>by
  unfold QL at h;obtain ⟨l,hl,rfl⟩:=yf.1 h;simp only [zO] at hr;obtain ⟨bv,hv,rfl⟩:=yf.1 hr;obtain ⟨us,hu,hT⟩:=tY R hl hv;refine ⟨a.tmps.getD t undef :: us,by rw [List.mapM_cons]; simp only [lO,Sem.run_bind,Sem.run_pure,Result.andThen_ok,hu],_,us,rfl,R.env t,R.ann t,hT⟩
 | .cell b t :: rs,cs,vs,h,hr=>by
  unfold QL at h;split at h
  ·rename_i ag z l hA hz hl;injection h with h;subst h;simp only [zO] at hr;split at hr
   ·rename_i t' n off hb;cases hm:s.mem t' n with
    | none=>rw [hm] at hr; cases hr
    | some row =>
     rw [hm,V] at hr;obtain ⟨x,hx,hr⟩:=y7.1 hr;obtain ⟨bv,hv,rfl⟩:=yf.1 hr;obtain ⟨us,hu,hT⟩:=tY R hl hv;have hv:=R.env b;rw [hb,zG] at hv;obtain ⟨bb,hbb,hv⟩:=hv;obtain ⟨ji,b',cur,ty,ua,na,ka,_⟩:=R.rows t' n row hm;rw [hbb] at ua;injection ua with ua;subst ua;have rb:∀ (j:Nat) (u:Value),((cur.toList.take row.length).drop off)[j]?=some u->w.cell? ⟨bb,off + j,none⟩=some u:=fun j u hu=>by
      rw [cell_of_row w bb (off + j) cur ty (0,0) na];rw [yR,yV] at hu;split at hu
      ·simpa using hu
      ·cases hu
     have fc:=tF off ka.rep;have hi:jG ag z ((row.map (·.v)).drop off)=some x.v:=by
      cases ag with
      | true =>
       simp only [wB,if_true] at hx;split at hx
       ·rename_i sb;injection hx with hx;subst hx;simp only [jG,if_true,List.length_drop,yo];rw [if_pos (by omega)];simp [yM,List.map_drop]
       ·cases hx
      | false =>
       simp only [wB,yq,if_false] at hx;simp [jG,yR,hx]
     obtain ⟨u,ca,hS,_⟩:=jP (P:=P) (avb:=RC ι Θ) hA hz fc rb hi;refine ⟨u :: us,by rw [List.mapM_cons]; simp only [lO,Sem.run_bind,hv,asAddr,Sem.run_pure,Result.andThen_ok,ca,hu],u,us,rfl,hS,trivial,hT⟩
   ·cases hr
  ·cases h
theorem SN {ι:Ix} {Θ:NK} {av avb:Av}:∀ {xs:List qA} {us:List Value},nH ι Θ av avb w xs us->us.length=xs.length
 | [],_,h=>by simp only [nH] at h; subst h; rfl
 | x :: r,_,h=>by
  simp only [nH] at h;obtain ⟨u,sa,rfl,_,_,h⟩:=h;simp [SN h]
theorem nT {ι:Ix} {Θ:NK} {av avb:Av}:∀ {xs:List qA} {us:List Value} (_:nH ι Θ av avb w xs us) (t:Nat),MA ι av avb w (xs.getD t ⟨.undef,.no⟩).v (us.getD t undef)/\LL Θ (xs.getD t ⟨.undef,.no⟩).a (us.getD t undef)
 | [],_,_,_=>by simp [MA,LL]
 | x :: r,_,h,t=>by
  simp only [nH] at h;obtain ⟨u,sa,rfl,h0,h1,h⟩:=h;cases t with
  | zero=>simpa using ⟨h0,h1⟩
  | succ t=>simpa using nT h t
theorem RepU_ofS {ι:Ix} {av avb:Av} {x:AV} {v:Value} (h:MA ι av avb w x v) (hx:x.tupOk=true):MO ι av w x v:=by
 cases x <;> first
  | exact h
  | (cases hx; done)
theorem lW {ι:Ix} {Θ:NK} {av avb:Av}:∀ {xs:List qA} {us:List Value},nH ι Θ av avb w xs us->xs.all (fun x=>x.v.tupOk)=true->UG ι av w (xs.map (·.v)) us
 | [],_,h,_=>h
 | x :: r,_,h,hf=>by
  simp only [nH] at h;obtain ⟨u,sa,rfl,h0,_,h⟩:=h;simp only [List.all_cons,y8] at hf;exact ⟨u,sa,rfl,RepU_ofS h0 hf.1,lW h hf.2⟩
theorem packS_rep {ι:Ix} {Θ:NK} {av avb:Av}:∀ {xs:List qA} {us:List Value} {y:qA},nH ι Θ av avb w xs us->aL xs=some y->MA ι av avb w y.v (mP us)/\LL Θ y.a (mP us)
 | [],us,y,h,hp=>by
  simp only [nH] at h;subst h;injection hp with hp;subst hp;exact ⟨⟨#[],rfl,rfl⟩,trivial⟩
 | [x],us,y,h,hp=>by
  simp only [nH] at h;obtain ⟨u,sa,rfl,h0,h1,rfl⟩:=h;injection hp with hp;subst hp;exact ⟨h0,h1⟩
 | x :: z :: r,us,y,h,hp=>by
  have hl:=SN h;have:¬ us.toArray.size=1:=by simp; simp at hl; omega
  unfold mP;rw [dif_neg this];unfold aL at hp;split at hp
  ·rename_i e; cases e
  ·split at hp
   ·rename_i ta;injection hp with hp;subst hp;exact ⟨⟨_,rfl,lW h ta⟩,trivial⟩
   ·cases hp
theorem initH_rel {B:Nat} {F0:SO} {da:Av} {w0 w:World} {ι:Ix} {Θ:NK} {xs:List qA} {us:List Value} (R:N3 P O B F0 da w0 s w ι Θ) (h:nH ι Θ (EC da ι Θ) (RC ι Θ) w xs us) {np:Nat} (hl:xs.length=np) (hn:np<=nt) :
  MB P O nt B F0 da w0 (fun _=>False) (s.initH xs) { tmps:=us.toArray++Array.replicate (nt - us.toArray.size) undef,defers:=[] } w ι Θ:=by
 have hg:∀ t,(us.toArray++Array.replicate (nt - us.toArray.size) undef).getD t undef=us.getD t undef:=fun t=>by
  simp only [Y02,List.getD_eq_getElem?_getD,Array.getElem?_append,List.size_toArray,List.getElem?_toArray];split
  ·rfl
  ·rename_i se;rw [yP (by omega)];simp only [Array.getElem?_replicate];split <;> rfl
 have ic:(us.toArray++Array.replicate (nt - us.toArray.size) undef).size=nt:=by
  have:=SN h;simp;omega
 exact ⟨rfl,ic,fun t=>by simp only [pA.initH]; rw [hg]; exact (nT h t).1,fun t=>by simp only [pA.initH]; rw [hg]; exact (nT h t).2,R.rows,R.mine,R.inj,R.tok,R.tinj,R.apart,R.out,R.pin,R.kept,R.base,R.objs,R.obs,R.gen,R.gann⟩
theorem MB.bare {D:Nat->Prop} {ι:Ix} {Θ:NK} (R:MB P O nt B F0 da w0 (fun _=>False) s a w ι Θ):N3 P O B F0 da w0 s w ι Θ :=
 ⟨rfl,rfl,fun _=>trivial,fun _=>trivial,R.rows,R.mine,R.inj,R.tok,R.tinj,R.apart,R.out,R.pin,R.kept,R.base,R.objs,R.obs,R.gen,R.gann⟩
theorem N9 (hm:P.follows .mixedOrders=true) {call:aB} {lp:LH} {N:Nat} (wa:∀ f args S r,call f args S=some r->rD P O f args S r) (oh:LpOk P O N lp.l) (xg:K1 P O lp.h) {f:FuncId} {fn:Func} {c:qB} (fd:∀ xs w,(callFunc f xs).run P w=.ok (.enter f xs) w) (sq:P.funcs[f]?=some fn) (ee:BU P c.mu fn=some c) {xs:List qA} {k:qA->pA->Option RV} {r:RV} (ia:xs.length=c.np)
  (h:c.code.run call lp (s.initH xs) (rL c k)=some r):(∀ vs w,(callFunc f vs).run P w=.ok (.enter f vs) w) ∧
 ∀ (B:Nat) (F0:SO) (da:Av) (w0 w:World) (ι:Ix) (Θ:NK) (us:List Value) (E:Ending->World->Prop),N3 P O B F0 da w0 s w ι Θ->nH ι Θ (EC da ι Θ) (RC ι Θ) w xs us →
  (∀ y s' w' ι' Θ' v,N3 P O B F0 da w0 s' w' ι' Θ'->MA ι' (EC da ι' Θ') (RC ι' Θ') w' y.v v->LL Θ' y.a v->k y s'=some r->E (.returned v) w')->Calls P f us.toArray w E:=by
 unfold BU at ee;split at ee
 ·cases ee
 ·rename_i code tk;split at ee
  ·rename_i cc rr rf hrr;split at ee
   ·rename_i aa;injection ee with ee;obtain ⟨mu,jn⟩:∃ mu,mu=c.mu:=⟨_,rfl⟩;rw [<- jn] at ee rf;clear jn;subst ee;have ot:fn.params.size + fn.nfree<=fn.ntmps:=aa;refine ⟨fd,fun B F0 da w0 w ι Θ us E R ge hE=>?_⟩;refine calls_of_wp sq tk ?_;refine aF hm wa oh xg code cc _ _ _ _ w _ rf h ⟨ι,Θ,initH_rel R ge ia ot⟩ fun e s' a' w' R' he=>?_
    have uk:e=.nrm\/e=.ret:=by
     cases e with
     | nrm=>exact .inl rfl
     | ret=>exact .inr rfl
     | exit id=>cases he
    have wg:∃ y,(zO s' rr).bind aL=some y/\k y s'=some r:=by
     rcases uk with rfl | rfl <;> exact y7.1 he
    obtain ⟨y,hy,hk⟩:=wg;obtain ⟨l,hl,hp⟩:=y7.1 hy;obtain ⟨ι',Θ',R'⟩:=R';obtain ⟨vs,hvs,hT'⟩:=tY R' hrr hl;have md:(results fn a'.tmps).run P w'=.ok (mP vs) w':=by
     have he:results fn a'.tmps=(do let vs <- fn.results.mapM (lO a'.tmps); pure (if h:vs.size=1 then vs[0] else .tuple vs)):=rfl;rw [he,Array.mapM_eq_mapM_toList];simp only [Sem.run_bind,Sem.run_map,hvs,Result.andThen_ok,Sem.run_pure];rfl
    obtain ⟨ff,ph⟩:=packS_rep hT' hp;have post:a'.defers=[]/\∃ v,(results fn a'.tmps).run P w'=.ok v w'/\E (.returned v) w':=⟨R'.defers,_,md,hE y s' w' ι' Θ' _ (MB.bare (D:=fun _=>False) R') ff ph hk⟩;rcases uk with rfl | rfl <;> exact post
   ·cases ee
  ·cases ee
theorem markR_some {args rest:List AV} (h:kP args=some rest):args=.undef :: .undef :: rest:=by
 unfold kP at h;split at h
 ·injection h with h; subst h; rfl
 ·cases h
theorem EW (hm:P.follows .mixedOrders=true) {T:Nat->Option qB} {ext:aB} (hT:∀ f c,T f=some c->nA P f c) (nr:∀ f args S r,ext f args S=some r->rD P O f args S r) :
  ∀ N,(∀ f args S r,jD T ext N f args S=some r->rD P O f args S r)/\LpOk P O N (OJ T ext N)/\K1 P O (FL T ext N)
 | 0=>by
  refine ⟨fun f args S r h=>?_,fun _ _ _ _ _ _ _ _ _ _ _ _ _ _ _ h _ _=>(by cases h),fun _ _ _ _ _ h=>(by cases h)⟩;unfold jD at h;split at h
  ·exact nr f args S r h
  ·cases h
 | N + 1=>by
  obtain ⟨dp,ml,jp⟩:=EW hm hT nr N;refine ⟨fun f args S0 r h=>?_,fun boxes nt B F0 da w0 code b s k r a w Q hc h R hk=>?_,fun f xs s k r h=>?_⟩
  ·unfold jD at h;split at h
   ·exact nr f args S0 r h
   ·rename_i c hTc;obtain ⟨fd,fn,sq,ee⟩:=hT f c hTc;cases hmk:kP args with
    | some rest =>
     rw [hmk] at h
     match S0,h with
     | some (.agg cs),h =>
      simp only at h;split at h
      ·rename_i hl;rw [markR_some hmk];exact row_sound (lp:=⟨OJ T ext N,FL T ext N⟩) hm dp ml jp fd sq ee hl.1 h
      ·cases h
     | none,h=>cases h
     | some (.int ..),h=>cases h
     | some (.bool _),h=>cases h
     | some (.str _),h=>cases h
     | some .nilP,h=>cases h
     | some (.ptr ..),h=>cases h
     | some (.ip _),h=>cases h
     | some (.bp _),h=>cases h
     | some (.sl ..),h=>cases h
     | some (.bl _),h=>cases h
     | some (.ref ..),h=>cases h
     | some (.mp ..),h=>cases h
     | some (.fn ..),h=>cases h
     | some (.tup _),h=>cases h
     | some .undef,h=>cases h
    | none =>
    rw [hmk] at h;simp only at h;split at h
    ·rename_i hlm;obtain ⟨ia,hmark,hnoit⟩:=hlm;unfold BU at ee;split at ee
     ·cases ee
     ·rename_i code tk;split at ee
      ·rename_i cc rr rf hrr;split at ee
       ·rename_i aa;injection ee with ee;obtain ⟨mu,jn⟩:∃ mu,mu=c.mu:=⟨_,rfl⟩;rw [<- jn] at ee rf;clear jn;subst ee;have ot:fn.params.size + fn.nfree<=fn.ntmps:=aa;have ending:∀ {F0:SO} {av:Av} {w:World} {vs:List Value} {E:Ending->World->Prop},
          QD P O fn.ntmps w.heap.size F0 av w (fun _=>False) (pA.init args S0) { tmps:=vs.toArray++Array.replicate (fn.ntmps - vs.toArray.size) undef,defers:=[] } w →
          (∀ (s':pA) (a':Act) (w':World) (ι:Ix) (Θ:NK) (us:List Value) (xs:List AV),MB P O fn.ntmps w.heap.size F0 av w (fun _=>False) s' a' w' ι Θ->iN ι (avF s' (EC av ι Θ) ι) (RC ι Θ) w' xs us->GW S0 s' xs=some r->E (.returned (mP us)) w')->Calls P f vs.toArray w E:=fun {F0 av w vs E} R hE=>by
         refine calls_of_wp sq tk ?_;refine aF (lp:=⟨OJ T ext N,FL T ext N⟩) hm dp ml jp code cc _ _ r _ w _ rf h R fun e s' a' w' R' he=>?_
         have uk:e=.nrm\/e=.ret:=by
          cases e with
          | nrm=>exact .inl rfl
          | ret=>exact .inr rfl
          | exit id=>cases he
         have wg:∃ xs,tT s' rr=some xs/\GW S0 s' (xs.map (AV.frz s'))=some r:=by
          rcases uk with rfl | rfl <;> exact y7.1 he
         obtain ⟨xs,ge,bd⟩:=wg;obtain ⟨ι,Θ,R'⟩:=R';obtain ⟨us,pd,hT'⟩:=pW R' hrr ge;have md:(results fn a'.tmps).run P w'=.ok (mP us) w':=by
          have he:results fn a'.tmps=(do let vs <- fn.results.mapM (lO a'.tmps); pure (if h:vs.size=1 then vs[0] else .tuple vs)):=rfl;rw [he,Array.mapM_eq_mapM_toList];simp only [Sem.run_bind,Sem.run_map,pd,Result.andThen_ok,Sem.run_pure];rfl
         have post:a'.defers=[]/\∃ v,(results fn a'.tmps).run P w'=.ok v w'/\E (.returned v) w':=⟨R'.defers,_,md,hE s' a' w' ι Θ us _ R' (hT'.frz R') bd⟩;rcases uk with rfl | rfl <;> exact post
        refine (rD.of hmark).2 ⟨fd,?_⟩;obtain ⟨r1,r2⟩:=r;cases S0 with
        | none =>
         cases r2 with
         | none =>
          intro av w vs sd oc;refine ending (LZ oc sd ia ot) fun s' a' w' ι Θ us xs R' hs bd=>?_
          refine ⟨_,rfl,?_,R'.kept.below⟩;simp only [GW] at bd;split at bd
          ·rename_i ta;injection bd with bd;injection bd with bd;subst bd;exact qY (hs.toT (fun b o h=>⟨.inl h,fun ⟨t,n,r,hm,hb⟩=>by
            obtain ⟨_,b',cur,ty,ua,_,_,di,_⟩:=R'.rows t n r hm;rw [hb] at ua;injection ua with ua;subst ua;have:=sd _ _ h;have:=di.elim id False.elim;omega⟩) fun v hv=>y5.1 ta v hv)
          ·split at bd
           ·split at bd
            ·split at bd <;> cases bd
            ·cases bd
           ·cases bd
         | some S' =>
          intro av w vs sd oc;refine ending (LZ oc sd ia ot) fun s' a' w' ι Θ us xs R' hs bd=>?_
          simp only [GW] at bd;split at bd
          ·cases bd
          ·split at bd
           ·rename_i t n _;split at bd
            ·rename_i S hS;split at bd
             ·rename_i ta;injection bd with bd;injection bd with hfv1 hfv2;injection hfv2 with hfv2;subst hfv1;subst hfv2;obtain ⟨p,H,hp,nb,wc,_⟩:=R'.objs t n S hS;refine ⟨_,p,H,rfl,?_,wc,fun b hb=>(((R'.obs t n H nb).1 b hb).1).elim id False.elim,R'.kept.below⟩;have dc:∀ v∈xs,((IJ t n v).free||(IJ t n v).isObj)=true:=fun v hv=>y5.1 ta _ (Y01 hv)
              refine pack_repN (hs.toO hp (fun b o h=>?_) dc) fun v hv=>y5.1 ta v hv
              refine ⟨?_,fun ⟨t',n',r,hm,hb⟩=>?_⟩
              ·rcases h with h | h
               ·exact .inl h
               ·exact .inr (.inl (.inr ⟨t,n,H,nb,h⟩))
              ·obtain ⟨nc,b',cur,ty,ua,_,_,di,_⟩:=R'.rows t' n' r hm;rw [hb] at ua;injection ua with ua;subst ua;rcases h with h | h
               ·have:=sd _ _ h;have:=di.elim id False.elim;omega
               ·have e:=((R'.obs t n H nb).1 b h).2.2.1 t' n' hb;rw [e.1,e.2,nb] at nc;cases nc
             ·cases bd
            ·cases bd
           ·cases bd
        | some S =>
         cases r2 with
         | none =>
          trivial
         | some S' =>
          intro av w vs p H sd hH wc oc;have hni:Z7 S=true:=hnoit;refine ending (init_some oc sd hH wc hni ia ot) fun s' a' w' ι Θ us xs R' hs bd=>?_
          simp only [GW] at bd;split at bd
          ·rename_i ta;obtain ⟨S1,hS1,bd⟩:=yf.1 bd;injection bd with hfv1 hfv2;injection hfv2 with hfv2;subst hfv1;subst hfv2;obtain ⟨p',H',hp,nb,ai,_⟩:=R'.objs 0 0 S1 hS1;have hpp:=(R'.pin p rfl).1;rw [hpp] at hp;injection hp with hp;subst hp;refine ⟨_,H',rfl,qY (hs.toT (fun b o h=>?_) fun v hv=>y5.1 ta v hv),ai,fun b hb=>(((R'.obs 0 0 H' nb).1 b hb).1).symm,R'.kept⟩;refine ⟨?_,fun ⟨t',n',r,hm,hb⟩=>?_⟩
           ·rcases h with h | h
            ·exact .inl h
            ·exact .inr (.inl (.inr ⟨0,0,H',nb,h⟩))
           ·obtain ⟨nc,b',cur,ty,ua,_,_,di,_⟩:=R'.rows t' n' r hm;rw [hb] at ua;injection ua with ua;subst ua;rcases h with h | h
            ·have:=sd _ _ h;have:=di.elim id False.elim;omega
            ·have e:=((R'.obs 0 0 H' nb).1 b h).2.2.1 t' n' hb;rw [e.1,e.2,nb] at nc;cases nc
          ·cases bd
       ·cases ee
      ·cases ee
    ·cases h
  ·unfold OJ at h;rw [rounds_succ];refine aF (lp:=⟨OJ T ext N,FL T ext N⟩) hm dp ml jp code b s _ r a w _ hc h R fun e s' a' w' R' he=>?_
   cases e with
   | nrm=>exact ml boxes nt B F0 da w0 code b s' k r a' w' Q hc he R' hk
   | exit id=>exact hk _ _ _ _ R' he
   | ret=>exact hk _ _ _ _ R' he
  ·unfold FL at h;split at h
   ·cases h
   ·rename_i c hTc;obtain ⟨fd,fn,sq,ee⟩:=hT f c hTc;split at h
    ·rename_i ia;exact N9 (lp:=⟨OJ T ext N,FL T ext N⟩) hm dp ml jp fd sq ee ia h
    ·cases h
end
end
end Go.Proofs.YtbnlmgncbgaepaaGreat
