/- A part of the proof. -/
import Derived.Test.YtbnlmgncbgaepaaGreatTa
import Derived.Laws.BytesString
import Derived.OrdersHeld
import Derived.LoopN
set_option linter.all false
set_option maxRecDepth 100000
set_option maxHeartbeats 8000000
open Option renaming bind_some → V, bind_eq_some_iff → yb, map_eq_some_iff → yj, map_some → yx
open List renaming map_map → y3, getElem?_eq_getElem → y5, all_eq_true → y6, drop_eq_getElem_cons → y8, drop_eq_nil_of_le → yc, getElem?_map → ye, getElem?_eq_some_iff → yf, map_cons → yg, mem_cons → yh, map_nil → yk, mem_of_getElem? → yl, mem_cons_self → ym, mem_cons_of_mem → yo, mem_append → yp, length_map → yq, map_congr_left → yr, mem_map → yu, length_append → yy, replicate → yB, take_of_length_le → yC, flatten_cons → yD, length_take → yF, length_cons → yI, getElem?_append_left → yL, eq_nil_of_length_eq_zero → yO, append_assoc → yP, getElem?_take → yQ, getElem?_append_right → yR, mem_singleton → yS, getElem?_drop → yT, mem_append_left → yX, getElem?_eq_none → yZ
open Bool renaming and_eq_true → y9, false_eq_true → yt
open Nat renaming le_refl → yn, succ_mul → yA, zero_add → yG, eq_zero_or_pos → yJ
open Array renaming length_toList → yU, toArray_toList → yV, getD_eq_getD_getElem? → yW, getElem?_eq_getElem → yY
namespace Go.Proofs.YtbnlmgncbgaepaaGreat
open Go
section
open Go Go.RowKit
section
variable {P:Program} {O:rH} {nt B:Nat} {F0:qP} {da:Av} {w0:World} {D:Nat->Prop} {s:pA} {a:Act} {w w':World} {ι:Ix} {Θ:aL} {o:Oper}
def An.twice (A:An) (d:Nat) (x:An):An:=match A with
 | .own k _=>(x.strip k).strip d
 | _=>x.strip d
theorem twice_eq (A:An) (d:Nat):(s.stripA A).strip d=s.mapAn (A.twice d):=by
 cases A with
 | own k e=>simp [pA.stripA,pA.strip,pA.mapAn,wA.strip,An.twice,Function.comp_def]
 | no=>rfl
 | ex=>rfl
def aL.less (Θ:aL) (A:An) (d:Nat):aL:=fun j=>match A with
 | .own k _=>if j=d\/j=k then none else Θ j
 | _=>if j=d then none else Θ j
theorem EC {A:An} {d j:Nat} {o:Ow} (h:Θ.less A d j=some o):Θ j=some o/\j≠d/\∀ k e,A=.own k e->j≠k:=by
 unfold aL.less at h;cases A with
 | own k e =>
  simp only at h;split at h
  ·cases h
  ·rename_i hn; exact ⟨h,fun e=>hn (.inl e),fun k' e' he=>by injection he with h1; subst h1; exact fun e=>hn (.inr e)⟩
 | no =>
  simp only at h;split at h
  ·cases h
  ·rename_i hn; exact ⟨h,hn,fun k' e' he=>by cases he⟩
 | ex =>
  simp only at h;split at h
  ·cases h
  ·rename_i hn; exact ⟨h,hn,fun k' e' he=>by cases he⟩
theorem less_d {A:An} {d:Nat}:Θ.less A d d=none:=by
 unfold aL.less;cases A <;> simp
theorem less_an {A:An} {d:Nat} {Θ':aL} (hΘ:∀ j o,Θ.less A d j=some o->Θ' j=some o) (x:An) (v:Value) (h:uM Θ x v):uM Θ' (A.twice d x) v:=by
 have h1:∀ k,x.strip k=.no\/(x.strip k=x/\∀ j e,x=.own j e->j≠k):=fun k=>by
  cases x with
  | no=>exact .inl rfl
  | ex=>exact .inr ⟨rfl,fun _ _ h=>by cases h⟩
  | own j e =>
   simp only [An.strip];split
   ·exact .inl rfl
   ·rename_i hn; exact .inr ⟨rfl,fun j' e' h=>by injection h with h; subst h; exact hn⟩
 have key:A.twice d x=.no\/(A.twice d x=x/\(∀ j e,x=.own j e->j≠d)/\∀ k e',A=.own k e'->∀ j e,x=.own j e->j≠k):=by
  cases A with
  | own k e' =>
   simp only [An.twice];rcases h1 k with h2 | ⟨h2,h3⟩
   ·rw [h2]; exact .inl rfl
   ·rw [h2];rcases h1 d with h4 | ⟨h4,h5⟩
    ·exact .inl h4
    ·exact .inr ⟨h4,h5,fun k' e'' he=>by injection he with he; subst he; exact h3⟩
  | no=>rcases h1 d with h4 | ⟨h4,h5⟩; exact .inl h4; exact .inr ⟨h4,h5,fun _ _ he=>by cases he⟩
  | ex=>rcases h1 d with h4 | ⟨h4,h5⟩; exact .inl h4; exact .inr ⟨h4,h5,fun _ _ he=>by cases he⟩
 rcases key with h2 | ⟨h2,h3,h4⟩
 ·rw [h2]; trivial
 ·rw [h2];cases x with
  | no=>trivial
  | ex=>exact h
  | own j e =>
   refine h.imp id fun ⟨ow,h5,h6⟩=>⟨ow,hΘ _ _ ?_,h6⟩
   unfold aL.less;cases A with
   | own k e'=>simp only; rw [if_neg]; exact h5; rintro (e1 | e1); exact h3 _ _ rfl e1; exact h4 _ _ rfl _ _ rfl e1
   | no=>simp only; rw [if_neg (h3 _ _ rfl)]; exact h5
   | ex=>simp only; rw [if_neg (h3 _ _ rfl)]; exact h5
theorem uC.apob (R:uC P O nt B F0 da w0 D s a w ι Θ) {k:Nat} {o:Ow} {t n:Nat} {H:Nat->Prop} (h:Θ k=some o) (hH:ι.ob t n=some H):¬ H o.g:=fun hb=>((R.obs t n H hH).1 _ hb).2.2.2.1 k o h rfl
theorem uC.less (R:uC P O nt B F0 da w0 D s a w ι Θ) (A:An) (d:Nat):uC P O nt B F0 da w0 D (s.mapAn (A.twice d)) a w ι (Θ.less A d) :=
 R.fam _ _ (fun _ _ h=>h.imp id fun ⟨k,ow,h1,h2⟩=>⟨k,ow,(EC h1).1,h2⟩) (less_an fun _ _ h=>h) (fun k o h=>R.tok k o (EC h).1) (fun k k' o o' h h'=>R.tinj k k' o o' (EC h).1 (EC h').1) (fun k o t n h=>R.apart k o t n (EC h).1) (fun _ _ _ _ _ h=>R.apob (EC h).1)
theorem HM {av:Av}:∀ {xs ys:List AV} {us vs:List Value},lD av w xs us->lD av w ys vs->lD av w (xs++ys) (us++vs)
 | [],_,_,_,h,h'=>by simp only [lD] at h; subst h; exact h'
 | x :: r,_,_,_,h,h'=>by
  simp only [lD] at h;obtain ⟨u,sa,rfl,h0,h1,h⟩:=h;exact ⟨u,sa++_,rfl,h0,h1,HM h h'⟩
theorem b5 {av:Av}:∀ {xs:List AV} {us:List Value},lD av w xs us->∀ u∈us,u.oneCell'=true
 | [],_,h,u,hu=>by simp only [lD] at h; subst h; cases hu
 | x :: r,_,h,u,hu=>by
  simp only [lD] at h;obtain ⟨v,sa,rfl,h0,h1,h⟩:=h;rcases yh.1 hu with rfl | hu
  ·exact h1
  ·exact b5 h u hu
theorem op_app (R:uC P O nt B F0 da w0 D s a w ι Θ) {t e:TypeId} {i:TypeInfo} {z:List AV} (ht:P.underlying t=some (.slice e)) (hi:P.info? e=some i) (hz:pL P e=some z) (ac:z.length=i.size) (db:0<i.size) {X Y:Operand} {x y:JB} (hx:opd X=some x) (hy:opd Y=some y)
  (ho:o.op=.call { callee:=.builtin .append,args:=#[X,Y],argTypes:=#[t,t] }) {d:Nat} (ba:o.dst=some d) (hd:d<nt) {cl:Cl} {call} {xe:wA × zD} (hr:(K.app cl e i.size i.bytes x y).run call s=some xe) {g} {s':pA} (he:WA.eff ⟨o.dst,.app cl e i.size i.bytes x y,g⟩ s xe=some s') :
  ∃ v w',(execOp a.eval o).run P w=.ok (.value v) w'/\ID P O nt B F0 da w0 D s' (a.put o.dst v) w':=by
 obtain ⟨zv,i',fc,ao,zi,hl⟩:=bH hz w;rw [hi] at fc;injection fc with fc;subst fc;have ul:zv.cells.size=i.size:=by
  have:=iH hl;simp only [yU] at this;omega
 have hX:=R.opd hx;have hY:=(R.opd hy).1;have mi:∀ v w',(Builtin.append_ #[t,t] o.type #[a.eval X,a.eval Y]).run P w=.ok v w'->(execOp a.eval o).run P w=.ok (.value v) w':=fun v w' h=>by
  simp only [execOp,ho,resolve,invoke,builtin,Sem.run_bind,Sem.run_pure,Result.andThen_ok,List.map_toArray,yg,yk,h]
 simp only [K.run] at hr;split at hr
 ·rename_i b l m ic jc;split at hr
  ·rename_i aa;obtain ⟨ja,ra⟩:=aa;obtain ⟨we,le⟩:=PA.1 ja;have ec:∀ c∈l++m,c.length=i.size:=fun c hc=>by simpa using y6.1 ra c hc
   have bd:∀ c∈m,c.length=i.size:=fun c hc=>ec c (List.mem_append_right _ hc)
   have jq:∀ c∈l,c.length=i.size:=fun c hc=>ec c (yX _ hc)
   obtain ⟨news,rd,sd⟩:=cM R hY jc db bd;rw [ic] at hX;have ky:=hX.1;rw [CD] at ky;obtain ⟨xs,zd,au⟩:=cM (cl:=cl) R hX.1 (m:=l) rfl db jq;simp only [xE] at ky;obtain ⟨A,c,hv,ru,hu,hn,hs⟩:=ky;have ee:xs.length=l.length * i.size:=au.1;have ae:∀ a',A=some a'->∀ j u,xs[j]?=some u->w.cell? (a'.add j)=some u:=fun a' ha j u hj=>by
    obtain ⟨_,A2,c2,hv2,_,h2⟩:=au;rw [hv] at hv2;injection hv2 with e1 e2 e3;subst e1;have hp:0<l.length:=by
     rcases yJ l.length with h | h
     ·rw [h] at ee; have:=(yf.1 hj).1; omega
     ·exact h
    obtain ⟨b',off,hA,_,_,dd⟩:=h2 hp;rw [ha] at hA;injection hA with hA;subst hA;rw [Addr.add_lit];exact dd j u hj
   have jd:news.length=m.length * i.size:=sd.1;have gn:∀ u∈news,u.oneCell'=true:=b5 rd;have dp:∃ A0,OC b (x.an s)=A0/\(A0=.ex\/∃ k,A0=.own k e)/\xe=(⟨.sl (b&&m.isEmpty) (l++m),.own 0 e⟩,.app A0 0):=by
    cases bk:OC b (x.an s) with
    | no=>rw [bk] at hr; cases hr
    | ex=>rw [bk] at hr; injection hr with hr; exact ⟨_,rfl,.inl rfl,hr.symm⟩
    | own k e' =>
     rw [bk] at hr;simp only at hr;split at hr
     ·rename_i hee; subst hee; injection hr with hr; exact ⟨_,rfl,.inr ⟨k,rfl⟩,hr.symm⟩
     ·cases hr
   obtain ⟨A0,bk,hAk,rfl⟩:=dp;simp only [WA.eff,ba] at he;injection he with he;subst he;rw [twice_eq,ba];have ku:uM Θ A0 (a.eval X):=by
    rw [<- bk];cases b with
    | false=>exact hX.2
    | true =>
     obtain ⟨h1,h2,h3⟩:=hn rfl;exact ⟨none,0,by rw [hv,h1,h2,h3]⟩
   -- what is read of the old elements and the new ones behind
   have zb:lD (PC da ι Θ) w (l++m).flatten (xs++news):=by rw [List.flatten_append]; exact HM zd rd
   have huni:∀ c∈l++m,∀ c'∈l++m,c.length=c'.length:=fun c hc c' af=>(ec c hc).trans (ec c' af).symm
   -- a new block
   have grow:c<l.length + m.length->∃ v w',(execOp a.eval o).run P w=.ok (.value v) w'/\ID P O nt B F0 da w0 D ((s.mapAn (A0.twice d)).put (some d) ⟨.sl (b&&m.isEmpty) (l++m),.own d e⟩) (a.put (some d) v) w':=fun fa=>by
    have ca:=gV (P:=P) (w:=w) ht hi ao o.type ee (fun hA=>by
     cases b with
     | true=>have:=hn rfl; exact ⟨this.2.1,this.2.2⟩
     | false =>
      obtain ⟨h1,h2⟩:=hs rfl;refine ⟨?_,h1 hA⟩;rcases yJ l.length with h0 | h0
      ·exact h0
      ·obtain ⟨_,_,ha,_⟩:=h2 h0; rw [hA] at ha; cases ha) ae sd fa ru le we
    rw [<- hv] at ca;have mf:=grownCap_ge w (l.length + m.length) c e;have xq:grownCap w (l.length + m.length) c e<=maxLen:=grownCap_le_maxLen w (l.length + m.length) c e (by unfold maxLen; omega);have rt:(xs.toArray++news.toArray++Builtin.zeroCells zv.cells (grownCap w (l.length + m.length) c e - (l.length + m.length))).size=grownCap w (l.length + m.length) c e * i.size:=by
     simp only [Array.size_append,List.size_toArray,size_zeroCells,ul,ee,jd,<- Nat.add_mul];congr 1;omega
    have R1:=(R.less A0 d).fresh (d:=d) less_d rt db mf xq (e:=e) (by simp [rC,hi]);refine ⟨_,_,mi _ _ ca,ι,_,R1.put hd ?_ (.inr ⟨_,if_pos rfl,rfl,rfl⟩)⟩;have hb:(b&&m.isEmpty)=false:=by
     cases b with
     | false=>rfl
     | true =>
      have:=(hn rfl);have:m≠[]:=fun h=>by subst h; simp at fa; omega
      simpa using this
    show MA _ _ _ _ (.sl (b&&m.isEmpty) (l++m)) _;rw [hb,CD];simp only [xE,yy];refine ⟨_,_,rfl,mf,huni,(fun h=>by cases h),fun _=>⟨fun h=>(by cases h),fun _=>⟨w.heap.size,0,rfl,?_⟩⟩⟩;rw [UF];have br:BA (PC da ι Θ) (PC da ι (fun j=>if j=d then some ⟨w.heap.size,l.length + m.length,grownCap w (l.length + m.length) c e,i.size,e⟩ else Θ.less A0 d j)) w (grewW w xs news zv e (l.length + m.length) c):=BA.grown (fun b hb=>Below.heap_alloc w.drew _ b hb) fun b' o' ta h=>h.imp id fun h=>h.imp id fun ⟨k,ow,h1,h2,h3⟩=>by
     by_cases ek:k=d
     ·simp only [if_pos ek] at h1; injection h1 with h1; subst h1; simp only at h2; omega
     ·simp only [if_neg ek] at h1; exact ⟨k,ow,(EC h1).1,h2,h3⟩
    refine ZK (lD.held br _ _ zb) fun j u hj=>⟨?_,fun h=>?_⟩
    ·rw [yG];rw [cell_of_row _ w.heap.size j _ e (0,0) (CR (w:=w.drew) rfl)];have xh:=(yf.1 hj).1;rw [Array.getElem?_append_left (by simp only [Array.size_append,List.size_toArray]; simpa using xh)];simpa using hj
    ·rw [yG] at h;have xh:=(yf.1 hj).1;rw [yy,ee,jd,<- Nat.add_mul] at xh;rcases h with h | (⟨t',n',h⟩ | ⟨t',n',H,h,ta⟩) | ⟨k,ow,h1,h2,h3⟩
     ·have:=R.out _ _ h; have:=R.lowB; omega
     ·have:=(R.mine _ _ _ h).2.1; omega
     ·have:=((R.obs _ _ _ h).1 _ ta).2.1; omega
     ·by_cases ek:k=d
      ·simp only [if_pos ek] at h1; injection h1 with h1; subst h1; simp only at h3; omega
      ·simp only [if_neg ek] at h1;obtain ⟨_,_,_,_,jb,h5,_⟩:=R.tok _ _ (EC h1).1;have:=IA h5;omega
   -- nothing new
   have same:m=[]->exV (a.eval X)->∃ v w',(execOp a.eval o).run P w=.ok (.value v) w'/\ID P O nt B F0 da w0 D ((s.mapAn (A0.twice d)).put (some d) ⟨.sl (b&&m.isEmpty) (l++m),.own d e⟩) (a.put (some d) v) w':=fun rk kp=>by
    subst rk;have ca:=jV (P:=P) (w:=w) ht hi o.type (A:=A) ru sd;rw [<- hv] at ca;have R1:=R.less A0 d;refine ⟨_,_,mi _ _ ca,ι,_,R1.put hd ?_ (.inl kp)⟩;have hb:(b&&List.isEmpty ([]:List (List AV)))=b:=by simp
    show MA _ _ _ _ (.sl (b&&List.isEmpty []) (l++[])) _;rw [hb,List.append_nil];have hless:BA (PC da ι Θ) (PC da ι (Θ.less A0 d)) w w:=BA.less fun b o h=>h.imp id fun h=>h.imp id fun ⟨k,ow,h1,h2⟩=>⟨k,ow,(EC h1).1,h2⟩
    have pz:BA (IC ι Θ) (IC ι (Θ.less A0 d)) w w:=BA.less fun b o h=>h.imp id fun ⟨k,ow,h1,h2⟩=>⟨k,ow,(EC h1).1,h2⟩
    exact MA.held (Ix.Le.refl _) hless pz _ _ hX.1
   have exact:exV (a.eval X)->∃ v w',(execOp a.eval o).run P w=.ok (.value v) w'/\ID P O nt B F0 da w0 D ((s.mapAn (A0.twice d)).put (some d) ⟨.sl (b&&m.isEmpty) (l++m),.own d e⟩) (a.put (some d) v) w':=fun kp=>by
    obtain ⟨A',n',hex'⟩:=kp;rw [hv] at hex';injection hex' with e1 e2 e3;rcases yJ m.length with h0 | h0
    ·exact same (yO h0) ⟨A',n',by rw [hv,e1,e2,e3]⟩
    ·exact grow (by omega)
   rcases hAk with rfl | ⟨k,rfl⟩
   ·exact exact ku
   ·rcases ku with ku | ⟨ow,hk,hoe,ku⟩
    ·exact exact ku
    ·rw [hv] at ku;injection ku with e1 e2 e3;obtain ⟨hgB,hosz,honc,hocm,cur,ne,xv⟩:=R.tok k ow hk;rw [hoe] at ne;have mo:ow.sz=i.size:=by
      have:=xv.2;rw [hoe] at this;simp [rC,hi] at this;exact this.symm
     rcases Nat.lt_or_ge c (l.length + m.length) with fa | mf
     ·exact grow fa
     ·subst e1;have ca:=U5 (P:=P) (w:=w) ht hi o.type ne (by rw [xv.1,mo]) ao sd gn (n:=l.length) (m:=m.length) (c:=ow.c) (by omega);have pm:l.length * i.size + news.length<=cur.toList.length:=by
       have dd:cur.toList.length=ow.c * i.size:=by rw [yU,xv.1,mo]
       rw [jd,<- Nat.add_mul,dd];exact Nat.mul_le_mul_right _ (by omega)
      obtain ⟨new,sb⟩:∃ new,new=(cur.toList.take (l.length * i.size)++news++cur.toList.drop (l.length * i.size + news.length)).toArray:=⟨_,rfl⟩;rw [<- sb] at ca;have hnl:new.size=cur.size:=by
       rw [sb];simp only [List.size_toArray,yy,yF,List.length_drop];simp only [yU] at pm ⊢;omega
      have js:ow.n * ow.sz=l.length * i.size:=by rw [<- e2,mo]
      have nj:(cur.toList.take (l.length * i.size)).length=l.length * i.size:=by rw [yF]; omega
      have ls:∀ j,j<l.length * i.size->new[j]?=cur[j]?:=fun j hj=>by
       rw [sb,List.getElem?_toArray,yP,yL (by omega),yQ,if_pos hj];simp
      have hxs':∀ j u,(xs++news)[j]?=some u->new[j]?=some u:=fun j u hj=>by
       rcases Nat.lt_or_ge j (l.length * i.size) with xh | xh
       ·rw [ls j xh];rw [yL (by omega)] at hj;have:=ae _ rfl j u hj;rw [Addr.add_lit,yG,cell_of_row w ow.g j cur e (0,0) ne] at this;exact this
       ·rw [yR (by omega),ee] at hj;have hjn:=(yf.1 hj).1;rw [sb,List.getElem?_toArray,yP,yR (by omega),nj,yL hjn];exact hj
      have R1:=R.spare (new:=new) hk (by rw [hoe]; exact ne) hnl (fun j hj=>ls j (by omega));have zq:(w.setRow ow.g new).heap[ow.g]?=some (.cells new e (0,0)):=setRow_heap w ow.g cur new e (0,0) ne;have pd:∀ b o,IC ι (fun j=>if j=d then some ⟨ow.g,l.length + m.length,ow.c,i.size,e⟩ else Θ.less (.own k e) d j) b o->IC ι Θ b o:=fun b o h=>h.imp id fun ⟨k',ow',h1,h2,h3⟩=>by
       by_cases ek:k'=d
       ·simp only [if_pos ek] at h1;injection h1 with h1;subst h1;refine ⟨k,ow,hk,h2,?_⟩;simp only [Nat.add_mul] at h3;omega
       ·simp only [if_neg ek] at h1; exact ⟨k',ow',(EC h1).1,h2,h3⟩
      have R2:=R1.fam (fun j=>if j=d then some ⟨ow.g,l.length + m.length,ow.c,i.size,e⟩ else Θ.less (.own k e) d j) ((An.own k e).twice d) pd
       (less_an fun j o' h=>by have:=(EC h).2.1; simp only [if_neg this]; exact h)
       (fun k' o' h=>by
        by_cases ek:k'=d
        ·simp only [if_pos ek] at h;injection h with h;subst h;exact ⟨hgB,db,by simp only; omega,hocm,new,zq,by rw [hnl,xv.1,mo],by simp [rC,hi]⟩
        ·simp only [if_neg ek] at h;exact R1.tok k' o' (EC h).1)
       (fun k' k'' o' o'' h h' hg=>by
        by_cases e1:k'=d <;> by_cases e2:k''=d
        ·rw [e1,e2]
        ·simp only [if_pos e1] at h; simp only [if_neg e2] at h';injection h with h; subst h;exact absurd (R.tinj _ _ _ _ hk (EC h').1 hg).symm ((EC h').2.2 k e rfl)
        ·simp only [if_neg e1] at h; simp only [if_pos e2] at h';injection h' with h'; subst h';exact absurd (R.tinj _ _ _ _ (EC h).1 hk hg) ((EC h).2.2 k e rfl)
        ·simp only [if_neg e1] at h; simp only [if_neg e2] at h';exact R.tinj _ _ _ _ (EC h).1 (EC h').1 hg)
       (fun k' o' t' n' h=>by
        by_cases ek:k'=d
        ·simp only [if_pos ek] at h;injection h with h;subst h;exact R.apart k ow t' n' hk
        ·simp only [if_neg ek] at h;exact R.apart k' o' t' n' (EC h).1)
       (fun k' o' t' n' H h hH=>by
        by_cases ek:k'=d
        ·simp only [if_pos ek] at h;injection h with h;subst h;show ¬ H ow.g;exact R.apob hk hH
        ·simp only [if_neg ek] at h;exact R.apob (EC h).1 hH)
      have hv':a.eval X=.slice (some ⟨ow.g,0,none⟩) l.length ow.c:=by rw [hv,e3]
      rw [<- hv'] at ca;refine ⟨_,_,mi _ _ ca,ι,_,R2.put hd ?_ (.inr ⟨_,if_pos rfl,rfl,rfl⟩)⟩;show MA _ _ _ _ (.sl (b&&m.isEmpty) (l++m)) _;have hb:b=false:=by
       cases b with
       | false=>rfl
       | true=>have:=(hn rfl).1; cases this
      rw [hb,Bool.false_and,CD];simp only [xE,yy];refine ⟨_,_,rfl,by omega,huni,(fun h=>by cases h),fun _=>⟨fun h=>(by cases h),fun _=>⟨ow.g,0,rfl,?_⟩⟩⟩;rw [UF];have br:BA (PC da ι Θ) (PC da ι (fun j=>if j=d then some ⟨ow.g,l.length + m.length,ow.c,i.size,e⟩ else Θ.less (.own k e) d j)) w (w.setRow ow.g new):=⟨fun b' o' u hc iT=>by
       refine ⟨?_,fun h=>iT (h.imp id (pd b' o'))⟩;by_cases ta:b'=ow.g
       ·subst ta;rw [cell_of_row _ ow.g o' new e (0,0) zq];have:o'<l.length * i.size:=by
         rcases Nat.lt_or_ge o' (l.length * i.size) with h | h
         ·exact h
         ·exact absurd (.inr (.inr ⟨k,ow,hk,rfl,by omega⟩)) iT
        rw [ls o' this,<- cell_of_row w ow.g o' cur e (0,0) ne];exact hc
       ·exact (World.cell?_of_block (w:=w) (a:=⟨b',o',none⟩) (setRow_other w ow.g b' new ta)).trans hc⟩
      refine ZK (lD.held br _ _ zb) fun j u hj=>⟨?_,fun h=>?_⟩
      ·rw [yG,cell_of_row _ ow.g j new e (0,0) zq];exact hxs' j u hj
      ·rw [yG] at h;have xh:=(yf.1 hj).1;rw [yy,ee,jd,<- Nat.add_mul] at xh;rcases h with h | (⟨t',n',h⟩ | ⟨t',n',H,h,ta⟩) | ⟨k',ow',h1,h2,h3⟩
       ·have:=R.out _ _ h; omega
       ·exact R.apart k ow t' n' hk h
       ·exact R.apob hk h ta
       ·by_cases ek:k'=d
        ·simp only [if_pos ek] at h1; injection h1 with h1; subst h1; simp only at h3; omega
        ·simp only [if_neg ek] at h1;exact absurd (R.tinj _ _ _ _ (EC h1).1 hk h2) ((EC h1).2.2 k e rfl)
  ·cases hr
 ·cases hr
def Ix.del (ι:Ix) (t n:Nat):Ix:=⟨fun t' n'=>if t'=t/\n'=n then .none else ι t' n',ι.ob,ι.z⟩
theorem Ix.del_some {ι:Ix} {t n t' n' b:Nat} (h:(ι.del t n) t' n'=some b):ι t' n'=some b/\¬ (t'=t/\n'=n):=by
 have h':(if t'=t/\n'=n then Option.none else ι t' n')=Option.some b:=h;split at h'
 ·cases h'
 ·rename_i hn; exact ⟨h',hn⟩
theorem Ix.del_lk (ι:Ix) (t n:Nat):Ix.Lk t n ι (ι.del t n):=⟨fun t' n' b hn h=>by
 show (if t'=t/\n'=n then Option.none else ι t' n')=Option.some b;rw [if_neg hn]; exact h,fun _ _ _ _=>rfl⟩
theorem ND.kill {t n:Nat} {ι':Ix} {av za:Av} {r:List wA} {cur:Array Value} (h:ND ι Θ av w r cur) (hι:Ix.Lk t n ι ι') (hh:BA av za w w):ND ι' Θ za w (r.map (wA.kill t n)) cur:=by
 refine ⟨by simpa using h.1,fun j x hx=>?_⟩;rw [ye] at hx;cases hj:r[j]? with
 | none=>rw [hj] at hx; cases hx
 | some y =>
  rw [hj] at hx;injection hx with hx;subst hx;obtain ⟨u,hu,h1,hr,ha⟩:=h.2 j y hj;refine ⟨u,hu,h1,?_,ha⟩;have hk:=NA.kill hι hh y.v u hr;show NA ι' za w (y.v.kill t n) u;cases hy:y.v with
  | agg cs=>rw [hy] at hr; obtain ⟨us,rfl,_⟩:=hr; simp [Value.oneCell'] at h1
  | tup cs=>rw [hy] at hr; obtain ⟨us,rfl,_⟩:=hr; simp [Value.oneCell'] at h1
  | _=>rw [hy] at hk; exact hk
theorem uC.kill (R:uC P O nt B F0 da w0 D s a w ι Θ) {t n:Nat} (js:t≠0) {r:List wA} (hm:s.mem t n=some r):uC P O nt B F0 da w0 D (s.kill t n) a w (ι.del t n) Θ:=by
 have kc:=(R.rows t n r hm).1;have wj:=Ix.del_lk ι t n;have ii:∀ b o,IC (ι.del t n) Θ b o->IC ι Θ b o:=fun b o h=>h.imp (fun h=>h.imp (fun ⟨t',n',h⟩=>⟨t',n',(Ix.del_some h).1⟩) id) id
 have hB:BA (IC ι Θ) (IC (ι.del t n) Θ) w w:=BA.less ii;have hA:BA (PC da ι Θ) (PC da (ι.del t n) Θ) w w:=BA.less fun b o h=>h.imp id (ii b o)
 refine ⟨R.defers,R.size,fun j=>MA.kill wj hA hB _ _ (R.env j),R.ann,fun t' n' r' hr=>?_,fun t' n' b h=>R.mine t' n' b (Ix.del_some h).1,fun t1 n1 t2 n2 b h h'=>R.inj t1 n1 t2 n2 b (Ix.del_some h).1 (Ix.del_some h').1,R.tok,R.tinj,fun k o t' n' h h'=>R.apart k o t' n' h (Ix.del_some h').1,R.out,fun p h=>?_,R.kept,R.base,fun t' n' S h=>?_,fun t' n' H h=>?_,fun j=>MA.kill wj hA hB _ _ (R.gen j),R.gann⟩
 ·simp only [pA.kill] at hr;split at hr
  ·cases hr
  ·rename_i hn;cases bd:s.mem t' n' with
   | none=>rw [bd] at hr; cases hr
   | some r0 =>
    rw [bd] at hr;injection hr with hr;subst hr;obtain ⟨h0,b,cur,ty,h1,h2,h3,h4⟩:=R.rows t' n' r0 bd;exact ⟨h0,b,cur,ty,wj.f _ _ _ hn h1,h2,h3.kill wj hA,h4⟩
 ·obtain ⟨h1,h2⟩:=R.pin p h;exact ⟨wj.f _ _ _ (fun e=>js e.1.symm) h1,h2.imp (fun g=>⟨g.1,(wj.z _ _ _ h1).trans g.2⟩) id⟩
 ·obtain ⟨p,H,h1,h2,h3,h4⟩:=R.objs t' n' S h;have ew:∀ t1 n1 b1 H1,ι t1 n1=some b1->ι.ob t1 n1=some H1->(ι.del t n) t1 n1=some b1:=fun t1 n1 b1 H1 g1 g2=>wj.f _ _ _ (fun e=>by rw [<- e.1,<- e.2,g2] at kc; cases kc) g1
  exact ⟨p,H,ew _ _ _ _ h1 h2,h2,h3,h4.keep (fun t1 n1 b1 H1 g1 g2=>⟨ew _ _ _ _ g1 g2,H1,g2⟩) fun x hx=>hx⟩
 ·obtain ⟨h1,h2⟩:=R.obs t' n' H h;refine ⟨fun b hb=>?_,h2⟩;obtain ⟨g1,g2,g3,g4,g5⟩:=h1 b hb;exact ⟨g1,g2,fun t2 n2 h=>g3 t2 n2 (Ix.del_some h).1,g4,g5⟩
theorem uC.ren (R:uC P O nt B F0 da w0 D s a w ι Θ) {t n:Nat} (js:t≠0) {r:List wA} (hm:s.mem t n=some r) (de:r.map (wA.kill t n)=r) {d:Nat} (hd:d<nt) (hD:¬ D d) {x:AV} {v:Value}
  (hx:∀ ι':Ix,ι' d s.next=ι t n->(∀ b,ι'.z b=ι.z b)->MA ι' (PC da ι' Θ) (IC ι' Θ) w x v) :
  ∃ ι',uC P O nt B F0 da w0 (fun j=>D j\/j=d) (((s.kill t n).setRow d s.next r).put (some d) ⟨x,.no⟩) (a.put (some d) v) w ι' Θ:=by
 obtain ⟨kc,b0,cur0,ty0,ov,cz,mt,ju,gc⟩:=R.rows t n r hm;have ud:ι d s.next=none:=by
  cases h:ι d s.next with
  | none=>rfl
  | some b =>
   rcases (R.mine _ _ _ h).2.2 with h1 | h1
   ·omega
   ·exact absurd h1.2 hD
 have wd:ι.ob d s.next=none:=by
  cases h:ι.ob d s.next with
  | none=>rfl
  | some b =>
   rcases (R.obs _ _ _ h).2 with h1 | h1
   ·omega
   ·exact absurd h1.2 hD
 have la:¬ (t=d/\n=s.next):=fun e=>by rw [e.1,e.2,ud] at ov; cases ov
 obtain ⟨ι',hι'⟩:∃ ι':Ix,ι'=⟨fun t' n'=>if t'=d/\n'=s.next then some b0 else (ι.del t n) t' n',ι.ob,ι.z⟩:=⟨_,rfl⟩;have sb:ι' d s.next=some b0:=by subst hι'; show (if d=d/\s.next=s.next then some b0 else _)=_; rw [if_pos ⟨rfl,rfl⟩]
 have oh:∀ t' n' b,ι' t' n'=some b->(t'=d/\n'=s.next/\b=b0)\/(ι t' n'=some b/\¬ (t'=t/\n'=n)/\¬ (t'=d/\n'=s.next)):=fun t' n' b h=>by
  subst hι';have h':(if t'=d/\n'=s.next then some b0 else (ι.del t n) t' n')=some b:=h;split at h'
  ·rename_i e; injection h' with h'; exact .inl ⟨e.1,e.2,h'.symm⟩
  ·rename_i e; exact .inr ⟨(Ix.del_some h').1,(Ix.del_some h').2,e⟩
 have kb:ι'.ob=ι.ob:=by subst hι'; rfl
 have wj:Ix.Lk t n ι ι':=⟨fun t' n' b hn h=>by
  subst hι';show (if t'=d/\n'=s.next then some b0 else (ι.del t n) t' n')=some b;rw [if_neg (fun e=>by rw [e.1,e.2,ud] at h; cases h)];exact (Ix.del_lk ι t n).f _ _ _ hn h,fun _ _ _ _=>by subst hι'; rfl⟩
 have xu:∀ b,ι'.z b=ι.z b:=fun b=>by subst hι'; rfl
 clear hι';have ii:∀ b o,IC ι' Θ b o->IC ι Θ b o:=fun b o h=>h.imp (fun h=>h.imp (fun ⟨t',n',h⟩=>by
  rcases oh _ _ _ h with ⟨_,_,e⟩ | ⟨h,_⟩
  ·exact ⟨t,n,e ▸ ov⟩
  ·exact ⟨t',n',h⟩) (fun ⟨t',n',H,h,hb⟩=>⟨t',n',H,kb ▸ h,hb⟩)) id
 have hB:BA (IC ι Θ) (IC ι' Θ) w w:=BA.less ii;have hA:BA (PC da ι Θ) (PC da ι' Θ) w w:=BA.less fun b o h=>h.imp id (ii b o)
 refine ⟨ι',uC.put (s:=(s.kill t n).setRow d s.next r) ⟨R.defers,R.size,fun j=>MA.kill wj hA hB _ _ (R.env j),R.ann,fun t' n' r' hr=>?_,fun t' n' b h=>?_,fun t1 n1 t2 n2 b h h'=>?_,R.tok,R.tinj,fun k o t' n' h h'=>?_,R.out,fun p h=>?_,R.kept,R.base,fun t' n' S h=>?_,fun t' n' H h=>?_,fun j=>MA.kill wj hA hB _ _ (R.gen j),R.gann⟩ hd (hx _ (sb.trans ov.symm) xu) trivial⟩
 ·simp only [pA.setRow] at hr;split at hr
  ·rename_i e;injection hr with hr;subst hr;refine ⟨by rw [kb,e.1,e.2]; exact wd,b0,cur0,ty0,by rw [e.1,e.2]; exact sb,cz,?_,ju,gc.trans (xu _).symm⟩;have:=mt.kill wj hA;rw [de] at this;exact this
  ·simp only [pA.kill] at hr;split at hr
   ·cases hr
   ·rename_i hn;cases bd:s.mem t' n' with
    | none=>rw [bd] at hr; cases hr
    | some r0 =>
     rw [bd] at hr;injection hr with hr;subst hr;obtain ⟨h0,b,cur,ty,h1,h2,h3,h4,h5⟩:=R.rows t' n' r0 bd;exact ⟨kb ▸ h0,b,cur,ty,wj.f _ _ _ hn h1,h2,h3.kill wj hA,h4,h5.trans (xu _).symm⟩
 ·rcases oh _ _ _ h with ⟨e1,e2,e3⟩ | ⟨h,_⟩
  ·subst e1; subst e3;obtain ⟨h1,h2,_⟩:=R.mine t n b ov;exact ⟨h1,h2,.inr ⟨e2,.inr rfl⟩⟩
  ·obtain ⟨h1,h2,h3⟩:=R.mine t' n' b h;exact ⟨h1,h2,h3.imp id fun ⟨e,d⟩=>⟨e,.inl d⟩⟩
 ·rcases oh _ _ _ h with ⟨e1,e2,e3⟩ | ⟨h,hn,_⟩ <;> rcases oh _ _ _ h' with ⟨f1,f2,f3⟩ | ⟨h',og,_⟩
  ·exact ⟨e1.trans f1.symm,e2.trans f2.symm⟩
  ·subst e3; exact absurd (R.inj _ _ _ _ _ h' ov) og
  ·subst f3; exact absurd (R.inj _ _ _ _ _ h ov) hn
  ·exact R.inj _ _ _ _ _ h h'
 ·rcases oh _ _ _ h' with ⟨e1,e2,e3⟩ | ⟨h',_⟩
  ·exact R.apart k o t n h (e3 ▸ ov)
  ·exact R.apart k o t' n' h h'
 ·obtain ⟨h1,h2⟩:=R.pin p h;exact ⟨wj.f _ _ _ (fun e=>js e.1.symm) h1,h2.imp (fun g=>⟨g.1,(wj.z _ _ _ h1).trans g.2⟩) fun g=>kb ▸ g⟩
 ·obtain ⟨p,H,h1,h2,h3,h4⟩:=R.objs t' n' S h;have ew:∀ t1 n1 b1 H1,ι t1 n1=some b1->ι.ob t1 n1=some H1->ι' t1 n1=some b1:=fun t1 n1 b1 H1 g1 g2=>wj.f _ _ _ (fun e=>by rw [<- e.1,<- e.2,g2] at kc; cases kc) g1
  exact ⟨p,H,ew _ _ _ _ h1 h2,kb ▸ h2,h3,h4.keep (fun t1 n1 b1 H1 g1 g2=>⟨ew _ _ _ _ g1 g2,H1,kb ▸ g2⟩) fun x hx=>hx⟩
 ·rw [kb] at h;obtain ⟨h1,h2⟩:=R.obs t' n' H h;refine ⟨fun b hb=>?_,h2.imp id fun ⟨e,d⟩=>⟨e,.inl d⟩⟩;obtain ⟨g1,g2,g3,g4,g5⟩:=h1 b hb;refine ⟨g1,g2,fun t2 n2 h'=>?_,g4,kb ▸ g5⟩;rcases oh _ _ _ h' with ⟨e1,e2,e3⟩ | ⟨h',_⟩
  ·exfalso;have e:=g3 t n (e3 ▸ ov);rw [<- e.1,<- e.2] at h;rw [kc] at h;cases h
  ·exact g3 t2 n2 h'
theorem row_of {av:Av} {cs:List AV} {us:List Value} (h:lD av w cs us) {cur:Array Value} (hc:∀ (j:Nat) (u:Value),us[j]?=some u->cur[j]?=some u):ND ι Θ av w (cs.map (⟨·,.no⟩)) cur:=by
 have ia:=uD (OD (ι:=ι) h);constructor
 ·rw [yq];rcases yJ cs.length with h0 | h0
  ·omega
  ·have:=hc (cs.length - 1) us[cs.length - 1] (y5 (by omega));have:=(Array.getElem?_eq_some_iff.1 this).1;omega
 ·intro j x hx;rw [ye] at hx;cases hj:cs[j]? with
  | none=>rw [hj] at hx; cases hx
  | some y =>
   rw [hj] at hx;injection hx with hx;subst hx;obtain ⟨u,hu,h1,hr⟩:=wK (OD (ι:=ι) h) hj;exact ⟨u,hc j u hu,h1,hr,trivial⟩
theorem uC.drew (R:uC P O nt B F0 da w0 D s a w ι Θ):uC P O nt B F0 da w0 D s a w.drew ι Θ:=R.grow (w':=w.drew) (fun _ _=>rfl) (yn _) R.kept.drew
theorem G9 (s:pA) (t n:Nat) (r:List wA):(s.setRow t n r).kill t n=s.kill t n:=by
 simp only [pA.setRow,pA.kill];congr 1;funext t' n';by_cases h:t'=t/\n'=n <;> simp [h]
theorem L4 {av:Av} {cs:List AV} {us:List Value} (h:HA ι av w cs us) {cur:Array Value} (hc:∀ (j:Nat) (u:Value),us[j]?=some u->cur[j]?=some u):ND ι Θ av w (cs.map (⟨·,.no⟩)) cur:=by
 have ia:=uD h;constructor
 ·rw [yq];rcases yJ cs.length with h0 | h0
  ·omega
  ·have:=hc (cs.length - 1) us[cs.length - 1] (y5 (by omega));have:=(Array.getElem?_eq_some_iff.1 this).1;omega
 ·intro j x hx;rw [ye] at hx;cases hj:cs[j]? with
  | none=>rw [hj] at hx; cases hx
  | some y =>
   rw [hj] at hx;injection hx with hx;subst hx;obtain ⟨u,hu,h1,hr⟩:=wK h hj;exact ⟨u,hc j u hu,h1,hr,trivial⟩
theorem XZ {av:Av}:∀ {xs:List AV} {us:List Value},HA ι av w xs us->∀ u∈us,u.oneCell'=true
 | [],us,h,u,hu=>by simp only [HA] at h; subst h; cases hu
 | x :: r,us,h,u,hu=>by
  simp only [HA] at h;obtain ⟨u',sa,rfl,_,h1,h⟩:=h;rcases yh.1 hu with rfl | hu
  ·exact h1
  ·exact XZ h u hu
theorem tT {t n:Nat} {v:AV} (h:v.noName t n=true):v.kill0 t n=v/\v.kill t n=v:=by
  cases v <;> first
    | exact ⟨rfl,rfl⟩
    | (simp only [AV.noName,Bool.not_eq_true',Bool.and_eq_false_imp,decide_eq_true_eq,decide_eq_false_iff_not] at h
       have h':¬ (_=t/\_=n):=fun e=>h e.1 e.2
       exact ⟨by simp only [AV.kill0,if_neg h'],by simp only [AV.kill,AV.kill0,if_neg h']⟩)
    | cases h
theorem Z8 {t n:Nat} {l:List AV} (h:l.all (AV.noName t n)=true):l.map (AV.kill0 t n)=l:=by
 have:l.map (AV.kill0 t n)=l.map id:=yr fun x hx=>(tT (y6.1 h x hx)).1
 rwa [List.map_id] at this
theorem L8 {t n:Nat} {l:List AV} (h:l.all (AV.noName t n)=true):(l.map (⟨·,.no⟩)).map (wA.kill t n)=l.map (⟨·,.no⟩):=by
 rw [y3];apply yr;intro x hx;show (⟨x.kill t n,.no⟩:wA)=⟨x,.no⟩;rw [(tT (y6.1 h x hx)).2]
theorem D4 (R:uC P O nt B F0 da w0 D s a w ι Θ) {t e:TypeId} {i:TypeInfo} {z:List AV} (ht:P.underlying t=some (.slice e)) (hi:P.info? e=some i) (hz:pL P e=some z) (ac:z.length=i.size) (db:0<i.size) {X Y:Operand} {x y:JB} (hx:opd X=some x) (hy:opd Y=some y)
  (ho:o.op=.call { callee:=.builtin .append,args:=#[X,Y],argTypes:=#[t,t] }) {d:Nat} (ba:o.dst=some d) (hd:d<nt) (hD:¬ D d) {cl:Cl} {call} {xe:wA × zD} (hr:(K.appn cl e i.size i.bytes x y).run call s=some xe) {g} {s':pA} (he:WA.eff ⟨o.dst,.appn cl e i.size i.bytes x y,g⟩ s xe=some s') :
  ∃ v w',(execOp a.eval o).run P w=.ok (.value v) w'/\ID P O nt B F0 da w0 (fun t=>D t\/t=d) s' (a.put o.dst v) w':=by
 obtain ⟨zv,i',fc,ao,zi,hl⟩:=bH hz w;rw [hi] at fc;injection fc with fc;subst fc;have ul:zv.cells.size=i.size:=by
  have:=iH hl;simp only [yU] at this;omega
 have hX:=R.opd hx;have hY:=(R.opd hy).1;have mi:∀ v w',(Builtin.append_ #[t,t] o.type #[a.eval X,a.eval Y]).run P w=.ok v w'->(execOp a.eval o).run P w=.ok (.value v) w':=fun v w' h=>by
  simp only [execOp,ho,resolve,invoke,builtin,Sem.run_bind,Sem.run_pure,Result.andThen_ok,List.map_toArray,yg,yk,h]
 -- a new block for l++m
 have grow:∀ {s1:pA} {ι1:Ix} {l m:List (List AV)} {xs news:List Value} {A:Option Addr} {ln c:Nat},uC P O nt B F0 da w0 D s1 a w.drew ι1 Θ->a.eval X=.slice A ln c->xs.length=ln * i.size->(A=none->ln=0/\c=0)->(∀ a',A=some a'->∀ j u,xs[j]?=some u->w.cell? (a'.add j)=some u) →
   l.length=ln->Sl (fun _=>False) w i.size (a.eval Y) m.length news->c<ln + m.length->ln<=c->HA ι1 (PC da ι1 Θ) w.drew (l++m).flatten (xs++news)->kB i.bytes (ln + m.length)=true →
   ∃ v w',(execOp a.eval o).run P w=.ok (.value v) w'/\ID P O nt B F0 da w0 (fun t=>D t\/t=d) ((s1.setRow d s1.next ((l++m).flatten.map (⟨·,.no⟩))).put (some d) ⟨.ref d s1.next i.size 0 (ln + m.length) (ln + m.length),.no⟩) (a.put (some d) v) w':=by
  intro s1 ι1 l m xs news A ln c R1 hv zd hA hxc xj sd fa ru zb ja;obtain ⟨we,le⟩:=PA.1 ja;have ca:=gV (P:=P) (w:=w) ht hi ao o.type zd hA hxc sd fa ru le we;rw [<- hv] at ca;have mf:=grownCap_ge w (ln + m.length) c e;have hnl:news.length=m.length * i.size:=sd.1;have ka:ND ι1 Θ (PC da ι1 Θ) w.drew ((l++m).flatten.map (⟨·,.no⟩)) (xs.toArray++news.toArray++Builtin.zeroCells zv.cells (grownCap w (ln + m.length) c e - (ln + m.length))):=L4 zb fun j u hj=>by
   have xh:=(yf.1 hj).1;rw [Array.getElem?_append_left (by simp only [Array.size_append,List.size_toArray]; simpa using xh)];simpa using hj
  obtain ⟨ι',h⟩:=R1.new hd hD e ka (x:=.ref d s1.next i.size 0 (ln + m.length) (ln + m.length)) (v:=.slice (some ⟨w.heap.size,0,none⟩) (ln + m.length) (grownCap w (ln + m.length) c e)) (fun ι' h hz=>⟨_,h,yn _,_,mf,by
   rw [show ι'.z w.drew.heap.size=_ from hz,yG];simp only [Array.size_append,List.size_toArray,size_zeroCells,ul,zd,hnl,<- Nat.add_mul];exact Nat.mul_le_mul_right _ (by omega),rfl⟩)
  exact ⟨_,_,mi _ _ ca,ι',Θ,h⟩
 have drewHeld:BA (PC da ι Θ) (PC da ι Θ) w w.drew:=BA.grown (fun _ _=>rfl) fun _ _ _ h=>h
 simp only [K.run] at hr;split at hr
 ·rename_i b l m ic jc;split at hr
  ·rename_i aa;obtain ⟨ja,ra,rk⟩:=aa;have ec:∀ c∈l++m,c.length=i.size:=fun c hc=>by simpa using y6.1 ra c hc
   have bd:∀ c∈m,c.length=i.size:=fun c hc=>ec c (List.mem_append_right _ hc)
   have jq:∀ c∈l,c.length=i.size:=fun c hc=>ec c (yX _ hc)
   obtain ⟨news,rd,sd⟩:=raws_sl R hY jc db bd;rw [ic] at hX;have ky:=hX.1;rw [CD] at ky;obtain ⟨xs,zd,au⟩:=cM (cl:=cl) R hX.1 (m:=l) rfl db jq;simp only [xE] at ky;obtain ⟨A,c,hv,ru,hu,hn,hs⟩:=ky;have ee:xs.length=l.length * i.size:=au.1;have ae:∀ a',A=some a'->∀ j u,xs[j]?=some u->w.cell? (a'.add j)=some u:=fun a' ha j u hj=>by
    obtain ⟨_,A2,c2,hv2,_,h2⟩:=au;rw [hv] at hv2;injection hv2 with e1 e2 e3;subst e1;have hp:0<l.length:=by
     rcases yJ l.length with h | h
     ·rw [h] at ee; have:=(yf.1 hj).1; omega
     ·exact h
    obtain ⟨b',off,hA,_,_,dd⟩:=h2 hp;rw [ha] at hA;injection hA with hA;subst hA;rw [Addr.add_lit];exact dd j u hj
   split at hr
   ·rename_i bk;have hXe:exV (a.eval X):=by
     cases b with
     | false=>have h2:=hX.2; rw [show x.an s=.ex from bk] at h2; exact h2
     | true =>
      obtain ⟨h1,h2,h3⟩:=hn rfl;exact ⟨none,0,by rw [hv,h1,h2,h3]⟩
    obtain ⟨A',n',kp⟩:=hXe;rw [hv] at kp;injection kp with e1 e2 e3;injection hr with hr;subst hr;simp only [WA.eff,ba] at he;injection he with he;subst he;rw [ba];exact grow R.drew hv ee (fun hA=>by
     cases b with
     | true=>have:=hn rfl; exact ⟨this.2.1,this.2.2⟩
     | false =>
      obtain ⟨h1,h2⟩:=hs rfl;refine ⟨?_,h1 hA⟩;rcases yJ l.length with h0 | h0
      ·exact h0
      ·obtain ⟨_,_,ha,_⟩:=h2 h0; rw [hA] at ha; cases ha) ae rfl sd (by omega) ru (by rw [List.flatten_append]; exact tH (OD (lD.held drewHeld _ _ zd)) (HA.held (Ix.Le.refl _) drewHeld _ _ rd)) ja
   ·cases hr
  ·cases hr
 ·rename_i t' n sz off ln cp m ic jc;split at hr
  ·rename_i l xj;split at hr
   ·rename_i aa;obtain ⟨rfl,rfl,ja,ra,js,lq⟩:=aa;injection hr with hr;subst hr;have bd:∀ c∈m,c.length=i.size:=fun c hc=>by simpa using y6.1 ra c hc
    obtain ⟨news,rd,sd⟩:=raws_sl R hY jc db bd;rw [ic] at hX;obtain ⟨b,hb,ub,cc,sf,hzb,hv⟩:=NG.1 hX.1;simp only [AV.raws] at xj;split at xj
    ·cases hm:s.mem t' n with
     | none=>rw [hm] at xj; cases xj
     | some r =>
      rw [hm,V] at xj;obtain ⟨kc,b',cur,ty,ta,oa,ka,dj,gr⟩:=R.rows t' n r hm;rw [hb] at ta;injection ta with ta;subst ta;obtain ⟨rz,jq,xs,zd,ae⟩:=wQ ka oa xj;simp only [yG] at ae hzb;have ar:∀ {q:List (List AV)},(∀ c∈q,c.length=i.size)->q.flatten.length=q.length * i.size:=fun {q} hq=>by
       induction q with
       | nil=>simp
       | cons c r ih=>rw [yD,yy,hq c (by simp),ih (fun c hc=>hq c (by simp [hc])),yI,yA]; omega
      have ee:xs.length=ln * i.size:=by
       have:=uD zd;rw [this,ar jq,rz]
      have jd:news.length=m.length * i.size:=sd.1;have zb:HA ι (PC da ι Θ) w (l++m).flatten (xs++news):=by rw [List.flatten_append]; exact tH zd rd
      have kr:(l++m).flatten.map (AV.kill0 t' n)=(l++m).flatten:=Z8 lq;simp only [WA.eff,ba,pA.killO] at he;injection he with he;subst he;rw [ba];rcases Nat.lt_or_ge cc (ln + m.length) with fa | mf
      ·have wj:BA (PC da ι Θ) (PC da (ι.del t' n) Θ) w w.drew:=BA.grown (fun _ _=>rfl) fun b o _ h=>h.imp id fun h=>h.imp (fun h=>h.imp (fun ⟨t',n',h⟩=>⟨t',n',(Ix.del_some h).1⟩) id) id
       exact grow (R.drew.kill js hm) hv ee (fun h=>by cases h) (fun a' ha j u hj=>by
        injection ha with ha;subst ha;rw [Addr.add_lit,yG];exact ae j u hj) rz sd fa (Nat.le_trans ub sf) (by have:=HA.kill (Ix.del_lk ι t' n) wj _ _ zb; rwa [kr] at this) ja
      ·obtain ⟨new,sb⟩:∃ new,new=(cur.toList.take (ln * i.size)++news++cur.toList.drop (ln * i.size + news.length)).toArray:=⟨_,rfl⟩;have pm:ln * i.size + news.length<=cur.size:=by
        rw [jd,<- Nat.add_mul,gr];exact Nat.le_trans (Nat.mul_le_mul_right _ mf) hzb
       have ca:(Builtin.append_ #[t,t] o.type #[a.eval X,a.eval Y]).run P w=.ok (.slice (some ⟨b,0,none⟩) (ln + m.length) cc) (w.setRow b new):=by
        rw [hv,sb];obtain ⟨fh,A,c',hsv,hc,mb⟩:=sd;rw [hsv];cases A with
        | none =>
         have rk:m.length=0:=by
          rcases yJ m.length with h | h
          ·exact h
          ·obtain ⟨b,off,hA,_⟩:=mb h; cases hA
         have lq:news=[]:=yO (by rw [jd,rk,Nat.zero_mul]);subst lq;rw [rk] at mf ⊢;have ot:w.setRow b (cur.toList.take (ln * i.size)++[]++cur.toList.drop (ln * i.size + ([]:List Value).length)).toArray=w:=by
          simp only [List.append_nil,List.length_nil,Nat.add_zero,List.take_append_drop,yV];exact setRow_self w b cur ty (0,0) oa
         rw [ot];simp only [Nat.add_zero] at mf;simp [Builtin.append_,run_underlying ht,sizeOf,typeInfo,hi,Builtin.lenOf,Builtin.firstCells,mf,storeCells]
        | some a' =>
         have hnews':∀ (j:Nat) (u:Value),news[j]?=some u->w.cell? (a'.add j)=some u:=fun j u hu=>by
          have rk:0<m.length:=by
           rcases yJ m.length with h | h
           ·rw [h] at jd; have:=(yf.1 hu).1; omega
           ·exact h
          obtain ⟨b,off,hA,_,_,dd⟩:=mb rk;injection hA with hA;subst hA;rw [Addr.add_lit];exact dd j u hu
         have nr:=run_loadCells_list (P:=P) w a' news hnews';rw [jd] at nr;have pb:=run_storeCells_at P b (ln * i.size) ty news 0 cur w oa (by simpa using pm) (XZ rd);simp only [Nat.add_zero] at pb;simp [Builtin.append_,run_underlying ht,sizeOf,typeInfo,hi,Builtin.lenOf,Builtin.firstCells,mf,nr,Addr.add_lit,pb]
       have hns:new.size=cur.size:=by
        rw [sb];simp only [List.size_toArray,yy,yF,List.length_drop,yU];omega
       have tk:ND ι Θ (PC da ι Θ) w ((l++m).flatten.map (⟨·,.no⟩)) new:=L4 zb fun j u hj=>by
        have nj:(cur.toList.take (ln * i.size)).length=ln * i.size:=by rw [yF,yU]; omega
        rw [sb,List.getElem?_toArray,yP];rcases Nat.lt_or_ge j (ln * i.size) with h | h
        ·rw [yL (by omega)] at hj;have:=ae j u hj;rw [cell_of_row w b j cur ty (0,0) oa] at this;rw [yL (by omega),yQ,if_pos h];simpa using this
        ·rw [yR (by omega),ee] at hj;have hjn:=(yf.1 hj).1;rw [yR (by omega),nj,yL hjn];exact hj
       have R1:=R.set hb kc oa tk dj (hns.trans gr);have R2:=R1.ren (t:=t') (n:=n) js (d:=d) (r:=(l++m).flatten.map (⟨·,.no⟩)) (by simp [pA.setRow]) (L8 lq) hd hD (x:=.ref d s.next i.size 0 (ln + m.length) (ln + m.length)) (v:=.slice (some ⟨b,0,none⟩) (ln + m.length) cc) (fun ι' h1 h2=>⟨b,h1.trans hb,yn _,cc,mf,by rw [h2,yG]; exact hzb,rfl⟩);rw [G9] at R2;obtain ⟨ι',R2⟩:=R2;exact ⟨_,_,mi _ _ ca,ι',Θ,R2⟩
    ·cases xj
   ·cases hr
  ·cases hr
 ·cases hr
theorem G4 {v:AV} {cl:Cl} {l:List (List AV)} (h:v.elems s cl=some l):v.raws s cl=some l:=by
 cases v with
 | ref t n sz off len cap =>
  simp only [AV.elems,AV.raws] at h ⊢;split at h
  ·rename_i hc;rw [if_pos hc];cases hm:s.mem t n with
   | none=>rw [hm] at h; cases h
   | some r =>
    rw [hm,V,DE] at h;split at h
    ·rename_i hr;rw [V,qH,if_pos hr.1];exact h
    ·cases h
  ·cases h
 | _=>exact h
theorem W3 {av:Av} (t n:Nat):∀ {xs:List AV} {us:List Value},lD av w xs us->xs.all (AV.noName t n)=true
 | [],_,_=>rfl
 | x :: r,_,h=>by
  simp only [lD] at h;obtain ⟨u,sa,rfl,h0,h1,h⟩:=h;rw [List.all_cons,W3 t n h,Bool.and_true];cases x <;> first | rfl | (simp [xE] at h0; done) | (simp only [xE] at h0; obtain ⟨us,rfl,_⟩:=h0; simp [Value.oneCell'] at h1; done)
theorem op_appf (R:uC P O nt B F0 da w0 D s a w ι Θ) {t e:TypeId} {i:TypeInfo} {z:List AV} (ht:P.underlying t=some (.slice e)) (hi:P.info? e=some i) (hz:pL P e=some z) (ac:z.length=i.size) (db:0<i.size) {X Y:Operand} {x y:JB} (hx:opd X=some x) (hy:opd Y=some y)
  (ho:o.op=.call { callee:=.builtin .append,args:=#[X,Y],argTypes:=#[t,t] }) {d:Nat} (ba:o.dst=some d) (hd:d<nt) (hD:¬ D d) {cl:Cl} {call} {xe:wA × zD} (hr:(K.appf cl e i.size i.bytes x y).run call s=some xe) {g} {s':pA} (he:WA.eff ⟨o.dst,.appf cl e i.size i.bytes x y,g⟩ s xe=some s') :
  ∃ v w',(execOp a.eval o).run P w=.ok (.value v) w'/\ID P O nt B F0 da w0 (fun t=>D t\/t=d) s' (a.put o.dst v) w':=by
 have hX:=R.opd hx;have hY:=(R.opd hy).1;simp only [K.run] at hr;split at hr
 ·rename_i b l m ic jc;split at hr
  ·rename_i aa;split at hr
   ·rename_i bk;split at hr
    ·rename_i bw;cases hr;have rk:m=[]:=by simpa using bw
     subst rk;have ec:∀ c∈l,c.length=i.size:=fun c hc=>by simpa using y6.1 aa.2 c (yX _ hc)
     obtain ⟨news,rd,sd⟩:=cM R hY jc db (fun _ h=>by cases h);rw [ic] at hX;obtain ⟨hX,ku⟩:=hX;obtain ⟨A,c,hv,ru,_,hn,_⟩:=CD.1 hX;cases he;have ca:=jV (P:=P) (w:=w) ht hi o.type (A:=A) ru sd;rw [<- hv] at ca;refine ⟨_,_,by simp only [execOp,ho,resolve,invoke,builtin,Sem.run_bind,Sem.run_pure,Result.andThen_ok,List.map_toArray,yg,yk,ca],ι,Θ,(R.putN (d:=o.dst) (x:=⟨.sl b l,.ex⟩) (fun t h=>by rw [ba] at h; cases h; exact hd) hX ?_).more fun _ h=>.inl h⟩;cases b with
     | false=>rw [show x.an s=.ex from bk] at ku; exact ku
     | true=>obtain ⟨h1,h2,h3⟩:=hn rfl; exact ⟨none,0,by rw [hv,h1,h2,h3]⟩
    ·rename_i bw;exact D4 R ht hi hz ac db hx hy ho ba hd hD (cl:=cl) (call:=call) (xe:=xe) (by simp only [K.run,ic,G4 jc]; rw [if_pos ⟨aa.1,aa.2,by cases m <;> simp at bw ⊢⟩,bk]; exact hr) (g:=g) he
   ·cases hr
  ·cases hr
 ·cases hr
theorem op_appm (R:uC P O nt B F0 da w0 D s a w ι Θ) {t e:TypeId} {i:TypeInfo} {z:List AV} (ht:P.underlying t=some (.slice e)) (hi:P.info? e=some i) (hz:pL P e=some z) (ac:z.length=i.size) (db:0<i.size) {X Y:Operand} {x y:JB} (hx:opd X=some x) (hy:opd Y=some y)
  (ho:o.op=.call { callee:=.builtin .append,args:=#[X,Y],argTypes:=#[t,t] }) {d:Nat} (ba:o.dst=some d) (hd:d<nt) (hD:¬ D d) {cl:Cl} {call} {xe:wA × zD} (hr:(K.appm cl e i.size i.bytes x y).run call s=some xe) {g} {s':pA} (he:WA.eff ⟨o.dst,.appm cl e i.size i.bytes x y,g⟩ s xe=some s') :
  ∃ v w',(execOp a.eval o).run P w=.ok (.value v) w'/\ID P O nt B F0 da w0 (fun t=>D t\/t=d) s' (a.put o.dst v) w':=by
 have hX:=R.opd hx;have hY:=(R.opd hy).1;simp only [K.run] at hr;split at hr
 ·rename_i b l m ic jc;exact op_appf R ht hi hz ac db hx hy ho ba hd hD (cl:=cl) (call:=call) (xe:=xe) (by simp only [K.run,ic,jc]; exact hr) (g:=g) he
 ·rename_i t' n sz off ln cp m ic jc;split at hr
  ·rename_i l xj;split at hr
   ·rename_i aa;obtain ⟨h1,h2,ja,ra,js⟩:=aa;obtain ⟨news,rd,sd⟩:=cM R hY jc db fun c hc=>by simpa using y6.1 ra c hc
    rw [ic] at hX;have kc:(l++m).flatten.all (AV.noName t' n)=true:=by
     rw [List.flatten_append,List.all_append,W3 t' n rd,Bool.and_true];simp only [AV.elems] at xj;split at xj
     ·cases hm:s.mem t' n with
      | none=>rw [hm] at xj; cases xj
      | some r =>
       rw [hm,V] at xj;obtain ⟨_,b',cur,ty,_,oa,ka,_⟩:=R.rows t' n r hm;obtain ⟨_,_,xs,zd,_⟩:=uL ka oa xj;exact W3 t' n zd
     ·cases xj
    exact D4 R ht hi hz ac db hx hy ho ba hd hD (cl:=cl) (call:=call) (xe:=xe) (by simp only [K.run,ic,G4 jc,G4 xj]; rw [if_pos ⟨h1,h2,ja,ra,js,kc⟩]; exact hr) (g:=g) he
   ·cases hr
  ·cases hr
 ·cases hr
theorem op_bslr (R:uC P O nt B F0 da w0 D s a w ι Θ) {t e:TypeId} {n z:Nat} {zero:List AV} (ht:P.underlying t=some (.slice e)) (hz:pL P e=some zero) (hs:rC P e=some z) (ac:zero.length=z) (db:0<z) (ed:n * z<=16777216) {ps:Array (Nat × Operand)} {ys:List (Nat × JB)} (hy:opds ps.toList=some ys) (ho:o.op=.buildSlice t n ps)
  {d:Nat} (ba:o.dst=some d) (hd:d<nt) (hD:¬ D d) {call} {xe:wA × zD} (hr:(K.bslr z zero n ys).run call s=some xe) {g} {s':pA} (he:WA.eff ⟨o.dst,.bslr z zero n ys,g⟩ s xe=some s') :
  ∃ v w',(execOp a.eval o).run P w=.ok (.value v) w'/\ID P O nt B F0 da w0 (fun t=>D t\/t=d) s' (a.put o.dst v) w':=by
 obtain ⟨zv,i',fc,ao,zi,hl⟩:=bH hz w;have hisz:i'.size=z:=by simp [rC,fc] at hs; exact hs
 have ul:zv.cells.size=z:=by
  have:=iH hl;simp only [yU] at this;omega
 simp only [K.run] at hr;split at hr
 ·rename_i aa;obtain ⟨ig,ra,_,_⟩:=aa;injection hr with hr; subst hr;simp only [WA.eff,ba] at he;injection he with he;subst he;have ec:∀ p∈ys,(p.2.get s).whole=true/\(p.2.get s).cells.length=zero.length:=fun p hp=>by
   have:=y6.1 ra p hp;simpa using this
  have hn:ys.length=n:=by
   have:=congrArg List.length ig;simpa using this
  have ni:=eU (s:=s) z ys 0 [] (yB n zero).flatten (by rw [ig,List.range_eq_range',hn]) (by simp) (by simp [hn,ac]) (fun p hp=>by rw [(ec p hp).2,ac]);rw [List.nil_append,List.nil_append] at ni;have hp:=iS z ys;have ti:((Array.range (n * z)).map (((if n * z=0 then (#[]:Array Value) else zv.cells)[· % (if n * z=0 then (#[]:Array Value) else zv.cells).size]!))).toList=(yB n zv.cells.toList).flatten:=by
   rcases yJ n with h0 | h0
   ·subst h0; simp
   ·have:¬ n * z=0:=by have:=Nat.mul_pos h0 db; omega
    simp only [if_neg this];rw [<- ul];exact BU zv.cells n
  obtain ⟨sa,h1,h2⟩:=SS (pl:=fun i=>some (i * z,z)) (ι:=ι) (av:=PC da ι Θ) (avb:=IC ι Θ) (w:=w) (s:=s) (a:=a) rfl (fun X y h=>(R.opd h).1) hy hp (fun p hp=>by
   obtain ⟨q,hq,rfl⟩:=yu.1 hp;exact (ec q hq).1) (by rw [y3]; exact ni) (us:=(Array.range (n * z)).map (((if n * z=0 then (#[]:Array Value) else zv.cells)[· % (if n * z=0 then (#[]:Array Value) else zv.cells).size]!))) (by
    rw [ti];exact NU _ _ (tK hl _ _) n)
  have ca:(execOp a.eval o).run P w=.ok (.value (.slice (some ⟨w.heap.size,0,none⟩) n n)) (w.alloc (.cells sa e)):=by
   have h3:Instr.fill (fun i=>some (i * z,z)) ((Array.range (n * z)).map (((if n * z=0 then (#[]:Array Value) else zv.cells)[· % (if n * z=0 then (#[]:Array Value) else zv.cells).size]!))) (ps.map fun (i,x)=>(i,a.eval x)).toList=some sa:=by
    rw [Array.toList_map];exact h1
   have ub:¬ (n * z > 2 ^ 24):=by omega
   by_cases h0:n * z=0
   ·simp only [if_pos h0] at h3;simp only [execOp,ho,Instr.buildSlice,Sem.run_bind,run_underlying ht,Result.andThen_ok,zC hs,if_neg ub,if_pos h0,Sem.run_pure,h3,newRow,run_newObj_alloc]
   ·simp only [if_neg h0] at h3;simp only [execOp,ho,Instr.buildSlice,Sem.run_bind,run_underlying ht,Result.andThen_ok,zC hs,if_neg ub,if_neg h0,Sem.run_pure,zi,h3,newRow,run_newObj_alloc]
  refine ⟨_,_,ca,?_⟩;rw [ba];have ia:=uD h2;have eh:(ys.map fun p=>(p.2.get s).cells).flatten.length=n * z:=by
   rw [<- hn];clear ni h2 ia h1 ig ra hp hy ed ti hn
   induction ys with
   | nil=>simp
   | cons p r ih=>rw [yg,yD,yy,(ec p (by simp)).2,ih (fun q hq=>ec q (by simp [hq])),ac,yI,yA]; omega
  have nd:sa.size=n * z:=by
   rw [eh,yU] at ia;exact ia
  have ka:ND ι Θ (PC da ι Θ) w (xA (ys.map fun p=>(p.2.get s).cells)) sa:=L4 h2 fun j u hj=>by simpa using hj
  obtain ⟨ι',h⟩:=R.new hd hD e ka (x:=.ref d s.next z 0 n n) (v:=.slice (some ⟨w.heap.size,0,none⟩) n n) (fun ι' h hz=>⟨_,h,yn _,_,yn _,by
   rw [show ι'.z w.heap.size=_ from hz,yG,nd];exact yn _,rfl⟩)
  exact ⟨ι',Θ,h⟩
 ·cases hr
end
end
section
open Go Go.RowKit
section
variable {P:Program} {O:rH} {nt B:Nat} {F0:qP} {da:Av} {w0:World} {D:Nat->Prop} {s:pA} {a:Act} {w w':World} {ι:Ix} {Θ:aL} {o:Oper}
def aM (ι:Ix) (av avl:Av) (w:World):List AV->List Value->Prop
 | [],us=>us=[]
 | x :: r,us=>∃ u sa,us=u :: sa/\MA ι av avl w x u/\aM ι av avl w r sa
def Ix.one (p:Nat):Ix:=⟨fun t n=>if t=0/\n=0 then some p else .none,fun _ _=>.none,fun _=>0⟩
def HT (p:Nat) (av:Av) (w:World) (x:AV) (v:Value):Prop:=if x.isObj then v=.pointer (some ⟨p,0,none⟩) else xE av w x v
def sM (p:Nat) (av:Av) (w:World):List AV->List Value->Prop
 | [],us=>us=[]
 | x :: r,us=>∃ u sa,us=u :: sa/\HT p av w x u/\sM p av w r sa
def RepN (p:Nat) (av:Av) (w:World):AV->Value->Prop
 | .tup vs,v=>∃ us,v=.tuple us/\sM p av w vs us.toList
 | x,v=>HT p av w x v
def OwnV (base:Nat) (H:Nat->Prop) (w:World) (l:List (List AV)) (v:Value):Prop :=
 (l=[]/\∃ A c,v=.slice A 0 c/\(A=none->c=0))\/∃ g c cur ty,v=.slice (some ⟨g,0,none⟩) l.length c/\base<=g/\¬ H g/\w.heap[g]?=some (.cells cur ty (0,0))/\l.length<=c/\(∀ sz,lB sz l=true->0<l.length->c * sz<=cur.size)/\∀ (j:Nat) (x:AV),l.flatten[j]?=some x->cur[j]?=some x.scalV
def t3 (P:Program) (O:rH) (f:FuncId) (args:List AV) (S0:Option AV) (r:RV):Prop :=
 (∀ xs w,(callFunc f xs).run P w=.ok (.enter f xs) w) ∧
 match S0,r with
 | some S,(.sl false l,some S')=>∀ (av:Av) (w:World) (vs:List Value) (p:Nat) (H:Nat->Prop),(∀ b o,av b o->b<w.heap.size)->(∀ b o,H b->av b o)->O.at_ S H p w->aM (Ix.one p) av (fun b _=>H b) w args vs →
  Calls P f vs.toArray w fun e w'=>∃ v H',e=.returned v/\OwnV w.heap.size H' w' l v/\O.at_ S' H' p w'/\(∀ b,H' b->H b\/w.heap.size<=b)/\WD H w w'
 | _,_=>True
def r3 (P:Program) (O:rH) (f:FuncId) (args:List AV) (S0:Option AV) (r:RV):Prop :=
 (∀ xs w,(callFunc f xs).run P w=.ok (.enter f xs) w) ∧
 match S0,r.2 with
 | none,none=>∀ (av:Av) (w:World) (vs:List Value),(∀ b o,av b o->b<w.heap.size)->aM Ix.none av (fun _ _=>False) w args vs →
  Calls P f vs.toArray w fun e w'=>∃ v,e=.returned v/\xE av w' r.1 v/\Below w.heap.size w w'
 | some S,some S'=>∀ (av:Av) (w:World) (vs:List Value) (p:Nat) (H:Nat->Prop),(∀ b o,av b o->b<w.heap.size)->(∀ b o,H b->av b o)->O.at_ S H p w->aM (Ix.one p) av (fun b _=>H b) w args vs →
  Calls P f vs.toArray w fun e w'=>∃ v H',e=.returned v/\xE (fun b o=>av b o\/H' b) w' r.1 v/\O.at_ S' H' p w'/\(∀ b,H' b->H b\/w.heap.size<=b)/\WD H w w'
 | none,some S'=>∀ (av:Av) (w:World) (vs:List Value),(∀ b o,av b o->b<w.heap.size)->aM Ix.none av (fun _ _=>False) w args vs →
  Calls P f vs.toArray w fun e w'=>∃ v p H',e=.returned v/\RepN p (fun b o=>av b o\/H' b) w' r.1 v/\O.at_ S' H' p w'/\(∀ b,H' b->w.heap.size<=b)/\Below w.heap.size w w'
 | some _,none=>True
def Ix.row (p z:Nat):Ix:=⟨fun t n=>if t=0/\n=0 then some p else .none,fun _ _=>.none,fun _=>z⟩
def i3 (P:Program) (f:FuncId) (args:List AV) (S0:Option AV) (r:RV):Prop :=
 (∀ xs w,(callFunc f xs).run P w=.ok (.enter f xs) w) ∧
 match S0,r with
 | some (.agg cs),(r1,some (.agg gv))=>∀ (av:Av) (w:World) (vs:List Value) (p:Nat) (cur:Array Value) (ty:TypeId),(∀ b o,av b o->b<w.heap.size)->(∀ o,av p o)->w.heap[p]?=some (.cells cur ty (0,0))->cs.length<=cur.size->lD av w cs (cur.toList.take cs.length)->aM (Ix.row p cur.size) av (fun b _=>b=p) w args vs →
  Calls P f vs.toArray w fun e w'=>∃ v jb zo,e=.returned v/\xE av w' r1 v/\w'.heap[p]?=some (.cells jb zo (0,0))/\jb.size=cur.size/\lD av w' gv (jb.toList.take gv.length)/\WD (fun b=>b=p) w w'
 | _,_=>True
def aD (P:Program) (O:rH) (f:FuncId) (args:List AV) (S0:Option AV) (r:RV):Prop:=match args with
 | .undef :: .undef :: rest=>i3 P f rest S0 r
 | .undef :: rest=>t3 P O f rest S0 r
 | _=>r3 P O f args S0 r
theorem aD.of {P:Program} {O:rH} {f:FuncId} {args:List AV} {S0:Option AV} {r:RV} (hm:OI args=false):aD P O f args S0 r ↔ r3 P O f args S0 r:=by
 unfold aD;split
 ·cases hm
 ·cases hm
 ·simp_all
theorem aD.own {P:Program} {O:rH} {f:FuncId} {args:List AV} {S0:Option AV} {r:RV} (hm:OI args=false) (h:aD P O f (.undef :: args) S0 r):t3 P O f args S0 r:=by
 cases args with
 | nil=>exact h
 | cons x r=>cases x <;> first | exact h | (simp [OI] at hm; done)
theorem f8 {ι':Ix} {av avb avl:Av} {x:AV} {v:Value} (h:MA ι av avb w x v) (hx:x.free=true):MA ι' av avl w x v:=by
  cases x <;> first
    | exact h
    | (simp [AV.free,AV.free0] at hx; done)
    | (obtain ⟨us,hv,hc⟩:=h
       exact ⟨us,hv,OD (uH hc fun y hy=>y6.1 hx y hy)⟩)
theorem GT {av avb:Av}:∀ {cs:List AV} {us:List Value} {b off:Nat},lD av w cs us->(∀ (j:Nat) (u:Value),us[j]?=some u->w.cell? ⟨b,off + j,none⟩=some u/\¬ avb b (off + j))->gC av avb w cs b off
 | [],_,_,_,_,_=>by simp [gC]
 | x :: r,_,b,off,h,hj=>by
  simp only [lD] at h;obtain ⟨u,sa,rfl,h0,h1,h⟩:=h;simp only [gC];have h2:=hj 0 u rfl;refine ⟨⟨u,h2.1,h0,h1⟩,h2.2,GT h fun j v hv=>?_⟩;have:=hj (j + 1) v (by simpa using hv);rw [show off + 1 + j=off + (j + 1) from by omega];exact this
section
variable (R:uC P O nt B F0 da w0 D s a w ι Θ) {avl:Av}
include R avl
theorem kU {cl:Cl} {y x:AV} (hB:∀ b o,avl b o->IC ι Θ b o) (hsep:∀ t n b o,ι t n=some b->ι.ob t n=none->(∃ sz off len cap,y=.ref t n sz off len cap)->¬ avl b o) {v:Value} {ι':Ix} (hY:MA ι (PC da ι Θ) (IC ι Θ) w y v) (h:MS s cl y=some x) (kb:∀ t n,y=.ptr t n 0->ι' 0 0=ι t n):MA ι' (PC da ι Θ) avl w x v:=by
 unfold MS at h;split at h
 ·rename_i t n sz off len cap;split at h
  ·cases hm:s.mem t n with
   | none=>rw [hm] at h; cases h
   | some r =>
    rw [hm,V] at h;cases hr:DE r sz off len with
    | none=>rw [hr] at h; cases h
    | some m =>
     rw [hr] at h;cases h;obtain ⟨b,hb,ub,cc,sf,_,hv⟩:=NG.1 hY;obtain ⟨kc,b',cur,ty,ta,oa,ka,_⟩:=R.rows t n r hm;rw [hb] at ta;injection ta with ta
     subst ta;obtain ⟨h1,h2,us,hl,nd⟩:=uL ka oa hr;subst h1;exact ⟨_,cc,hv,Nat.le_trans ub sf,fun c hc c' af=>(h2 c hc).trans (h2 c' af).symm,fun _=>⟨b,off,rfl,eK.2 (GT hl fun j u hj=>⟨nd j u hj,hsep t n b _ hb kc ⟨_,_,_,_,rfl⟩⟩)⟩⟩
  ·cases h
 ·cases h;obtain ⟨a',c,hv,hc,hu,hs⟩:=hY;refine ⟨a',c,hv,hc,hu,fun h0=>?_⟩;obtain ⟨b,off,ha,hr⟩:=hs h0;exact ⟨b,off,ha,dM.held (BA.refl _ _) (BA.less hB) _ _ _ hr⟩
 ·cases h;obtain ⟨b,off,hv,hc⟩:=hY;exact ⟨b,off,hv,gC.held (BA.refl _ _) (BA.less hB) _ _ _ hc⟩
 ·rename_i t n off;split at h
  ·rename_i hc;cases h;obtain ⟨h0,_,_⟩:=hc;subst h0;obtain ⟨b,hb,hv⟩:=cG.1 hY;exact ⟨b,(kb t n rfl).trans hb,hv⟩
  ·cases h
 ·split at h
  ·rename_i hf;cases h;exact f8 hY hf
  ·cases h
theorem lend_rep (kf:∀ b o,avl b o->∃ t n H,ι.ob t n=some H/\H b) {cl:Cl} {y x:AV} {v:Value} {ι':Ix} (hY:MA ι (PC da ι Θ) (IC ι Θ) w y v) (h:MS s cl y=some x) (kb:∀ t n,y=.ptr t n 0->ι' 0 0=ι t n):MA ι' (PC da ι Θ) avl w x v :=
 kU R (fun b o h=>.inl (.inr (kf b o h))) (fun t n b o hb kc _ h=>by
  obtain ⟨t',n',H,ho,hH⟩:=kf _ _ h;obtain ⟨e1,e2⟩:=((R.obs _ _ _ ho).1 _ hH).2.2.1 _ _ hb;rw [e1,e2,ho] at kc;cases kc) hY h kb
theorem lendP_rep (kf:∀ b o,avl b o->∃ t n H,ι.ob t n=some H/\H b) {cl:Cl} {y x:AV} {v:Value} {ι':Ix} (hY:JV ι (PC da ι Θ) (IC ι Θ) w y v) (h:PP s cl y=some x):JV ι' (PC da ι Θ) avl w x v:=by
 have hB:∀ b o,avl b o->IC ι Θ b o:=fun b o h=>.inl (.inr (kf b o h))
 unfold PP at h;split at h
 ·rename_i t n off;split at h
  ·split at h
   ·rename_i r hm;split at h
    ·rename_i ra;cases h;obtain ⟨b,hb,hv⟩:=hY;obtain ⟨kc,b',cur,ty,ta,oa,ka,_⟩:=R.rows t n r hm;rw [hb] at ta;injection ta with ta
     subst ta;have zb:=fF off ka.rep;rw [<- List.map_drop] at zb;have de:∀ x∈(r.drop off).map (·.v),x.free0=true:=fun x hx=>by
      grind
     refine ⟨b,off,hv,GT (uH zb de) fun j u hu=>⟨?_,fun h=>?_⟩⟩
     ·rw [yT] at hu;have hj:off + j<r.length:=by
       grind
      rw [List.getElem?_take_of_lt hj] at hu;simp only [World.cell?,oa];simp_all
     ·obtain ⟨t',n',H,ho,hH⟩:=kf _ _ h;obtain ⟨e1,e2⟩:=((R.obs _ _ _ ho).1 _ hH).2.2.1 _ _ hb;simp_all
    ·cases h
   ·cases h
  ·cases h
 ·cases h;obtain ⟨b,off,hv,hc⟩:=hY;exact ⟨b,off,hv,gC.held (BA.refl _ _) (BA.less hB) _ _ _ hc⟩
 ·cases h;exact hY
 ·cases h
end
theorem KR (R:uC P O nt B F0 da w0 D s a w ι Θ) {avl:Av} (kf:∀ b o,avl b o->∃ t n H,ι.ob t n=some H/\H b) {cl:Cl} {ι':Ix}:∀ {ys xs:List AV} {us:List Value},HG ι (PC da ι Θ) (IC ι Θ) w ys us->nD s cl ys=some xs->HG ι' (PC da ι Θ) avl w xs us
 | [],xs,us,hY,h=>by
  injection h with h;subst h;exact hY
 | y :: r,xs,us,hY,h=>by
  obtain ⟨u,sa,rfl,h0,hY⟩:=hY;unfold nD at h;split at h
  ·rename_i v vs hv hr;injection h with h;subst h;exact ⟨u,sa,rfl,lendP_rep R kf h0 hv,KR R kf hY hr⟩
  ·cases h
theorem lendF_rep (R:uC P O nt B F0 da w0 D s a w ι Θ) {avl:Av} (kf:∀ b o,avl b o->∃ t n H,ι.ob t n=some H/\H b) {cl:Cl} {y x:AV} {v:Value} {ι':Ix} (hY:MA ι (PC da ι Θ) (IC ι Θ) w y v) (h:GF s cl y=some x) (kb:∀ t n,y=.ptr t n 0->ι' 0 0=ι t n):MA ι' (PC da ι Θ) avl w x v:=by
 unfold GF at h;split at h
 ·rename_i f cs;obtain ⟨ws,hw,h⟩:=yj.1 h;subst h;obtain ⟨us,hv,hc⟩:=hY;exact ⟨us,hv,KR R kf hc hw⟩
 ·exact lend_rep R kf hY h kb
theorem ZZ {ι':Ix} {av avl:Av}:∀ {xs:List AV} {us:List Value},(∀ x∈xs,x.capOk=true)->HG ι' av avl w xs us->aM ι' av avl w xs us
 | [],_,_,h=>h
 | x :: r,_,hc,h=>by
  obtain ⟨u,sa,rfl,h0,h⟩:=h;refine ⟨u,sa,rfl,?_,ZZ (fun y hy=>hc y (yo _ hy)) h⟩;have:=hc x (ym);cases x <;> first | (simp [AV.capOk] at this; done) | exact h0
theorem pV {ι':Ix} {av avl:Av}:∀ {xs ys:List AV} {us vs:List Value},aM ι' av avl w xs us->aM ι' av avl w ys vs->aM ι' av avl w (xs++ys) (us++vs)
 | [],_,_,_,h,h'=>by cases h; exact h'
 | x :: r,_,_,_,h,h'=>by
  obtain ⟨u,sa,rfl,h0,h⟩:=h;exact ⟨u,sa++_,rfl,h0,pV h h'⟩
theorem jU {cl:Cl}:∀ {ys xs:List AV},nD s cl ys=some xs->∀ x∈xs,x.capOk=true
 | [],xs,h=>by injection h with h; subst h; intro x hx; cases hx
 | y :: r,xs,h=>by
  unfold nD at h;split at h
  ·rename_i v vs hv hr;injection h with h;subst h;intro x hx;rcases yh.1 hx with rfl | hx
   ·unfold PP at hv;split at hv
    ·split at hv
     ·split at hv
      ·split at hv
       ·injection hv with hv; subst hv; rfl
       ·cases hv
      ·cases hv
     ·cases hv
    ·injection hv with hv; subst hv; rfl
    ·injection hv with hv; subst hv; rfl
    ·cases hv
   ·exact jU hr x hx
  ·cases h
theorem eL (R:uC P O nt B F0 da w0 D s a w ι Θ) {avl:Av} (kf:∀ b o,avl b o->∃ t n H,ι.ob t n=some H/\H b) {cl:Cl} {ι':Ix}:∀ {Xs:List Operand} {xs:List JB} {vs:List AV},AH Xs=some xs->bE s cl xs=some vs->(∀ x∈xs,∀ t n,x.get s=.ptr t n 0->ι' 0 0=ι t n)->aM ι' (PC da ι Θ) avl w vs (Xs.map a.eval)
 | [],xs,vs,h,hl,_=>by
  injection h with h;subst h;injection hl with hl;subst hl;rfl
 | X :: Xs,xs,vs,h,hl,kb=>by
  unfold AH at h;split at h
  ·rename_i x l hx hr;injection h with h;subst h;unfold bE at hl;split at hl
   ·rename_i v zu hv ze;injection hl with hl;subst hl;exact ⟨_,_,rfl,lendF_rep R kf (R.opd hx).1 hv (kb x (ym)),eL R kf hr ze fun y hy=>kb y (yo _ hy)⟩
   ·cases hl
  ·cases h
theorem named_rep {p d n:Nat} {ι':Ix} {av avb:Av} {x:AV} {v:Value} (h:RepN p av w x v) (hp:ι' d n=some p) (hx:x.backN=true):MA ι' av avb w (x.named d n) v:=by
 have one:∀ {x:AV} {u:Value},HT p av w x u->NA ι' av w (if x.isObj then .ptr d n 0 else x) u:=fun {x u} h=>by
  unfold HT at h;split at h
  ·rename_i ho; rw [if_pos ho]; exact ⟨p,hp,h⟩
  ·rename_i ho; rw [if_neg ho]; exact XK h
 have oneU:∀ {x:AV} {u:Value},HT p av w x u->jP ι' av w (if x.isObj then .ptr d n 0 else x) u:=fun {x u} h=>by
  unfold HT at h;split at h
  ·rename_i ho; rw [if_pos ho]; exact ⟨p,hp,h⟩
  ·rename_i ho; rw [if_neg ho]; exact JG h
 have all:∀ {xs:List AV} {us:List Value},sM p av w xs us->RG ι' av w (xs.map fun v=>if v.isObj then .ptr d n 0 else v) us:=by
  intro xs
  induction xs with
  | nil=>intro us h; simpa [sM,RG] using h
  | cons x r ih =>
   intro us h;simp only [sM] at h;obtain ⟨u,sa,rfl,h0,h⟩:=h;exact ⟨u,sa,rfl,oneU h0,ih h⟩
 cases x with
 | tup vs =>
  obtain ⟨us,hv,hc⟩:=h;exact ⟨us,hv,all hc⟩
 | ptr t' n' off =>
  have h1:=one (x:=.ptr t' n' off) h;have h2:(AV.ptr t' n' off).isObj=true:=hx;simp only [h2,if_true] at h1;show MA ι' av avb w (if (AV.ptr t' n' off).isObj then .ptr d n 0 else .ptr t' n' off) v;rw [if_pos h2];exact h1
 | _=>simp [AV.backN,AV.isObj] at hx
theorem HT.held {p:Nat} {av za:Av} {w w':World} (h:BA av za w w') {x:AV} {v:Value} (hr:HT p av w x v):HT p za w' x v:=by
 unfold HT at hr ⊢;split at hr
 ·rename_i ho; rw [if_pos ho]; exact hr
 ·rename_i ho; rw [if_neg ho]; exact xE.held h _ _ hr
theorem RepN.held {p:Nat} {av za:Av} {w w':World} (h:BA av za w w') {x:AV} {v:Value} (hr:RepN p av w x v):RepN p za w' x v:=by
 have all:∀ {xs:List AV} {us:List Value},sM p av w xs us->sM p za w' xs us:=by
  intro xs
  induction xs with
  | nil=>intro us h; exact h
  | cons x r ih =>
   intro us h';simp only [sM] at h' ⊢;obtain ⟨u,sa,rfl,h0,h'⟩:=h';exact ⟨u,sa,rfl,HT.held h h0,ih h'⟩
 cases x <;> first | exact HT.held h hr | (obtain ⟨us,hv,hc⟩:=hr; exact ⟨us,hv,all hc⟩)
theorem uC.turnObj (R:uC P O nt B F0 da w0 D s a w ι Θ) {t n p:Nat} {H H':Nat->Prop} {S':AV} (hp:ι t n=some p) (kb:ι.ob t n=some H) (tc:O.at_ S' H' p w') (mj:r5 ι S' p w') (hH:∀ b,H' b->H b\/w.heap.size<=b) (hk:WD H w w') :
  ∃ ι':Ix,uC P O nt B F0 da w0 D (s.setObj t n S') a w' ι' Θ/\BA (fun b o=>PC da ι Θ b o\/H' b) (PC da ι' Θ) w' w':=by
 obtain ⟨xm,bt⟩:=R.obs t n H kb;have nh:∀ t' n' H1,(if t'=t/\n'=n then some H' else ι.ob t' n')=some H1->(t'=t/\n'=n/\H1=H')\/(¬ (t'=t/\n'=n)/\ι.ob t' n'=some H1):=fun t' n' H1 h=>by
  grind
 have ii:∀ b o,b<w.heap.size->IC ⟨ι.f,fun t' n'=>if t'=t/\n'=n then some H' else ι.ob t' n',ι.z⟩ Θ b o->IC ι Θ b o:=fun b o hb h=>h.imp (fun h=>h.imp id fun ⟨t',n',H1,h1,h2⟩=>by
  rcases nh _ _ _ h1 with ⟨e1,e2,e3⟩ | ⟨_,h1⟩
  ·subst e3;rcases hH b h2 with h3 | h3
   ·exact ⟨t,n,H,kb,h3⟩
   ·omega
  ·exact ⟨t',n',H1,h1,h2⟩) id
 have pg:∀ t1 n1 b1 H1,ι t1 n1=some b1->ι.ob t1 n1=some H1->(⟨ι.f,fun t' n'=>if t'=t/\n'=n then some H' else ι.ob t' n',ι.z⟩:Ix) t1 n1=some b1/\∃ H2,(⟨ι.f,fun t' n'=>if t'=t/\n'=n then some H' else ι.ob t' n',ι.z⟩:Ix).ob t1 n1=some H2:=fun t1 n1 b1 H1 g1 g2=>⟨g1,by
  by_cases e:t1=t/\n1=n
  ·exact ⟨H',by simp only [if_pos e]⟩
  ·exact ⟨H1,by simp only [if_neg e]; exact g2⟩⟩
 have mb:∀ b o u,w.cell? ⟨b,o,none⟩=some u->¬ H b->w'.cell? ⟨b,o,none⟩=some u:=fun b o u hc hn=>(World.cell?_of_block (w:=w) (a:=⟨b,o,none⟩) (hk.block b (QI hc) hn)).trans hc
 have hB:BA (IC ι Θ) (IC ⟨ι.f,fun t' n'=>if t'=t/\n'=n then some H' else ι.ob t' n',ι.z⟩ Θ) w w':=⟨fun b o u hc hn=>⟨mb b o u hc fun h=>hn (.inl (.inr ⟨t,n,H,kb,h⟩)),fun h=>hn (ii b o (QI hc) h)⟩⟩;have hA:BA (PC da ι Θ) (PC da ⟨ι.f,fun t' n'=>if t'=t/\n'=n then some H' else ι.ob t' n',ι.z⟩ Θ) w w':=⟨fun b o u hc hn=>⟨mb b o u hc fun h=>hn (.inr (.inl (.inr ⟨t,n,H,kb,h⟩))),fun h=>hn (h.imp id (ii b o (QI hc)))⟩⟩;have uq:=R.lowB;have ac:=hk.size;have henv:∀ t1,MA ⟨ι.f,fun t' n'=>if t'=t/\n'=n then some H' else ι.ob t' n',ι.z⟩ (PC da ⟨ι.f,fun t' n'=>if t'=t/\n'=n then some H' else ι.ob t' n',ι.z⟩ Θ) (IC ⟨ι.f,fun t' n'=>if t'=t/\n'=n then some H' else ι.ob t' n',ι.z⟩ Θ) w' (s.env t1).v (a.tmps.getD t1 undef):=fun t1=>MA.held (ι:=ι) (ι':=⟨ι.f,fun t' n'=>if t'=t/\n'=n then some H' else ι.ob t' n',ι.z⟩) ⟨fun _ _ _ h=>h,fun _ _ _ _=>rfl⟩ hA hB _ _ (R.env t1)
 have hgen:∀ t1,MA ⟨ι.f,fun t' n'=>if t'=t/\n'=n then some H' else ι.ob t' n',ι.z⟩ (PC da ⟨ι.f,fun t' n'=>if t'=t/\n'=n then some H' else ι.ob t' n',ι.z⟩ Θ) (IC ⟨ι.f,fun t' n'=>if t'=t/\n'=n then some H' else ι.ob t' n',ι.z⟩ Θ) w' (s.gh t1).v (F0.g t1):=fun t1=>MA.held (ι:=ι) (ι':=⟨ι.f,fun t' n'=>if t'=t/\n'=n then some H' else ι.ob t' n',ι.z⟩) ⟨fun _ _ _ h=>h,fun _ _ _ _=>rfl⟩ hA hB _ _ (R.gen t1)
 refine ⟨⟨ι.f,fun t' n'=>if t'=t/\n'=n then some H' else ι.ob t' n',ι.z⟩,⟨R.defers,R.size,henv,R.ann,fun t' n' r hr=>?_,fun t' n' b h=>?_,R.inj,fun k o h=>?_,R.tinj,R.apart,R.out,(fun p' h=>⟨(R.pin p' h).1,by
  rcases (R.pin p' h).2 with hr0 | ⟨H1,h1⟩
  ·exact .inl hr0
  refine .inr ?_;show ∃ H2,(if 0=t/\0=n then some H' else ι.ob 0 0)=some H2;split
  ·exact ⟨_,rfl⟩
  ·exact ⟨H1,h1⟩⟩),?_,R.base,fun t' n' S1 h=>?_,fun t' n' H1 h=>?_,hgen,R.gann⟩,?_⟩
 ·obtain ⟨h0,b,cur,ty,h1,h2,h3,h8⟩:=R.rows t' n' r hr;have la:¬ (t'=t/\n'=n):=fun e=>by rw [e.1,e.2,kb] at h0; cases h0
  have hbn:¬ H b:=fun hb=>la ((xm b hb).2.2.1 t' n' h1)
  exact ⟨by simp only [if_neg la]; exact h0,b,cur,ty,h1,(hk.block b (IA h2) hbn).trans h2,h3.held ⟨fun _ _ _ h=>h,fun _ _ _ _=>rfl⟩ hA (fun _ _ h=>h),h8⟩
 ·obtain ⟨h1,h2,h3⟩:=R.mine t' n' b h;exact ⟨h1,by omega,h3⟩
 ·obtain ⟨h1,h2,h3,h4,jb,h5,h6⟩:=R.tok k o h;exact ⟨h1,h2,h3,h4,jb,(hk.block _ (IA h5) (R.apob h kb)).trans h5,h6⟩
 ·refine R.kept.trans hk fun i hi h=>?_
  have:=R.base
  grind
 ·simp only [pA.setObj] at h;split at h
  ·rename_i e;injection h with h;subst h;exact ⟨p,H',by rw [e.1,e.2]; exact hp,by simp only [if_pos e],tc,mj.keep pg fun x hx=>hx⟩
  ·rename_i e;obtain ⟨p1,H1,h1,h2,h3,h4⟩:=R.objs t' n' S1 h;have ko:∀ b,H1 b->¬ H b:=fun b hb ta=>e ((xm b ta).2.2.2.2 t' n' H1 h2 hb)
   exact ⟨p1,H1,h1,by simp only [if_neg e]; exact h2,O.keep h3 (fun b hb=>hk.block b (O.lt h3 hb) (ko b hb)) ac,h4.keep pg fun x hx=>(hk.block _ (IA hx) (ko _ (O.main h3))).trans hx⟩
 ·rcases nh _ _ _ h with ⟨e1,e2,e3⟩ | ⟨e,h⟩
  ·subst e1; subst e2; subst e3;refine ⟨fun b hb=>?_,bt⟩;rcases hH b hb with h1 | h1
   ·grind
   ·refine ⟨.inl (by omega),O.lt tc hb,fun t1 n1 h2=>?_,fun k o h2 e=>?_,fun t1 n1 H2 h2 h3=>?_⟩
    ·have:=(R.mine _ _ _ h2).2.1; omega
    ·obtain ⟨_,_,_,_,jb,h5,_⟩:=R.tok k o h2; have:=IA h5; omega
    ·rcases nh _ _ _ h2 with ⟨e1,e2,_⟩ | ⟨_,h2⟩
     ·omega
     ·have:=((R.obs _ _ _ h2).1 b h3).2.1; omega
  ·obtain ⟨h1,h2⟩:=R.obs t' n' H1 h;refine ⟨fun b hb=>?_,h2⟩;obtain ⟨g1,g2,g3,g4,g5⟩:=h1 b hb;refine ⟨g1,by omega,g3,g4,fun t1 n1 H2 h2 h3=>?_⟩;rcases nh _ _ _ h2 with ⟨e1,e2,e3⟩ | ⟨_,h2⟩
   ·subst e3;rcases hH b h3 with h4 | h4
    ·have:=g5 t n H kb h4;omega
    ·omega
   ·exact g5 t1 n1 H2 h2 h3
 ·refine BA.less fun b o h=>?_
  rcases h with h | h | h
  ·exact .inl (.inl h)
  ·rcases h with h | ⟨t1,n1,H2,h2,h3⟩
   ·exact .inl (.inr (.inl (.inl h)))
   ·rcases nh _ _ _ h2 with ⟨_,_,e3⟩ | ⟨_,h2⟩
    ·grind
    ·exact .inl (.inr (.inl (.inr ⟨t1,n1,H2,h2,h3⟩)))
  ·exact .inl (.inr (.inr h))
theorem uC.newObj (R:uC P O nt B F0 da w0 D s a w ι Θ) {d p:Nat} {H:Nat->Prop} {S:AV} (hb:Below w.heap.size w w') (hD:¬ D d) (tc:O.at_ S H p w') (mj:r5 ι S p w') (hH:∀ b,H b->w.heap.size<=b) :
  ∃ ι':Ix,uC P O nt B F0 da w0 (fun t=>D t\/t=d) (s.setObj d s.next S) a w' ι' Θ/\ι' d s.next=some p/\BA (fun b o=>PC da ι Θ b o\/H b) (PC da ι' Θ) w' w':=by
 have uq:=R.lowB;have ac:=hb.size;have hpH:=hH p (O.main tc);have ud:ι d s.next=none:=by
  cases h:ι d s.next with
  | none=>rfl
  | some b =>
   rcases (R.mine _ _ _ h).2.2 with h1 | h1
   ·omega
   ·simp_all
 have wd:ι.ob d s.next=none:=by
  cases h:ι.ob d s.next with
  | none=>rfl
  | some b =>
   rcases (R.obs _ _ _ h).2 with h1 | h1
   ·omega
   ·simp_all
 have hmemn:s.mem d s.next=none:=by
  cases h:s.mem d s.next with
  | none=>rfl
  | some r=>obtain ⟨_,b,cur,ty,h1,_⟩:=R.rows _ _ _ h; rw [ud] at h1; cases h1
 obtain ⟨ι',hι'⟩:∃ ι':Ix,ι'=⟨fun t' n'=>if t'=d/\n'=s.next then some p else ι t' n',fun t' n'=>if t'=d/\n'=s.next then some H else ι.ob t' n',ι.z⟩:=⟨_,rfl⟩;have hf:∀ t' n' b,ι' t' n'=some b->(t'=d/\n'=s.next/\b=p)\/(¬ (t'=d/\n'=s.next)/\ι t' n'=some b):=fun t' n' b h=>by
  subst hι'
  grind
 have ho:∀ t' n' H1,ι'.ob t' n'=some H1->(t'=d/\n'=s.next/\H1=H)\/(¬ (t'=d/\n'=s.next)/\ι.ob t' n'=some H1):=fun t' n' H1 h=>by
  subst hι'
  grind
 have oc:∀ t n b,ι t n=some b->ι' t n=some b:=fun t n b h=>by
  subst hι'
  grind
 have po:∀ t n H1,¬ (t=d/\n=s.next)->ι.ob t n=H1->ι'.ob t n=H1:=fun t n H1 e h=>by
  simp_all
 have sb:ι' d s.next=some p:=by
  simp_all
 have ss:ι'.ob d s.next=some H:=by subst hι'; simp
 have pg:∀ t1 n1 b1 H1,ι t1 n1=some b1->ι.ob t1 n1=some H1->ι' t1 n1=some b1/\∃ H2,ι'.ob t1 n1=some H2:=fun t1 n1 b1 H1 g1 g2=>⟨oc _ _ _ g1,H1,po _ _ _ (fun e=>by rw [e.1,e.2,wd] at g2; cases g2) g2⟩
 have xu:∀ b,ι'.z b=ι.z b:=fun b=>by subst hι'; rfl
 have ub:Ix.Le ι ι':=⟨oc,fun _ _ _ _=>xu _⟩;clear hι';have ii:∀ b o,b<w.heap.size->IC ι' Θ b o->IC ι Θ b o:=fun b o tj h=>h.imp (fun h=>by
  rcases h with ⟨t',n',h⟩ | ⟨t',n',H1,h,h2⟩
  ·rcases hf _ _ _ h with ⟨_,_,e⟩ | ⟨_,h⟩
   ·omega
   ·exact .inl ⟨t',n',h⟩
  ·rcases ho _ _ _ h with ⟨_,_,e⟩ | ⟨_,h⟩
   ·subst e; have:=hH b h2; omega
   ·exact .inr ⟨t',n',H1,h,h2⟩) id
 have hB:BA (IC ι Θ) (IC ι' Θ) w w':=BA.grown (fun b ta=>hb.block b ta) ii;have hA:BA (PC da ι Θ) (PC da ι' Θ) w w':=BA.grown (fun b ta=>hb.block b ta) fun b o tj h=>h.imp id (ii b o tj)
 refine ⟨ι',⟨R.defers,R.size,fun t=>MA.held ub hA hB _ _ (R.env t),R.ann,fun t' n' r hr=>?_,fun t' n' b h=>?_,fun t n t' n' b h h'=>?_,fun k o h=>?_,R.tinj,fun k o t n h h'=>?_,R.out,fun p h=>⟨oc _ _ _ (R.pin p h).1,by
  rcases (R.pin p h).2 with hr0 | ⟨H1,h1⟩
  ·exact .inl ⟨hr0.1,(ub.z _ _ _ (R.pin p h).1).trans hr0.2⟩
  refine .inr ?_;by_cases e:0=d/\0=s.next
  ·exact ⟨H,by rw [<- e.1,<- e.2] at ss; exact ss⟩
  ·exact ⟨H1,po _ _ _ e h1⟩⟩,R.kept.trans_below hb,R.base,fun t' n' S1 h=>?_,fun t' n' H1 h=>?_,fun t=>MA.held ub hA hB _ _ (R.gen t),R.gann⟩,sb,?_⟩
 ·obtain ⟨h0,b,cur,ty,h1,h2,h3,h8,h9⟩:=R.rows t' n' r hr;have la:¬ (t'=d/\n'=s.next):=fun e=>by
   simp_all
  exact ⟨po _ _ _ la h0,b,cur,ty,oc _ _ _ h1,(hb.block b (IA h2)).trans h2,h3.held ub hA (fun _ _ h=>h),h8,h9.trans (xu _).symm⟩
 ·rcases hf _ _ _ h with ⟨e1,e2,e⟩ | ⟨_,h⟩
  ·subst e;exact ⟨.inl (by omega),O.lt tc (O.main tc),.inr ⟨e2,.inr e1⟩⟩
  ·obtain ⟨h1,h2,h3⟩:=R.mine t' n' b h;exact ⟨h1,by omega,h3.imp id fun ⟨e,d⟩=>⟨e,.inl d⟩⟩
 ·rcases hf _ _ _ h with ⟨e1,e2,e⟩ | ⟨_,h⟩ <;> rcases hf _ _ _ h' with ⟨g1,g2,g⟩ | ⟨_,h'⟩
  ·omega
  ·have:=(R.mine _ _ _ h').2.1; omega
  ·have:=(R.mine _ _ _ h).2.1; omega
  ·exact R.inj t n t' n' b h h'
 ·obtain ⟨h1,h2,h3,h4,jb,h5,h6⟩:=R.tok k o h;exact ⟨h1,h2,h3,h4,jb,(hb.block _ (IA h5)).trans h5,h6⟩
 ·obtain ⟨_,_,_,_,jb,h5,_⟩:=R.tok k o h;have fa:=IA h5;rcases hf _ _ _ h' with ⟨_,_,e⟩ | ⟨_,h'⟩
  ·omega
  ·exact R.apart k o t n h h'
 ·simp only [pA.setObj] at h;split at h
  ·rename_i e;injection h with h;subst h;exact ⟨p,H,by rw [e.1,e.2]; exact sb,by rw [e.1,e.2]; exact ss,tc,mj.keep pg fun x hx=>hx⟩
  ·rename_i e;obtain ⟨p1,H1,h1,h2,h3,h4⟩:=R.objs t' n' S1 h;exact ⟨p1,H1,oc _ _ _ h1,po _ _ _ e h2,O.keep h3 (fun b ta=>hb.block b (O.lt h3 ta)) ac,h4.keep pg fun x hx=>(hb.block _ (IA hx)).trans hx⟩
 ·rcases ho _ _ _ h with ⟨e1,e2,e⟩ | ⟨_,h⟩
  ·subst e;refine ⟨fun b ta=>⟨.inl (by have:=hH b ta; omega),O.lt tc ta,fun t1 n1 h2=>?_,fun k o h2 e=>?_,fun t1 n1 H2 h2 h3=>?_⟩,.inr ⟨e2,.inr e1⟩⟩
   ·have:=hH b ta;rcases hf _ _ _ h2 with ⟨g1,g2,_⟩ | ⟨_,h2⟩
    ·omega
    ·have:=(R.mine _ _ _ h2).2.1; omega
   ·have:=hH b ta;obtain ⟨_,_,_,_,jb,h5,_⟩:=R.tok k o h2; have:=IA h5; omega
   ·have:=hH b ta;rcases ho _ _ _ h2 with ⟨g1,g2,_⟩ | ⟨_,h2⟩
    ·omega
    ·have:=((R.obs _ _ _ h2).1 b h3).2.1; omega
  ·obtain ⟨h1,h2⟩:=R.obs t' n' H1 h;refine ⟨fun b ta=>?_,h2.imp id fun ⟨e,d⟩=>⟨e,.inl d⟩⟩;obtain ⟨g1,g2,g3,g4,g5⟩:=h1 b ta;refine ⟨g1,by omega,fun t1 n1 h2=>?_,g4,fun t1 n1 H2 h2 h3=>?_⟩
   ·grind
   ·grind
 ·refine BA.less fun b o h=>?_
  rcases h with h | h | h
  ·exact .inl (.inl h)
  ·rcases h with ⟨t',n',h⟩ | ⟨t',n',H1,h,h2⟩
   ·rcases hf _ _ _ h with ⟨_,_,e⟩ | ⟨_,h⟩
    ·subst e; exact .inr (O.main tc)
    ·exact .inl (.inr (.inl (.inl ⟨t',n',h⟩)))
   ·rcases ho _ _ _ h with ⟨_,_,e⟩ | ⟨_,h⟩
    ·simp_all
    ·exact .inl (.inr (.inl (.inr ⟨t',n',H1,h,h2⟩)))
  ·exact .inl (.inr (.inr h))
theorem xQ {s:pA} {cl:Cl}:∀ {xs:List JB} {vs:List AV},bE s cl xs=some vs->OI vs=false
 | [],vs,h=>by injection h with h; subst h; rfl
 | x :: r,vs,h=>by
  unfold bE at h;split at h
  ·rename_i v us hv hr;injection h with h;subst h;cases v with
   | undef =>
    exfalso;unfold GF at hv;split at hv
    ·obtain ⟨_,_,hv⟩:=yj.1 hv; cases hv
    unfold MS at hv;split at hv
    ·split at hv
     ·obtain ⟨_,_,hv⟩:=yj.1 hv; cases hv
     ·cases hv
    ·injection hv with hv; cases hv
    ·injection hv with hv; cases hv
    ·split at hv
     ·injection hv with hv; cases hv
     ·cases hv
    ·split at hv
     ·rename_i hf; injection hv with hv; rw [hv] at hf; cases hf
     ·cases hv
   | _=>rfl
  ·cases h
section
variable (R:uC P O nt B F0 da w0 D s a w ι Θ) {call:iB} (ua:∀ f args S r,call f args S=some r->aD P O f args S r)
include R call ua
theorem op_call {f:FuncId} {Xs:Array Operand} {ts:Array TypeId} {xs:List JB} (hx:AH Xs.toList=some xs) (ho:o.op=.call { callee:=.value (.func f),args:=Xs,argTypes:=ts }) (hd:∀ d,o.dst=some d->d<nt) (hD:∀ d,o.dst=some d->¬ D d) {cl:Cl} {xe:wA × zD} (hr:(K.call cl f xs).run call s=some xe) {g} {s':pA} (he:WA.eff ⟨o.dst,.call cl f xs,g⟩ s xe=some s')
  {Kn:Act->World->Prop} {Q:Exit->Act->World->Prop} (hK:∀ a' w',ID P O nt B F0 da w0 (fun t=>D t\/o.dst=some t) s' a' w'->Kn a' w'):o.wp P a w Kn Q:=by
 simp only [K.run] at hr;obtain ⟨vs,hl,hr⟩:=yb.1 hr;have uf:(Xs.toList.map a.eval).toArray=Xs.map a.eval:=by rw [<- Array.toList_map,yV]
 have run:∀ {S0:Option AV} {r:RV},r3 P O f vs S0 r->(execOp a.eval o).run P w=.ok (.enter f (Xs.map a.eval)) w:=fun h=>by
  simp only [execOp,ho,resolve,Act.eval,Deferred.ofValue,Sem.run_bind,Sem.run_pure,Result.andThen_ok,invoke];have:=h.1 (#[]++Xs.map a.eval++#[]) w;simp_all
 have pe:∀ b o,PC da ι Θ b o->b<w.heap.size:=fun b o h=>R.low h
 split at hr
 ·rename_i sk;have nob:∀ x∈xs,∀ t n,x.get s=.ptr t n 0->False:=fun x hx t n h=>by
   have:(t,n)∈RJ s xs:=List.mem_filterMap.2 ⟨x,hx,by rw [h]⟩;simp_all
  have lc:=eL (ι':=Ix.none) (avl:=fun _ _=>False) R (fun _ _ h=>h.elim) hx hl fun x hx t n h=>(nob x hx t n h).elim
  obtain ⟨r,hc,hr⟩:=yb.1 hr;have na:=(aD.of (xQ hl)).1 (ua f vs none r hc);obtain ⟨r1,r2⟩:=r;unfold Oper.wp;rw [run na,Oper.upon_enter];cases r2 with
  | none =>
   simp only at hr;split at hr
   ·cases hr;simp only [WA.eff] at he;cases he;have hC:=na.2 (PC da ι Θ) w _ pe lc;rw [uf] at hC;refine hC.mono ?_;rintro e w' ⟨v,rfl,hv,hb⟩;have R':uC P O nt B F0 da w0 D s a w' ι Θ:=R.grow (fun b ta=>hb.block b ta) hb.size (R.kept.trans_below hb);exact hK _ _ ⟨ι,Θ,(R'.putN (x:=⟨_,.no⟩) hd (zN hv) trivial).more fun _ h=>.inl h⟩
   ·cases hr
  | some S' =>
   simp only at hr;split at hr
   ·rename_i zn;cases hr;simp only [WA.eff] at he;split at he
    ·cases he
    ·rename_i d ba;cases he;have hC:=na.2 (PC da ι Θ) w _ pe lc;rw [uf] at hC;refine hC.mono ?_;rintro e w' ⟨v,p,H',rfl,hv,tc,hH,hb⟩;obtain ⟨ι',R2,hι,pd⟩:=R.newObj (d:=d) hb (hD d ba) tc (r5.no zn.2.2) hH;rw [ba];refine hK _ _ ⟨ι',Θ,(R2.put (x:=⟨_,.no⟩) (hd d ba) (named_rep (RepN.held pd hv) hι zn.1) trivial).more fun t h=>h.imp id fun e=>by rw [ba,e]⟩
   ·cases hr
 ·rename_i t n gn;obtain ⟨r,hc,hr⟩:=yb.1 hr;obtain ⟨r1,r2⟩:=r;cases r2 with
  | none=>cases hr
  | some S' =>
   simp only at hr;split at hr
   ·rename_i aa;cases hr;simp only [WA.eff] at he;cases he;obtain ⟨S,hS⟩:=Option.isSome_iff_exists.1 aa.2.1;rw [hS] at hc;have na:=(aD.of (xQ hl)).1 (ua f vs (some S) _ hc);obtain ⟨p,H,hp,kb,tc,_⟩:=R.objs t n S hS;have lc:=eL (ι':=Ix.one p) (avl:=fun b _=>H b) R (fun b _ h=>⟨t,n,H,kb,h⟩) hx hl fun x hx t' n' h=>by
     have:(t',n')∈RJ s xs:=List.mem_filterMap.2 ⟨x,hx,by rw [h]⟩;rw [gn] at this;have:=yS.1 this;injection this with e1 e2;rw [e1,e2,hp];rfl
    unfold Oper.wp;rw [run na,Oper.upon_enter];have hC:=na.2 (PC da ι Θ) w _ p H pe (fun b o h=>.inr (.inl (.inr ⟨t,n,H,kb,h⟩))) tc lc;rw [uf] at hC;refine hC.mono ?_;rintro e w' ⟨v,H',rfl,hv,sh,hH,hk⟩;obtain ⟨ι',R',pd⟩:=R.turnObj hp kb sh (r5.no aa.2.2) hH hk;refine hK _ _ ⟨ι',Θ,(R'.putN (x:=⟨_,.no⟩) hd (zN (xE.held pd _ _ hv)) trivial).more fun _ h=>.inl h⟩
   ·cases hr
 ·cases hr
theorem op_callv {tf:Nat} {Xs:Array Operand} {ts:Array TypeId} {xs:List JB} (hx:AH Xs.toList=some xs) (ho:o.op=.call { callee:=.value (.tmp tf),args:=Xs,argTypes:=ts }) (hd:∀ d,o.dst=some d->d<nt) {cl:Cl} {xe:wA × zD} (hr:(K.callv cl (.t tf) xs).run call s=some xe) {g} {s':pA} (he:WA.eff ⟨o.dst,.callv cl (.t tf) xs,g⟩ s xe=some s')
  {Kn:Act->World->Prop} {Q:Exit->Act->World->Prop} (hK:∀ a' w',ID P O nt B F0 da w0 (fun t=>D t\/o.dst=some t) s' a' w'->Kn a' w'):o.wp P a w Kn Q:=by
 simp only [K.run,JB.get] at hr;have hF:=R.env tf;split at hr
 ·rename_i f cs cq;rw [cq] at hF;obtain ⟨us,fd,aj⟩:=hF;split at hr
  ·rename_i vs ws hl hw sk;have pe:∀ b o,PC da ι Θ b o->b<w.heap.size:=fun b o h=>R.low h
   have nob:∀ x∈xs,∀ t n,x.get s=.ptr t n 0->False:=fun x hx t n h=>by
    have:(t,n)∈RJ s xs:=List.mem_filterMap.2 ⟨x,hx,by rw [h]⟩;simp_all
   have lc:=eL (ι':=Ix.none) (avl:=fun _ _=>False) R (fun _ _ h=>h.elim) hx hl fun x hx t n h=>(nob x hx t n h).elim
   have hcaps:=ZZ (jU hw) (KR (ι':=Ix.none) (avl:=fun _ _=>False) R (fun _ _ h=>h.elim) aj hw);have ra:=pV lc hcaps;obtain ⟨r,hc,hr⟩:=yb.1 hr;have hm:OI (vs++ws)=false:=by
    cases vs with
    | cons v r=>have:=xQ hl; cases v <;> first | rfl | exact this
    | nil =>
     cases ws with
     | nil=>rfl
     | cons v r =>
      have:=jU hw v (ym);cases v <;> first | rfl | (simp [AV.capOk] at this; done)
   have na:=(aD.of hm).1 (ua f (vs++ws) none r hc);obtain ⟨r1,r2⟩:=r;cases r2 with
   | some S'=>cases hr
   | none =>
    simp only at hr;split at hr
    ·cases hr;simp only [WA.eff] at he;cases he;have uf:(Xs.toList.map a.eval++us.toList).toArray=Xs.map a.eval++us:=by
      simp_all
     have run:(execOp a.eval o).run P w=.ok (.enter f (Xs.map a.eval++us)) w:=by
      have dz:a.eval (.tmp tf)=.func (.func f) #[] us:=fd;simp only [execOp,ho,resolve,dz,Deferred.ofValue,Sem.run_bind,Sem.run_pure,Result.andThen_ok,invoke];have:=na.1 (#[]++Xs.map a.eval++us) w;simp_all
     unfold Oper.wp;rw [run,Oper.upon_enter];have hC:=na.2 (PC da ι Θ) w _ pe ra;rw [uf] at hC;refine hC.mono ?_;rintro e w' ⟨v,rfl,hv,hb⟩;have R':uC P O nt B F0 da w0 D s a w' ι Θ:=R.grow (fun b ta=>hb.block b ta) hb.size (R.kept.trans_below hb);exact hK _ _ ⟨ι,Θ,(R'.putN (x:=⟨_,.no⟩) hd (zN hv) trivial).more fun _ h=>.inl h⟩
    ·cases hr
  ·cases hr
 ·cases hr
end
theorem val_rstr (R:uC P O nt B F0 da w0 D s a w ι Θ) {t t':TypeId} {k:IntKind} (ht:P.underlying t=some (.int k)) (ht':P.underlying t'=some .string) {X:Operand} {x:JB} (hx:opd X=some x) (ho:o.op=.convert t t' X)
  {call} {y:wA} {e:zD} (hr:(K.rstr x).run call s=some (y,e)):e=.none/\kS P da a w ι Θ o y:=by
 have hX:=(R.opd hx).1;simp only [K.run] at hr;split at hr
 ·rename_i k' n hy;injection hr with hr; injection hr with h1 h2; subst h1; subst h2;rw [hy,fB] at hX;exact ⟨rfl,.string (Utf8.encode n),by simp [execOp,ho,convert,run_underlying ht,run_underlying ht',hX,Conv.intToString],by rw [MG],trivial⟩
 ·cases hr
theorem bS {av:Av}:∀ {m:List (List AV)} {bs:List UInt8} {us:List Value},bytesOf m=some bs->lD av w m.flatten us->∃ ns:List Int,us=ns.map (Value.int .u8)/\bs=ns.map (fun n=>UInt8.ofNat n.toNat)/\∀ c∈m,c.length=1
 | [],bs,us,hb,h=>by
  injection hb with hb;subst hb;cases h;exact ⟨[],rfl,rfl,by simp⟩
 | c :: r,bs,us,hb,h=>by
  unfold bytesOf at hb;split at hb
  ·rename_i n l hr;injection hb with hb;subst hb;simp only [yD,List.cons_append,List.nil_append,lD] at h;obtain ⟨u,sa,rfl,h0,_,h⟩:=h;obtain ⟨ns,e1,e2,e3⟩:=bS hr h;refine ⟨n :: ns,?_,by rw [e2]; rfl,?_⟩
   ·simp only [xE] at h0;rw [h0,e1]; rfl
   ·intro c hc;rcases yh.1 hc with rfl | hc
    ·rfl
    ·exact e3 c hc
  ·cases hb
theorem M1:∀ (ns:List Int) (acc:ByteArray),ns.foldl (fun r n=>r.push (UInt8.ofNat n.toNat)) acc=⟨acc.data++(ns.map fun n=>UInt8.ofNat n.toNat).toArray⟩
 | [],acc=>by simp
 | n :: r,acc=>by
  rw [List.foldl_cons,M1 r];congr 1;apply Array.ext';simp [ByteArray.push]
theorem val_bstr (R:uC P O nt B F0 da w0 D s a w ι Θ) {t t' e':TypeId} (ht:P.underlying t=some (.slice e')) (sg:P.underlying e'=some (.int .u8)) (ht':P.underlying t'=some .string) {X:Operand} {x:JB} (hx:opd X=some x) (ho:o.op=.convert t t' X)
  {call} {cl:Cl} {y:wA} {e:zD} (hr:(K.bstr cl x).run call s=some (y,e)):e=.none/\kS P da a w ι Θ o y:=by
 have hX:=(R.opd hx).1;simp only [K.run] at hr;split at hr
 ·rename_i m hm;obtain ⟨bs,sv,hr⟩:=yj.1 hr;injection hr with h1 h2; subst h1; subst h2;have hlen1:∀ c∈m,c.length=1:=by
   clear hX hm hr
   induction m generalizing bs with
   | nil=>simp
   | cons c r ih =>
    unfold bytesOf at sv
    grind
  obtain ⟨us,zb,hl,A,c,hv,hc,mb⟩:=cM R hX hm (sz:=1) (by omega) hlen1;obtain ⟨ns,e1,e2,_⟩:=bS sv zb;refine ⟨rfl,.string ⟨bs.toArray⟩,?_,by rw [MG],trivial⟩;have hns:ns.length=m.length:=by rw [e1] at hl; simpa using hl
  simp only [execOp,ho,hv,Sem.run_bind];rw [run_convert_bytes_string w t t' e' A m.length c ht sg ht'];cases A with
  | none =>
   rcases yJ m.length with h0 | h0
   ·have:ns=[]:=yO (by omega);subst this;subst e2;simp [Conv.bytesToString];rfl
   ·simp_all
  | some a' =>
   have nr:(loadCells a' m.length).run P w=.ok (ns.map (Value.int .u8)).toArray w:=by
    have:=run_loadCells_list (P:=P) w a' (ns.map (Value.int .u8)) (fun j v hj=>by
     have xh:j<m.length:=by
      grind
     obtain ⟨b,off,hA,_,_,dd⟩:=mb (by omega);cases hA;rw [Addr.add_lit];rw [<- e1] at hj;exact dd j v hj)
    simp_all
   rw [run_bytesToString w a' m.length c ns nr,M1];simp_all
 ·cases hr
theorem GZ {t e:TypeId} {z n:Nat} (ht:P.underlying t=some (.array n e)) (hz:rC P e=some z) {b off:Nat} {L H:Option Operand} {l h:Nat} (hl:iX a 0 L (L.map a.eval,l)) (hh:iX a n H (H.map a.eval,h)) (h1:l<=h) (h2:h<=n) :
  (Instr.sliceAt t (.pointer (some ⟨b,off,none⟩)) (L.map a.eval) (H.map a.eval) none).run P w=.ok (.slice (some (if n=l then ⟨b,off,none⟩ else ⟨b,off + l * z,none⟩)) (h - l) (n - l)) w:=by
 cases L with
 | none =>
  obtain ⟨_,rfl⟩:=hl;cases H with
  | none =>
   obtain ⟨_,rfl⟩:=hh;simp [Instr.sliceAt,Instr.sureAddr,Instr.sliceBounds,run_underlying ht,zC hz,Addr.add_lit]
  | some x =>
   obtain ⟨_,k,i,hx,h0,rfl⟩:=hh;have:0<=i/\i<=(n:Int):=⟨h0,by omega⟩;simp [Instr.sliceAt,Instr.sureAddr,Instr.sliceBounds,Instr.sliceBound,run_underlying ht,zC hz,hx,asIntOf,this,Addr.add_lit]
 | some y =>
  obtain ⟨_,k',i',hy,df,rfl⟩:=hl;cases H with
  | none =>
   obtain ⟨_,rfl⟩:=hh;have:0<=i'/\i'<=(h:Int):=⟨df,by omega⟩;simp [Instr.sliceAt,Instr.sureAddr,Instr.sliceBounds,Instr.sliceBound,run_underlying ht,zC hz,hy,asIntOf,this,Addr.add_lit]
  | some x =>
   obtain ⟨_,k,i,hx,h0,rfl⟩:=hh;have h3:0<=i/\i<=(n:Int):=⟨h0,by omega⟩;have h4:0<=i'/\i'<=i:=⟨df,by omega⟩;have h5:((i.toNat:Nat):Int)=i:=by omega
   simp [Instr.sliceAt,Instr.sureAddr,Instr.sliceBounds,Instr.sliceBound,run_underlying ht,zC hz,hy,hx,asIntOf,h3,h4,h5,Addr.add_lit]
section
variable (R:uC P O nt B F0 da w0 D s a w ι Θ)
include R
theorem val_aslc {t e':TypeId} {n z:Nat} (ht:P.underlying t=some (.array n e')) (hz:rC P e'=some z) {X:Operand} {L H:Option Operand} {x:JB} {l h:Option JB} (hx:opd X=some x) (hl:xW L=some l) (hh:xW H=some h)
  (ho:o.op=.slice t X L H none) {call} {cl:Cl} {y:wA} {e:zD} (hr:(K.aslc cl n z x l h).run call s=some (y,e)):e=.none/\kS P da a w ι Θ o y:=by
 have hX:=(R.opd hx).1;simp only [K.run] at hr;split at hr
 ·rename_i t' n' off hy;split at hr
  ·rename_i lo hi r hlo ir hm;have hL:=xK R hl hlo;have hH:=xK R hh ir;rw [hy,cG] at hX;obtain ⟨b,hb,hv⟩:=hX;obtain ⟨_,b',cur,ty,ta,oa,ka,_,gr⟩:=R.rows t' n' r hm;rw [hb] at ta;injection ta with ta;subst ta;split at hr
   ·rename_i aa;obtain ⟨h1,h2,gc,h3,_⟩:=aa;have ca:=GZ (w:=w) (b:=b) (off:=off) ht hz hL hH h1 h2;split at hr
    ·rename_i heq;injection hr with hr; injection hr with e1 e2; subst e1; subst e2;refine ⟨rfl,.slice (some (if n=lo then ⟨b,off,none⟩ else ⟨b,off + lo * z,none⟩)) (hi - lo) (n - lo),by simp only [execOp,ho,hv,Option.map_none,Sem.run_bind,ca,Result.andThen_ok,Sem.run_pure],?_,trivial⟩;simp only [CD,xE];refine ⟨some (if n=lo then ⟨b,off,none⟩ else ⟨b,off + lo * z,none⟩),n - lo,by rw [heq]; simp,by simp,by simp,by simp,fun _=>⟨by simp,by simp⟩⟩
    ·rename_i la;injection hr with hr; injection hr with e1 e2; subst e1; subst e2;refine ⟨rfl,.slice (some (if n=lo then ⟨b,off,none⟩ else ⟨b,off + lo * z,none⟩)) (hi - lo) (n - lo),by simp only [execOp,ho,hv,Option.map_none,Sem.run_bind,ca,Result.andThen_ok,Sem.run_pure],?_,trivial⟩;rw [NG];refine ⟨b,hb,by omega,n - lo,yn _,?_,by rw [if_neg (by omega)]⟩;have:(n - lo) * z + lo * z=n * z:=by rw [<- Nat.add_mul]; congr 1; omega
     have:=ka.1;omega
   ·cases hr
  ·cases hr
 ·cases hr
theorem val_mkf {f:FuncId} {fs Xs:Array Operand} (hfs:fs.size=0) {xs:List JB} (hx:AH Xs.toList=some xs) (ho:o.op=.makeFunc (.func f) fs Xs)
  {call} {y:wA} {e:zD} (hr:(K.mkf f xs).run call s=some (y,e)):e=.none/\kS P da a w ι Θ o y:=by
 simp only [K.run] at hr;split at hr
 ·rename_i ra;injection hr with hr; injection hr with e1 e2; subst e1; subst e2;have key:∀ {Xs:List Operand} {xs:List JB},AH Xs=some xs->xs.all (fun x=>(x.get s).capOk)=true->HG ι (PC da ι Θ) (IC ι Θ) w (xs.map (·.get s)) (Xs.map a.eval):=by
   intro Xs
   induction Xs with
   | nil=>intro xs h _; injection h with h; subst h; rfl
   | cons X r ih =>
    intro xs h hc;unfold AH at h;split at h
    ·rename_i x l h1 h2;cases h;simp only [List.all_cons,y9] at hc;refine ⟨_,_,rfl,?_,ih h2 hc.2⟩;have hX:=(R.opd h1).1;have hk:=hc.1;show JV ι (PC da ι Θ) (IC ι Θ) w (x.get s) (a.eval X);cases hg:x.get s <;> rw [hg] at hX hk <;> first | exact hX | (simp [AV.capOk] at hk; done)
    ·cases h
  have hfs0:fs=#[]:=Array.eq_empty_of_size_eq_zero hfs;refine ⟨rfl,.func (.func f) #[] (Xs.map a.eval),by simp [execOp,ho,Instr.makeFunc,hfs0],⟨Xs.map a.eval,rfl,?_⟩,trivial⟩;simp_all
 ·cases hr
theorem uC.turnRow {t n b:Nat} (hb:ι t n=some b) (kc:ι.ob t n=none) {r:List wA} {new:Array Value} {zo:TypeId} (tc:w'.heap[b]?=some (.cells new zo (0,0))) (hk:WD (fun k=>k=b) w w') (ka:ND ι Θ (PC da ι Θ) w' r new) (dj:B<=b\/F0.r b) (hnz:new.size=ι.z b) :
  uC P O nt B F0 da w0 D (s.setRow t n r) a w' ι Θ:=by
 have la:∀ b',b'<w.heap.size->b'≠b->w'.heap[b']?=w.heap[b']?:=fun b' h1 h=>hk.block b' h1 h
 have hB:BA (IC ι Θ) (IC ι Θ) w w':=⟨fun b' o u hc hn=>by
  have:b'≠b:=fun e=>hn (.inl (.inl ⟨t,n,e ▸ hb⟩))
  exact ⟨(World.cell?_of_block (w:=w) (a:=⟨b',o,none⟩) (la b' (QI hc) this)).trans hc,hn⟩⟩
 have hA:BA (PC da ι Θ) (PC da ι Θ) w w':=⟨fun b' o u hc hn=>by
  have:b'≠b:=fun e=>hn (.inr (.inl (.inl ⟨t,n,e ▸ hb⟩)))
  exact ⟨(World.cell?_of_block (w:=w) (a:=⟨b',o,none⟩) (la b' (QI hc) this)).trans hc,hn⟩⟩
 have xr:=R.mine t n b hb;have ac:=hk.size;refine ⟨R.defers,R.size,fun t=>MA.held (Ix.Le.refl _) hA hB _ _ (R.env t),R.ann,fun t' n' r' hr=>?_,fun t n b h=>?_,R.inj,fun k o h=>?_,R.tinj,R.apart,R.out,R.pin,?_,R.base,fun t' n' S h=>?_,fun t n H h=>(R.obs t n H h).grow ac,fun t=>MA.held (Ix.Le.refl _) hA hB _ _ (R.gen t),R.gann⟩
 ·simp only [pA.setRow] at hr;split at hr
  ·rename_i e;simp_all
  ·rename_i e;obtain ⟨h0,b',jb,zo,h1,h2,h3,h4⟩:=R.rows t' n' r' hr;have:b'≠b:=fun e'=>e (R.inj _ _ _ _ _ (e' ▸ h1) hb)
   exact ⟨h0,b',jb,zo,h1,(la b' (IA h2) this).trans h2,h3.held (Ix.Le.refl _) hA (fun _ _ h=>h),h4⟩
 ·obtain ⟨h1,h2,h3⟩:=R.mine t n b h;exact ⟨h1,by omega,h3⟩
 ·obtain ⟨h1,h2,h3,h4,jb,h5,h6⟩:=R.tok k o h;have:o.g≠b:=fun e=>R.apart k o t n h (e ▸ hb)
  grind
 ·refine R.kept.trans hk fun i hi h=>?_
  subst h;rcases xr.1 with h | h
  ·have:=R.base; omega
  ·exact h
 ·obtain ⟨p,H,h1,h2,h3,h4⟩:=R.objs t' n' S h;have ko:∀ b',H b'->b'≠b:=fun b' hH e=>by
   subst e;have:=((R.obs _ _ _ h2).1 _ hH).2.2.1 t n hb;simp_all
  exact ⟨p,H,h1,h2,O.keep h3 (fun b' hH=>la b' (O.lt h3 hH) (ko b' hH)) ac,h4.keep (fun t n b H h g=>⟨h,H,g⟩) fun x hx=>(la _ (IA hx) (ko _ (O.main h3))).trans hx⟩
end
theorem PX (R:uC P O nt B F0 da w0 D s a w ι Θ) {t n p z:Nat} (hp:ι t n=some p) (hz:ι.z p=z) {cl:Cl}:∀ {Xs:List Operand} {xs:List JB} {vs:List AV},AH Xs=some xs->mD s cl t n xs=some vs->aM (Ix.row p z) (PC da ι Θ) (fun b _=>b=p) w vs (Xs.map a.eval)
 | [],xs,vs,h,hl=>by
  injection h with h;subst h;injection hl with hl;subst hl;rfl
 | X :: Xs,xs,vs,h,hl=>by
  unfold AH at h;split at h
  ·rename_i x l hx hr;injection h with h;subst h;unfold mD at hl;split at hl
   ·rename_i v zu hv ze;injection hl with hl;subst hl;refine ⟨_,_,rfl,?_,PX R hp hz hr ze⟩;have hX:=(R.opd hx).1;have hB:∀ (b o:Nat),b=p->IC ι Θ b o:=fun b o h=>.inl (.inl ⟨t,n,h ▸ hp⟩)
    unfold FG at hv;split at hv
    ·rename_i t' n' off hg;split at hv
     ·rename_i e;injection hv with hv;subst hv;rw [hg,e.1,e.2] at hX;obtain ⟨b,hb,hv⟩:=cG.1 hX;rw [hp] at hb;injection hb with hb;subst hb;exact ⟨p,rfl,hv⟩
     ·cases hv
    ·rename_i t' n' sz off len cap hg;split at hv
     ·rename_i e;injection hv with hv;subst hv;rw [hg,e.1,e.2] at hX;obtain ⟨b,hb,h1,c,h2,h3,hv⟩:=NG.1 hX;rw [hp] at hb;injection hb with hb;subst hb;exact ⟨p,rfl,h1,c,h2,by rw [hz] at h3; exact h3,hv⟩
     ·rename_i e;rw [hg] at hX;refine kU R hB (fun t1 n1 b o hb1 _ ⟨sz1,off1,len1,cap1,hy⟩ h=>e ?_) hX hv fun t n h=>by cases h
      injection hy with e1 e2;subst h;exact R.inj _ _ _ _ _ (by rw [e1,e2]; exact hb1) hp
    ·rename_i f cs hg;split at hv
     ·rename_i hc;injection hv with hv;subst hv;rw [hg,List.isEmpty_iff.1 hc] at hX;exact hX
     ·cases hv
    ·rename_i y h1 h2 h3;exact kU R hB (fun t1 n1 b o _ _ ⟨sz1,off1,len1,cap1,hy⟩=>absurd hy (h2 _ _ _ _ _ _)) hX hv fun t n h=>absurd h (h1 _ _ _)
   ·cases hl
  ·cases h
theorem row_ofz {av:Av} {cs:List AV} {us:List Value} (h:lD av w cs us) {cur:Array Value} (hc:∀ (j:Nat) (u:Value),us[j]?=some u->cur[j]?=some u):ND ι Θ av w (cs.map fun v=>⟨v,tC v⟩) cur:=by
 have h0:=row_of (ι:=ι) (Θ:=Θ) h hc;refine ⟨by simpa using h0.1,fun j x hx=>?_⟩;rw [ye] at hx;obtain ⟨v,hv,rfl⟩:=yj.1 hx;obtain ⟨u,h1,h2,h3,_⟩:=h0.2 j ⟨v,.no⟩ (by rw [ye,hv]; rfl);refine ⟨u,h1,h2,h3,?_⟩;unfold tC;split
 ·rename_i b l hh;simp only at h3;obtain ⟨A,c,hv,_,_,hn,_⟩:=(by simpa [NA,xE] using h3:xE av w (.sl true _) u);obtain ⟨rfl,e1,rfl⟩:=hn rfl;exact ⟨none,0,by rw [hv,e1]⟩
 ·trivial
theorem op_callr (R:uC P O nt B F0 da w0 D s a w ι Θ) {call:iB} (ua:∀ f args S r,call f args S=some r->aD P O f args S r) {f:FuncId} {Xs:Array Operand} {ts:Array TypeId} {xs:List JB} (hx:AH Xs.toList=some xs) (ho:o.op=.call { callee:=.value (.func f),args:=Xs,argTypes:=ts }) (hd:∀ d,o.dst=some d->d<nt) {cl:Cl} {xe:wA × zD} (hr:(K.callr cl f xs).run call s=some xe) {g} {s':pA} (he:WA.eff ⟨o.dst,.callr cl f xs,g⟩ s xe=some s')
  {Kn:Act->World->Prop} {Q:Exit->Act->World->Prop} (hK:∀ a' w',ID P O nt B F0 da w0 (fun t=>D t\/o.dst=some t) s' a' w'->Kn a' w'):o.wp P a w Kn Q:=by
 simp only [K.run] at hr;split at hr
 ·rename_i t n _;split at hr
  ·split at hr
   ·rename_i r vs hm hl;split at hr
    ·rename_i ra;obtain ⟨q,hc,hr⟩:=yb.1 hr;split at hr
     ·rename_i cs hq;split at hr
      ·rename_i aa;cases hr;simp only [WA.eff] at he;cases he;obtain ⟨q1,q2⟩:=q;simp only at hq;subst hq;obtain ⟨kc,p,cur,ty,hp,oa,ka,dj,gr⟩:=R.rows t n r hm;have na:i3 P f vs (some (.agg (r.map (·.v)))) (q1,some (.agg cs)):=ua f (.undef :: .undef :: vs) _ _ hc;have de:∀ x∈r.map (·.v),x.free0=true:=fun x hx=>by
        grind
       have uf:(Xs.toList.map a.eval).toArray=Xs.map a.eval:=by rw [<- Array.toList_map,yV]
       have run:(execOp a.eval o).run P w=.ok (.enter f (Xs.map a.eval)) w:=by
        simp only [execOp,ho,resolve,Act.eval,Deferred.ofValue,Sem.run_bind,Sem.run_pure,Result.andThen_ok,invoke];have:=na.1 (#[]++Xs.map a.eval++#[]) w;simp_all
       unfold Oper.wp;rw [run,Oper.upon_enter];have hC:=na.2 (PC da ι Θ) w _ p cur ty (fun b o h=>R.low h) (fun o=>.inr (.inl (.inl ⟨t,n,hp⟩))) oa (by simpa using ka.1) (by simpa using uH ka.rep de) (PX R hp gr.symm hx hl);rw [uf] at hC;refine hC.mono ?_;rintro e w' ⟨v,jb,zo,rfl,hv,um,ac,zb,hk⟩;have tk:ND ι Θ (PC da ι Θ) w' (cs.map fun v=>⟨v,tC v⟩) jb:=row_ofz zb fun j u hu=>by
        grind
       have R':=R.turnRow hp kc um hk tk dj (ac.trans gr);exact hK _ _ ⟨ι,Θ,(R'.putN (x:=⟨_,.no⟩) hd (zN hv) trivial).more fun _ h=>.inl h⟩
      ·cases hr
     ·cases hr
    ·cases hr
   ·cases hr
  ·cases hr
 ·cases hr
end
end
section
open Go Go.RowKit
section
variable {P:Program} {O:rH} {nt B:Nat} {F0:qP} {da:Av} {w0:World} {D:Nat->Prop} {s:pA} {a:Act} {w w':World} {ι:Ix} {Θ:aL} {o:Oper}
theorem CN {av:Av} {x:AV} (h:x.scal=true):xE av w x x.scalV/\x.scalV.oneCell'=true:=by
 cases x <;> first | (simp [AV.scal] at h; done) | exact ⟨rfl,rfl⟩
theorem wV {av:Av}:∀ {cs:List AV},cs.all AV.scal=true->lD av w cs (cs.map AV.scalV)
 | [],_=>rfl
 | x :: r,h=>by
  simp only [List.all_cons,y9] at h;exact ⟨_,_,rfl,(CN h.1).1,(CN (av:=av) (w:=w) h.1).2,wV h.2⟩
theorem IN {av:Av} {x:AV} (h:x.flat=true):xE av w x x.flatV:=by
 cases x with
 | agg cs=>exact ⟨_,rfl,by simpa using wV (av:=av) (w:=w) h⟩
 | int k n=>exact (CN (x:=.int k n) rfl).1
 | bool b=>exact (CN (x:=.bool b) rfl).1
 | str b=>exact (CN (x:=.str b) rfl).1
 | _=>simp [AV.flat,AV.scal] at h
theorem flat_S {av avb:Av} {x:AV} (h:x.flat=true):MA ι av avb w x x.flatV:=by
 have h1:=IN (av:=av) (w:=w) h;cases x with
 | agg cs=>obtain ⟨us,hv,hc⟩:=h1; exact ⟨us,hv,OD hc⟩
 | _=>first | exact h1 | (simp [AV.flat,AV.scal] at h; done)
theorem DS {av avb:Av} {x:AV} {v:Value} (hf:x.flat=true) (h:MA ι av avb w x v):v=x.flatV:=by
 cases x with
 | agg cs =>
  obtain ⟨us,hv,hc⟩:=h;subst hv;have key:∀ {cs:List AV} {us:List Value},cs.all AV.scal=true->HA ι av w cs us->us=cs.map AV.scalV:=by
   intro cs
   induction cs with
   | nil=>intro us _ h; simpa [HA] using h
   | cons x r ih =>
    intro us hf h;simp only [HA] at h;obtain ⟨u,sa,rfl,h0,_,h⟩:=h;simp only [List.all_cons,y9] at hf;rw [yg,ih hf.2 h];congr 1;cases x <;> first | exact h0 | (simp [AV.scal] at hf; done)
  have:=key hf hc;show Value.agg us=.agg (cs.map AV.scalV).toArray;rw [<- this,yV]
 | int k n=>exact h
 | bool b=>exact h
 | str b=>exact h
 | _=>simp [AV.flat,AV.scal] at hf
theorem avC_flat {v:Value} {x:AV} (h:avC v=some x) (hf:x.flat=true):v=x.flatV :=
 DS (ι:=Ix.none) (av:=fun _ _=>False) (avb:=fun _ _=>False) (w:=default) hf (avC_rep h _ _ _ _)
theorem ba_beq (a b:ByteArray):(a == b)=decide (a=b):=by
 obtain ⟨a⟩:=a;obtain ⟨b⟩:=b;rw [Bool.eq_iff_iff];simp only [decide_eq_true_eq,ByteArray.mk.injEq];exact beq_iff_eq (α:=Array UInt8)
def jG {κ:Type} [DecidableEq κ] (L:List (κ × Value)) (n:κ) (m:Nat):Option (Nat × Value):=((L.map (·.1)).idxOf? n).bind fun i=>(L[i]?).map fun p=>(m + i,p.2)
theorem dN {κ:Type} [DecidableEq κ] (p:κ × Value) (L:List (κ × Value)) (n:κ) (m:Nat):jG (p :: L) n m=if n=p.1 then some (m,p.2) else jG L n (m + 1):=by
 unfold jG;simp only [yg,List.idxOf?_cons];by_cases hk:n=p.1
 ·subst hk; simp
 ·have hb:(p.1 == n)=false:=by simpa using fun e:p.1=n=>hk e.symm
  simp only [hb,hk,if_false];cases hi:List.idxOf? n (List.map (fun x=>x.1) L) with
  | none=>simp
  | some i=>simp [Nat.add_assoc,Nat.add_comm 1 i]
theorem mV (k:IntKind) (n:Int):∀ (es:List MapEntry) (L:List (Int × Value)) (m:Nat),es.map (fun e=>(e.key,e.val))=L.map (fun p=>(Value.int k p.1,p.2)) →
   Instr.findNow (.int k) (.int k n) es m=some (jG L n m)
 | [],[],m,_=>by simp [Instr.findNow,jG]
 | [],_ :: _,_,h=>by simp at h
 | _ :: _,[],_,h=>by simp at h
 | e :: es,p :: L,m,h=>by
  simp only [yg,List.cons.injEq,Prod.mk.injEq] at h;obtain ⟨⟨h1,h2⟩,h3⟩:=h;have ih:=mV k n es L (m + 1) h3;have hs:Instr.sameNow (.int k) (.int k n) e.key=some (n == p.1):=by rw [h1]; simp [Instr.sameNow]
  simp only [Instr.findNow,hs,dN];by_cases hk:n=p.1
  ·subst hk; simp [h2]
  ·have ta:(n == p.1)=false:=by simpa using hk
   simp only [ta,ih,hk,if_false]
theorem QV (n:ByteArray):∀ (es:List MapEntry) (L:List (ByteArray × Value)) (m:Nat),es.map (fun e=>(e.key,e.val))=L.map (fun p=>(Value.string p.1,p.2)) →
   Instr.findNow .string (.string n) es m=some (jG L n m)
 | [],[],m,_=>by simp [Instr.findNow,jG]
 | [],_ :: _,_,h=>by simp at h
 | _ :: _,[],_,h=>by simp at h
 | e :: es,p :: L,m,h=>by
  simp only [yg,List.cons.injEq,Prod.mk.injEq] at h;obtain ⟨⟨h1,h2⟩,h3⟩:=h;have ih:=QV n es L (m + 1) h3;have hs:Instr.sameNow .string (.string n) e.key=some (decide (n=p.1)):=by
   rw [h1];simp only [Instr.sameNow,ba_beq]
  simp only [Instr.findNow,hs,dN];by_cases hk:n=p.1
  ·subst hk; simp [h2]
  ·simp only [hk,decide_false,ih,if_false]
theorem i4 {T:TypeId} {k:IntKind} (u:P.underlying T=some (.int k)):gP P T (fun n:Int=>Value.int k n) where
 check empty n w:=by
  have hq:∀ (d:Nat),(Instr.checkKey empty (d + 1) T (.int k n)).run P w=.ok () w:=fun d=>by simp [Instr.checkKey,run_underlying u]
  exact hq 9999
 find n es L w h:=by
  simp only [Instr.findKey,Sem.run_bind,run_underlying u,Result.andThen_ok,mV k n es L 0 h,jG,yG,Sem.run_pure]
 same n:=by
  have hq:∀ (d:Nat),Instr.sameBits (d + 1) (.int k n) (.int k n)=true:=fun d=>by simp [Instr.sameBits]
  exact hq 9999
theorem s4 {T:TypeId} (u:P.underlying T=some .string):gP P T Value.string where
 check empty n w:=by
  have hq:∀ (d:Nat),(Instr.checkKey empty (d + 1) T (.string n)).run P w=.ok () w:=fun d=>by simp [Instr.checkKey,run_underlying u]
  exact hq 9999
 find n es L w h:=by
  simp only [Instr.findKey,Sem.run_bind,run_underlying u,Result.andThen_ok,QV n es L 0 h,jG,yG,Sem.run_pure]
 same n:=by
  have hq:∀ (d:Nat),Instr.sameBits (d + 1) (.string n) (.string n)=true:=fun d=>by simp [Instr.sameBits,ba_beq]
  exact hq 9999
structure pR (ty:KTy) (κ:Type) [DecidableEq κ] (ke:κ->Value) (kx:κ->AV):Prop where
 val:∀ a,(kx a).flatV=ke a
 eq:∀ a b,AN (kx a) (kx b)=decide (a=b)
 of:∀ x,lG ty x=true->∃ a,x=kx a
 flat:∀ a,(kx a).flat=true
section
variable {κ:Type} [DecidableEq κ] {ke:κ->Value} {kx:κ->AV} {ty:KTy}
theorem U1 (K:pR ty κ ke kx) (n:κ):∀ M:List (κ × AV),PH (M.map fun p=>[kx p.1,p.2]) (kx n)=jL M n
 | []=>rfl
 | p :: r=>by
  simp only [yg,PH,jL,K.eq,decide_eq_true_eq,U1 K n r];by_cases h:p.1=n
  ·rw [if_pos h,if_pos h.symm]
  ·rw [if_neg h,if_neg fun e=>h e.symm]
theorem I1 (K:pR ty κ ke kx) (n:κ) (v:AV):∀ M:List (κ × AV),EG (M.map fun p=>[kx p.1,p.2]) (kx n) v=(DZ M n v).map fun p=>[kx p.1,p.2]
 | []=>rfl
 | p :: r=>by
  simp only [yg,EG,DZ,K.eq,decide_eq_true_eq,I1 K n v r];by_cases h:p.1=n
  ·rw [if_pos h,if_pos h.symm]; rfl
  ·rw [if_neg h,if_neg fun e=>h e.symm]; rfl
theorem gX (g:AV->Value) (n:κ):∀ M:List (κ × AV),jL (M.map fun p=>(p.1,g p.2)) n=(jL M n).map g
 | []=>rfl
 | p :: r=>by
  simp only [yg,jL,gX g n r];split <;> rfl
theorem D9 (g:AV->Value) (n:κ) (v:AV):∀ M:List (κ × AV),DZ (M.map fun p=>(p.1,g p.2)) n (g v)=(DZ M n v).map fun p=>(p.1,g p.2)
 | []=>rfl
 | p :: r=>by
  simp only [yg,DZ,D9 g n v r];split <;> rfl
theorem E1 (K:pR ty κ ke kx):∀ L:List (List AV),jK ty L=true->∃ M:List (κ × AV),L=M.map (fun p=>[kx p.1,p.2])/\∀ p∈M,p.2.flat=true
 | [],_=>⟨[],rfl,fun _ h=>by cases h⟩
 | e :: r,h=>by
  unfold jK at h;simp only [List.all_cons,y9] at h;obtain ⟨M,hM,hf⟩:=E1 K r h.2;have h1:=h.1;split at h1
  ·rename_i k v;simp only [y9] at h1;obtain ⟨n,rfl⟩:=K.of k h1.1;exact ⟨(n,v) :: M,by rw [hM]; rfl,fun p hp=>by
    rcases yh.1 hp with rfl | hp
    ·exact h1.2
    ·exact hf p hp⟩
  ·cases h1
theorem T1 (K:pR ty κ ke kx) (M:List (κ × AV)):(M.map fun p=>[kx p.1,p.2]).map entV=(M.map fun p=>(p.1,p.2.flatV)).map fun p=>(ke p.1,p.2):=by
 rw [y3,y3];apply yr;intro p _;simp [entV,K.val]
end
theorem dU (k:IntKind):pR (.some k) Int (fun n=>Value.int k n) (fun n=>.int k n) where
 val _:=rfl
 eq a b:=by simp [AN]
 of x h:=by
  cases x <;> first | (simp [lG] at h; done) | (simp only [lG,decide_eq_true_eq] at h; subst h; exact ⟨_,rfl⟩)
 flat _:=rfl
theorem fU:pR .none ByteArray Value.string AV.str where
 val _:=rfl
 eq a b:=by simp [AN]
 of x h:=by
  cases x <;> first | (simp [lG] at h; done) | exact ⟨_,rfl⟩
 flat _:=rfl
inductive KV where
 | i (k:IntKind) (n:Int)
 | s (b:ByteArray)
 deriving DecidableEq
def KV.av:KV->AV
 | .i k n=>.int k n
 | .s b=>.str b
def KV.kd:KV->Option IntKind
 | .i k _=>some k
 | .s _=>none
abbrev AKey (l:List (Option IntKind)):={ a:List KV // a.map KV.kd=l }
theorem Q1:∀ a b:List KV,TP (a.map KV.av) (b.map KV.av)=decide (a=b)
 | [],[]=>rfl
 | [],b :: r=>by cases b <;> rfl
 | a :: r,[]=>by cases a <;> rfl
 | a :: r,b :: r'=>by
  have ih:=Q1 r r';cases a <;> cases b <;> simp [KV.av,TP,ih,Bool.decide_and]
theorem aU:∀ (l:List (Option IntKind)) (cs:List AV),fK l cs=true->∃ a:List KV,a.map KV.kd=l/\cs=a.map KV.av
 | [],[],_=>⟨[],rfl,rfl⟩
 | [],_ :: _,h=>by simp [fK] at h
 | k :: r,[],h=>by cases k <;> simp [fK] at h
 | k :: r,c :: cs,h=>by
  cases k with
  | none =>
   cases c <;> simp only [fK] at h <;> first | (cases h; done) | skip
   rename_i b;obtain ⟨a,h1,h2⟩:=aU r cs h;exact ⟨.s b :: a,by simp [KV.kd,h1],by simp [KV.av,h2]⟩
  | some k =>
   cases c <;> simp only [fK] at h <;> first | (cases h; done) | skip
   rename_i k' n;simp only [y9,decide_eq_true_eq] at h;obtain ⟨rfl,h⟩:=h;obtain ⟨a,h1,h2⟩:=aU r cs h;exact ⟨.i k n :: a,by simp [KV.kd,h1],by simp [KV.av,h2]⟩
theorem kv_scal (a:List KV):(a.map KV.av).all AV.scal=true:=by
 simp only [List.all_map,y6];intro x _;cases x <;> rfl
theorem sU (l:List (Option IntKind)):pR (.agg l) (AKey l) (fun a=>.agg ((a.1.map KV.av).map AV.scalV).toArray) (fun a=>.agg (a.1.map KV.av)) where
 val _:=rfl
 eq a b:=by
  simp only [AN,Q1];by_cases h:a.1=b.1
  ·rw [decide_eq_true h,decide_eq_true (Subtype.ext h)]
  ·rw [decide_eq_false h,decide_eq_false fun e=>h (congrArg Subtype.val e)]
 of x h:=by
  cases x <;> first | (simp [lG] at h; done) | skip
  rename_i cs;obtain ⟨a,h1,h2⟩:=aU l cs h;exact ⟨⟨a,h1⟩,by rw [h2]⟩
 flat a:=kv_scal a.1
theorem eqC_kv:∀ a b:List KV,a.map KV.kd=b.map KV.kd->gL ((a.map KV.kd).map HK) (a.map KV.av) (b.map KV.av)=some (decide (a=b))
 | [],[],_=>rfl
 | [],_ :: _,h=>by simp at h
 | _ :: _,[],h=>by simp at h
 | a :: r,b :: r',h=>by
  simp only [yg,List.cons.injEq] at h;have ih:=eqC_kv r r' h.2;cases a <;> cases b <;> simp only [KV.kd,reduceCtorEq,Option.some.injEq,false_and] at h
  ·obtain ⟨rfl,h⟩:=h;rename_i n m;by_cases e:n=m
   ·subst e; simp [KV.kd,KV.av,HK,gL,ih,-y3]
   ·simp [KV.kd,KV.av,HK,gL,e]
  ·rename_i n m;by_cases e:n=m
   ·subst e; simp [KV.kd,KV.av,HK,gL,ih,-y3]
   ·simp [KV.kd,KV.av,HK,gL,e]
theorem uQ {t:TypeId} {ks:List Nat} (h:QR P t=some ks):BG P 8 t=some ks/\AJ P t=some true:=by
 unfold QR at h;split at h
 ·cases h
 ·split at h
  ·rename_i jn; exact ⟨h,by simp [AJ,jn]⟩
  ·rename_i jn; exact ⟨h,by simp [AJ,jn]⟩
  ·cases h
theorem equal_kv {T:TypeId} {l:List (Option IntKind)} (ht:QR P T=some (l.map HK)) (a b:AKey l) (w:World) :
  (Op.equal T (.agg ((a.1.map KV.av).map AV.scalV).toArray) (.agg ((b.1.map KV.av).map AV.scalV).toArray)).run P w=.ok (decide (a=b)) w:=by
 obtain ⟨hk,hA⟩:=uQ ht;have he:=eqC_kv a.1 b.1 (a.2.trans b.2.symm);rw [a.2] at he;have hd:decide (a.1=b.1)=decide (a=b):=by
  by_cases h:a.1=b.1
  ·rw [decide_eq_true h,decide_eq_true (Subtype.ext h)]
  ·rw [decide_eq_false h,decide_eq_false fun e=>h (congrArg Subtype.val e)]
 rw [hd] at he;have hl:∀ c:AKey l,HA Ix.none (fun _ _=>False) w (c.1.map KV.av) (((c.1.map KV.av).map AV.scalV).toArray.toList.take (l.map HK).length):=fun c=>by
  rw [yC (by simp [<- c.2])];exact OD (wV (kv_scal c.1))
 exact (uV (ι:=Ix.none) (av:=fun _ _=>False) (fun t ks h=>gU 7 t ks h) 9992 hk hA (hl a) (hl b) he).2
theorem wO (em:Bool) (w:World):∀ (n:Nat) (t:TypeId) (ks:List Nat),BG P n t=some ks->∀ (d:Nat) (us:Array Value) (off:Nat),off + ks.length<=us.size->(∃ a,(part t us off).run P w=.ok a w/\(Instr.checkKey em (d + n) t a).run P w=.ok () w)/\(AJ P t=some true->off=0->(Instr.checkKey em (d + n) t (.agg us)).run P w=.ok () w)
 | 0,_,_,h=>by cases h
 | n + 1,t,ks,hk=>by
  intro d us off ub;have whole:AJ P t=some true->∀ vs:Array Value,ks.length<=vs.size->rC P t=some ks.length/\(Instr.checkKey em (d + (n + 1)) t (.agg vs)).run P w=.ok () w:=by
   intro hA vs hvs;unfold BG at hk;split at hk
   ·rename_i k wb;unfold AJ at hA;unfold rZ at wb;split at wb <;> first | (cases wb; done) | (rename_i ht _; rw [ht] at hA; injection hA with hA; cases hA) | (rename_i ht; rw [ht] at hA; injection hA with hA; cases hA)
   ·split at hk
    ·rename_i m e ht;obtain ⟨l,hl,hk⟩:=yb.1 hk;split at hk
     ·rename_i hc;injection hk with hk;subst hk;obtain ⟨i,hi⟩:=LS hc.2.1;refine ⟨hc.2.2,?_⟩;have ac:i.size=l.length:=by
       have:=hc.2.1;simp only [rC,hi,yx,Option.some.injEq] at this;exact this
      have eh:(yB m l).flatten.length=m * l.length:=by simp
      rw [show d + (n + 1)=(d + n) + 1 from rfl,Instr.checkKey];simp only [Sem.run_bind,run_underlying ht,Result.andThen_ok];simp only [Std.Legacy.Range.forIn_eq_forIn_range',Std.Legacy.Range.size,Nat.sub_zero,Nat.add_one_sub_one,Nat.div_one];have each:∀ j∈List.range' 0 m,∃ a,(part e vs (j * P.cellsOf e)).run P w=.ok a w/\(Instr.checkKey em (d + n) e a).run P w=.ok () w:=fun j hj=>by
       have hjm:j<m:=by simpa using hj
       refine (wO em w n e l hl d vs (j * P.cellsOf e) ?_).1;rw [hc.1,<- yA];rw [eh] at hvs;exact Nat.le_trans (Nat.mul_le_mul_right _ hjm) hvs
      generalize List.range' 0 m=is at each
      induction is with
      | nil=>simp
      | cons j is ih =>
       obtain ⟨a,p1,p2⟩:=each j (by simp);simp only [List.forIn_cons,Sem.run_bind,run_sizeOf w hi,Result.andThen_ok,p1,p2,Sem.run_pure];exact ih (fun y hy=>each y (by simp [hy]))
     ·cases hk
    ·rename_i fs ht;split at hk
     ·cases hk
     ·obtain ⟨l,hl,hk⟩:=yb.1 hk;split at hk
      ·rename_i hc;injection hk with hk;subst hk;refine ⟨hc,?_⟩;rw [show d + (n + 1)=(d + n) + 1 from rfl,Instr.checkKey];simp only [Sem.run_bind,run_underlying ht,Result.andThen_ok];rw [<- Array.forIn_toList];have go:∀ (L:List Field) (i:Nat) (l:List Nat),lQ (BG P n) i L=some l->i + l.length<=vs.size->∀ f∈L,f.name≠"_"/\∃ a,(part f.type vs f.offset).run P w=.ok a w/\(Instr.checkKey em (d + n) f.type a).run P w=.ok () w:=by
        intro L
        induction L with
        | nil=>intro i l _ _ f hf; cases hf
        | cons g L ih =>
         intro i l hl ub f hf;unfold lQ at hl;obtain ⟨l1,h1,hl⟩:=yb.1 hl;split at hl
         ·rename_i hn;obtain ⟨l2,h2,rfl⟩:=yj.1 hl;rw [yy] at ub;rcases yh.1 hf with rfl | hf
          ·exact ⟨hn.1,(wO em w n _ l1 h1 d vs f.offset (by rw [hn.2]; omega)).1⟩
          ·exact ih (i + l1.length) l2 h2 (by omega) f hf
         ·cases hl
       have each:=go fs.toList 0 l hl (by omega);clear go hl;generalize fs.toList=L at each
       induction L with
       | nil=>simp
       | cons f L ih =>
        obtain ⟨hn,a,p1,p2⟩:=each f (by simp);simp only [List.forIn_cons,Sem.run_bind,hn,ne_eq,not_false_eq_true,if_true,Result.andThen_ok,p1,p2,Sem.run_pure];exact ih (fun y hy=>each y (by simp [hy]))
      ·cases hk
    ·cases hk
  refine ⟨?_,fun hA h0=>(whole hA us (by omega)).2⟩;by_cases hA:AJ P t=some true
  ·obtain ⟨h1,h2⟩:=whole hA (us.extract off (off + ks.length)) (by simp; omega);exact ⟨_,(uS hA h1 us off).1,h2⟩
  ·have uc:=hk;unfold BG at hk;split at hk
   ·rename_i k wb;injection hk with hk;subst hk;simp only [yI,List.length_nil] at ub;have hu:us[off]?=some us[off]:=yY (by omega);have hp:=(L9 (w:=w) 0 wb hu hu).1;refine ⟨_,hp,?_⟩;unfold rZ at wb;rw [show d + (n + 1)=(d + n) + 1 from rfl];split at wb
    ·rename_i ht _; simp [Instr.checkKey,run_underlying ht]
    ·rename_i ht _; simp [Instr.checkKey,run_underlying ht]
    ·rename_i ht _; simp [Instr.checkKey,run_underlying ht]
    ·cases wb
   ·split at hk
    ·rename_i ht; exact absurd (by simp [AJ,ht]) hA
    ·rename_i ht; exact absurd (by simp [AJ,ht]) hA
    ·cases hk
theorem find_kv {T:TypeId} {l:List (Option IntKind)} (ht:QR P T=some (l.map HK)) (a:AKey l) (w:World):∀ (es:List MapEntry) (L:List (AKey l × Value)) (m:Nat),es.map (fun e=>(e.key,e.val))=L.map (fun p=>(Value.agg ((p.1.1.map KV.av).map AV.scalV).toArray,p.2)) →
  (Instr.findAsking T (.agg ((a.1.map KV.av).map AV.scalV).toArray) es m).run P w=.ok (jG L a m) w
 | [],[],m,_=>by simp [Instr.findAsking,jG]
 | [],_ :: _,_,h=>by simp at h
 | _ :: _,[],_,h=>by simp at h
 | e :: es,p :: L,m,h=>by
  simp only [yg,List.cons.injEq,Prod.mk.injEq] at h;obtain ⟨⟨h1,h2⟩,h3⟩:=h;have ih:=find_kv ht a w es L (m + 1) h3;have he:=equal_kv (P:=P) ht a p.1 w;simp only [Instr.findAsking,Sem.run_bind,h1,he,Result.andThen_ok,dN,Sem.run_ite];by_cases hk:a=p.1
  ·simp [hk,h2]
  ·simp [hk,ih,-y3]
theorem r4 {T:TypeId} {l:List (Option IntKind)} (ht:QR P T=some (l.map HK)):gP P T (fun a:AKey l=>Value.agg ((a.1.map KV.av).map AV.scalV).toArray) where
 check empty a w:=by
  obtain ⟨hk,hA⟩:=uQ ht;exact (wO empty w 8 T _ hk 9992 _ 0 (by simp [<- a.2])).2 hA rfl
 find a es L w h:=by
  have hu:∃ desc,P.underlying T=some desc/\∀ x e,Instr.sameNow desc (.agg x) e=none:=by
   obtain ⟨hk,hA⟩:=uQ ht;unfold AJ at hA;cases hd:P.underlying T with
   | none=>rw [hd] at hA; cases hA
   | some desc =>
    refine ⟨desc,rfl,fun x e=>?_⟩;cases desc <;> rfl
  obtain ⟨desc,hu,hn⟩:=hu;cases es with
  | nil =>
   cases L with
   | nil=>simp [Instr.findKey,run_underlying hu,Instr.findNow]
   | cons=>simp at h
  | cons e es =>
   have:=find_kv ht a w (e :: es) L 0 h;simp only [Instr.findKey,Sem.run_bind,run_underlying hu,Result.andThen_ok,Instr.findNow,hn,this,jG,yG]
 same a:=by
  have hq:∀ l:List KV,(((l.map KV.av).map AV.scalV).zip ((l.map KV.av).map AV.scalV)).all (fun (x,y)=>Instr.sameBits 9999 x y)=true:=by
   intro l
   induction l with
   | nil=>rfl
   | cons c r ih =>
    simp only [yg,List.zip_cons_cons,List.all_cons,ih,Bool.and_true];cases c <;> simp [KV.av,AV.scalV,Instr.sameBits,ba_beq]
  show Instr.sameBits (9999 + 1) _ _=true;simp only [Instr.sameBits,beq_self_eq_true,Bool.true_and];exact hq a.1
theorem zero_run {e:TypeId} {z:AV} (h:((P.info? e).bind (·.zero)).bind avC=some z) (w:World):∃ zv,(zeroValue e).run P w=.ok zv w/\avC zv=some z:=by
 obtain ⟨zv,h1,h2⟩:=yb.1 h;obtain ⟨i,hi,hz⟩:=yb.1 h1;exact ⟨zv,by simp [zeroValue,typeInfo,hi,hz],h2⟩
theorem G8 {κ:Type} [DecidableEq κ] {ke:κ->Value} {kx:κ->AV} {ty:KTy} (R:uC P O nt B F0 da w0 D s a w ι Θ) (K:pR ty κ ke kx) {t n:Nat} {v:Value} (hv:MA ι (PC da ι Θ) (IC ι Θ) w (.mp t n) v) {L:List (List AV)} (hL:(s.obj t n).bind qI=some L) (hk:jK ty L=true) :
  ∃ (b:Nat) (H:Nat->Prop) (M:List (κ × AV)),v=.map (some b)/\ι t n=some b/\ι.ob t n=some H/\(∀ x,H x ↔ x=b)/\L=M.map (fun p=>[kx p.1,p.2])/\(∀ p∈M,p.2.flat=true)/\GO ke w b (M.map fun p=>(p.1,p.2.flatV))/\∃ es clock,w.heap[b]?=some (.map es clock)/\E3 es clock:=by
 obtain ⟨b,hb,rfl⟩:=hv;obtain ⟨S,hS,hm⟩:=yb.1 hL;obtain ⟨p,H,hp,kb,tc,_⟩:=R.objs t n S hS;rw [hb] at hp;injection hp with hp;subst hp;have jv:S=HF L:=by
  unfold qI at hm;split at hm
  ·injection hm with hm; subst hm; rfl
  ·cases hm
 subst jv;obtain ⟨hH,es,clock,he,lf,pb⟩:=(O.maps L H b w).1 tc;obtain ⟨M,rfl,hf⟩:=E1 K L hk;exact ⟨b,H,M,rfl,hb,kb,hH,rfl,hf,⟨es,clock,he,lf.trans (T1 K M)⟩,es,clock,he,pb⟩
theorem K0 {κ:Type} [DecidableEq κ]:∀ {M:List (κ × AV)} {n:κ} {x:AV},(∀ p∈M,p.2.flat=true)->jL M n=some x->x.flat=true
 | [],_,_,_,h=>by cases h
 | p :: r,n,x,hf,h=>by
  unfold jL at h;split at h
  ·injection h with h; subst h; exact hf p ym
  ·exact K0 (fun q hq=>hf q (yo _ hq)) h
theorem HX {κ:Type} [DecidableEq κ] {ke:κ->Value} {kx:κ->AV} {ty:KTy} (R:uC P O nt B F0 da w0 D s a w ι Θ) (K:pR ty κ ke kx) {T kT eT:TypeId} (KL:gP P kT ke) (hT:P.underlying T=some (.map kT eT)) {zero:AV} (hz:((P.info? eT).bind (·.zero)).bind avC=some zero) (hzf:zero.flat=true)
  {X I:Operand} {y i:JB} (hx:opd X=some y) (hi:opd I=some i) {ok:Bool} (ho:o.op=.lookup T X I ok) {t n:Nat} (hy:y.get s=.mp t n) {L:List (List AV)} (hL:(s.obj t n).bind qI=some L) (hk:jK ty L=true) (dc:lG ty (i.get s)=true) :
  kS P da a w ι Θ o ⟨if ok then .tup [(PH L (i.get s)).getD zero,.bool (PH L (i.get s)).isSome] else (PH L (i.get s)).getD zero,.no⟩:=by
 have hX:=(R.opd hx).1;have hI:=(R.opd hi).1;rw [hy] at hX;obtain ⟨b,H,M,hv,hb,kb,hH,rfl,hf,tc,_⟩:=G8 R K hX hL hk;obtain ⟨k,hkx⟩:=K.of _ dc;rw [hkx] at hI ⊢;have hkf:(kx k).flat=true:=K.flat k;have hIv:a.eval I=ke k:=(DS hkf hI).trans (K.val k);obtain ⟨zv,hzr,hzc⟩:=zero_run hz w;have hzv:=avC_flat hzc hzf;rw [U1 K];have md:(jL (M.map fun p=>(p.1,p.2.flatV)) k).getD zv=((jL M k).getD zero).flatV:=by
  rw [gX,hzv];cases jL M k <;> rfl
 have oi:((jL M k).getD zero).flat=true:=by
  cases hg:jL M k with
  | none=>exact hzf
  | some x=>exact K0 hf hg
 cases ok with
 | false =>
  have ca:=tc.lookup KL hT hzr k;rw [md] at ca;refine ⟨((jL M k).getD zero).flatV,by simp only [execOp,ho,hv,hIv,Sem.run_bind,ca,Result.andThen_ok,Sem.run_pure],?_,trivial⟩;exact flat_S oi
 | true =>
  have ca:=tc.lookup_ok KL hT hzr k;rw [md] at ca;have wk:(jL (M.map fun p=>(p.1,p.2.flatV)) k).isSome=(jL M k).isSome:=by rw [gX]; cases jL M k <;> rfl
  rw [wk] at ca;refine ⟨.tuple #[((jL M k).getD zero).flatV,.bool (jL M k).isSome],by simp only [execOp,ho,hv,hIv,Sem.run_bind,ca,Result.andThen_ok,Sem.run_pure],?_,trivial⟩;refine ⟨_,rfl,_,_,rfl,?_,_,_,rfl,rfl,rfl⟩;exact JG (IN oi)
theorem GO.updateS {κ:Type} [DecidableEq κ] {P:Program} {T kT eT:TypeId} {ke:κ->Value} {w:World} {m:Nat} {L:List (κ × Value)} (h:GO ke w m L) (K:gP P kT ke) (hT:P.underlying T=some (.map kT eT)) {es0:Array MapEntry} {cl0:Nat} (h0:w.heap[m]?=some (.map es0 cl0)) (pb:E3 es0 cl0) (k:κ) (v:Value) :
  ∃ es clock,(Instr.mapUpdate T (.map (some m)) (ke k) v).run P w=.ok () { w with heap:=w.heap.setIfInBounds m (.map es clock) }/\es.toList.map (fun e=>(e.key,e.val))=(DZ L k v).map (fun p=>(ke p.1,p.2))/\E3 es clock:=by
 obtain ⟨es,clock,h1,h2⟩:=h;rw [h1] at h0;injection h0 with h0;injection h0 with e1 e2;subst e1;subst e2;obtain ⟨s1,s2⟩:=pb;have hg:(getObj m).run P w=.ok (.map es clock) w:=by simp [getObj,Sem.run,h1]
 have hf:=K.find k es.toList L w h2;have hi:=idx_set L k v;have hl:es.toList.length=L.length:=by simpa using congrArg List.length h2
 cases hq:(L.map (·.1)).idxOf? k with
 | none =>
  rw [hq] at hf hi;refine ⟨es.push { key:=ke k,val:=v,born:=clock },clock + 1,?_,by rw [hi]; simp [h2],by simp [s1],fun i h=>?_⟩
  case refine_2 =>
   simp only [Array.size_push] at h;simp only [Array.getElem_push];split
   ·exact s2 _ _
   ·show clock=i;omega
  case refine_1 =>
   simp only [Instr.mapUpdate,Sem.run_bind,run_underlying hT,Result.andThen_ok,hg,K.check,hf,Option.bind_none];simp [setObj,Sem.run,h1]
 | some i =>
  rw [hq] at hf hi;have rp:i<L.length:=by have:=List.idxOf?_eq_some_iff.1 hq; simpa using this.1
  have hk:(L[i]).1=k:=by have:=List.idxOf?_eq_some_iff.1 hq; simpa using this.2.1
  have bg:i<es.size:=by
   have:es.size=L.length:=by simpa using hl
   omega
  have dc:(es[i]).key=ke k:=by
   have:=congrArg (fun l=>(l[i]?).map (·.1)) h2;simp only [ye,Array.getElem?_toList,yY bg,yx,y5 rp,hk,Option.some.injEq] at this;exact this
  refine ⟨es.modify i fun e=>{ e with key:=ke k,val:=v },clock,?_,?_,by simp [s1],fun j h=>?_⟩
  case refine_3 =>
   simp only [Array.getElem_modify];split <;> exact s2 _ _
  case refine_1 =>
   have hL:L[i]?=some L[i]:=y5 rp;have he:es[i]?=some es[i]:=yY bg;simp only [Instr.mapUpdate,Sem.run_bind,run_underlying hT,Result.andThen_ok,hg,K.check,hf,V,hL,yx,he,Option.getD_some,dc];simp [Instr.keyThatStays,K.same,setObj,Sem.run,h1]
  case refine_2 =>
   rw [hi];apply List.ext_getElem?;intro j;have hj:=congrArg (fun l=>l[j]?) h2;simp only [ye,Array.getElem?_toList] at hj;simp only [ye,Array.getElem?_toList,Array.getElem?_modify,List.getElem?_set];by_cases ou:i=j
   ·subst ou;simp [yY bg,rp]
   ·simp only [if_neg ou];exact hj
theorem GN {κ:Type} [DecidableEq κ] {ke:κ->Value} {kx:κ->AV} {ty:KTy} (R:uC P O nt B F0 da w0 D s a w ι Θ) (K:pR ty κ ke kx) {T kT eT:TypeId} (KL:gP P kT ke) (hT:P.underlying T=some (.map kT eT))
  {X I Y:Operand} {x i y:JB} (hx:opd X=some x) (hi:opd I=some i) (hyo:opd Y=some y) (ho:o.op=.mapUpdate T X I Y\/o.op=.insert T X I Y) (hd:∀ d,o.dst=some d->d<nt) {t n:Nat} (ic:x.get s=.mp t n) {L:List (List AV)} (hL:(s.obj t n).bind qI=some L) (hk:jK ty L=true) (dc:lG ty (i.get s)=true) (hvf:(y.get s).flat=true) :
  ∃ w',(execOp a.eval o).run P w=.ok .skip w'/\ID P O nt B F0 da w0 D ((s.setObj t n (HF (EG L (i.get s) (y.get s)))).put o.dst ⟨.undef,.no⟩) (a.put o.dst undef) w':=by
 have hX:=(R.opd hx).1;have hI:=(R.opd hi).1;have hY:=DS hvf (R.opd hyo).1;rw [ic] at hX;obtain ⟨b,H,M,hv,hb,kb,hH,rfl,hf,tc,es0,cl0,hes0,mw⟩:=G8 R K hX hL hk;obtain ⟨k,hkx⟩:=K.of _ dc;rw [hkx] at hI ⊢;have hkf:(kx k).flat=true:=K.flat k;have hIv:a.eval I=ke k:=(DS hkf hI).trans (K.val k);have fa:=tc.lt;obtain ⟨es,clock,ca,lf,pb⟩:=tc.updateS KL hT hes0 mw k (y.get s).flatV;rw [D9] at lf;have sh:O.at_ (HF (EG (M.map fun p=>[kx p.1,p.2]) (kx k) (y.get s))) H b { w with heap:=w.heap.setIfInBounds b (.map es clock) }:=by
  refine (O.maps _ _ _ _).2 ⟨hH,es,clock,by simp [fa],?_,pb⟩;rw [I1 K,T1 K];exact lf
 have si:WD H w { w with heap:=w.heap.setIfInBounds b (.map es clock) }:=⟨rfl,rfl,rfl,by simp,fun j _ hn=>by
  have:j≠b:=fun e=>hn ((hH j).2 e)
  simp only [Array.getElem?_setIfInBounds];rw [if_neg fun e:b=j=>this e.symm]⟩
 obtain ⟨ι',R2,_⟩:=R.turnObj hb kb sh (r5.no rfl) (fun x hx=>.inl hx) si;refine ⟨_,by rcases ho with ho | ho <;> simp only [execOp,ho,hv,hIv,hY,Sem.run_bind,ca,Result.andThen_ok,Sem.run_pure],ι',Θ,R2.putN (x:=⟨.undef,.no⟩) hd trivial trivial⟩
section
variable (R:uC P O nt B F0 da w0 D s a w ι Θ)
include R
theorem op_mkm {T:TypeId} (ho:o.op=.makeMap T none) {d:Nat} (ba:o.dst=some d) (hd:d<nt) (hD:¬ D d) :
  ∃ v w',(execOp a.eval o).run P w=.ok (.value v) w'/\ID P O nt B F0 da w0 (fun t=>D t\/t=d) ((s.setObj d s.next (HF [])).put (some d) ⟨.mp d s.next,.no⟩) (a.put o.dst v) w':=by
 have ca:(execOp a.eval o).run P w=.ok (.value (.map (some w.heap.size))) (w.alloc (.map #[] 0)):=by
  simp [execOp,ho,Instr.makeMap]
 have hb:Below w.heap.size w (w.alloc (.map #[] 0)):=Below.alloc (Below.refl _ _) (yn _) _;obtain ⟨ι',R2,hι,_⟩:=R.newObj (d:=d) (p:=w.heap.size) (H:=fun b=>b=w.heap.size) (S:=HF []) hb hD ((O.maps _ _ _ _).2 ⟨fun b=>Iff.rfl,#[],0,CR rfl,rfl,rfl,fun i h=>absurd h (by simp)⟩) (r5.no rfl) (fun b h=>Nat.le_of_eq h.symm);rw [ba];exact ⟨_,_,ca,ι',Θ,R2.put (x:=⟨.mp d s.next,.no⟩) hd ⟨_,hι,rfl⟩ trivial⟩
theorem op_rng {T kT eT:TypeId} (hT:P.underlying T=some (.map kT eT)) {X:Operand} {x:JB} (hx:opd X=some x) (ho:o.op=.range T X) {t n:Nat} (ic:x.get s=.mp t n) {L:List (List AV)} (hL:(s.obj t n).bind qI=some L) {d:Nat} (ba:o.dst=some d) (hd:d<nt) (hD:¬ D d) :
  ∃ v w',(execOp a.eval o).run P w=.ok (.value v) w'/\ID P O nt B F0 da w0 (fun t=>D t\/t=d) ((s.setObj d s.next (BS t n L.length [])).put (some d) ⟨.ptr d s.next 0,.no⟩) (a.put o.dst v) w':=by
 have hX:=(R.opd hx).1;rw [ic] at hX;obtain ⟨b,hb,hv⟩:=hX;obtain ⟨S,hS,hm⟩:=yb.1 hL;obtain ⟨p,H,hp,kb,tc,_⟩:=R.objs t n S hS;rw [hb] at hp;injection hp with hp;subst hp;have jv:S=HF L:=by
  unfold qI at hm;split at hm
  ·injection hm with hm; subst hm; rfl
  ·cases hm
 subst jv;obtain ⟨hH,es,clock,he,lf,hc,_⟩:=(O.maps L H b w).1 tc;have ia:es.size=L.length:=by simpa using congrArg List.length lf
 have hg:(getObj b).run P w=.ok (.map es clock) w:=by simp [getObj,Sem.run,he]
 have ca:(execOp a.eval o).run P w=.ok (.value (.pointer (some ⟨w.heap.size,0,none⟩))) (w.alloc (.mapIter (some b) clock #[] clock)):=by
  simp only [execOp,ho,hv,Instr.range,Sem.run_bind,run_underlying hT,Result.andThen_ok,hg,Sem.run_pure,run_newObj_alloc]
 have tj:Below w.heap.size w (w.alloc (.mapIter (some b) clock #[] clock)):=Below.alloc (Below.refl _ _) (yn _) _;obtain ⟨ι',R2,hι,_⟩:=R.newObj (d:=d) (p:=w.heap.size) (H:=fun b=>b=w.heap.size) (S:=BS t n L.length []) tj hD ((O.iters _ _ _ _ (by rw [iN]; rfl)).2 ⟨fun b=>Iff.rfl,by simp⟩) (fun tm nm N seen e=>by
  rw [iN] at e;injection e with e;injection e with g1 e;injection e with g2 e;injection e with g3 g4;subst g1; subst g2; subst g3; subst g4;exact ⟨b,H,hb,kb,by rw [<- ia,<- hc]; exact CR rfl⟩) (fun b h=>Nat.le_of_eq h.symm)
 rw [ba];exact ⟨_,_,ca,ι',Θ,R2.put (x:=⟨.ptr d s.next 0,.no⟩) hd ⟨_,hι,rfl⟩ trivial⟩
theorem val_ent {X:Operand} {x:JB} (hx:opd X=some x) (ho:o.op=.entry X) {t n tm nm N:Nat} {seen:List Nat} (ic:x.get s=.ptr t n 0) (hi:(s.obj t n).bind CV=some (tm,nm,N,seen)) {L:List (List AV)} (hL:(s.obj tm nm).bind qI=some L) {i:Nat} (hl:seen.getLast?=some i) (hN:L.length=N) {y v:AV} (uo:L[i]?=some [y,v]) (eh:(y.flat&&v.flat)=true) :
  kS P da a w ι Θ o ⟨.tup [y,v],.no⟩:=by
 have hX:=(R.opd hx).1;rw [ic] at hX;obtain ⟨q,hq,hv⟩:=hX;obtain ⟨S,hS,ll⟩:=yb.1 hi;obtain ⟨p,H,hp,kb,tc,mj⟩:=R.objs t n S hS;rw [hq] at hp;injection hp with hp;subst hp;obtain ⟨m,Hm,hm,hobm,oa⟩:=mj tm nm N seen ll;obtain ⟨S2,hS2,xp⟩:=yb.1 hL;obtain ⟨p2,H2,ui,bt,ry,_⟩:=R.objs tm nm S2 hS2;rw [hm] at ui;injection ui with ui;subst ui;have jv:S2=HF L:=by
  unfold qI at xp;split at xp
  ·injection xp with xp; subst xp; rfl
  ·cases xp
 subst jv;obtain ⟨hH2,es,clock,he,lf,hc,pb⟩:=(O.maps L H2 m w).1 ry;have ez:es.size=N:=by rw [<- hN]; simpa using congrArg List.length lf
 have hgq:(getObj q).run P w=.ok (.mapIter (some m) N seen.toArray N) w:=by simp [getObj,Sem.run,oa]
 have nu:(getObj m).run P w=.ok (.map es clock) w:=by simp [getObj,Sem.run,he]
 have wh:i<es.size:=by
  have:=(yf.1 uo).1;omega
 have zn:seen.toArray.back?=some i:=by simpa using hl
 have hfind:es.find? (fun e=>e.born == i)=some es[i]:=by
  rw [Array.find?_eq_some_iff_getElem];refine ⟨by simp [pb i wh],i,wh,rfl,fun j hj=>?_⟩;simp only [pb j (by omega),Bool.not_eq_true'];simp;omega
 have hkv:es[i].key=y.flatV/\es[i].val=v.flatV:=by
  have:=congrArg (fun l=>l[i]?) lf;simp only [ye,uo,Array.getElem?_toList,yY wh,yx,Option.some.injEq,entV] at this;exact ⟨congrArg Prod.fst this,congrArg Prod.snd this⟩
 rw [y9] at eh;have dd:(clock != N)=false:=by simp [hc,ez]
 refine ⟨.tuple #[y.flatV,v.flatV],?_,?_,trivial⟩
 ·simp only [execOp,ho,hv,Instr.entry,Sem.run_bind,hgq,nu,zn,Result.andThen_ok,dd,yt,if_false,hfind,hkv.1,hkv.2,Sem.run_pure]
 ·exact ⟨_,rfl,_,_,rfl,JG (IN eh.1),_,_,rfl,JG (IN eh.2),rfl⟩
end
theorem avOf_nilP {v:Value} (h:pZ v=some .nilP):v=.pointer none:=by
 unfold pZ at h;split at h <;> first | rfl | (injection h with h; cases h; done) | (cases h; done)
theorem avOf_nil {v:Value} (h:pZ v=some (.sl true [])):v=.slice none 0 0:=by
 unfold pZ at h;split at h <;> first | rfl | (injection h with h; cases h; done) | (cases h; done)
theorem isBld_eq {l:List AV} (h:isBld l=true):l=[.nilP,.sl true []]:=by
 unfold isBld at h;split at h
 ·rfl
 ·cases h
theorem avAll_bld {vs:List Value} (h:CK vs=some [.nilP,.sl true []]):vs=[.pointer none,.slice none 0 0]:=by
 cases vs with
 | nil=>cases h
 | cons v r =>
  simp only [CK] at h;split at h
  ·rename_i x l hx hl;injection h with h;injection h with h1 h2;subst h1;subst h2;cases r with
   | nil=>cases hl
   | cons v' r' =>
    simp only [CK] at hl;split at hl
    ·rename_i x' l' gl jq;injection hl with hl;injection hl with h1 h2;subst h1;subst h2;cases r' with
     | nil=>rw [avOf_nilP hx,avOf_nil gl]
     | cons v'' r'' =>
      simp only [CK] at jq;split at jq <;> cases jq
    ·cases hl
  ·cases h
section
variable (R:uC P O nt B F0 da w0 D s a w ι Θ)
include R
theorem op_mkb {T e:TypeId} (jc:bldEl P T=some e) (ho:o.op=.alloc T) {d:Nat} (ba:o.dst=some d) (hd:d<nt) (hD:¬ D d) :
  ∃ v w',(execOp a.eval o).run P w=.ok (.value v) w'/\ID P O nt B F0 da w0 (fun t=>D t\/t=d) ((s.setObj d s.next (bldAV T e ⟨#[]⟩)).put (some d) ⟨.ptr d s.next 0,.no⟩) (a.put o.dst v) w':=by
 obtain ⟨l,hl,hb⟩:∃ l,pL P T=some l/\isBld l=true:=by
  unfold bldEl at jc;split at jc
  ·rename_i h; exact yj.1 h
  ·cases jc
 obtain ⟨z,i,hi,ao,hrz,wn⟩:=bH hl w;rw [isBld_eq hb] at wn;have hzc:z.cells=#[.pointer none,.slice none 0 0]:=by
  apply Array.ext';exact avAll_bld wn
 have ca:(execOp a.eval o).run P w=.ok (.value (.pointer (some ⟨w.heap.size,0,none⟩))) (w.alloc (.cells #[.pointer none,.slice none 0 0] T)):=by
  simp [execOp,ho,Instr.alloc,newVar,newRow,hrz,hzc]
 have hb:Below w.heap.size w (w.alloc (.cells #[.pointer none,.slice none 0 0] T)):=Below.alloc (Below.refl _ _) (yn _) _;obtain ⟨ι',R2,hι,_⟩:=R.newObj (d:=d) (p:=w.heap.size) (H:=fun b=>b=w.heap.size) (S:=bldAV T e ⟨#[]⟩) hb hD ((O.blds _ _ _ _ _ _).2 ⟨.slice none 0 0,.pointer none,CR rfl,.inl rfl,World.ownsRowF_nil _ _ _ _,by simp [Value.ownBlock],fun b=>by simp [Value.ownBlock]⟩) (r5.no rfl) (fun b h=>Nat.le_of_eq h.symm);rw [ba];exact ⟨_,_,ca,ι',Θ,R2.put (x:=⟨.ptr d s.next 0,.no⟩) hd ⟨_,hι,rfl⟩ trivial⟩
theorem op_mlen {T:TypeId} {kT eT:TypeId} (hT:P.underlying T=some (.map kT eT)) {X:Operand} {x:JB} (hx:opd X=some x) (ho:o.op=.call { callee:=.builtin .len,args:=#[X],argTypes:=#[T] }) {t n:Nat} (ic:x.get s=.mp t n) {L:List (List AV)} (hL:(s.obj t n).bind qI=some L) :
  kS P da a w ι Θ o ⟨.int .i64 L.length,.no⟩:=by
 have hX:=(R.opd hx).1;rw [ic] at hX;obtain ⟨b,hb,hv⟩:=hX;obtain ⟨S,hS,hm⟩:=yb.1 hL;obtain ⟨p,H,hp,kb,tc,_⟩:=R.objs t n S hS;rw [hb] at hp;injection hp with hp;subst hp;have jv:S=HF L:=by
  unfold qI at hm;split at hm
  ·injection hm with hm; subst hm; rfl
  ·cases hm
 subst jv;obtain ⟨hH,es,clock,he,lf,_⟩:=(O.maps L H b w).1 tc;have ia:es.size=L.length:=by simpa using congrArg List.length lf
 have hg:(getObj b).run P w=.ok (.map es clock) w:=by simp [getObj,Sem.run,he]
 refine ⟨.int .i64 L.length,?_,by rw [fB],trivial⟩;simp [execOp,ho,resolve,invoke,builtin,Builtin.len_,run_underlying hT,hv,hg,goInt,ia]
theorem uC.turnNew {t n p:Nat} {H H':Nat->Prop} {S':AV} (hp:ι t n=some p) (kb:ι.ob t n=some H) (tc:O.at_ S' H' p w') (mj:r5 ι S' p w') (hH:∀ b,H' b->H b\/w.heap.size<=b) (hk:WD H w w')
  {d g:Nat} (hD:¬ D d) (hg:w.heap.size<=g) (hgH:¬ H' g) {cur:Array Value} {ty:TypeId} (hgw:w'.heap[g]?=some (.cells cur ty (0,0))) {l:List AV} (hl:l.all AV.scal=true) (ne:∀ (j:Nat) (x:AV),l[j]?=some x->cur[j]?=some x.scalV) (aj:l.length<=cur.size) :
  ∃ ι':Ix,uC P O nt B F0 da w0 (fun j=>D j\/j=d) ((s.setObj t n S').setRow d s.next (l.map (⟨·,.no⟩))) a w' ι' Θ/\ι' d s.next=some g/\ι'.z g=cur.size:=by
 obtain ⟨xm,bt⟩:=R.obs t n H kb;have bz:=IA hgw;have ud:ι d s.next=none:=by
  cases h:ι d s.next with
  | none=>rfl
  | some b =>
   rcases (R.mine _ _ _ h).2.2 with h1 | h1
   ·omega
   ·exact absurd h1.2 hD
 have wd:ι.ob d s.next=none:=by
  cases h:ι.ob d s.next with
  | none=>rfl
  | some b =>
   rcases (R.obs _ _ _ h).2 with h1 | h1
   ·omega
   ·exact absurd h1.2 hD
 have cw:¬ (t=d/\n=s.next):=fun e=>by rw [e.1,e.2,ud] at hp; cases hp
 obtain ⟨ι',hι'⟩:∃ ι':Ix,ι'=⟨fun t' n'=>if t'=d/\n'=s.next then some g else ι t' n',fun t' n'=>if t'=t/\n'=n then some H' else ι.ob t' n',fun b=>if b=g then cur.size else ι.z b⟩:=⟨_,rfl⟩;have hf:∀ t' n' b,ι' t' n'=some b->(t'=d/\n'=s.next/\b=g)\/(¬ (t'=d/\n'=s.next)/\ι t' n'=some b):=fun t' n' b h=>by
  subst hι';have h':(if t'=d/\n'=s.next then some g else ι t' n')=some b:=h;split at h'
  ·rename_i e; injection h' with h'; exact .inl ⟨e.1,e.2,h'.symm⟩
  ·rename_i e; exact .inr ⟨e,h'⟩
 have nh:∀ t' n' H1,ι'.ob t' n'=some H1->(t'=t/\n'=n/\H1=H')\/(¬ (t'=t/\n'=n)/\ι.ob t' n'=some H1):=fun t' n' H1 h=>by
  subst hι';simp only at h;split at h
  ·rename_i e; injection h with h; exact .inl ⟨e.1,e.2,h.symm⟩
  ·rename_i e; exact .inr ⟨e,h⟩
 have oc:∀ t n b,ι t n=some b->ι' t n=some b:=fun t n b h=>by
  subst hι';show (if t=d/\n=s.next then some g else ι t n)=some b;split
  ·rename_i e; rw [e.1,e.2,ud] at h; cases h
  ·exact h
 have sb:ι' d s.next=some g:=by subst hι'; show (if d=d/\s.next=s.next then some g else ι d s.next)=_; rw [if_pos ⟨rfl,rfl⟩]
 have jw:ι'.ob t n=some H':=by subst hι'; simp
 have jt:∀ t' n',¬ (t'=t/\n'=n)->ι'.ob t' n'=ι.ob t' n':=fun t' n' e=>by subst hι'; simp only [if_neg e]
 have hzg:ι'.z g=cur.size:=by subst hι'; simp
 have pg:∀ t1 n1 b1 H1,ι t1 n1=some b1->ι.ob t1 n1=some H1->ι' t1 n1=some b1/\∃ H2,ι'.ob t1 n1=some H2:=fun t1 n1 b1 H1 g1 g2=>⟨oc _ _ _ g1,by
  by_cases e:t1=t/\n1=n
  ·exact ⟨H',by rw [e.1,e.2]; exact jw⟩
  ·exact ⟨H1,by rw [jt _ _ e]; exact g2⟩⟩
 have ub:Ix.Le ι ι':=⟨oc,fun t n b h=>by
  have:=(R.mine t n b h).2.1;subst hι';show (if b=g then cur.size else ι.z b)=ι.z b;rw [if_neg (by omega)]⟩
 clear hι';have ac:=hk.size;have uq:=R.lowB;have ii:∀ b o,b<w.heap.size->IC ι' Θ b o->IC ι Θ b o:=fun b o hb h=>h.imp (fun h=>h.imp (fun ⟨t',n',h⟩=>by
  rcases hf _ _ _ h with ⟨_,_,e⟩ | ⟨_,h⟩
  ·omega
  ·exact ⟨t',n',h⟩) fun ⟨t',n',H1,h1,h2⟩=>by
  rcases nh _ _ _ h1 with ⟨e1,e2,e3⟩ | ⟨_,h1⟩
  ·subst e3;rcases hH b h2 with h3 | h3
   ·exact ⟨t,n,H,kb,h3⟩
   ·omega
  ·exact ⟨t',n',H1,h1,h2⟩) id
 have mb:∀ b o u,w.cell? ⟨b,o,none⟩=some u->¬ H b->w'.cell? ⟨b,o,none⟩=some u:=fun b o u hc hn=>(World.cell?_of_block (w:=w) (a:=⟨b,o,none⟩) (hk.block b (QI hc) hn)).trans hc
 have hB:BA (IC ι Θ) (IC ι' Θ) w w':=⟨fun b o u hc hn=>⟨mb b o u hc fun h=>hn (.inl (.inr ⟨t,n,H,kb,h⟩)),fun h=>hn (ii b o (QI hc) h)⟩⟩;have hA:BA (PC da ι Θ) (PC da ι' Θ) w w':=⟨fun b o u hc hn=>⟨mb b o u hc fun h=>hn (.inr (.inl (.inr ⟨t,n,H,kb,h⟩))),fun h=>hn (h.imp id (ii b o (QI hc)))⟩⟩;refine ⟨ι',⟨R.defers,R.size,fun j=>MA.held ub hA hB _ _ (R.env j),R.ann,fun t' n' r hr=>?_,fun t' n' b h=>?_,fun t1 n1 t2 n2 b h h'=>?_,fun k o h=>?_,R.tinj,fun k o t' n' h h'=>?_,R.out,fun p' h=>⟨oc _ _ _ (R.pin p' h).1,?_⟩,?_,R.base,fun t' n' S1 h=>?_,fun t' n' H1 h=>?_,fun j=>MA.held ub hA hB _ _ (R.gen j),R.gann⟩,sb,hzg⟩
 ·simp only [pA.setRow] at hr;split at hr
  ·rename_i e;injection hr with hr;subst hr;have hoo:ι'.ob t' n'=none:=by
    rw [jt t' n' (fun e'=>cw ⟨e'.1.symm.trans e.1,e'.2.symm.trans e.2⟩),e.1,e.2];exact wd
   refine ⟨hoo,g,cur,ty,by rw [e.1,e.2]; exact sb,hgw,⟨by simpa using aj,fun j x hx=>?_⟩,by omega,hzg.symm⟩;rw [ye] at hx;cases hj:l[j]? with
   | none=>rw [hj] at hx; cases hx
   | some y =>
    rw [hj] at hx;injection hx with hx;subst hx;have hy:=y6.1 hl y (yl hj);have hr:=CN (av:=PC da ι' Θ) (w:=w') hy;exact ⟨_,ne j y hj,hr.2,XK hr.1,trivial⟩
  ·have ze:s.mem t' n'=some r:=hr;obtain ⟨h0,b,jb,zo,h1,h2,h3,h8,h9⟩:=R.rows t' n' r ze;have la:¬ (t'=t/\n'=n):=fun e=>by rw [e.1,e.2,kb] at h0; cases h0
   have hbn:¬ H b:=fun hb=>la ((xm b hb).2.2.1 t' n' h1)
   exact ⟨by rw [jt _ _ la]; exact h0,b,jb,zo,oc _ _ _ h1,(hk.block b (IA h2) hbn).trans h2,h3.held ub hA (fun _ _ h=>h),h8,h9.trans (ub.z _ _ _ h1).symm⟩
 ·rcases hf _ _ _ h with ⟨e1,e2,e3⟩ | ⟨_,h⟩
  ·subst e3;exact ⟨.inl (by omega),bz,.inr ⟨e2,.inr e1⟩⟩
  ·obtain ⟨h1,h2,h3⟩:=R.mine t' n' b h;exact ⟨h1,by omega,h3.imp id fun ⟨e,d⟩=>⟨e,.inl d⟩⟩
 ·rcases hf _ _ _ h with ⟨e1,e2,e3⟩ | ⟨_,h⟩ <;> rcases hf _ _ _ h' with ⟨f1,f2,f3⟩ | ⟨_,h'⟩
  ·exact ⟨e1.trans f1.symm,e2.trans f2.symm⟩
  ·have:=(R.mine _ _ _ h').2.1; omega
  ·have:=(R.mine _ _ _ h).2.1; omega
  ·exact R.inj _ _ _ _ _ h h'
 ·obtain ⟨h1,h2,h3,h4,jb,h5,h6⟩:=R.tok k o h;exact ⟨h1,h2,h3,h4,jb,(hk.block _ (IA h5) (R.apob h kb)).trans h5,h6⟩
 ·obtain ⟨_,_,_,_,jb,h5,_⟩:=R.tok k o h;have fa:=IA h5;rcases hf _ _ _ h' with ⟨_,_,e⟩ | ⟨_,h'⟩
  ·omega
  ·exact R.apart k o t' n' h h'
 ·rcases (R.pin p' h).2 with hr0 | ⟨H1,h1⟩
  ·exact .inl ⟨hr0.1,(ub.z _ _ _ (R.pin p' h).1).trans hr0.2⟩
  refine .inr ?_;by_cases e:0=t/\0=n
  ·exact ⟨H',by rw [<- e.1,<- e.2] at jw; exact jw⟩
  ·exact ⟨H1,by rw [jt _ _ e]; exact h1⟩
 ·refine R.kept.trans hk fun i hi h=>?_
  have:=R.base;rcases (xm i h).1 with h1 | h1
  ·omega
  ·exact h1
 ·simp only [pA.setRow,pA.setObj] at h;split at h
  ·rename_i e;injection h with h;subst h;exact ⟨p,H',by rw [e.1,e.2]; exact oc _ _ _ hp,by rw [e.1,e.2]; exact jw,tc,mj.keep pg fun x hx=>hx⟩
  ·rename_i e;obtain ⟨p1,H1,h1,h2,h3,h4⟩:=R.objs t' n' S1 h;have ko:∀ b,H1 b->¬ H b:=fun b hb ta=>e ((xm b ta).2.2.2.2 t' n' H1 h2 hb)
   exact ⟨p1,H1,oc _ _ _ h1,by rw [jt _ _ e]; exact h2,O.keep h3 (fun b hb=>hk.block b (O.lt h3 hb) (ko b hb)) ac,h4.keep pg fun x hx=>(hk.block _ (IA hx) (ko _ (O.main h3))).trans hx⟩
 ·rcases nh _ _ _ h with ⟨e1,e2,e3⟩ | ⟨e,h⟩
  ·subst e1; subst e2; subst e3;refine ⟨fun b hb=>?_,bt.imp id fun ⟨e,d⟩=>⟨e,.inl d⟩⟩;have hbg:b≠g:=fun e=>hgH (e ▸ hb)
   rcases hH b hb with h1 | h1
   ·obtain ⟨g1,g2,g3,g4,g5⟩:=xm b h1;refine ⟨g1,by omega,fun t1 n1 h2=>?_,g4,fun t1 n1 H2 h2 h3=>?_⟩
    ·rcases hf _ _ _ h2 with ⟨_,_,e⟩ | ⟨_,h2⟩
     ·exact absurd e hbg
     ·exact g3 t1 n1 h2
    ·rcases nh _ _ _ h2 with ⟨e1,e2,_⟩ | ⟨_,h2⟩
     ·exact ⟨e1,e2⟩
     ·exact g5 t1 n1 H2 h2 h3
   ·refine ⟨.inl (by omega),O.lt tc hb,fun t1 n1 h2=>?_,fun k o h2 e=>?_,fun t1 n1 H2 h2 h3=>?_⟩
    ·rcases hf _ _ _ h2 with ⟨_,_,e⟩ | ⟨_,h2⟩
     ·exact absurd e hbg
     ·have:=(R.mine _ _ _ h2).2.1; omega
    ·obtain ⟨_,_,_,_,jb,h5,_⟩:=R.tok k o h2; have:=IA h5; omega
    ·rcases nh _ _ _ h2 with ⟨e1,e2,_⟩ | ⟨_,h2⟩
     ·exact ⟨e1,e2⟩
     ·have:=((R.obs _ _ _ h2).1 b h3).2.1; omega
  ·obtain ⟨h1,h2⟩:=R.obs t' n' H1 h;refine ⟨fun b hb=>?_,h2.imp id fun ⟨e,d⟩=>⟨e,.inl d⟩⟩;obtain ⟨g1,g2,g3,g4,g5⟩:=h1 b hb;refine ⟨g1,by omega,fun t1 n1 h2=>?_,g4,fun t1 n1 H2 h2 h3=>?_⟩
   ·rcases hf _ _ _ h2 with ⟨_,_,e'⟩ | ⟨_,h2⟩
    ·omega
    ·exact g3 t1 n1 h2
   ·rcases nh _ _ _ h2 with ⟨e1,e2,e3⟩ | ⟨_,h2⟩
    ·subst e3;rcases hH b h3 with h4 | h4
     ·have:=g5 t n H kb h4;exact absurd ⟨this.1.symm,this.2.symm⟩ e
     ·omega
    ·exact g5 t1 n1 H2 h2 h3
theorem op_callf {call:iB} (ua:∀ f args S r,call f args S=some r->aD P O f args S r) {f:FuncId} {Xs:Array Operand} {ts:Array TypeId} {xs:List JB} (hx:AH Xs.toList=some xs) (ho:o.op=.call { callee:=.value (.func f),args:=Xs,argTypes:=ts }) (hd:∀ d,o.dst=some d->d<nt) (hD:∀ d,o.dst=some d->¬ D d) {cl:Cl} {sz:Nat} (ac:0<sz) {xe:wA × zD} (hr:(K.callf cl f sz xs).run call s=some xe) {g} {s':pA} (he:WA.eff ⟨o.dst,.callf cl f sz xs,g⟩ s xe=some s')
  {Kn:Act->World->Prop} {Q:Exit->Act->World->Prop} (hK:∀ a' w',ID P O nt B F0 da w0 (fun t=>D t\/o.dst=some t) s' a' w'->Kn a' w'):o.wp P a w Kn Q:=by
 simp only [K.run] at hr;obtain ⟨vs,hl,hr⟩:=yb.1 hr;have uf:(Xs.toList.map a.eval).toArray=Xs.map a.eval:=by rw [<- Array.toList_map,yV]
 have pe:∀ b o,PC da ι Θ b o->b<w.heap.size:=fun b o h=>R.low h
 split at hr
 ·rename_i t n gn;obtain ⟨r,hc,hr⟩:=yb.1 hr;split at hr
  ·rename_i l S';split at hr
   ·rename_i aa;obtain ⟨wk,td,hscal,iw⟩:=aa;obtain ⟨S,hS⟩:=Option.isSome_iff_exists.1 wk;rw [hS] at hc;have na:t3 P O f vs (some S) (.sl false l,some S'):=aD.own (xQ hl) (ua f (.undef :: vs) (some S) _ hc);obtain ⟨p,H,hp,kb,tc,_⟩:=R.objs t n S hS;have lc:=eL (ι':=Ix.one p) (avl:=fun b _=>H b) R (fun b _ h=>⟨t,n,H,kb,h⟩) hx hl fun x hx t' n' h=>by
     have:(t',n')∈RJ s xs:=List.mem_filterMap.2 ⟨x,hx,by rw [h]⟩;rw [gn] at this;have:=yS.1 this;injection this with e1 e2;rw [e1,e2,hp];rfl
    have ca:(execOp a.eval o).run P w=.ok (.enter f (Xs.map a.eval)) w:=by
     simp only [execOp,ho,resolve,Act.eval,Deferred.ofValue,Sem.run_bind,Sem.run_pure,Result.andThen_ok,invoke];have:=na.1 (#[]++Xs.map a.eval++#[]) w;simp only [Array.empty_append,Array.append_empty] at this ⊢;exact this
    unfold Oper.wp;rw [ca,Oper.upon_enter];have hC:=na.2 (PC da ι Θ) w _ p H pe (fun b o h=>.inr (.inl (.inr ⟨t,n,H,kb,h⟩))) tc lc;rw [uf] at hC;refine hC.mono ?_;rintro e w' ⟨v,H',rfl,hv,sh,hH,hk⟩;split at hr
    ·rename_i er;injection hr with hr;subst hr;simp only [WA.eff] at he;injection he with he;subst he;have fh:l=[]:=by simpa using er
     subst fh;obtain ⟨ι',R',pd⟩:=R.turnObj hp kb sh (r5.no iw) hH hk;have hv':∃ A c,v=.slice A 0 c/\(A=none->c=0):=by
      rcases hv with ⟨_,A,c,h1,h2⟩ | ⟨g,c,cur,ty,h1,_⟩
      ·exact ⟨A,c,h1,h2⟩
      ·exact ⟨_,c,h1,fun h=>by cases h⟩
     obtain ⟨A,c,rfl,hA⟩:=hv';refine hK _ _ ⟨ι',Θ,(R'.putN (x:=⟨.sl false [],.no⟩) hd ?_ trivial).more fun _ h=>.inl h⟩;rw [CD];simp only [xE,List.length_nil];exact ⟨A,c,rfl,Nat.zero_le _,(fun x hx=>by cases hx),(fun h=>by cases h),fun _=>⟨hA,fun h=>absurd h (Nat.lt_irrefl 0)⟩⟩
    ·rename_i er;injection hr with hr;subst hr;cases ba:o.dst with
     | none=>simp [WA.eff,ba] at he
     | some d =>
      simp only [WA.eff,ba] at he;injection he with he;subst he;have la:l≠[]:=fun h=>er (by simp [h])
      have db:0<l.length:=List.length_pos_iff.2 la;rcases hv with ⟨h0,_⟩ | ⟨g,c,cur,ty,rfl,h2,h3,h4,h5,h6,h7⟩
      ·exact absurd h0 la
      ·have gr:=h6 sz td db;have eh:l.flatten.length=l.length * sz:=by
        have hind:∀ q:List (List AV),lB sz q=true->q.flatten.length=q.length * sz:=fun q=>by
         induction q with
         | nil=>simp
         | cons c r ih =>
          intro h;rw [SR] at h;simp only [y9,decide_eq_true_eq] at h;rw [yD,yy,ih h.2,h.1,yI,yA];omega
        exact hind l td
       have hsc:l.flatten.all AV.scal=true:=by
        rw [List.all_flatten];exact hscal
       obtain ⟨ι',R',hι,hz⟩:=R.turnNew (d:=d) (g:=g) hp kb sh (r5.no iw) hH hk (hD d ba) h2 h3 h4 hsc h7 (by rw [eh]; exact Nat.le_trans (Nat.mul_le_mul_right _ h5) gr);refine hK _ _ ⟨ι',Θ,?_⟩;rw [ba];exact (R'.put (x:=⟨.ref d s.next sz 0 l.length l.length,.no⟩) (hd d ba) ⟨g,hι,yn _,c,h5,by rw [hz,yG]; exact gr,rfl⟩ trivial).more fun t h=>h.imp id fun e=>by rw [e]
   ·cases hr
  ·cases hr
 ·cases hr
end
end
end
section
open Go Go.RowKit
section
variable {P:Program} {O:rH} {nt B:Nat} {F0:qP} {da:Av} {w0:World} {D:Nat->Prop} {s:pA} {a:Act} {w w':World} {ι:Ix} {Θ:aL} {o:Oper}
theorem wC (R:uC P O nt B F0 da w0 D s a w ι Θ) {x:wA} {e:zD} (hv:e=.none/\kS P da a w ι Θ o x) (hd:∀ d,o.dst=some d->d<nt) {k:K} {g} {s':pA} (he:WA.eff ⟨o.dst,k,g⟩ s (x,e)=some s')
  {Kn:Act->World->Prop} {Q:Exit->Act->World->Prop} (hK:∀ a' w',ID P O nt B F0 da w0 D s' a' w'->Kn a' w'):o.wp P a w Kn Q:=by
 obtain ⟨rfl,v,ca,hS,hA⟩:=hv;simp only [WA.eff] at he;cases he;unfold Oper.wp;rw [ca,Oper.upon_value];exact hK _ _ ⟨ι,Θ,R.putN hd hS hA⟩
theorem run_wp {s':pA} (h:∃ v w',(execOp a.eval o).run P w=.ok (.value v) w'/\ID P O nt B F0 da w0 D s' (a.put o.dst v) w')
  {Kn:Act->World->Prop} {Q:Exit->Act->World->Prop} (hK:∀ a' w',ID P O nt B F0 da w0 D s' a' w'->Kn a' w'):o.wp P a w Kn Q:=by
 obtain ⟨v,w',ca,hR⟩:=h;unfold Oper.wp;rw [ca,Oper.upon_value];simp_all
theorem sD {α β:Type} {x:Option α} {f:α->β} {z:β} (h:x.map f=some z):∃ a,x=some a/\f a=z:=by
 simp_all
theorem op_sound (R:uC P O nt B F0 da w0 D s a w ι Θ) {call:iB} (ua:∀ f args S r,call f args S=some r->aD P O f args S r) {cl:Cl} {mu:Option Bool} {nest:Bool} {k:K} (hk:compOp P cl mu o.op nest=some k) (wm:mu≠none->o.dst≠none) (hd:∀ d,o.dst=some d->d<nt) (hD:∀ d,o.dst=some d->(isA k||pU k)=true->¬ D d)
  {xe:wA × zD} (hr:k.run call s=some xe) {g} {s':pA} (he:WA.eff ⟨o.dst,k,g⟩ s xe=some s')
  {Kn:Act->World->Prop} {Q:Exit->Act->World->Prop} (hK:∀ a' w',ID P O nt B F0 da w0 (fun t=>D t\/o.dst=some t) s' a' w'->Kn a' w'):o.wp P a w Kn Q:=by
 have od:∀ a' w',ID P O nt B F0 da w0 D s' a' w'->Kn a' w':=fun a' w' ⟨ι',Θ',h⟩=>hK a' w' ⟨ι',Θ',h.more fun _ h=>.inl h⟩
 have sb:∀ d,o.dst=some d->(∃ v w',(execOp a.eval o).run P w=.ok (.value v) w'/\ID P O nt B F0 da w0 (fun t=>D t\/t=d) s' (a.put o.dst v) w')->o.wp P a w Kn Q:=fun d ba h =>
  run_wp h fun a' w' ⟨ι',Θ',h⟩=>hK a' w' ⟨ι',Θ',h.more fun t h=>h.imp id fun e=>by rw [ba,e]⟩
 obtain ⟨x,e⟩:=xe;cases fb:o.op <;> rw [fb] at hk <;> simp only [compOp] at hk
 case move X=>obtain ⟨y,hy,rfl⟩:=sD hk; simp only [K.run] at hr; injection hr with hr; injection hr with h1 h2; subst h1; subst h2; exact wC R ⟨rfl,val_mv R hy (.inl fb)⟩ hd he od
 case assign X=>obtain ⟨y,hy,rfl⟩:=sD hk; simp only [K.run] at hr; injection hr with hr; injection hr with h1 h2; subst h1; subst h2; exact wC R ⟨rfl,val_mv R hy (.inr fb)⟩ hd he od
 case pick C X Y =>
  split at hk
  ·rename_i c x' y' hc hx hy;cases hk;simp only [K.run] at hr;split at hr
   ·rename_i t ht;injection hr with hr; injection hr with h1 h2; subst h1; subst h2;exact wC R ⟨rfl,val_pick R hc hx hy fb ht⟩ hd he od
   ·cases hr
  ·cases hk
 case alloc t =>
  split at hk
  case h_2 =>
   obtain ⟨el,jc,rfl⟩:=sD hk;simp only [K.run] at hr;injection hr with hr; injection hr with h1 h2; subst h1; subst h2;cases ba:o.dst with
   | none=>simp [WA.eff,ba] at he
   | some d =>
    simp only [WA.eff,ba] at he;cases he;exact sb d ba (op_mkb R jc fb ba (hd d ba) (hD d ba rfl))
  obtain ⟨z,hz,rfl⟩:=sD hk;cases ba:o.dst with
  | none=>simp [K.run] at hr; obtain ⟨rfl,rfl⟩:=hr; simp [WA.eff,ba] at he
  | some d=>exact sb d ba (op_alloc R hz fb ba (hd d ba) (hD d ba rfl) hr he)
 case box t X =>
  split at hk
  ·rename_i z x' hz hx;cases hk;cases ba:o.dst with
   | none =>
    simp only [K.run] at hr;split at hr
    ·split at hr
     ·injection hr with hr; injection hr with h1 h2; subst h1; subst h2; simp [WA.eff,ba] at he
     ·cases hr
    ·split at hr
     ·injection hr with hr; injection hr with h1 h2; subst h1; subst h2; simp [WA.eff,ba] at he
     ·cases hr
   | some d=>exact sb d ba (op_boxE R hx fb ba (hd d ba) (hD d ba rfl) hr he)
  ·cases hk
 case build t ps =>
  split at hk
  ·rename_i fs z ys ht hz hy;split at hk
   ·rename_i pl oo;obtain ⟨zs,ul,rfl⟩:=sD hk;obtain ⟨zv,i,hi,ao,_,hl⟩:=bH hz w;refine wC R (X2 R hl (pl:=(pl.toArray[·]?)) ?_ hy ul fb hr) hd he od;simp [Program.built,hi,ht,ao,oo]
   ·cases hk
  ·rename_i n el z ys ht hz hy;split at hk
   ·rename_i ie bg;obtain ⟨zs,ul,rfl⟩:=sD hk;obtain ⟨zv,i,hi,ao,_,hl⟩:=bH hz w;refine wC R (X2 R hl (pl:=fun i=>some (i * ie.size,ie.size)) ?_ hy ul fb hr) hd he od;simp [Program.built,hi,ht,ao,bg]
   ·cases hk
  ·cases hk
 case buildSlice t n ps =>
  split at hk
  ·rename_i el ys ht hy;split at hk
   ·rename_i z kk hz hs;split at hk
    ·rename_i hc;cases mu with
     | none =>
      simp only at hk;cases hk;obtain ⟨rfl,v,w',ca,R',hS,hA⟩:=op_bsl R ht hz hs hc.1 hc.2.1 hc.2.2 hy fb hr;simp only [WA.eff] at he;cases he;unfold Oper.wp;rw [ca,Oper.upon_value];exact od _ _ ⟨ι,Θ,R'.putN hd hS hA⟩
     | some m =>
      simp only at hk;cases hk;cases ba:o.dst with
      | none=>exact absurd ba (wm (by simp))
      | some d=>exact sb d ba (op_bslr R ht hz hs hc.1 hc.2.1 hc.2.2 hy fb ba (hd d ba) (hD d ba rfl) hr he)
    ·cases hk
   ·cases hk
  ·cases hk
 case load t X =>
  split at hk
  ·rename_i ag z y hA hz hx;cases hk;exact wC R (val_load R hA hz hx fb hr) hd he od
  ·cases hk
 case store t X Y =>
  split at hk
  ·rename_i ag z x' y' hA hz hx hy;split at hk
   ·rename_i my;cases hk;obtain ⟨w',ca,hR⟩:=op_store R hz (by simpa using my) hx hy fb hd hr he;unfold Oper.wp;rw [ca,Oper.upon_skip];simp_all
   ·cases hk
  ·cases hk
 case nilCheck X=>obtain ⟨y,hy,rfl⟩:=sD hk; exact wC R (val_nilchk R hy fb hr) hd he od
 case binOp op t X Y t' =>
  split at hk
  ·rename_i x' y' hx hy;split at hk
   ·cases hk;simp only [K.run] at hr;obtain ⟨v,hv,hr⟩:=sD hr;injection hr with h1 h2; subst h1; subst h2
    refine wC R ⟨rfl,val_bin R (fun hb=>?_) hx hy fb hv⟩ hd he od
    grind
   ·split at hk
    ·split at hk
     ·rename_i el ht; injection hk with hk; subst hk; exact wC R (AW R (neg:=false) (ptr:=false) ⟨el,ht⟩ hx hy fb hr) hd he od
     ·rename_i el ht; injection hk with hk; subst hk; exact wC R (AW R (neg:=false) (ptr:=true) ⟨el,ht⟩ hx hy fb hr) hd he od
     ·obtain ⟨ks,ht,rfl⟩:=sD hk; exact wC R (val_eqa R (neg:=false) ht hx hy fb hr) hd he od
    ·split at hk
     ·rename_i el ht; injection hk with hk; subst hk; exact wC R (AW R (neg:=true) (ptr:=false) ⟨el,ht⟩ hx hy fb hr) hd he od
     ·rename_i el ht; injection hk with hk; subst hk; exact wC R (AW R (neg:=true) (ptr:=true) ⟨el,ht⟩ hx hy fb hr) hd he od
     ·obtain ⟨ks,ht,rfl⟩:=sD hk; exact wC R (val_eqa R (neg:=true) ht hx hy fb hr) hd he od
    ·cases hk
  ·cases hk
 case unOp op t X =>
  split at hk
  ·obtain ⟨y,hy,rfl⟩:=sD hk; exact wC R (val_un R hy fb hr) hd he od
  ·cases hk
 case convert t t' X =>
  split at hk
  ·rename_i j kk x' h1 h2 hx; injection hk with hk; subst hk; exact wC R (M9 R (k:=some kk) ⟨⟨j,h1⟩,h2⟩ hx fb hr) hd he od
  ·rename_i x' h1 h2 hx; injection hk with hk; subst hk; exact wC R (M9 R (k:=none) ⟨h1,h2⟩ hx fb hr) hd he od
  ·rename_i j x' h1 h2 hx; injection hk with hk; subst hk; exact wC R (val_rstr R h1 h2 hx fb hr) hd he od
  ·rename_i el x' h1 h2 hx;split at hk
   ·rename_i h3;split at hk
    ·injection hk with hk; subst hk; exact wC R (val_bstr R h1 h3 h2 hx fb hr) hd he od
    ·cases hk
   ·cases hk
  ·cases hk
 case makeSlice t L C =>
  split at hk
  ·rename_i el l c ht hl hc;split at hk
   ·rename_i z i hz hi;split at hk
    ·rename_i aa;cases hk;cases ba:o.dst with
     | none =>
      simp only [K.run] at hr;split at hr
      ·split at hr
       ·injection hr with hr; injection hr with h1 h2; subst h1; subst h2; simp [WA.eff,ba] at he
       ·cases hr
      ·cases hr
     | some d=>exact sb d ba (op_mks R ht hi hz aa.1 hl hc fb ba (hd d ba) (hD d ba rfl) hr he)
    ·cases hk
   ·cases hk
  ·cases hk
 case slice t X L H M =>
  split at hk
  ·rename_i x' l h m hx hl hh hm;split at hk
   ·rename_i ht;cases hk;cases M with
    | none=>injection hm with hm; subst hm; exact wC R (val_slc R (str:=true) ht hx hl hh fb hr) hd he od
    | some M=>simp only [xW] at hm; obtain ⟨m',_,rfl⟩:=sD hm; simp [K.run] at hr
   ·rename_i el ht;split at hk
    ·rename_i xu;obtain ⟨z,hz,rfl⟩:=sD hk;rw [y9] at xu;exact wC R (val_slz R ht hz xu.1 xu.2 hx fb hr) hd he od
    ·obtain ⟨z,hz,rfl⟩:=sD hk;cases M with
     | none=>injection hm with hm; subst hm; exact wC R (val_slc R (str:=false) ⟨el,ht,hz⟩ hx hl hh fb hr) hd he od
     | some M=>simp only [xW] at hm; obtain ⟨m',_,rfl⟩:=sD hm; simp [K.run] at hr
   ·rename_i n' el ht;cases M with
    | none =>
     injection hm with hm; subst hm;obtain ⟨z,hz,rfl⟩:=sD hk;exact wC R (val_aslc R ht hz hx hl hh fb hr) hd he od
    | some M=>simp only [xW] at hm; obtain ⟨m',_,rfl⟩:=sD hm; cases hk
   ·cases hk
  ·cases hk
 case fieldAddr t X i =>
  split at hk
  ·rename_i fs x' ht hx;split at hk
   ·rename_i f hf;split at hk
    ·rename_i n hn; injection hk with hk; subst hk; exact wC R (val_faddr R ht hf hn hx fb hr) hd he od
    ·cases hk
   ·cases hk
  ·cases hk
 case field t X i =>
  split at hk
  ·rename_i fs x' ht hx;split at hk
   ·rename_i f hf;split at hk
    ·rename_i ag z hA hz; injection hk with hk; subst hk; exact wC R (val_field R ht hf hA hz hx fb hr) hd he od
    ·cases hk
   ·cases hk
  ·cases hk
 case indexAddr t X I =>
  split at hk
  ·rename_i el x' i' ht hx hi;obtain ⟨z,hz,rfl⟩:=sD hk;exact wC R (val_iaddr R ht hz hx hi fb hr) hd he od
  ·rename_i n' e x' i' ht hx hi;obtain ⟨z,hz,rfl⟩:=sD hk;exact wC R (val_aaddr R ht hz hx hi fb hr) hd he od
  ·cases hk
 case index t X I =>
  split at hk
  ·rename_i x' i' ht hx hi;cases hk;exact wC R (val_index R ht hx hi fb hr) hd he od
  ·cases hk
 case makeMap t r =>
  split at hk
  ·rename_i kT eT ht;obtain ⟨ty,nb,rfl⟩:=sD hk;simp only [K.run] at hr;injection hr with hr; injection hr with h1 h2; subst h1; subst h2;cases ba:o.dst with
   | none=>simp [WA.eff,ba] at he
   | some d =>
    simp only [WA.eff,ba] at he;cases he;have h:=op_mkm R fb ba (hd d ba) (hD d ba rfl);exact sb d ba h
  ·cases hk
 case entry X =>
  obtain ⟨x',hx,rfl⟩:=sD hk;simp only [K.run] at hr;split at hr
  ·rename_i t' n ic;split at hr
   ·rename_i tm nm N seen hi;split at hr
    ·rename_i L i hL hl;split at hr
     ·rename_i hN;split at hr
      ·rename_i y v uo;split at hr
       ·rename_i eh;injection hr with hr; injection hr with h1 h2; subst h1; subst h2;exact wC R ⟨rfl,val_ent R hx fb ic hi hL hl hN uo eh⟩ hd he od
       ·cases hr
      ·cases hr
     ·cases hr
    ·cases hr
   ·cases hr
  ·cases hr
 case range t X =>
  split at hk
  ·rename_i kT eT ht;obtain ⟨x',hx,rfl⟩:=sD hk;simp only [K.run] at hr;split at hr
   ·rename_i t' n ic;split at hr
    ·rename_i L hL;injection hr with hr; injection hr with h1 h2; subst h1; subst h2;cases ba:o.dst with
     | none=>simp [WA.eff,ba] at he
     | some d =>
      simp only [WA.eff,ba] at he;cases he;have h:=op_rng R ht hx fb ic hL ba (hd d ba) (hD d ba rfl);exact sb d ba h
    ·cases hr
   ·cases hr
  ·cases hk
 case lookup t X I ok =>
  split at hk
  ·rename_i kT eT x' i' ht hx hi;split at hk
   ·rename_i ty z nb hz;cases hk;simp only [K.run] at hr;split at hr
    ·rename_i t' n ic;split at hr
     ·rename_i L hL;split at hr
      ·rename_i aa;injection hr with hr; injection hr with h1 h2; subst h1; subst h2;unfold EX at nb;split at nb
       ·rename_i kk rb;cases nb;exact wC R ⟨rfl,HX R (dU kk) (i4 rb) ht hz aa.2.2 hx hi fb ic hL aa.1 aa.2.1⟩ hd he od
       ·rename_i rb;cases nb;exact wC R ⟨rfl,HX R fU (s4 rb) ht hz aa.2.2 hx hi fb ic hL aa.1 aa.2.1⟩ hd he od
       ·obtain ⟨l,_,nb⟩:=yb.1 nb;split at nb
        ·rename_i eh;cases nb;exact wC R ⟨rfl,HX R (sU l) (r4 eh.1) ht hz aa.2.2 hx hi fb ic hL aa.1 aa.2.1⟩ hd he od
        ·cases nb
      ·cases hr
     ·cases hr
    ·cases hr
   ·cases hk
  ·cases hk
 case mapUpdate t X I Y =>
  split at hk
  ·rename_i kT eT x' i' y' ht hx hi hy;obtain ⟨ty,nb,rfl⟩:=sD hk;simp only [K.run] at hr;split at hr
   ·rename_i t' n ic;split at hr
    ·rename_i L hL;split at hr
     ·rename_i aa;injection hr with hr; injection hr with h1 h2; subst h1; subst h2;simp only [WA.eff] at he;cases he;have key:∃ w',(execOp a.eval o).run P w=.ok .skip w'/\ID P O nt B F0 da w0 D ((s.setObj t' n (HF (EG L (i'.get s) (y'.get s)))).put o.dst ⟨.undef,.no⟩) (a.put o.dst undef) w':=by
       unfold EX at nb;split at nb
       ·rename_i kk rb;cases nb;exact GN R (dU kk) (i4 rb) ht hx hi hy (.inl fb) hd ic hL aa.1 aa.2.1 aa.2.2
       ·rename_i rb;cases nb;exact GN R fU (s4 rb) ht hx hi hy (.inl fb) hd ic hL aa.1 aa.2.1 aa.2.2
       ·obtain ⟨l,_,nb⟩:=yb.1 nb;split at nb
        ·rename_i eh;cases nb;exact GN R (sU l) (r4 eh.1) ht hx hi hy (.inl fb) hd ic hL aa.1 aa.2.1 aa.2.2
        ·cases nb
      obtain ⟨w',ca,hR⟩:=key;unfold Oper.wp;rw [ca,Oper.upon_skip];simp_all
     ·cases hr
    ·cases hr
   ·cases hr
  ·cases hk
 case insert t X I Y =>
  split at hk
  ·rename_i kT eT x' i' y' ht hx hi hy;obtain ⟨ty,nb,rfl⟩:=sD hk;simp only [K.run] at hr;split at hr
   ·rename_i t' n ic;split at hr
    ·rename_i L hL;split at hr
     ·rename_i aa;injection hr with hr; injection hr with h1 h2; subst h1; subst h2;simp only [WA.eff] at he;cases he;have key:∃ w',(execOp a.eval o).run P w=.ok .skip w'/\ID P O nt B F0 da w0 D ((s.setObj t' n (HF (EG L (i'.get s) (y'.get s)))).put o.dst ⟨.undef,.no⟩) (a.put o.dst undef) w':=by
       unfold EX at nb;split at nb
       ·rename_i kk rb;cases nb;exact GN R (dU kk) (i4 rb) ht hx hi hy (.inr fb) hd ic hL aa.1 aa.2.1 aa.2.2
       ·rename_i rb;cases nb;exact GN R fU (s4 rb) ht hx hi hy (.inr fb) hd ic hL aa.1 aa.2.1 aa.2.2
       ·obtain ⟨l,_,nb⟩:=yb.1 nb;split at nb
        ·rename_i eh;cases nb;exact GN R (sU l) (r4 eh.1) ht hx hi hy (.inr fb) hd ic hL aa.1 aa.2.1 aa.2.2
        ·cases nb
      obtain ⟨w',ca,hR⟩:=key;unfold Oper.wp;rw [ca,Oper.upon_skip];simp_all
     ·cases hr
    ·cases hr
   ·cases hr
  ·cases hk
 case extract X i=>obtain ⟨y,hy,rfl⟩:=sD hk; exact wC R (val_ext R hy fb hr) hd he od
 case call c =>
  obtain ⟨callee,xs,ts⟩:=c;cases callee with
  | invoke r m=>cases hk
  | value f =>
   cases f with
   | func f =>
    have plain:(AH xs.toList).map (.call cl f)=some k->o.wp P a w Kn Q:=fun hk=>by
     obtain ⟨ys,hy,rfl⟩:=sD hk;exact op_call R ua hy fb hd (fun d h=>hD d h rfl) hr he hK
    cases mu with
    | none=>exact plain hk
    | some b =>
     cases b with
     | true =>
      obtain ⟨ys,hy,rfl⟩:=sD (show (AH xs.toList).map (.callr cl f)=some k from hk);exact op_callr R ua hy fb hd hr he hK
     | false =>
      have uc:(match P.funcs[f]? with
       | some fn=>(match fn.resultTypes.toList with
        | [t]=>(match P.underlying t with
         | some (.slice e)=>(match rC P e,AH xs.toList with
          | some z,some xs=>if 0<z then some (K.callf cl f z xs) else none
          | _,_=>none)
         | _=>none)
        | _=>none)
       | none=>none)=some k:=hk
      clear hk;split at uc
      ·split at uc
       ·split at uc
        ·split at uc
         ·rename_i z ys hz hy;split at uc
          ·rename_i db;injection uc with uc;subst uc;exact op_callf R ua hy fb hd (fun d h=>hD d h rfl) db hr he hK
          ·cases uc
         ·cases uc
        ·cases uc
       ·cases uc
      ·cases uc
   | tmp tf =>
    obtain ⟨ys,hy,rfl⟩:=sD hk;exact op_callv R ua hy fb hd hr he hK
   | _=>cases hk
  | builtin b =>
  cases b
  case len =>
   simp only at hk;split at hk
   ·rename_i x' t hx jn;have hts:ts=#[t]:=by have h0:=congrArg List.toArray jn; rwa [yV] at h0
    subst hts;obtain ⟨X,hX,gl⟩:∃ X,xs=#[X]/\opd X=some x':=by
     obtain ⟨l⟩:=xs
     match l,hx with
     | [X],hx =>
      unfold AH at hx
      grind
     | [],hx=>simp [AH] at hx
     | X :: Y :: r,hx =>
      unfold AH at hx;split at hx
      ·rename_i y l hy hl;injection hx with hx;injection hx with h1 h2;subst h2;unfold AH at hl
       grind
      ·cases hx
    subst hX;split at hk
    ·rename_i ht; injection hk with hk; subst hk; exact wC R (val_len R (str:=true) ht gl fb hr) hd he od
    ·rename_i el ht; injection hk with hk; subst hk; exact wC R (val_len R (str:=false) ⟨el,ht⟩ gl fb hr) hd he od
    ·rename_i kT eT ht;cases hk;simp only [K.run] at hr;split at hr
     ·rename_i t n ic;split at hr
      ·rename_i L hL;injection hr with hr; injection hr with h1 h2; subst h1; subst h2;exact wC R ⟨rfl,op_mlen R ht gl fb ic hL⟩ hd he od
      ·cases hr
     ·cases hr
    ·cases hk
   ·cases hk
  case max =>
   simp only at hk;split at hk
   ·rename_i X Y zd;have hX:xs=#[X,Y]:=by rw [<- yV (xs:=xs),zd]
    subst hX;split at hk
    ·rename_i x' y' hx hy;injection hk with hk; subst hk;simp only [K.run] at hr;obtain ⟨v,hv,hr⟩:=sD hr;injection hr with h1 h2; subst h1; subst h2;exact wC R ⟨rfl,val_mm R (mx:=true) hx hy fb hv⟩ hd he od
    ·cases hk
   ·cases hk
  case min =>
   simp only at hk;split at hk
   ·rename_i X Y zd;have hX:xs=#[X,Y]:=by rw [<- yV (xs:=xs),zd]
    subst hX;split at hk
    ·rename_i x' y' hx hy;injection hk with hk; subst hk;simp only [K.run] at hr;obtain ⟨v,hv,hr⟩:=sD hr;injection hr with h1 h2; subst h1; subst h2;exact wC R ⟨rfl,val_mm R (mx:=false) hx hy fb hv⟩ hd he od
    ·cases hk
   ·cases hk
  case append =>
   simp only at hk;split at hk
   ·rename_i x' y' t t' hx jn;split at hk
    ·rename_i htt';subst htt';have hts:ts=#[t,t]:=by have h0:=congrArg List.toArray jn; rwa [yV] at h0
     subst hts;obtain ⟨X,Y,hX,gl,cu⟩:∃ X Y,xs=#[X,Y]/\opd X=some x'/\opd Y=some y':=by
      obtain ⟨l⟩:=xs;have key:∀ {r:List Operand} {ys:List JB},AH r=some ys->r.length=ys.length/\∀ j (h:j<r.length),opd r[j]=ys[j]?:=by
       intro r
       induction r with
       | nil=>intro ys h; injection h with h; subst h; exact ⟨rfl,fun j h=>by simp at h⟩
       | cons X r ih =>
        intro ys h;unfold AH at h
        grind
      obtain ⟨h1,h2⟩:=key hx
      match l,h1,h2 with
      | [X,Y],_,h2=>exact ⟨X,Y,rfl,h2 0 (by simp),h2 1 (by simp)⟩
     subst hX;split at hk
     ·rename_i el ht;split at hk
      ·rename_i i z hi hz;split at hk
       ·rename_i aa;injection hk with hk;cases mu with
        | some m =>
         cases ba:o.dst with
         | none=>exact absurd ba (wm (by simp))
         | some d =>
          cases m with
          | true =>
           cases nest with
           | true=>simp only [if_true] at hk; subst hk; exact sb d ba (D4 R ht hi hz aa.1 aa.2 gl cu fb ba (hd d ba) (hD d ba rfl) hr he)
           | false=>simp only [yt,if_false] at hk; subst hk; exact sb d ba (op_appm R ht hi hz aa.1 aa.2 gl cu fb ba (hd d ba) (hD d ba rfl) hr he)
          | false=>simp only at hk; subst hk; exact sb d ba (op_appf R ht hi hz aa.1 aa.2 gl cu fb ba (hd d ba) (hD d ba rfl) hr he)
        | none =>
        simp only at hk;subst hk;cases ba:o.dst with
        | none =>
         have:∃ A,e=.app A 0:=by
          simp only [K.run] at hr
          grind
         obtain ⟨A,rfl⟩:=this;simp [WA.eff,ba] at he
        | some d=>exact run_wp (op_app R ht hi hz aa.1 aa.2 gl cu fb ba (hd d ba) hr he) od
       ·cases hk
      ·cases hk
     ·cases hk
    ·cases hk
   ·cases hk
  all_goals cases hk
 case makeFunc fn fs Xs =>
  cases fn with
  | func f =>
   simp only at hk;split at hk
   ·rename_i h0;obtain ⟨ys,hy,rfl⟩:=sD hk;exact wC R (val_mkf R h0 hy fb hr) hd he od
   ·cases hk
  | _=>cases hk
 all_goals cases hk
end
end
section
section
variable {call:iB} {s s' s1 s2:pA}
inductive Tr where
 | id
 | row (t n:Nat) (r:List wA)
 | an (A:An) (d:Nat)
 | obj (t n:Nat) (S:AV)
 | rn (k:Option (Nat × Nat)) (t n:Nat) (r:List wA)
 | ob2 (t n:Nat) (S:AV) (d m:Nat) (r:List wA)
def Tr.ap:Tr->pA->pA
 | .id,s=>s
 | .row t n r,s=>s.setRow t n r
 | .an A d,s=>(s.stripA A).strip d
 | .obj t n S,s=>s.setObj t n S
 | .rn k t n r,s=>(s.killO k).setRow t n r
 | .ob2 t n S d m r,s=>(s.setObj t n S).setRow d m r
def Tr.f:Tr->An->An
 | .an A d,x=>match A with
  | .own k _=>(x.strip k).strip d
  | _=>x.strip d
 | _,x=>x
theorem Tr.ends (T:Tr):Ends T.f:=by
 cases T with
 | an A d =>
  have h:∀ k j e,(An.own j e).strip k≠.ex:=fun k j e=>by simp only [An.strip]; split <;> simp
  have h':∀ k k' j e,((An.own j e).strip k).strip k'≠.ex:=fun k k' j e=>by
   by_cases hj:j=k
   ·simp [An.strip,hj]
   ·rw [show (An.own j e).strip k=An.own j e from if_neg hj];exact h k' j e
  cases A with
  | own k e=>exact ⟨rfl,rfl,fun j e=>h' k d j e⟩
  | no=>exact ⟨rfl,rfl,fun j e=>h d j e⟩
  | ex=>exact ⟨rfl,rfl,fun j e=>h d j e⟩
 | _=>exact ⟨rfl,rfl,fun _ _ h=>by cases h⟩
theorem Tr.ap_an (A:An) (d:Nat) (s:pA):(Tr.an A d).ap s=s.mapAn (Tr.an A d).f:=by
 cases A with
 | own k e=>simp [Tr.ap,pA.stripA,pA.strip,pA.mapAn,wA.strip,Tr.f,Function.comp_def]
 | no=>rfl
 | ex=>rfl
def WA.runG (call:iB) (o:WA) (s:pA):Option (wA × zD) :=
 match o.guard with
 | none=>o.op.run call s
 | some (t,want)=>match (s.env t).v with
  | .bool b=>if b=want then o.op.run call s else some (⟨.tup [],.no⟩,.none)
  | .tup []=>some (⟨.tup [],.no⟩,.none)
  | _=>none
def WA.effT (o:WA) (next:Nat):wA × zD->Option (Tr × wA)
 | (x,.none)=>some (.id,x)
 | (x,.new r)=>match o.dst with
  | none=>none
  | some d=>some (.row d next r,⟨match x.v with | .ref _ _ sz off l c=>.ref d next sz off l c | _=>.ptr d next 0,.no⟩)
 | (x,.set t n r)=>some (.row t n r,x)
 | (x,.app a _)=>match o.dst with
  | none=>none
  | some d=>some (.an a d,⟨x.v,match x.a with | .own _ e=>.own d e | a=>a⟩)
 | (x,.obj t n S)=>some (.obj t n S,x)
 | (x,.mk S)=>match o.dst with
  | none=>none
  | some d=>some (.obj d next S,⟨x.v.named d next,.no⟩)
 | (x,.ob2 t n S r)=>match o.dst with
  | none=>none
  | some d=>some (.ob2 t n S d next r,⟨match x.v with | .ref _ _ sz off l c=>.ref d next sz off l c | _=>.ptr d next 0,.no⟩)
 | (x,.rn k r)=>match o.dst with
  | none=>none
  | some d=>some (.rn k d next r,⟨match x.v with | .ref _ _ sz off l c=>.ref d next sz off l c | _=>.ptr d next 0,.no⟩)
theorem SO (o:WA) (s:pA):o.step call s=(o.runG call s).bind fun p=>(o.effT s.next p).map fun q=>(q.1.ap s).put o.dst q.2:=by
 have h:∀ p,o.eff s p=(o.effT s.next p).map fun q=>(q.1.ap s).put o.dst q.2:=by
  rintro ⟨x,e⟩;cases e with
  | none=>rfl
  | new r=>simp only [WA.eff,WA.effT]; cases o.dst <;> rfl
  | set t n r=>rfl
  | app a k=>simp only [WA.eff,WA.effT]; cases o.dst <;> rfl
  | obj t n S=>rfl
  | mk S=>simp only [WA.eff,WA.effT]; cases o.dst <;> rfl
  | rn k r=>simp only [WA.eff,WA.effT]; cases o.dst <;> rfl
  | ob2 t n S r=>simp only [WA.eff,WA.effT]; cases o.dst <;> rfl
 have hf:o.eff s=fun p=>(o.effT s.next p).map fun q=>(q.1.ap s).put o.dst q.2:=funext h
 unfold WA.step WA.runG;rw [<- hf];cases o.guard with
 | none=>rfl
 | some p =>
  obtain ⟨t,want⟩:=p;simp only;generalize (s.env t).v=y;cases y with
  | bool b=>simp only; split <;> rfl
  | tup l=>cases l <;> rfl
  | _=>rfl
theorem AO (k:K) {x:wA} {e:zD} (h:k.run call s=some (x,e)):match e with
    | .none=>True
    | .new _=>isA k=true
    | .set t _ _=>isS k=true/\∃ c,k.cl=some c/\c.okPtr t=true
    | .app _ _=>isT k=true
    | .obj _ _ _=>pU k=true/\isR k=false
    | .mk _=>pU k=true/\isR k=false
    | .rn _ _=>isM k=true
    | .ob2 _ _ _ _=>pU k=true/\isR k=false/\isA k=true:=by
  have hn:e=.none->(match e with
    | .none=>True
    | .new _=>isA k=true
    | .set t _ _=>isS k=true/\∃ c,k.cl=some c/\c.okPtr t=true
    | .app _ _=>isT k=true
    | .obj _ _ _=>pU k=true/\isR k=false
    | .mk _=>pU k=true/\isR k=false
    | .rn _ _=>isM k=true
    | .ob2 _ _ _ _=>pU k=true/\isR k=false/\isA k=true):=fun h=>by subst h; trivial
  cases k with
  | callh nt x xs=>cases h
  | nxt x=>cases h
  | ent x =>
    simp only [K.run] at h;split at h
    · split at h
      · split at h
        · split at h
          · split at h
            · split at h
              · injection h with h; injection h with _ h; exact hn h.symm
              · cases h
            · cases h
          · cases h
        · cases h
      · cases h
    · cases h
  | slz x =>
    simp only [K.run] at h;split at h <;> first | (cases h; done) | (injection h with h; injection h with _ h; exact hn h.symm)
  | rng x =>
    simp only [K.run] at h;split at h
    · split at h
      · injection h with h; injection h with _ h; subst h; exact ⟨rfl,rfl⟩
      · cases h
    · cases h
  | alloc z=>simp only [K.run] at h; injection h with h; injection h with _ h; subst h; rfl
  | box z x =>
    simp only [K.run] at h;split at h <;> split at h <;> first | (cases h; done) | (injection h with h; injection h with _ h; subst h; rfl)
  | mks z b zs l c =>
    simp only [K.run] at h;split at h
    · split at h
      · injection h with h; injection h with _ h; subst h; rfl
      · cases h
    · cases h
  | store cl g z x y =>
    simp only [K.run] at h;split at h
    · split at h
      · rename_i t n off _ na
        obtain ⟨r,_,h⟩:=yj.1 h;injection h with _ h;subst h;exact ⟨rfl,cl,rfl,na⟩
      · cases h
    · cases h
  | app cl e z b x y =>
    simp only [K.run] at h;split at h
    · split at h
      · split at h
        · cases h
        · split at h
          · injection h with h; injection h with _ h; subst h; rfl
          · cases h
        · injection h with h; injection h with _ h; subst h; rfl
      · cases h
    · cases h
  | appf cl e z b x y =>
    simp only [K.run] at h;split at h
    · split at h
      · split at h
        · split at h
          · injection h with h; injection h with _ h; exact hn h.symm
          · injection h with h; injection h with _ h; subst h; rfl
        · cases h
      · cases h
    · cases h
  | appm cl e z b x y =>
    simp only [K.run] at h;split at h
    · split at h
      · split at h
        · split at h
          · injection h with h; injection h with _ h; exact hn h.symm
          · injection h with h; injection h with _ h; subst h; rfl
        · cases h
      · cases h
    · split at h
      · split at h
        · injection h with h; injection h with _ h; subst h; rfl
        · cases h
      · cases h
    · cases h
  | appn cl e z b x y =>
    simp only [K.run] at h;split at h
    · split at h
      · split at h
        · injection h with h; injection h with _ h; subst h; rfl
        · cases h
      · cases h
    · split at h
      · split at h
        · injection h with h; injection h with _ h; subst h; rfl
        · cases h
      · cases h
    · cases h
  | bslr sz z n ps =>
    simp only [K.run] at h;split at h
    · injection h with h; injection h with _ h; subst h; rfl
    · cases h
  | bad=>simp only [K.run] at h; cases h
  | mkm=>simp only [K.run] at h; injection h with h; injection h with _ h; subst h; exact ⟨rfl,rfl⟩
  | mkb T e=>simp only [K.run] at h; injection h with h; injection h with _ h; subst h; exact ⟨rfl,rfl⟩
  | mget ok ty z x k =>
    simp only [K.run] at h;split at h
    · split at h
      · split at h
        · injection h with h; injection h with _ h; exact hn h.symm
        · cases h
      · cases h
    · cases h
  | mset ty x k v =>
    simp only [K.run] at h;split at h
    · split at h
      · split at h
        · injection h with h; injection h with _ h; subst h; exact ⟨rfl,rfl⟩
        · cases h
      · cases h
    · cases h
  | mlen x =>
    simp only [K.run] at h;split at h
    · split at h
      · injection h with h; injection h with _ h; exact hn h.symm
      · cases h
    · cases h
  | mv x=>simp only [K.run] at h; injection h with h; injection h with _ h; exact hn h.symm
  | pick c a b =>
    simp only [K.run] at h;split at h
    · injection h with h; injection h with _ h; exact hn h.symm
    · cases h
  | build z ps =>
    simp only [K.run] at h;split at h
    · obtain ⟨r,_,h⟩:=yj.1 h; injection h with _ h; exact hn h.symm
    · cases h
  | bsl z n ps =>
    simp only [K.run] at h;split at h
    · injection h with h; injection h with _ h; exact hn h.symm
    · cases h
  | load cl g z x =>
    simp only [K.run] at h;split at h
    · split at h
      · obtain ⟨r,_,h⟩:=yj.1 h; injection h with _ h; exact hn h.symm
      · cases h
    · split at h
      · cases h
      · obtain ⟨r,_,h⟩:=yj.1 h; injection h with _ h; exact hn h.symm
    · split at h
      · cases h
      · obtain ⟨r,_,h⟩:=yj.1 h; injection h with _ h; exact hn h.symm
    · cases h
  | mm b x y=>simp only [K.run] at h; obtain ⟨r,_,h⟩:=yj.1 h; injection h with _ h; exact hn h.symm
  | bin op b x y=>simp only [K.run] at h; obtain ⟨r,_,h⟩:=yj.1 h; injection h with _ h; exact hn h.symm
  | eqa n ks x y =>
    simp only [K.run] at h;split at h
    · obtain ⟨r,_,h⟩:=yj.1 h; injection h with _ h; exact hn h.symm
    · cases h
  | eqn n p x y =>
    simp only [K.run] at h;split at h <;> first | (cases h; done) | (obtain ⟨r,_,h⟩:=yj.1 h; injection h with _ h; exact hn h.symm)
  | un op x =>
    simp only [K.run] at h;split at h <;> first | (cases h; done) | (injection h with h; injection h with _ h; exact hn h.symm)
  | conv o x =>
    simp only [K.run] at h;split at h <;> first | (cases h; done) | (injection h with h; injection h with _ h; exact hn h.symm)
  | slc st z x lo hi mx =>
    cases mx with
    | some m=>simp [K.run] at h
    | none =>
      simp only [K.run] at h;split at h
      · cases h
      · split at h <;> first
          | (cases h; done)
          | (split at h
             · split at h
               · (try split at h) <;> (injection h with h; injection h with _ h; exact hn h.symm)
               · cases h
             · cases h)
  | faddr o x =>
    simp only [K.run] at h;split at h <;> first | (cases h; done) | (injection h with h; injection h with _ h; exact hn h.symm)
  | field g o z x =>
    simp only [K.run] at h;split at h
    · obtain ⟨r,_,h⟩:=yj.1 h; injection h with _ h; exact hn h.symm
    · cases h
  | aaddr l z x i =>
    simp only [K.run] at h;split at h
    · split at h
      · split at h <;> first | (cases h; done) | (injection h with h; injection h with _ h; exact hn h.symm)
      · cases h
    · cases h
  | iaddr z x i =>
    simp only [K.run] at h;split at h
    · split at h
      · obtain ⟨r,_,h⟩:=yb.1 h; split at h <;> first | (cases h; done) | (injection h with h; injection h with _ h; exact hn h.symm)
      · obtain ⟨r,_,h⟩:=yb.1 h; split at h <;> first | (cases h; done) | (injection h with h; injection h with _ h; exact hn h.symm)
      · split at h <;> first | (cases h; done) | (injection h with h; injection h with _ h; exact hn h.symm)
      · cases h
    · cases h
  | index x i =>
    simp only [K.run] at h;split at h
    · obtain ⟨r,_,h⟩:=yj.1 h; injection h with _ h; exact hn h.symm
    · cases h
  | ext x i =>
    simp only [K.run] at h;split at h
    · obtain ⟨r,_,h⟩:=yj.1 h; injection h with _ h; exact hn h.symm
    · cases h
  | call cl f xs =>
    simp only [K.run] at h;obtain ⟨vs,_,h⟩:=yb.1 h;split at h
    · obtain ⟨r,_,h⟩:=yb.1 h
      split at h
      · split at h <;> first | (cases h; done) | (injection h with h; injection h with _ h; exact hn h.symm)
      · split at h <;> first | (cases h; done) | (injection h with h; injection h with _ h; subst h; exact ⟨rfl,rfl⟩)
    · obtain ⟨r,_,h⟩:=yb.1 h
      split at h
      · cases h
      · split at h <;> first | (cases h; done) | (injection h with h; injection h with _ h; subst h; exact ⟨rfl,rfl⟩)
    · cases h
  | callf cl f z xs =>
    simp only [K.run] at h;obtain ⟨vs,_,h⟩:=yb.1 h;split at h
    · obtain ⟨r,_,h⟩:=yb.1 h
      split at h
      · split at h
        · split at h
          · injection h with h; injection h with _ h; subst h; exact ⟨rfl,rfl⟩
          · injection h with h; injection h with _ h; subst h; exact ⟨rfl,rfl,rfl⟩
        · cases h
      · cases h
    · cases h
  | callr cl f xs =>
    simp only [K.run] at h;split at h
    · split at h
      · rename_i na
        split at h
        · split at h
          · obtain ⟨q,_,h⟩:=yb.1 h
            split at h
            · split at h
              · injection h with h; injection h with _ h; subst h
                exact ⟨rfl,cl,rfl,na⟩
              · cases h
            · cases h
          · cases h
        · cases h
      · cases h
    · cases h
  | rstr x =>
    simp only [K.run] at h;split at h <;> first | (cases h; done) | (injection h with h; injection h with _ h; exact hn h.symm)
  | bstr cl x =>
    simp only [K.run] at h;split at h
    · obtain ⟨r,_,h⟩:=yj.1 h; injection h with _ h; exact hn h.symm
    · cases h
  | aslc cl l z x lo hi =>
    simp only [K.run] at h;split at h
    · split at h
      · split at h
        · split at h <;> (injection h with h; injection h with _ h; exact hn h.symm)
        · cases h
      · cases h
    · cases h
  | mkf f xs =>
    simp only [K.run] at h;split at h
    · injection h with h; injection h with _ h; exact hn h.symm
    · cases h
  | callv cl x xs =>
    simp only [K.run] at h;split at h
    · split at h
      · obtain ⟨r,_,h⟩:=yb.1 h
        split at h
        · split at h <;> first | (cases h; done) | (injection h with h; injection h with _ h; exact hn h.symm)
        · cases h
      · cases h
    · cases h
  | len st x =>
    simp only [K.run] at h;split at h <;> first
      | (cases h; done)
      | (split at h <;> first | (cases h; done) | (injection h with h; injection h with _ h; exact hn h.symm))
  | nilchk x =>
    simp only [K.run] at h;split at h <;> first | (cases h; done) | (injection h with h; injection h with _ h; exact hn h.symm)
def Tr.of (T:Tr) (o:WA):Prop:=match T with
 | .id=>True
 | .row t _ _=>(isA o.op=true/\o.dst=some t)\/(isS o.op=true/\∃ c,o.op.cl=some c/\c.okPtr t=true)
 | .an _ d=>isT o.op=true/\o.dst=some d
 | .obj _ _ _=>pU o.op=true/\isR o.op=false
 | .rn ..=>isM o.op=true
 | .ob2 _ _ _ d _ _=>(pU o.op=true/\isR o.op=false/\isA o.op=true)/\o.dst=some d
theorem P9 (o:WA) {x:wA} {e:zD} (h:o.runG call s=some (x,e)) {n:Nat} {T:Tr} {v:wA} (ht:o.effT n (x,e)=some (T,v)):T.of o:=by
 have key:o.op.run call s=some (x,e)\/e=.none:=by
  unfold WA.runG at h;split at h
  ·exact .inl h
  ·split at h
   ·split at h
    ·exact .inl h
    ·injection h with h; injection h with _ h; exact .inr h.symm
   ·injection h with h; injection h with _ h; exact .inr h.symm
   ·cases h
 cases e with
 | none=>simp only [WA.effT] at ht; injection ht with ht; injection ht with h1 _; subst h1; trivial
 | new r =>
  have:=AO o.op (key.resolve_right (by simp));simp only [WA.effT] at ht;split at ht
  ·cases ht
  ·rename_i d hd; injection ht with ht; injection ht with h1 _; subst h1; exact .inl ⟨this,hd⟩
 | set t n r =>
  have:=AO o.op (key.resolve_right (by simp));simp only [WA.effT] at ht;injection ht with ht; injection ht with h1 _; subst h1;exact .inr this
 | app a k =>
  have:=AO o.op (key.resolve_right (by simp));simp only [WA.effT] at ht;split at ht
  ·cases ht
  ·rename_i d hd; injection ht with ht; injection ht with h1 _; subst h1; exact ⟨this,hd⟩
 | obj t n S =>
  have:=AO o.op (key.resolve_right (by simp));simp only [WA.effT] at ht;injection ht with ht; injection ht with h1 _; subst h1;exact this
 | mk S =>
  have:=AO o.op (key.resolve_right (by simp));simp only [WA.effT] at ht;split at ht
  ·cases ht
  ·injection ht with ht; injection ht with h1 _; subst h1; exact this
 | rn k r =>
  have:=AO o.op (key.resolve_right (by simp));simp only [WA.effT] at ht;split at ht
  ·cases ht
  ·injection ht with ht; injection ht with h1 _; subst h1; exact this
 | ob2 t n S r =>
  have:=AO o.op (key.resolve_right (by simp));simp only [WA.effT] at ht;split at ht
  ·cases ht
  ·rename_i d hd; injection ht with ht; injection ht with h1 _; subst h1; exact ⟨this,hd⟩
theorem get_put {o:JB} {d:Option Nat} {x:wA} (h:∀ n,o=.t n->d≠some n):o.get (s.put d x)=o.get s/\o.an (s.put d x)=o.an s:=by
 cases d with
 | none=>exact ⟨rfl,rfl⟩
 | some d =>
  cases o with
  | c v=>exact ⟨rfl,by cases v <;> first | rfl | (rename_i b l; cases b <;> rfl)⟩
  | t n =>
   have:n≠d:=fun e=>h n rfl (by rw [e])
   simp [JB.get,JB.an,pA.put,this]
theorem looks_opds {o:WA} {n:Nat} {x:JB} (h:x∈o.op.opds) (hx:x=.t n):n∈o.looks:=by
 unfold WA.looks;refine yX _ (List.mem_filterMap.2 ⟨x,h,?_⟩);rw [hx]
theorem eO {x y:WA} (h:x.clear y=true):(∀ n,x.dst=some n->n ∉ y.looks)/\(∀ n,x.dst=some n->y.dst≠some n):=by
 unfold WA.clear at h;constructor
 ·intro n hn;rw [hn] at h;simp at h;exact h.1
 ·intro n hn;rw [hn] at h;simp at h;exact h.2
theorem UT {y:WA} {d:Option Nat} {v:wA} (h:∀ n,d=some n->n ∉ y.looks):y.runG call (s.put d v)=y.runG call s:=by
 have h1:y.op.run call (s.put d v)=y.op.run call s:=nQ _ (fun o ho=>get_put fun n hn hd=>h n hd (looks_opds ho hn)) (fun t n _=>by cases d <;> rfl) (fun _=>by cases d <;> rfl);unfold WA.runG;rw [h1];cases hg:y.guard with
 | none=>rfl
 | some p =>
  obtain ⟨t,want⟩:=p;have:t∈y.looks:=by unfold WA.looks; rw [hg]; simp
  have he:((s.put d v).env t)=s.env t:=by
   cases d with
   | none=>rfl
   | some d =>
    have:t≠d:=fun e=>h d rfl (e ▸ this)
    simp [pA.put,this]
  simp only [he]
def Tr.off (T:Tr) (o:WA):Prop:=match T with
 | .id=>True
 | .row t _ _=>¬ o.op.reads t
 | .an _ _=>isT o.op=false
 | .obj _ _ _=>pU o.op=false
 | .rn ..=>False
 | .ob2 _ _ _ d _ _=>pU o.op=false/\¬ o.op.reads d
def Tr.act (T:Tr) (p:wA × zD):wA × zD:=match T with
 | .an _ _=>(p.1.mapAn T.f,p.2.mapAn T.f)
 | _=>p
theorem runG_tr {y:WA} {T:Tr} (h:T.off y):y.runG call (T.ap s)=(y.runG call s).map T.act:=by
 cases T with
 | rn=>exact absurd h id
 | ob2 t n S d m r =>
  have h1:y.op.run call ((s.setObj t n S).setRow d m r)=y.op.run call s:=nQ _ (fun o ho=>by
   cases o with
   | t n=>exact ⟨rfl,rfl⟩
   | c v=>exact ⟨rfl,by cases v <;> first | rfl | (rename_i b l; cases b <;> rfl)⟩) (fun t' n' hr=>by
   simp only [pA.setRow,pA.setObj];rw [if_neg];rintro ⟨e,_⟩;exact h.2 (e ▸ hr)) (fun ho=>by
    have h':pU y.op=false:=h.1;rw [h'] at ho; cases ho)
  have:y.runG call ((Tr.ob2 t n S d m r).ap s)=y.runG call s:=by
   unfold WA.runG Tr.ap;rw [h1];rfl
  have h2:(Tr.act (.ob2 t n S d m r):wA × zD->wA × zD)=id:=rfl;rw [this,h2,Option.map_id];rfl
 | id =>
  have:(Tr.act .id:wA × zD->wA × zD)=id:=rfl;rw [this,Option.map_id];rfl
 | row t n r =>
  have h1:y.op.run call (s.setRow t n r)=y.op.run call s:=nQ _ (fun o ho=>by
   cases o with
   | t n=>exact ⟨rfl,rfl⟩
   | c v=>exact ⟨rfl,by cases v <;> first | rfl | (rename_i b l; cases b <;> rfl)⟩) (fun t' n' hr=>by
   simp only [pA.setRow];rw [if_neg];rintro ⟨e,_⟩;exact h (e ▸ hr)) (fun _=>rfl)
  have:y.runG call ((Tr.row t n r).ap s)=y.runG call s:=by
   unfold WA.runG Tr.ap;rw [h1];rfl
  have h2:(Tr.act (.row t n r):wA × zD->wA × zD)=id:=rfl;rw [this,h2,Option.map_id];rfl
 | obj t n S =>
  have h1:y.op.run call (s.setObj t n S)=y.op.run call s:=nQ _ (fun o ho=>by
   cases o with
   | t n=>exact ⟨rfl,rfl⟩
   | c v=>exact ⟨rfl,by cases v <;> first | rfl | (rename_i b l; cases b <;> rfl)⟩) (fun t' n' hr=>rfl) (fun ho=>by
    have h':pU y.op=false:=h;rw [h'] at ho; cases ho)
  have:y.runG call ((Tr.obj t n S).ap s)=y.runG call s:=by
   unfold WA.runG Tr.ap;rw [h1];rfl
  have h2:(Tr.act (.obj t n S):wA × zD->wA × zD)=id:=rfl;rw [this,h2,Option.map_id];rfl
 | an A d =>
  rw [Tr.ap_an];have h1:=run_mapAn (call:=call) (s:=s) (Tr.ends (.an A d)) y.op h;unfold WA.runG;rw [h1];cases y.guard with
  | none=>rfl
  | some p =>
   obtain ⟨t,want⟩:=p;simp only [pA.mapAn];generalize (s.env t).v=y;cases y with
   | bool b =>
    simp only;split
    ·rfl
    ·simp [Tr.act,wA.mapAn,zD.mapAn,(Tr.ends (.an A d)).no]
   | tup l=>cases l <;> simp [Tr.act,wA.mapAn,zD.mapAn,(Tr.ends (.an A d)).no]
   | _=>rfl
theorem X8 {x y:WA} (h:EI x y=true):EI y x=true:=by
 unfold EI at h ⊢;simp only [y9] at h ⊢;obtain ⟨⟨⟨⟨⟨⟨⟨m1,m2⟩,h1⟩,h0⟩,h2⟩,h3⟩,h4⟩,h5⟩:=h;refine ⟨⟨⟨⟨⟨⟨⟨m2,m1⟩,by rw [Bool.or_comm]; exact h1⟩,by rw [Bool.or_comm (!pU y.op),Bool.and_comm]; exact h0⟩,?_⟩,h4⟩,h3⟩,?_⟩
 ·cases hc:x.op.cl with
  | none=>cases y.op.cl <;> rfl
  | some c =>
   cases hd:y.op.cl with
   | none=>rfl
   | some d =>
    rw [hc,hd] at h2;simp only [Bool.or_eq_true] at h2 ⊢;refine h2.imp (fun h=>by rw [Bool.or_comm]; exact h) fun h=>?_
    cases c <;> cases d <;> first | rfl | exact h | (simp at h ⊢; exact fun e=>h e.symm) | (simp at h)
 ·simp only [Bool.or_eq_true] at h5 ⊢;rcases h5 with (h | h) | h
  ·exact .inl (.inr h)
  ·exact .inl (.inl h)
  ·exact .inr (by simp at h ⊢; exact fun e=>h e.symm)
theorem off_of {T:Tr} {x y:WA} (h:T.of x) (na:EI x y=true):T.off y:=by
 unfold EI at na;simp only [y9] at na;obtain ⟨⟨⟨⟨⟨⟨⟨m1,m2⟩,h1⟩,h0⟩,h2⟩,h3⟩,h4⟩,h5⟩:=na;cases T with
 | id=>trivial
 | rn k t n r =>
  have h':isM x.op=true:=h;rw [h'] at m1;cases m1
 | ob2 t n S d m r =>
  obtain ⟨⟨g1,g2,ha⟩,hd⟩:=h;rw [g1,g2] at h0;refine ⟨by simpa using h0,fun hr=>?_⟩;unfold K.reads at hr;rw [ha,hd] at h3;cases dd:y.op.cl with
  | none=>rw [dd] at hr; exact hr
  | some c =>
   rw [dd] at hr h3;cases c with
   | any=>simp at h3
   | imm=>exact hr
   | root r=>simp at h3; exact h3 hr
   | out L=>simp only [Bool.not_true,Bool.false_or] at h3 hr; rw [h3] at hr; cases hr
 | an A d =>
  have:=h.1;rw [this] at h1;show isT y.op=false;simpa using h1
 | obj t n S =>
  obtain ⟨g1,g2⟩:pU x.op=true/\isR x.op=false:=h;rw [g1,g2] at h0;show pU y.op=false;simpa using h0
 | row t n r =>
  intro hr;unfold K.reads at hr;rcases h with ⟨ha,hd⟩ | ⟨hs,hc⟩
  ·rw [ha,hd] at h3;cases dd:y.op.cl with
   | none=>rw [dd] at hr; exact hr
   | some c =>
    rw [dd] at hr h3;cases c with
    | any=>simp at h3
    | imm=>exact hr
    | root r=>simp at h3; exact h3 hr
    | out L=>simp only [Bool.not_true,Bool.false_or] at h3 hr; rw [h3] at hr; cases hr
  ·cases dd:y.op.cl with
   | none=>rw [dd] at hr; exact hr
   | some c =>
    rw [dd] at hr;obtain ⟨c0,hc,hp⟩:=hc;rw [hc,dd,hs] at h2;cases c0 with
    | imm=>simp [Cl.okPtr] at hp
    | any=>cases c <;> first | exact hr | (simp at h2)
    | root r0 =>
     simp [Cl.okPtr] at hp;subst hp;cases c with
     | imm=>exact hr
     | any=>simp at h2
     | root r=>simp at h2; exact h2 hr
     | out L=>simp at h2 hr; exact hr h2
    | out L0 =>
     simp [Cl.okPtr] at hp;cases c with
     | imm=>exact hr
     | any=>simp at h2
     | root r=>simp at h2 hr; subst hr; exact hp h2
     | out L=>simp at h2
theorem row_ne {t n t' n':Nat} {r r':List wA} {x y:WA} (h:(Tr.row t n r).of x) (h':(Tr.row t' n' r').of y) (na:EI x y=true):t≠t':=by
 unfold EI at na;simp only [y9] at na;obtain ⟨⟨⟨⟨⟨⟨⟨m1,m2⟩,h1⟩,h0⟩,h2⟩,h3⟩,h4⟩,h5⟩:=na;rintro rfl;rcases h with ⟨ha,hd⟩ | ⟨hs,hc⟩ <;> rcases h' with ⟨lu,jp⟩ | ⟨xf,af⟩
 ·rw [ha,lu,hd,jp] at h5; simp at h5
 ·rw [ha,hd] at h3;obtain ⟨c,af,hp⟩:=af;rw [af] at h3;cases c <;> simp [Cl.okPtr] at h3 hp <;> first | exact h3 hp.symm | exact hp h3
 ·rw [lu,jp] at h4;obtain ⟨c,hc,hp⟩:=hc;rw [hc] at h4;cases c <;> simp [Cl.okPtr] at h4 hp <;> first | exact h4 hp.symm | exact hp h4
 ·obtain ⟨c,hc,hp⟩:=hc;obtain ⟨c',af,hp'⟩:=af;rw [hc,af,hs] at h2;cases c <;> cases c' <;> simp [Cl.okPtr] at h2 hp hp'
  ·subst hp; subst hp'; exact h2 rfl
  ·subst hp; exact hp' h2
  ·subst hp'; exact hp h2
def Tr.conj (T:Tr):Tr->Tr
 | .row t n r=>match T with
  | .an A d=>.row t n (r.map (wA.mapAn (Tr.an A d).f))
  | _=>.row t n r
 | .ob2 t n S d m r=>match T with
  | .an A d'=>.ob2 t n S d m (r.map (wA.mapAn (Tr.an A d').f))
  | _=>.ob2 t n S d m r
 | T'=>T'
def Tr.actS (T:Tr) (v:wA):wA:=match T with
 | .an A d=>v.mapAn (Tr.an A d).f
 | _=>v
theorem r8 {T:Tr} {o:WA} {n:Nat} {p:wA × zD} {T':Tr} {v:wA} (h:o.effT n p=some (T',v)) (hT:(∃ A d,T=.an A d)->∀ A d,T'≠.an A d) (hR:∀ k t m r,T'≠.rn k t m r):o.effT n (T.act p)=some (T.conj T',T.actS v):=by
 obtain ⟨x,e⟩:=p;cases T with
 | id=>rw [show Tr.id.act (x,e)=(x,e) from rfl,h]; cases T' <;> rfl
 | row t m r=>rw [show (Tr.row t m r).act (x,e)=(x,e) from rfl,h]; cases T' <;> rfl
 | obj t m S=>rw [show (Tr.obj t m S).act (x,e)=(x,e) from rfl,h]; cases T' <;> rfl
 | rn k t m r=>rw [show (Tr.rn k t m r).act (x,e)=(x,e) from rfl,h]; cases T' <;> rfl
 | ob2 t n S d m r=>rw [show (Tr.ob2 t n S d m r).act (x,e)=(x,e) from rfl,h]; cases T' <;> rfl
 | an A d =>
  cases e with
  | none=>simp only [WA.effT] at h; injection h with h; injection h with h1 h2; subst h1; subst h2; rfl
  | new r =>
   simp only [WA.effT] at h;split at h
   ·cases h
   ·rename_i d' hd;injection h with h; injection h with h1 h2; subst h1; subst h2;simp only [Tr.act,WA.effT,zD.mapAn,hd,Tr.conj,Tr.actS,wA.mapAn,(Tr.ends (.an A d)).no]
  | set t m r =>
   simp only [WA.effT] at h;injection h with h; injection h with h1 h2; subst h1; subst h2;simp only [Tr.act,WA.effT,zD.mapAn,Tr.conj,Tr.actS,wA.mapAn,(Tr.ends (.an A d)).no]
  | app a k =>
   simp only [WA.effT] at h;split at h
   ·cases h
   ·injection h with h; injection h with h1 h2; subst h1; exact absurd rfl (hT ⟨A,d,rfl⟩ _ _)
  | obj t m S =>
   simp only [WA.effT] at h;injection h with h; injection h with h1 h2; subst h1; subst h2;rfl
  | mk S =>
   simp only [WA.effT] at h;split at h
   ·cases h
   ·rename_i d' hd;injection h with h; injection h with h1 h2; subst h1; subst h2;simp only [Tr.act,WA.effT,zD.mapAn,hd,Tr.conj,Tr.actS,wA.mapAn,(Tr.ends (.an A d)).no]
  | rn k r =>
   simp only [WA.effT] at h;split at h
   ·cases h
   ·injection h with h; injection h with h1 h2; exact absurd h1.symm (hR _ _ _ _)
  | ob2 t n S r =>
   simp only [WA.effT] at h;split at h
   ·cases h
   ·rename_i d' hd;injection h with h; injection h with h1 h2; subst h1; subst h2;simp only [Tr.act,WA.effT,zD.mapAn,hd,Tr.conj,Tr.actS,wA.mapAn,(Tr.ends (.an A d)).no]
theorem tD {d d':Option Nat} (h:∀ n,d=some n->d'≠some n) (v v':wA):(s.put d v).put d' v'=(s.put d' v').put d v:=by
 cases d with
 | none=>rfl
 | some d =>
  cases d' with
  | none=>rfl
  | some d' =>
   have:d≠d':=fun e=>h d rfl (by rw [e])
   simp only [pA.put];congr 1;funext t;by_cases h1:t=d'
   ·by_cases h2:t=d
    ·exact absurd (h2.symm.trans h1) this
    ·rw [h1]; simp only [if_true]; rw [if_neg (fun e=>this e.symm)]
   ·simp [h1]
theorem KI (f:An->An) (d:Option Nat) (v:wA):(s.put d v).mapAn f=(s.mapAn f).put d (v.mapAn f):=by
 cases d with
 | none=>rfl
 | some d =>
  simp only [pA.put,pA.mapAn];congr 1;funext t;by_cases h:t=d <;> simp [h,wA.mapAn]
theorem JL (f:An->An) (t n:Nat) (r:List wA):(s.setRow t n r).mapAn f=(s.mapAn f).setRow t n (r.map (wA.mapAn f)):=by
 simp only [pA.setRow,pA.mapAn];congr 1;funext t' n';by_cases h:t'=t/\n'=n
 ·simp only [h,and_self,if_true,yx]; rfl
 ·simp [h]
theorem KC (d:Option Nat) (v:wA) (t n:Nat) (r:List wA):(s.put d v).setRow t n r=(s.setRow t n r).put d v:=by cases d <;> rfl
theorem eQ {t n t' n':Nat} (h:t≠t') (r r':List wA):(s.setRow t n r).setRow t' n' r'=(s.setRow t' n' r').setRow t n r:=by
 simp only [pA.setRow];congr 1;funext a b;by_cases h1:a=t'
 ·have:¬ (a=t/\b=n):=fun e=>h (e.1.symm.trans h1)
  simp [this]
 ·have:¬ (a=t'/\b=n'):=fun e=>h1 e.1
  simp [this]
theorem fE (d:Option Nat) (v:wA) (t n:Nat) (S:AV):(s.put d v).setObj t n S=(s.setObj t n S).put d v:=by cases d <;> rfl
theorem HL (f:An->An) (t n:Nat) (S:AV):(s.setObj t n S).mapAn f=(s.mapAn f).setObj t n S:=rfl
theorem mR (t n:Nat) (r:List wA) (t' n':Nat) (S:AV):(s.setRow t n r).setObj t' n' S=(s.setObj t' n' S).setRow t n r:=rfl
theorem Q5 {t n:Nat} {S:AV} {d m:Nat} {r:List wA} {o:WA} (h:(Tr.ob2 t n S d m r).of o):(Tr.row d m r).of o:=.inl ⟨h.1.2.2,h.2⟩
theorem next_tr (T:Tr) (s:pA) (d:Option Nat) (v:wA):((T.ap s).put d v).next=s.next:=by
 have:(T.ap s).next=s.next:=by
  cases T with
  | an A d=>rw [Tr.ap_an]; rfl
  | rn k t n r=>cases k <;> rfl
  | _=>rfl
 cases d <;> exact this
theorem commute0 {x y:WA} (ck:rK x y=true) (na:EI x y=true) (h1:x.step call s=some s1) (h2:y.step call s1=some s2):∃ aq,y.step call s=some aq/\x.step call aq=some s2:=by
 unfold rK at ck;simp only [y9] at ck;obtain ⟨a1,a2⟩:=eO ck.1;obtain ⟨a3,a4⟩:=eO ck.2;rw [SO] at h1 h2;obtain ⟨p,hp,h1⟩:=yb.1 h1;obtain ⟨⟨Tx,vx⟩,hx,h1⟩:=yj.1 h1;obtain ⟨q,hq,h2⟩:=yb.1 h2;obtain ⟨⟨Ty,vy⟩,hy,h2⟩:=yj.1 h2;simp only at h1 h2;subst h1;have ofx:Tx.of x:=P9 x (x:=p.1) (e:=p.2) hp hx;have offy:=off_of ofx na;rw [UT a1,runG_tr offy] at hq;obtain ⟨q0,hq0,rfl⟩:=yj.1 hq;rw [next_tr] at hy
 -- y in the first state
 have rh:∃ Ty0 vy0,y.effT s.next q0=some (Ty0,vy0):=by
  obtain ⟨u,e⟩:=q0;cases e with
  | none=>exact ⟨_,_,rfl⟩
  | new r =>
   cases hd:y.dst with
   | none =>
    exfalso;cases Tx <;> simp [Tr.act,WA.effT,zD.mapAn,hd] at hy
   | some d=>exact ⟨.row d s.next r,_,by simp only [WA.effT,hd]; rfl⟩
  | set t n r=>exact ⟨_,_,rfl⟩
  | obj t n S=>exact ⟨_,_,rfl⟩
  | mk S =>
   cases hd:y.dst with
   | none =>
    exfalso;cases Tx <;> simp [Tr.act,WA.effT,zD.mapAn,hd] at hy
   | some d=>exact ⟨.obj d s.next S,_,by simp only [WA.effT,hd]; rfl⟩
  | app a k =>
   cases hd:y.dst with
   | none =>
    exfalso;cases Tx <;> simp [Tr.act,WA.effT,zD.mapAn,hd] at hy
   | some d=>exact ⟨.an a d,_,by simp only [WA.effT,hd]; rfl⟩
  | rn k r =>
   cases hd:y.dst with
   | none =>
    exfalso;cases Tx <;> simp [Tr.act,WA.effT,zD.mapAn,hd] at hy
   | some d=>exact ⟨.rn k d s.next r,_,by simp only [WA.effT,hd]; rfl⟩
  | ob2 t n S r =>
   cases hd:y.dst with
   | none =>
    exfalso;cases Tx <;> simp [Tr.act,WA.effT,zD.mapAn,hd] at hy
   | some d=>exact ⟨.ob2 t n S d s.next r,_,by simp only [WA.effT,hd]; rfl⟩
 obtain ⟨Ty0,vy0,rh⟩:=rh;have ofy:Ty0.of y:=P9 y (x:=q0.1) (e:=q0.2) hq0 rh;have offx:=off_of ofy (X8 na);have notT:∀ A d A' d',Tx=.an A d->Ty0=.an A' d'->False:=fun A d A' d' e e'=>by
  subst e; subst e';have:=ofy.1;rw [show isT y.op=false from offy] at this;cases this
 have noM:∀ {T:Tr} {o:WA},T.of o->isM o.op=false->∀ k t m r,T≠.rn k t m r:=fun h hm k t m r e=>by
  subst e;have h':isM _=true:=h;rw [hm] at h';cases h'
 have hMx:isM x.op=false:=by unfold EI at na; simp only [y9] at na; simpa using na.1.1.1.1.1.1.1
 have hMy:isM y.op=false:=by unfold EI at na; simp only [y9] at na; simpa using na.1.1.1.1.1.1.2
 have nx:=noM ofx hMx;have ny:=noM ofy hMy;have hyc:=r8 (T:=Tx) rh (hR:=ny) (fun ⟨A,d,e⟩ A' d' e'=>notT A d A' d' e e');rw [hyc] at hy;injection hy with hy;injection hy with e1 e2;subst e1; subst e2;have hxc:=r8 (T:=Ty0) hx (hR:=nx) (fun ⟨A,d,e⟩ A' d' e'=>notT A' d' A d e' e);refine ⟨(Ty0.ap s).put y.dst vy0,by rw [SO,hq0,V,rh]; rfl,?_⟩;rw [SO,UT a3,runG_tr offx,hp];simp only [yx,V,next_tr,hxc];rw [<- h2];congr 1;have notO:∀ t n S t' n' S',Tx=.obj t n S->Ty0=.obj t' n' S'->False:=fun t n S t' n' S' e e'=>by
  subst e; subst e';have h1:pU y.op=true:=ofy.1;rw [show pU y.op=false from offy] at h1;cases h1
 cases Tx with
 | rn=>exact absurd rfl (nx _ _ _ _)
 | id =>
  cases Ty0 with
  | rn=>exact absurd rfl (ny _ _ _ _)
  | ob2 t n S d m r=>simp only [Tr.ap,Tr.conj,Tr.actS]; rw [fE,KC]; exact (tD a2 _ _).symm
  | id=>exact (tD a2 _ _).symm
  | row t n r=>simp only [Tr.ap,Tr.conj,Tr.actS]; rw [KC]; exact (tD a2 _ _).symm
  | an A d =>
   simp only [Tr.conj,Tr.actS,Tr.ap_an,KI];exact (tD a2 _ _).symm
  | obj t n S=>simp only [Tr.ap,Tr.conj,Tr.actS]; rw [fE]; exact (tD a2 _ _).symm
 | row t n r =>
  cases Ty0 with
  | rn=>exact absurd rfl (ny _ _ _ _)
  | ob2 t' n' S d m r' =>
   have la:=row_ne (x:=x) (y:=y) ofx (Q5 ofy) na;simp only [Tr.ap,Tr.conj,Tr.actS];rw [KC,fE,KC,mR,eQ la];exact (tD a2 _ _).symm
  | id=>simp only [Tr.ap,Tr.conj,Tr.actS]; rw [KC]; exact (tD a2 _ _).symm
  | row t' n' r' =>
   simp only [Tr.ap,Tr.conj,Tr.actS];rw [KC,KC,eQ (row_ne ofx ofy na)];exact (tD a2 _ _).symm
  | an A d =>
   simp only [Tr.conj,Tr.actS,Tr.ap_an,KI];simp only [Tr.ap,JL,KC];exact (tD a2 _ _).symm
  | obj t' n' S =>
   simp only [Tr.ap,Tr.conj,Tr.actS];rw [fE,KC];exact (tD a2 _ _).symm
 | an A d =>
  cases Ty0 with
  | rn=>exact absurd rfl (ny _ _ _ _)
  | ob2 t' n' S d' m r' =>
   simp only [Tr.conj,Tr.actS,Tr.ap_an,KI];simp only [Tr.ap,JL,HL,fE,KC];exact (tD a2 _ _).symm
  | id =>
   simp only [Tr.conj,Tr.actS,Tr.ap_an,KI];exact (tD a2 _ _).symm
  | row t' n' r' =>
   simp only [Tr.conj,Tr.actS,Tr.ap_an,KI];simp only [Tr.ap,JL,KC];exact (tD a2 _ _).symm
  | an A' d'=>exact (notT A d A' d' rfl rfl).elim
  | obj t' n' S =>
   simp only [Tr.conj,Tr.actS,Tr.ap_an,KI];simp only [Tr.ap,HL,fE];exact (tD a2 _ _).symm
 | obj t n S =>
  cases Ty0 with
  | rn=>exact absurd rfl (ny _ _ _ _)
  | ob2 t' n' S' d m r'=>exact absurd ofy.1.1 (by rw [show pU y.op=false from offy]; decide)
  | id=>simp only [Tr.ap,Tr.conj,Tr.actS]; rw [fE]; exact (tD a2 _ _).symm
  | row t' n' r' =>
   simp only [Tr.ap,Tr.conj,Tr.actS];rw [KC,fE];exact (tD a2 _ _).symm
  | an A d =>
   simp only [Tr.conj,Tr.actS,Tr.ap_an,KI];simp only [Tr.ap,HL,fE];exact (tD a2 _ _).symm
  | obj t' n' S'=>exact (notO t n S t' n' S' rfl rfl).elim
 | ob2 t n S d m r =>
  have hyO:pU y.op=false:=offy.1;cases Ty0 with
  | rn=>exact absurd rfl (ny _ _ _ _)
  | id=>simp only [Tr.ap,Tr.conj,Tr.actS]; rw [fE,KC]; exact (tD a2 _ _).symm
  | row t' n' r' =>
   have la:=row_ne (x:=x) (y:=y) (Q5 ofx) ofy na;simp only [Tr.ap,Tr.conj,Tr.actS];rw [KC,fE,KC,<- mR,eQ la];exact (tD a2 _ _).symm
  | an A d' =>
   simp only [Tr.conj,Tr.actS,Tr.ap_an,KI];simp only [Tr.ap,JL,HL,fE,KC];exact (tD a2 _ _).symm
  | obj t' n' S'=>exact absurd ofy.1 (by rw [hyO]; decide)
  | ob2 t' n' S' d' m' r'=>exact absurd ofy.1.1 (by rw [hyO]; decide)
def Tr.kl (T:Tr) (w:wA):wA:=match T with
 | .rn (some p) _ _ _=>w.kill p.1 p.2
 | _=>w
theorem isN_eff {k:K} (hk:isN k=true) {v:wA} {e:zD} (h:k.run call s=some (v,e)):e=.none\/(∃ r,e=.new r)\/∃ q r,e=.rn q r:=by
 cases k with
 | appm cl e' z b x y =>
  simp only [K.run] at h;split at h
  ·split at h
   ·split at h
    ·split at h
     ·injection h with h; injection h with _ h; exact .inl h.symm
     ·injection h with h; injection h with _ h; exact .inr (.inl ⟨_,h.symm⟩)
    ·cases h
   ·cases h
  ·split at h
   ·split at h
    ·injection h with h; injection h with _ h; exact .inr (.inr ⟨_,_,h.symm⟩)
    ·cases h
   ·cases h
  ·cases h
 | appn cl e' z b x y =>
  simp only [K.run] at h;split at h
  ·split at h
   ·split at h
    ·injection h with h; injection h with _ h; exact .inr (.inl ⟨_,h.symm⟩)
    ·cases h
   ·cases h
  ·split at h
   ·split at h
    ·injection h with h; injection h with _ h; exact .inr (.inr ⟨_,_,h.symm⟩)
    ·cases h
   ·cases h
  ·cases h
 | _=>cases hk
theorem isN_tr {x:WA} (hk:isN x.op=true) {p:wA × zD} (hp:x.runG call s=some p) {n:Nat} {T:Tr} {v:wA} (ht:x.effT n p=some (T,v)):T=.id\/(∃ t m r,T=.row t m r)\/∃ q t m r,T=.rn q t m r:=by
 have he:p.2=.none\/(∃ r,p.2=.new r)\/∃ q r,p.2=.rn q r:=by
  unfold WA.runG at hp;split at hp
  ·exact isN_eff hk (v:=p.1) (e:=p.2) hp
  ·split at hp
   ·split at hp
    ·exact isN_eff hk (v:=p.1) (e:=p.2) hp
    ·injection hp with hp; subst hp; exact .inl rfl
   ·injection hp with hp; subst hp; exact .inl rfl
   ·cases hp
 obtain ⟨v0,e⟩:=p;rcases he with he | ⟨r,he⟩ | ⟨q,r,he⟩
 ·simp only at he; subst he; injection ht with ht; injection ht with h1 _; exact .inl h1.symm
 ·simp only at he;subst he;simp only [WA.effT] at ht;split at ht
  ·cases ht
  ·injection ht with ht; injection ht with h1 _; exact .inr (.inl ⟨_,_,_,h1.symm⟩)
 ·simp only at he;subst he;simp only [WA.effT] at ht;split at ht
  ·cases ht
  ·injection ht with ht; injection ht with h1 _; exact .inr (.inr ⟨_,_,_,_,h1.symm⟩)
theorem X3 {T:Tr} (h:T=.id\/(∃ t m r,T=.row t m r)\/∃ q t m r,T=.rn q t m r) (s:pA) (d:Nat) (w:wA):T.ap (s.put (some d) w)=(T.ap s).put (some d) (T.kl w)/\∀ z,(T.ap s).env z=T.kl (s.env z):=by
 rcases h with rfl | ⟨t,m,r,rfl⟩ | ⟨q,t,m,r,rfl⟩
 ·exact ⟨rfl,fun _=>rfl⟩
 ·exact ⟨rfl,fun _=>rfl⟩
 ·cases q with
  | none=>exact ⟨rfl,fun _=>rfl⟩
  | some p =>
   refine ⟨?_,fun _=>rfl⟩;simp only [Tr.ap,pA.killO,pA.kill,pA.put,pA.setRow,Tr.kl];congr 1;funext j;by_cases hj:j=d <;> simp [hj]
theorem isMv_eq {y:WA} (h:isMv y=true):∃ d z,y=⟨d,.mv (.t z),none⟩:=by
 obtain ⟨d,k,g⟩:=y;unfold isMv at h;simp only at h;split at h
 ·exact ⟨_,_,rfl⟩
 ·cases h
theorem Z7 {x y:WA} (ck:rK x y=true) (hx:isN x.op=true) (hy:isMv y=true):(∀ s s1 s2,x.step call s=some s1->y.step call s1=some s2->∃ aq,y.step call s=some aq/\x.step call aq=some s2)/\∀ s s1 s2,y.step call s=some s1->x.step call s1=some s2->∃ aq,x.step call s=some aq/\y.step call aq=some s2:=by
 obtain ⟨d,z,rfl⟩:=isMv_eq hy;unfold rK at ck;simp only [y9] at ck;obtain ⟨a1,a2⟩:=eO ck.1;obtain ⟨a3,a4⟩:=eO ck.2;have hz:∀ n,x.dst=some n->n≠z:=fun n hn e=>a1 n hn (by subst e; simp [WA.looks,K.opds])
 have hyr:∀ s:pA,(⟨d,.mv (.t z),none⟩:WA).step call s=some (s.put d ⟨(s.env z).v,(s.env z).a⟩):=fun _=>rfl
 have key:∀ (s:pA) (p:wA × zD) (T:Tr) (v:wA),x.runG call s=some p->x.effT s.next p=some (T,v)->(T.ap (s.put d (s.env z))).put x.dst v=((T.ap s).put x.dst v).put d ((((T.ap s).put x.dst v).env z))/\x.step call (s.put d (s.env z))=some ((T.ap (s.put d (s.env z))).put x.dst v):=fun s p T v hp hT=>by
  have hk:=isN_tr hx hp hT;constructor
  ·have he:((T.ap s).put x.dst v).env z=T.kl (s.env z):=by
    cases hd:x.dst with
    | none=>exact (X3 hk s 0 v).2 z
    | some n =>
     simp only [pA.put];rw [if_neg (fun e=>hz n hd e.symm)];exact (X3 hk s 0 v).2 z
   rw [he];cases d with
   | none=>rfl
   | some d =>
    rw [(X3 hk s d _).1];exact (tD (fun n hn e=>a4 n hn e) _ _)
  ·rw [SO,UT (fun n hn=>a3 n hn),hp];have hn:(s.put d (s.env z)).next=s.next:=by cases d <;> rfl
   simp only [V,hn,hT,yx]
 refine ⟨fun s s1 s2 h1 h2=>?_,fun s s1 s2 h1 h2=>?_⟩
 ·rw [SO] at h1;obtain ⟨p,hp,h1⟩:=yb.1 h1;obtain ⟨⟨T,v⟩,hT,h1⟩:=yj.1 h1;simp only at h1;rw [hyr] at h2;injection h2 with h2;refine ⟨_,hyr s,?_⟩;obtain ⟨k1,k2⟩:=key s p T v hp hT;have k2':x.step call (s.put d ⟨(s.env z).v,(s.env z).a⟩)=some ((T.ap (s.put d (s.env z))).put x.dst v):=k2;rw [k2',k1,<- h2,<- h1]
 ·rw [hyr] at h1;injection h1 with h1;subst h1;have tl:x.step call (s.put d (s.env z))=some s2:=h2;rw [SO,UT (fun n hn=>a3 n hn)] at tl;obtain ⟨p,hp,tl⟩:=yb.1 tl;obtain ⟨⟨T,v⟩,hT,tl⟩:=yj.1 tl;have hn:(s.put d (s.env z)).next=s.next:=by cases d <;> rfl
  rw [hn] at hT;obtain ⟨k1,_⟩:=key s p T v hp hT;refine ⟨(T.ap s).put x.dst v,by rw [SO,hp]; simp only [V,hT,yx],?_⟩;rw [hyr,<- tl];simp only;rw [k1]
theorem T5 {x y:WA} (h:rK x y=true):rK y x=true:=by
 unfold rK at h ⊢;rw [Bool.and_comm];exact h
theorem commute {x y:WA} (ck:rK x y=true) (na:lO x y=true) (h1:x.step call s=some s1) (h2:y.step call s1=some s2):∃ aq,y.step call s=some aq/\x.step call aq=some s2:=by
 unfold lO at na;simp only [Bool.or_eq_true,y9] at na;rcases na with h | ⟨h,h'⟩ | ⟨h,h'⟩
 ·exact commute0 ck h h1 h2
 ·exact (Z7 (T5 ck) h' h).2 s s1 s2 h1 h2
 ·exact (Z7 ck h' h).1 s s1 s2 h1 h2
end
end
section
open Go Go.RowKit
section
variable {P:Program} {O:rH} {nt B:Nat} {F0:qP} {da:Av} {w0:World} {s s':pA} {a:Act} {w w':World} {ι:Ix} {Θ:aL} {call:iB} {lh:LH} {Q:Exit->Act->World->Prop}
def gsh (nt:Nat) (a:Act) (g:Nat->Value):Nat->Value:=fun t=>if t<nt then a.tmps.getD t undef else g (t - nt)
def qP.wait (F0:qP) (nt:Nat) (a:Act):qP:=⟨F0.b,F0.p,F0.r,F0.z,gsh nt a F0.g⟩
def pA.bare (s:pA):pA:={ s with env:=fun _=>⟨.undef,.no⟩ }
def j5 (P:Program) (O:rH) (B:Nat) (F0:qP) (da:Av) (w0:World) (s:pA) (w:World) (ι:Ix) (Θ:aL):Prop:=uC P O 0 B F0 da w0 (fun _=>False) s.bare ⟨#[],[]⟩ w ι Θ
def mH (ι:Ix) (Θ:aL) (av avb:Av) (w:World):List wA->List Value->Prop
 | [],us=>us=[]
 | x :: r,us=>∃ u sa,us=u :: sa/\MA ι av avb w x.v u/\uM Θ x.a u/\mH ι Θ av avb w r sa
theorem gS {av avb:Av}:∀ {xs ys:List wA} {us vs:List Value},mH ι Θ av avb w xs us->mH ι Θ av avb w ys vs->mH ι Θ av avb w (xs++ys) (us++vs)
 | [],_,_,_,h,h'=>by simp only [mH] at h; subst h; exact h'
 | x :: r,_,_,_,h,h'=>by
  simp only [mH] at h;obtain ⟨u,sa,rfl,h0,h1,h⟩:=h;exact ⟨u,sa++_,rfl,h0,h1,gS h h'⟩
def b3 (P:Program) (O:rH) (hp:HpT):Prop:=∀ f xs s k r,hp f xs s k=some r->(∀ vs w,(callFunc f vs).run P w=.ok (.enter f vs) w) ∧
 ∀ (B:Nat) (F0:qP) (da:Av) (w0 w:World) (ι:Ix) (Θ:aL) (us:List Value) (E:Ending->World->Prop),j5 P O B F0 da w0 s w ι Θ->mH ι Θ (PC da ι Θ) (IC ι Θ) w xs us →
  (∀ y s' w' ι' Θ' v,j5 P O B F0 da w0 s' w' ι' Θ'->MA ι' (PC da ι' Θ') (IC ι' Θ') w' y.v v->uM Θ' y.a v->k y s'=some r->E (.returned v) w')->Calls P f us.toArray w E
theorem uC.wait {D:Nat->Prop} (R:uC P O nt B F0 da w0 D s a w ι Θ):j5 P O B (F0.wait nt a) da w0 (s.enter nt) w ι Θ :=
 ⟨rfl,rfl,fun _=>trivial,fun _=>trivial,R.rows,fun t n b h=>let ⟨h1,h2,h3⟩:=R.mine t n b h; ⟨h1,h2,.inl (by simp only [pA.bare,pA.enter]; rcases h3 with h | h <;> omega)⟩,R.inj,R.tok,R.tinj,R.apart,R.out,R.pin,R.kept,R.base,R.objs,fun t n H h=>let ⟨h1,h2⟩:=R.obs t n H h; ⟨h1,.inl (by simp only [pA.bare,pA.enter]; rcases h2 with h | h <;> omega)⟩,fun t=>by
  simp only [pA.bare,pA.enter,qP.wait,gsh];split
  ·exact R.env t
  ·exact R.gen _,fun t=>by
  simp only [pA.bare,pA.enter,qP.wait,gsh];split
  ·exact R.ann t
  ·exact R.gann _⟩
theorem uC.resume {D D':Nat->Prop} {s':pA} {ι':Ix} {Θ':aL} (R:uC P O nt B F0 da w0 D s a w ι Θ) (R':j5 P O B (F0.wait nt a) da w0 s' w' ι' Θ'):uC P O nt B F0 da w0 D' (s'.leave nt) a w' ι' Θ' :=
 ⟨R.defers,R.size,fun t=>by
  have:=R'.gen t;simp only [pA.bare,qP.wait,gsh] at this;simp only [pA.leave];split
  ·rename_i h; rw [if_pos h] at this; exact this
  ·trivial,fun t=>by
  have:=R'.gann t;simp only [pA.bare,qP.wait,gsh] at this;simp only [pA.leave];split
  ·rename_i h; rw [if_pos h] at this; exact this
  ·trivial,R'.rows,fun t n b h=>let ⟨h1,h2,h3⟩:=R'.mine t n b h; ⟨h1,h2,h3.imp id fun h=>h.2.elim⟩,R'.inj,R'.tok,R'.tinj,R'.apart,R'.out,R'.pin,R'.kept,R'.base,R'.objs,fun t n H h=>let ⟨h1,h2⟩:=R'.obs t n H h; ⟨h1,h2.imp id fun h=>h.2.elim⟩,fun t=>by
  have:=R'.gen (t + nt);simp only [pA.bare,qP.wait,gsh] at this;rw [if_neg (by omega),Nat.add_sub_cancel] at this;exact this,fun t=>by
  have:=R'.gann (t + nt);simp only [pA.bare,qP.wait,gsh] at this;rw [if_neg (by omega),Nat.add_sub_cancel] at this;exact this⟩
theorem zS {D:Nat->Prop} (R:uC P O nt B F0 da w0 D s a w ι Θ):∀ {Xs:List Operand} {xs:List JB},AH Xs=some xs->mH ι Θ (PC da ι Θ) (IC ι Θ) w (lP s xs) (Xs.map a.eval)
 | [],xs,h=>by injection h with h; subst h; rfl
 | X :: Xs,xs,h=>by
  unfold AH at h;split at h
  ·rename_i x l hx hl;injection h with h;subst h;exact ⟨_,_,rfl,(R.opd hx).1,(R.opd hx).2,zS R hl⟩
  ·cases h
theorem H7 {av avb:Av}:∀ {cs:List AV} {us:List Value},HG ι av avb w cs us->mH ι Θ av avb w (cs.map (⟨·,.no⟩)) us
 | [],_,h=>h
 | x :: r,_,h=>by
  simp only [HG] at h;obtain ⟨u,sa,rfl,h0,h⟩:=h;refine ⟨u,sa,rfl,?_,trivial,H7 h⟩;cases x with
  | bp cs=>exact h0
  | int k n=>exact PD (x:=.int k n) h0
  | bool b=>exact PD (x:=.bool b) h0
  | str b=>exact PD (x:=.str b) h0
  | nilP=>exact PD (x:=.nilP) h0
  | ptr t n o=>exact PD (x:=.ptr t n o) h0
  | ip cs=>exact PD (x:=.ip cs) h0
  | sl n l=>exact PD (x:=.sl n l) h0
  | bl l=>exact PD (x:=.bl l) h0
  | ref a b c d e f=>exact PD (x:=.ref a b c d e f) h0
  | mp t n=>exact PD (x:=.mp t n) h0
  | fn f cs=>exact PD (x:=.fn f cs) h0
  | agg cs=>exact PD (x:=.agg cs) h0
  | tup cs=>exact PD (x:=.tup cs) h0
  | undef=>trivial
theorem r9 {D:Nat->Prop} (R:uC P O nt B F0 da w0 D s a w ι Θ) {lh:LH} (tg:b3 P O lh.h) {o:Oper} {hs:Nat->Bool} {nt':Nat} {x:JB} {xs:List JB} (hk:O0 nt hs o.op=some (.callh nt' x xs)) (hd:∀ d,o.dst=some d->d<nt) {k:pA->Option RV} {r:RV} (hr:cL lh o.dst nt' x xs s k=some r)
  {Kn:Act->World->Prop} {Q:Exit->Act->World->Prop} (hK:∀ s' a' w',ID P O nt B F0 da w0 (fun t=>D t\/o.dst=some t) s' a' w'->k s'=some r->Kn a' w'):o.wp P a w Kn Q:=by
 have go:∀ {f:FuncId} {Xs:Array Operand} {cs:List AV} {us:List Value},nt'=nt->AH Xs.toList=some xs->HG ι (PC da ι Θ) (IC ι Θ) w cs us->lh.h f (lP s xs++cs.map (⟨·,.no⟩)) (s.enter nt) (fun y s'=>k ((s'.leave nt).put o.dst y))=some r->((∀ vs w,(callFunc f vs).run P w=.ok (.enter f vs) w)->(execOp a.eval o).run P w=.ok (.enter f (Xs.map a.eval++us.toArray)) w)->o.wp P a w Kn Q:=fun {f Xs cs us} hn hx aj hh run=>by
  obtain ⟨h1,h2⟩:=tg _ _ _ _ _ hh;unfold Oper.wp;rw [run h1,Oper.upon_enter];have uf:(Xs.toList.map a.eval++us).toArray=Xs.map a.eval++us.toArray:=by
   apply Array.ext';simp
  rw [<- uf];refine h2 B (F0.wait nt a) da w0 w ι Θ _ _ R.wait (gS (zS R hx) (H7 aj)) fun y s' w' ι' Θ' v R' hv ha ij=>?_
  exact hK _ _ _ ⟨ι',Θ',((R.resume (D':=D) R').putN hd hv ha).more fun _ h=>.inl h⟩ ij
 unfold O0 at hk;split at hk
 ·rename_i f Xs ts ho;split at hk
  ·obtain ⟨l,hl,hk⟩:=yj.1 hk;injection hk with hn hx zd;subst hx;subst zd;simp only [cL,JB.get] at hr;refine go (cs:=[]) (us:=[]) hn.symm hl rfl (by rw [hn]; exact hr) fun zc=>?_
   simp only [execOp,ho,resolve,Act.eval,Deferred.ofValue,Sem.run_bind,Sem.run_pure,Result.andThen_ok,invoke];have:=zc (#[]++Xs.map a.eval++#[]) w;simp only [Array.empty_append,Array.append_empty] at this ⊢;exact this
  ·cases hk
 ·rename_i tf Xs ts ho;split at hk
  ·obtain ⟨l,hl,hk⟩:=yj.1 hk;injection hk with hn hx zd;subst hx;subst zd;simp only [cL,JB.get] at hr;split at hr
   ·rename_i f cs cq;have hF:=R.env tf;rw [cq] at hF;obtain ⟨us,fd,aj⟩:=hF;refine go (cs:=cs) (us:=us.toList) hn.symm hl aj (by rw [hn]; exact hr) fun zc=>?_
    have dz:a.eval (.tmp tf)=.func (.func f) #[] us:=fd;simp only [execOp,ho,resolve,dz,Deferred.ofValue,Sem.run_bind,Sem.run_pure,Result.andThen_ok,invoke];have:=zc (#[]++Xs.map a.eval++us) w;simp only [Array.empty_append] at this ⊢;exact this
   ·cases hr
  ·cases hk
 ·obtain ⟨_,_,h⟩:=yj.1 hk; cases h
 ·cases hk
theorem QT {f:Nat->Option RV} {z:Option RV} {r:RV} (l:List Nat) (h:F4 f z l=some r):(l=[]->z=some r)/\∀ i∈l,f i=some r:=by
 match l,h with
 | [],h=>exact ⟨fun _=>h,fun i hi=>absurd hi (by simp)⟩
 | [a],h=>exact ⟨fun e=>(by cases e),fun i hi=>(by rw [yS.1 hi]; exact h)⟩
 | a :: b :: l,h =>
  have h':(open Classical in if ∀ x∈b :: l,f x=f a then f a else none)=some r:=h;split at h'
  ·rename_i hc;refine ⟨fun e=>(by cases e),fun i hi=>?_⟩;rcases yh.1 hi with hi | hi
   ·rw [hi]; exact h'
   ·exact (hc i hi).trans h'
  ·cases h'
theorem TO {f:Nat->Option RV} {z:Option RV} {r:RV} (l:List Nat) (h0:l=[]->z=some r) (h:∀ i∈l,f i=some r):F4 f z l=some r:=by
 match l,h0,h with
 | [],h0,_=>exact h0 rfl
 | [a],_,h=>exact h a ym
 | a :: b :: l,_,h =>
  show (open Classical in if ∀ x∈b :: l,f x=f a then f a else none)=some r;rw [if_pos fun x hx=>(h x (yo _ hx)).trans (h a ym).symm];exact h a ym
theorem op_nxt {D:Nat->Prop} (R:uC P O nt B F0 da w0 D s a w ι Θ) {o:Oper} {X:Operand} {x:JB} (hx:opd X=some x) (ho:o.op=.next X false) (hd:∀ d,o.dst=some d->d<nt) {k:pA->Option RV} {r:RV} (hr:HP o.dst x s k=some r)
  {Kn:Act->World->Prop} {Q:Exit->Act->World->Prop} (hK:∀ s' a' w',ID P O nt B F0 da w0 (fun t=>D t\/o.dst=some t) s' a' w'->k s'=some r->Kn a' w'):o.wp P a w Kn Q:=by
 unfold HP at hr;split at hr
 case h_2=>cases hr
 rename_i t n ic;split at hr
 case h_2=>cases hr
 rename_i tm nm N seen hi;split at hr
 case h_2=>cases hr
 rename_i L hL;split at hr
 case isFalse=>cases hr
 rename_i hN;have hX:=(R.opd hx).1;rw [ic] at hX;obtain ⟨q,hq,hv⟩:=hX;obtain ⟨S,hS,ll⟩:=yb.1 hi;obtain ⟨p,H,hp,kb,tc,mj⟩:=R.objs t n S hS;rw [hq] at hp;injection hp with hp;subst hp;obtain ⟨m,Hm,hm,hobm,oa⟩:=mj tm nm N seen ll;obtain ⟨hH,fa⟩:=(O.iters S H q w (by rw [ll]; rfl)).1 tc;obtain ⟨S2,hS2,xp⟩:=yb.1 hL;obtain ⟨p2,H2,ui,bt,ry,_⟩:=R.objs tm nm S2 hS2;rw [hm] at ui;injection ui with ui;subst ui;have jv:S2=HF L:=by
  unfold qI at xp;split at xp
  ·injection xp with xp; subst xp; rfl
  ·cases xp
 subst jv;obtain ⟨hH2,es,clock,he,lf,hc,pb⟩:=(O.maps L H2 m w).1 ry;have ez:es.size=N:=by rw [<- hN]; simpa using congrArg List.length lf
 obtain ⟨h1,h2⟩:=QT _ hr;have hgq:(getObj q).run P w=.ok (.mapIter (some m) N seen.toArray N) w:=by simp [getObj,Sem.run,oa]
 have nu:(getObj m).run P w=.ok (.map es clock) w:=by simp [getObj,Sem.run,he]
 have tr:∀ i (hi:i<es.size),(es[i]∈es.filter (fun e=>!seen.toArray.contains e.born) ↔ (!seen.contains i)=true):=fun i hi=>by
  rw [Array.mem_filter,pb i hi];simp
 have px:(!seen.toArray.isEmpty&&!es.isEmpty&&es.all (fun x=>decide (x.born>=N)))=false:=by
  cases er:es.isEmpty with
  | true=>simp
  | false =>
   have h0:0<es.size:=by
    rcases yJ es.size with h0 | h0
    ·simp [Array.isEmpty,h0] at er
    ·exact h0
   have:es.all (fun x=>decide (x.born>=N))=false:=by
    rw [Bool.eq_false_iff];intro ra;rw [Array.all_eq_true] at ra;have:=ra 0 h0;rw [pb 0 h0] at this;simp at this;omega
   simp [this]
 have ma:∀ x∈es.filter (fun e=>!seen.toArray.contains e.born),x.born<N:=fun x hx=>by
  have gl:x∈es:=(Array.mem_filter.1 hx).1;obtain ⟨i,fc,rfl⟩:=Array.mem_iff_getElem.1 gl;rw [pb i fc];omega
 generalize hLf:es.filter (fun e=>!seen.toArray.contains e.born)=Lf at ma tr;have e1:Lf.filter (fun x=>decide (x.born<N))=Lf:=Array.filter_eq_self.2 fun x hx=>by simpa using ma x hx
 have e2:Lf.filter (fun x=>decide (x.born>=N))=#[]:=by
  rw [Array.filter_eq_empty_iff];intro x hx;have:=ma x hx;simp;omega
 unfold Oper.wp;by_cases h0:Lf.size=0
 ·have hz:Lf=#[]:=Array.eq_empty_of_size_eq_zero h0;have ft:(List.range N).filter (fun i=>!seen.contains i)=[]:=by
   refine List.eq_nil_iff_forall_not_mem.2 fun i fc=>?_
   have ga:i<es.size:=by have:=(List.mem_filter.1 fc).1; rw [ez]; exact List.mem_range.1 this
   have:=(tr i ga).2 (List.mem_filter.1 fc).2;rw [hz] at this;simp at this
  have ca:(execOp a.eval o).run P w=.ok (.value (.tuple #[.bool false])) w:=by
   simp only [execOp,ho,hv,Instr.next,Sem.run_bind,hgq,nu,Result.andThen_ok,px,yt,if_false,hLf,e1,e2,hz,Array.append_empty];simp [choose,Sem.run,Question.forced]
  rw [ca,Oper.upon_value];exact hK _ _ _ ⟨ι,Θ,(R.putN hd (x:=⟨.tup [.bool false],.no⟩) ⟨_,rfl,_,_,rfl,rfl,rfl⟩ trivial).more fun _ h=>.inl h⟩ (h1 ft)
 ·have la:Lf.isEmpty=false:=by simp [Array.isEmpty,h0]
  obtain ⟨j,w1,hj,so,hch⟩:∃ (j:Nat) (w1:World),j<Lf.size/\(w1=w\/w1=w.drew)/\(choose (Question.mapNext Lf.size)).run P w=.ok j w1:=by
   by_cases hf:Lf.size<=1
   ·exact ⟨0,w,by omega,.inl rfl,by simp [choose,Sem.run,Question.forced,hf]⟩
   ·exact ⟨_,w.drew,Nat.mod_lt _ (by omega),.inr rfl,by
     simp only [choose,Sem.run,Question.forced,decide_eq_true_eq,hf,if_false,Question.cut];rfl⟩
  have hjm:Lf[j]∈Lf:=by simp
  have hje:Lf[j]∈es:=by
   have:∀ x,x∈Lf->x∈es:=fun x hx=>by rw [<- hLf] at hx; exact (Array.mem_filter.1 hx).1
   exact this _ hjm
  obtain ⟨i,wh,jz⟩:=Array.mem_iff_getElem.1 hje;have fc:i∈(List.range N).filter fun i=>!seen.contains i:=List.mem_filter.2 ⟨List.mem_range.2 (by rw [<- ez]; exact wh),(tr i wh).1 (by rw [jz]; exact hjm)⟩
  have hborn:Lf[j].born=i:=by rw [<- jz]; exact pb i wh
  have hk:=h2 i fc;split at hk
  case h_2=>cases hk
  rename_i y v uo;split at hk
  case isFalse=>cases hk
  rename_i eh;rw [y9] at eh;have hkv:Lf[j].key=y.flatV/\Lf[j].val=v.flatV:=by
   have:=congrArg (fun l=>l[i]?) lf;simp only [ye,uo,Array.getElem?_toList,yY wh,yx,Option.some.injEq,entV] at this;rw [<- jz];exact ⟨congrArg Prod.fst this,congrArg Prod.snd this⟩
  have fu:w1.heap=w.heap:=by rcases so with rfl | rfl <;> rfl
  have hq1:w1.heap[q]?=some (.mapIter (some m) N seen.toArray N):=by rw [fu]; exact oa
  have pt:(setObj q (.mapIter (some m) N (seen.toArray.push i) clock)).run P w1=.ok () { w1 with heap:=w1.heap.setIfInBounds q (.mapIter (some m) N (seen.toArray.push i) clock) }:=by
   simp [setObj,Sem.run,hq1]
  have ca:(execOp a.eval o).run P w=.ok (.value (.tuple #[.bool true,y.flatV,v.flatV])) { w1 with heap:=w1.heap.setIfInBounds q (.mapIter (some m) N (seen.toArray.push i) clock) }:=by
   simp only [execOp,ho,hv,Instr.next,Sem.run_bind,hgq,nu,Result.andThen_ok,px,yt,if_false,hLf,e1,e2,la,Array.append_empty,Array.empty_append,Array.size_map,hch,Array.getElem?_map,yY hj,yx,hborn,pt,Sem.run_pure,hkv.1,hkv.2]
  rw [ca,Oper.upon_value];have R1:uC P O nt B F0 da w0 D s a w1 ι Θ:=R.grow (fun b _=>by rw [fu]) (by rw [fu]; exact yn _) (by rcases so with rfl | rfl; exact R.kept; exact R.kept.drew);have sh:O.at_ (BS tm nm N (seen++[i])) H q { w1 with heap:=w1.heap.setIfInBounds q (.mapIter (some m) N (seen.toArray.push i) clock) }:=(O.iters _ _ _ _ (by rw [iN]; rfl)).2 ⟨hH,by simp; rw [fu]; exact fa⟩;have si:WD H w1 { w1 with heap:=w1.heap.setIfInBounds q (.mapIter (some m) N (seen.toArray.push i) clock) }:=⟨rfl,rfl,rfl,by simp,fun j' _ hn=>by
   have:j'≠q:=fun e=>hn ((hH j').2 e)
   simp only [Array.getElem?_setIfInBounds];rw [if_neg fun e:q=j'=>this e.symm]⟩
  have htie':r5 ι (BS tm nm N (seen++[i])) q { w1 with heap:=w1.heap.setIfInBounds q (.mapIter (some m) N (seen.toArray.push i) clock) }:=fun tm' nm' N' seen' e=>by
   rw [iN] at e;injection e with e;injection e with g1 e;injection e with g2 e;injection e with g3 g4;subst g1; subst g2; subst g3; subst g4;refine ⟨m,Hm,hm,hobm,?_⟩;have hlt1:q<w1.heap.size:=by rw [fu]; exact fa
   simp [hlt1,hc,ez]
  obtain ⟨ι',R2,_⟩:=R1.turnObj hq kb sh htie' (fun b hb=>.inl hb) si;refine hK _ _ _ ⟨ι',Θ,(R2.putN hd (x:=⟨.tup [.bool true,y,v],.no⟩) ?_ trivial).more fun _ h=>.inl h⟩ hk;exact ⟨_,rfl,_,_,rfl,rfl,_,_,rfl,JG (IN eh.1),_,_,rfl,JG (IN eh.2),rfl⟩
structure d5 (P:Program) (nt:Nat) (ops:Array Oper) (o:Oper) (c:WA):Prop where
 dst:c.dst=o.dst
 op:(isH c.op=false/\∃ cl mu b q,X7 P cl mu b q o.op=some c.op/\(mu≠none->o.dst≠none))\/∃ hs,O0 nt hs o.op=some c.op
 lt:∀ d,o.dst=some d->d<nt
 guard:match o.guard with
  | none=>c.guard=none
  | some (g,want)=>∃ t,(ops[g]?).bind (·.dst)=some t/\c.guard=some (t,want)
theorem cV {boxes:List Nat} {all:List Oper} {draw:Bool}:∀ {ops:List Oper} {cs:List WA},TS P boxes nt all draw ops=some cs->cs.length=ops.length/\∀ (i:Nat) (o:Oper),ops[i]?=some o->∃ c,cs[i]?=some c/\d5 P nt all.toArray o c
 | [],cs,h=>by injection h with h; subst h; exact ⟨rfl,fun i o ho=>by simp at ho⟩
 | o :: r,cs,h=>by
  unfold TS at h;split at h
  ·rename_i k l hk hl;split at h
   ·rename_i fa;have ga:∀ d,o.dst=some d->d<nt:=fun d hd=>by rw [hd] at fa; simpa [dstOk] using fa
    obtain ⟨h1,h2⟩:=cV hl;have uO:∀ c,cs=c :: l->d5 P nt all.toArray o c->cs.length=(o :: r).length/\∀ (i:Nat) (o':Oper),(o :: r)[i]?=some o'->∃ c,cs[i]?=some c/\d5 P nt all.toArray o' c:=fun c e hc=>by
     subst e;refine ⟨by simp [h1],fun i o' ho=>?_⟩;cases i with
     | zero=>simp at ho; subst ho; exact ⟨c,rfl,hc⟩
     | succ i=>simpa using h2 i o' (by simpa using ho)
    have wm:(match o.dst with | some d=>if boxes.contains (nt + 1 + (2 * d + 1)) then some true else if boxes.contains (nt + 1 + 2 * d) then some false else none | none=>none)≠none->o.dst≠none:=fun h e=>by rw [e] at h; exact h rfl
    have fb:(isH k=false/\∃ cl mu b q,X7 P cl mu b q o.op=some k/\(mu≠none->o.dst≠none))\/∃ hs,O0 nt hs o.op=some k:=by
     split at hk
     ·rename_i k' uc;injection hk with hk;exact .inr ⟨_,hk ▸ uc⟩
     ·obtain ⟨h1,h2⟩:=Option.filter_eq_some_iff.1 hk;exact .inl ⟨by simpa using h2,_,_,_,_,h1,wm⟩
    cases hg:o.guard with
    | none =>
     simp only [hg] at h;injection h with h;exact uO _ h.symm ⟨rfl,fb,ga,by rw [hg]⟩
    | some p =>
     obtain ⟨g,want⟩:=p;simp only [hg] at h;split at h
     ·rename_i t ht;injection h with h;exact uO _ h.symm ⟨rfl,fb,ga,by rw [hg]; exact ⟨t,by simpa using ht,rfl⟩⟩
     ·cases h
   ·cases h
  ·cases h
section
variable {D:Nat->Prop} (R:ID P O nt B F0 da w0 D s a w) (ua:∀ f args S r,call f args S=some r->aD P O f args S r)
include D R ua
theorem step_sound {ops:Array Oper} {i:Nat} {o:Oper} {c:WA} (ho:ops[i]?=some o) (ok:d5 P nt ops o c) (hD:∀ d,o.dst=some d->(isA c.op||pU c.op)=true->¬ D d) (fb:∃ cl mu b q,X7 P cl mu b q o.op=some c.op/\(mu≠none->o.dst≠none)) (hs:c.step call s=some s')
  {Kn:Act->World->Prop} (hK:∀ a' w',ID P O nt B F0 da w0 (fun t=>D t\/o.dst=some t) s' a' w'->Kn a' w'):wpOp P ops Q i Kn a w:=by
 obtain ⟨ι,Θ,R⟩:=R;obtain ⟨cl,mu,b,q,fb,wm⟩:=fb;obtain ⟨cd,cop,cg⟩:=c;have ba:cd=o.dst:=ok.dst;subst ba;have main:cop.run call s≠none->(cop.run call s).bind (WA.eff ⟨o.dst,cop,cg⟩ s)=some s'->o.wp P a w Kn Q:=fun _ h=>by
  obtain ⟨xe,hx,he⟩:=yb.1 h;unfold X7 at fb;split at fb
  ·rename_i k hk;injection fb with fb;subst fb;exact op_sound R ua hk wm ok.lt hD hx he hK
  ·split at fb
   ·injection fb with fb;subst fb;cases hx
   ·cases fb
 have main':(cop.run call s).bind (WA.eff ⟨o.dst,cop,cg⟩ s)=some s'->o.wp P a w Kn Q:=fun h=>main (fun e=>by rw [e] at h; cases h) h
 unfold wpOp;simp only [ho];have nw:MA ι (PC da ι Θ) (IC ι Θ) w (.tup []) undef:=⟨#[],rfl,rfl⟩;have hg:=ok.guard;cases pp:o.guard with
 | none =>
  rw [pp] at hg;simp only at hg;subst hg;have:Region.wanted o (yielded ops a.tmps)=true:=by simp [Region.wanted,pp]
  rw [if_pos this];exact .inl (main' hs)
 | some p =>
  obtain ⟨g,want⟩:=p;rw [pp] at hg;obtain ⟨t,ht,hg⟩:=hg;simp only at hg;subst hg;unfold WA.step at hs;simp only at hs;split at hs
  ·rename_i b hb;have hr:=R.env t;rw [hb,OB] at hr;have hy:yielded ops a.tmps g=some b:=by
    unfold yielded;rw [ht];simp only [V];rw [yW] at hr;cases hh:a.tmps[t]? with
    | none=>rw [hh] at hr; simp [undef] at hr
    | some v=>rw [hh] at hr; simp only [Option.getD_some] at hr; subst hr; rfl
   have hw:Region.wanted o (yielded ops a.tmps)=(b == want):=by
    simp only [Region.wanted,pp,hy];cases b <;> cases want <;> rfl
   rw [hw];split at hs
   ·rename_i e;subst e;rw [if_pos (by simp)];exact .inl (main' hs)
   ·rename_i e;injection hs with hs;subst hs;rw [if_neg (by simpa using e)];exact hK _ _ ⟨ι,Θ,(R.putN ok.lt (x:=⟨.tup [],.no⟩) nw trivial).more fun _ h=>.inl h⟩
  ·rename_i hb;have hr:=R.env t;rw [hb] at hr;obtain ⟨us,hv,nd⟩:=hr;have hy:yielded ops a.tmps g=none:=by
    unfold yielded;rw [ht];simp only [V];rw [yW] at hv;cases hh:a.tmps[t]? with
    | none=>rfl
    | some v=>rw [hh] at hv; simp only [Option.getD_some] at hv; subst hv; rfl
   have hw:Region.wanted o (yielded ops a.tmps)=false:=by
    simp only [Region.wanted,pp,hy];cases want <;> rfl
   rw [hw];injection hs with hs;subst hs;rw [if_neg (by decide)];exact hK _ _ ⟨ι,Θ,(R.putN ok.lt (x:=⟨.tup [],.no⟩) nw trivial).more fun _ h=>.inl h⟩
  ·cases hs
theorem DV (tg:b3 P O lh.h) {ops:Array Oper} {i:Nat} {o:Oper} {c:WA} (ho:ops[i]?=some o) (ok:d5 P nt ops o c) (hD:∀ d,o.dst=some d->(isA c.op||pU c.op)=true->¬ D d) {k:pA->Option RV} {r:RV} (hs:c.stepK call lh s k=some r)
  {Kn:Act->World->Prop} (hK:∀ s' a' w',ID P O nt B F0 da w0 (fun t=>D t\/o.dst=some t) s' a' w'->k s'=some r->Kn a' w'):wpOp P ops Q i Kn a w:=by
 rcases ok.op with ⟨hH,fb⟩ | ⟨xf,fb⟩
 ·have hb:(c.step call s).bind k=some r:=by
   unfold WA.stepK at hs;split at hs
   ·rename_i h; rw [h] at hH; cases hH
   ·rename_i h; rw [h] at hH; cases hH
   ·exact hs
  obtain ⟨s1,h1,h2⟩:=yb.1 hb;exact step_sound R ua ho ok hD fb h1 fun a' w' R'=>hK s1 a' w' R' h2
 ·obtain ⟨cd,cop,cg⟩:=c;have ba:cd=o.dst:=ok.dst;subst ba;simp only at fb;obtain ⟨ι,Θ,R⟩:=R;obtain ⟨st,pb,main'⟩:∃ st,WA.stepK call lh ⟨o.dst,cop,cg⟩ s k=IH s o.dst cg st k/\(st=some r->o.wp P a w Kn Q):=by
   have fi:=fb;unfold O0 at fi;split at fi
   ·split at fi
    ·obtain ⟨_,_,h⟩:=yj.1 fi; subst h; exact ⟨_,rfl,fun h=>r9 R tg fb ok.lt h hK⟩
    ·cases fi
   ·split at fi
    ·obtain ⟨_,_,h⟩:=yj.1 fi; subst h; exact ⟨_,rfl,fun h=>r9 R tg fb ok.lt h hK⟩
    ·cases fi
   ·rename_i X hox;obtain ⟨x,hx,h⟩:=yj.1 fi;subst h;exact ⟨_,rfl,fun h=>op_nxt R hx hox ok.lt h hK⟩
   ·cases fi
  rw [pb] at hs;unfold wpOp;simp only [ho];have nw:MA ι (PC da ι Θ) (IC ι Θ) w (.tup []) undef:=⟨#[],rfl,rfl⟩;have hg:=ok.guard;cases pp:o.guard with
  | none =>
   rw [pp] at hg;simp only at hg;subst hg;have:Region.wanted o (yielded ops a.tmps)=true:=by simp [Region.wanted,pp]
   rw [if_pos this];exact .inl (main' hs)
  | some p =>
   obtain ⟨g,want⟩:=p;rw [pp] at hg;obtain ⟨t,ht,hg⟩:=hg;simp only at hg;subst hg;unfold IH at hs;simp only at hs;split at hs
   ·rename_i b hb;have hr:=R.env t;rw [hb,OB] at hr;have hy:yielded ops a.tmps g=some b:=by
     unfold yielded;rw [ht];simp only [V];rw [yW] at hr;cases hh:a.tmps[t]? with
     | none=>rw [hh] at hr; simp [undef] at hr
     | some v=>rw [hh] at hr; simp only [Option.getD_some] at hr; subst hr; rfl
    have hw:Region.wanted o (yielded ops a.tmps)=(b == want):=by
     simp only [Region.wanted,pp,hy];cases b <;> cases want <;> rfl
    rw [hw];split at hs
    ·rename_i e;subst e;rw [if_pos (by simp)];exact .inl (main' hs)
    ·rename_i e;rw [if_neg (by simpa using e)];exact hK _ _ _ ⟨ι,Θ,(R.putN ok.lt (x:=⟨.tup [],.no⟩) nw trivial).more fun _ h=>.inl h⟩ hs
   ·rename_i hb;have hr:=R.env t;rw [hb] at hr;obtain ⟨us,hv,nd⟩:=hr;have hy:yielded ops a.tmps g=none:=by
     unfold yielded;rw [ht];simp only [V];rw [yW] at hv;cases hh:a.tmps[t]? with
     | none=>rfl
     | some v=>rw [hh] at hv; simp only [Option.getD_some] at hv; subst hv; rfl
    have hw:Region.wanted o (yielded ops a.tmps)=false:=by
     simp only [Region.wanted,pp,hy];cases want <;> rfl
    rw [hw];rw [if_neg (by decide)];exact hK _ _ _ ⟨ι,Θ,(R.putN ok.lt (x:=⟨.tup [],.no⟩) nw trivial).more fun _ h=>.inl h⟩ hs
   ·cases hs
end
theorem ID.next {D:Nat->Prop} (R:ID P O nt B F0 da w0 D s a w):ID P O nt B F0 da w0 (fun _=>False) { s with next:=s.next + 1 } a w:=by
 obtain ⟨ι,Θ,R⟩:=R;exact ⟨ι,Θ,R.defers,R.size,R.env,R.ann,R.rows,fun t n b h=>let ⟨h1,h2,h3⟩:=R.mine t n b h; ⟨h1,h2,.inl (by rcases h3 with h | h <;> simp only <;> omega)⟩,R.inj,R.tok,R.tinj,R.apart,R.out,R.pin,R.kept,R.base,R.objs,fun t n H h=>let ⟨h1,h2⟩:=R.obs t n H h; ⟨h1,.inl (by rcases h2 with h | h <;> simp only <;> omega)⟩,R.gen,R.gann⟩
theorem fX {cs:List WA} (h:FS cs=true) {i j:Nat} {x y:WA} (hx:cs[i]?=some x) (hy:cs[j]?=some y) (la:i≠j) (hA:(isA y.op||pU y.op)=true) (wk:y.dst.isSome=true):x.dst≠y.dst:=by
 have hj:=(yf.1 hy).1;have hi:=(yf.1 hx).1;have h1:=y6.1 h j (List.mem_range.2 hj);rw [hy] at h1;simp only [hA,wk,Bool.true_and,Bool.not_true,Bool.false_or] at h1;have h2:=y6.1 h1 i (List.mem_range.2 hi);rw [hx] at h2;simp only [Bool.or_eq_true] at h2;rcases h2 with h2 | h2
 ·exact absurd (by simpa using h2) la
 ·simpa using h2
theorem N1 {ops:Array Oper} {cs:List WA} (ua:∀ f args S r,call f args S=some r->aD P O f args S r) (tg:b3 P O lh.h) (na:∀ (i:Nat) (o:Oper),ops[i]?=some o->∃ c,cs[i]?=some c/\d5 P nt ops o c) (ia:cs.length=ops.size) (hf:FS cs=true) {k:pA->Option RV} {r:RV} :
  ∀ (n i:Nat) (s:pA) (a:Act) (w:World),i + n=ops.size->ID P O nt B F0 da w0 (fun t=>∃ j c,j<i/\cs[j]?=some c/\c.dst=some t) s a w->SF call lh (cs.drop i) s k=some r →
   (∀ s' a' w',ID P O nt B F0 da w0 (fun _=>True) s' a' w'->k s'=some r->Q .normal a' w')->wpOps P ops Q (List.range' i n) a w
 | 0,i,s,a,w,hi,R,hr,hQ=>by
  have:cs.drop i=[]:=yc (by omega);rw [this] at hr;obtain ⟨ι,Θ,R⟩:=R;exact hQ s a w ⟨ι,Θ,R.more fun _ _=>trivial⟩ hr
 | n + 1,i,s,a,w,hi,R,hr,hQ=>by
  have fa:i<ops.size:=by omega
  obtain ⟨c,hc,ok⟩:=na i ops[i] (yY fa);have dd:i<cs.length:=by omega
  have hci:cs[i]=c:=(yf.1 hc).2;rw [y8 dd,hci] at hr;unfold SF at hr;rw [List.range'_succ,wpOps_cons];refine DV R ua tg (yY fa) ok (fun d hd hA ⟨j,c',hj,af,jp⟩=>?_) hr fun s' a' w' R' hk=>?_
  ·exact fX hf af hc (by omega) hA (by rw [ok.dst,hd]; rfl) (by rw [jp,ok.dst,hd])
  ·refine N1 ua tg na ia hf n (i + 1) s' a' w' (by omega) ?_ hk hQ;obtain ⟨ι,Θ,R'⟩:=R';refine ⟨ι,Θ,R'.more fun t ht=>?_⟩;rcases ht with ⟨j,c',hj,af,jp⟩ | ht
   ·exact ⟨j,c',by omega,af,jp⟩
   ·exact ⟨i,c,by omega,hc,by rw [ok.dst,ht]⟩
end
end
section
open Go Go.RowKit
section
variable {P:Program} {O:rH} {nt B:Nat} {F0:qP} {da:Av} {w0:World} {s s':pA} {a:Act} {w w':World} {call:iB} {lh:LH} {Q:Exit->Act->World->Prop}
noncomputable def mK (call:iB) (lh:LH) (cs:List WA):List Nat->pA->(pA->Option RV)->Option RV
 | [],s,k=>k s
 | i :: r,s,k=>match cs[i]? with
  | some c=>c.stepK call lh s fun s=>mK call lh cs r s k
  | none=>none
theorem LY (cs:List WA) (k:pA->Option RV):∀ (n i:Nat) (s:pA),i + n=cs.length->SF call lh (cs.drop i) s k=mK call lh cs (List.range' i n) s k
 | 0,i,s,h=>by rw [yc (by omega)]; rfl
 | n + 1,i,s,h=>by
  have fa:i<cs.length:=by omega
  rw [y8 fa,List.range'_succ];unfold SF mK;rw [y5 fa];simp only;congr 1;funext s1;exact LY cs k n (i + 1) s1 (by omega)
theorem eH {c:WA} (h:isH c.op=false) (s:pA) (k:pA->Option RV):c.stepK call lh s k=(c.step call s).bind k:=by
 unfold WA.stepK;split
 ·rename_i e; rw [e] at h; cases h
 ·rename_i e; rw [e] at h; cases h
 ·rfl
theorem isM_H {k:K} (h:isM k=false):isH k=false:=by
 cases k <;> first | rfl | cases h
theorem pair_H {x y:WA} (h:lO x y=true):isH x.op=false/\isH y.op=false:=by
 have hN:∀ {k:K},isN k=true->isH k=false:=fun {k} h=>by cases k <;> first | rfl | cases h
 have hV:∀ {o:WA},isMv o=true->isH o.op=false:=fun h=>by obtain ⟨d,z,rfl⟩:=isMv_eq h; rfl
 unfold lO at h;simp only [Bool.or_eq_true,y9] at h;rcases h with h | ⟨h,h'⟩ | ⟨h,h'⟩
 ·unfold EI at h;simp only [y9] at h;exact ⟨isM_H (by simpa using h.1.1.1.1.1.1.1),isM_H (by simpa using h.1.1.1.1.1.1.2)⟩
 ·exact ⟨hV h,hN h'⟩
 ·exact ⟨hN h',hV h⟩
theorem bubble0 {cs:List WA} {i:Nat} {c:WA} (hc:cs[i]?=some c) (hH:isH c.op=false) {L2:List Nat} {k:pA->Option RV} {r:RV}:∀ {L1:List Nat} {s:pA},(∀ r∈L1,∃ cr,cs[r]?=some cr/\rK cr c=true/\lO cr c=true)->mK call lh cs (L1++i :: L2) s k=some r →
  ∃ s1,c.step call s=some s1/\mK call lh cs (L1++L2) s1 k=some r
 | [],s,_,h=>by
  simp only [List.nil_append,mK,hc,eH hH] at h;obtain ⟨s1,h1,h2⟩:=yb.1 h;exact ⟨s1,h1,h2⟩
 | q :: L1,s,hL,h=>by
  obtain ⟨cr,hr,ha,ho⟩:=hL q (ym);simp only [List.cons_append,mK,hr,eH (pair_H ho).1] at h;obtain ⟨s1,h1,h2⟩:=yb.1 h;obtain ⟨s2,h3,h4⟩:=bubble0 hc hH (fun q hq=>hL q (yo _ hq)) h2;obtain ⟨aq,h5,h6⟩:=commute ha ho h1 h3;refine ⟨aq,h5,?_⟩;simp only [List.cons_append,mK,hr,eH (pair_H ho).1,h6,V];exact h4
theorem bubble {cs:List WA} {i:Nat} {c:WA} (hc:cs[i]?=some c) {L2:List Nat} {k:pA->Option RV} {r:RV} {L1:List Nat} {s:pA} (hL:∀ r∈L1,∃ cr,cs[r]?=some cr/\rK cr c=true/\lO cr c=true) (h:mK call lh cs (L1++i :: L2) s k=some r) :
  c.stepK call lh s (fun s1=>mK call lh cs (L1++L2) s1 k)=some r:=by
 cases L1 with
 | nil=>simpa only [List.nil_append,mK,hc] using h
 | cons q L1 =>
  obtain ⟨cr,hr,ha,ho⟩:=hL q (ym);have hH:=(pair_H ho).2;obtain ⟨s1,h1,h2⟩:=bubble0 hc hH hL h;rw [eH hH,h1,V];exact h2
theorem F1 {o:Oper} {e:Nat}:e∈GK o ↔ ∃ d∈o.after,Region.binds .any d=true/\d.on=e:=by
 unfold GK;rw [List.mem_filterMap];constructor
 ·rintro ⟨d,hd,h⟩;split at h
  ·rename_i hb; injection h with h; exact ⟨d,by simpa using hd,hb,h⟩
  ·cases h
 ·rintro ⟨d,hd,hb,rfl⟩;exact ⟨d,by simpa using hd,by rw [if_pos hb]⟩
theorem bf_spec {ops:List Oper} {bf:List Nat} (h:bfOk ops bf=true) {i:Nat} {o:Oper} (ho:ops[i]?=some o):(∀ e∈GK o,e<i)/\∀ r,r<i->(bf.getD i 0).testBit r=true->∃ e∈GK o,e=r\/(r<e/\(bf.getD e 0).testBit r=true):=by
 have hi:=(yf.1 ho).1;have h1:=y6.1 h i (List.mem_range.2 hi);rw [ho] at h1;simp only [y9] at h1;refine ⟨fun e he=>by simpa using y6.1 h1.1 e he,fun r hr hb=>?_⟩;have h2:=y6.1 h1.2 r (List.mem_range.2 hr);simp only [hb,Bool.not_true,Bool.false_or,List.any_eq_true,Bool.or_eq_true,beq_iff_eq,y9,decide_eq_true_eq] at h2;exact h2
theorem o0 {ops:List Oper} {bf:List Nat} (h:bfOk ops bf=true) {L:List Nat} (dd:∀ (j:Nat) (o:Oper),ops[j]?=some o->j ∉ L->∀ e∈GK o,e ∉ L):∀ (n i:Nat) (o:Oper),i<n->ops[i]?=some o->(∀ e∈GK o,e ∉ L)->∀ r,r<i->(bf.getD i 0).testBit r=true->r ∉ L
 | 0,i,o,hn,_,_,_,_,_=>by omega
 | n + 1,i,o,hn,ho,hed,r,hr,hb=>by
  obtain ⟨h1,h2⟩:=bf_spec h ho;obtain ⟨e,he,hor⟩:=h2 r hr hb;rcases hor with rfl | ⟨zj,hbe⟩
  ·exact hed _ he
  ·have hei:=h1 e he;have fa:i<ops.length:=(yf.1 ho).1;have hoe:ops[e]?=some ops[e]:=y5 (by omega);exact o0 h dd n e _ (by omega) hoe (dd e _ hoe (hed e he)) r zj hbe
theorem draw_pair {ops:List Oper} {cs:List WA} (h:wU ops cs=true) {i j:Nat} (hj:j<ops.length) (ou:i<j) (hb:((gQ ops).getD j 0).testBit i=false):∃ x y,cs[i]?=some x/\cs[j]?=some y/\rK x y=true/\lO x y=true:=by
 unfold wU at h;simp only [y9] at h;have h1:=y6.1 h.2 j (List.mem_range.2 hj);have h2:=y6.1 h1 i (List.mem_range.2 ou);rw [hb,Bool.false_or] at h2;split at h2
 ·rename_i x y hx hy;simp only [y9] at h2;exact ⟨x,y,hx,hy,h2.1,h2.2⟩
 ·cases h2
theorem MZ {ops:Array Oper} {cs:List WA} (ua:∀ f args S r,call f args S=some r->aD P O f args S r) (tg:b3 P O lh.h) (na:∀ (i:Nat) (o:Oper),ops[i]?=some o->∃ c,cs[i]?=some c/\d5 P nt ops o c) (ia:cs.length=ops.size) (hf:FS cs=true) (hdr:wU ops.toList cs=true) {k:pA->Option RV} {r:RV}
  (hQ:∀ s' a' w',ID P O nt B F0 da w0 (fun _=>True) s' a' w'->k s'=some r->Q .normal a' w') :
  ∀ (fuel:Nat) (L:List Nat) (listed:Array Bool) (s:pA) (a:Act) (w:World),L.length=fuel->(∀ i,i<ops.size->(listed.getD i true=false ↔ i∈L))->listed.size=ops.size->L.Pairwise (·<·)->(∀ i∈L,i<ops.size) →
   (∀ (j:Nat) (o:Oper),ops.toList[j]?=some o->j ∉ L->∀ e∈GK o,e ∉ L)->ID P O nt B F0 da w0 (fun t=>∃ j c,j ∉ L/\cs[j]?=some c/\c.dst=some t) s a w->mK call lh cs L s k=some r->wpAny P .any ops Q fuel listed a w
 | 0,L,listed,s,a,w,hl,hlist,ac,_,_,_,R,hr=>by
  have:L=[]:=yO hl;subst this;refine ⟨?_,?_⟩
  ·refine List.eq_nil_iff_forall_not_mem.2 fun i hi=>?_
   obtain ⟨nw,o,ho,_⟩:=mem_ready.1 hi;have fc:=(Array.getElem?_eq_some_iff.1 ho).1;have:=(hlist i fc).1 nw;cases this
  ·obtain ⟨ι,Θ,R⟩:=R;exact hQ s a w ⟨ι,Θ,R.more fun _ _=>trivial⟩ hr
 | fuel + 1,L,listed,s,a,w,hl,hlist,ac,hsort,cf,dd,R,hr=>by
  have hbf:bfOk ops.toList (gQ ops.toList)=true:=by
   unfold wU at hdr;simp only [y9] at hdr;exact hdr.1
  refine ⟨fun ft=>?_,fun i hi=>?_⟩
  ·exfalso;cases L with
   | nil=>simp at hl
   | cons i0 L0 =>
    have ri:=cf i0 (ym);have ho:ops.toList[i0]?=some ops[i0]:=by simp [ri]
    have ma:i0∈Region.ready .any ops listed:=by
     refine mem_ready.2 ⟨(hlist i0 ri).2 (ym),ops[i0],yY ri,fun e he hb=>?_⟩;have fa:=(bf_spec hbf ho).1 e.on (F1.2 ⟨e,he,hb,rfl⟩);have hnot:e.on ∉ i0 :: L0:=fun hm=>by
      rcases yh.1 hm with h | h
      ·omega
      ·have:=(List.pairwise_cons.1 hsort).1 _ h; omega
     have h1:listed.getD e.on true≠false:=fun h=>hnot ((hlist e.on (by omega)).1 h)
     have hs:e.on<listed.size:=by omega
     simp only [yW,yY hs,Option.getD_some] at h1 ⊢;simpa using h1
    rw [ft] at ma;cases ma
  ·obtain ⟨nw,o,ho,hed⟩:=mem_ready.1 hi;have fc:=(Array.getElem?_eq_some_iff.1 ho).1;have hiL:=(hlist i fc).1 nw;have hol:ops.toList[i]?=some o:=by simpa using ho
   have hedL:∀ e∈GK o,e ∉ L:=fun e he=>by
    obtain ⟨d,hd,hb,rfl⟩:=F1.1 he;have h1:=hed d hd hb;intro hm;have fa:=cf _ hm;have h2:=(hlist _ fa).2 hm;have hs:d.on<listed.size:=by omega
    simp only [yW,yY hs,Option.getD_some] at h1 h2;rw [h1] at h2;cases h2
   obtain ⟨L1,L2,rfl⟩:=List.append_of_mem hiL;obtain ⟨c,hc,ok⟩:=na i o ho;have kg:=List.pairwise_append.1 hsort;have hL1:∀ r∈L1,∃ cr,cs[r]?=some cr/\rK cr c=true/\lO cr c=true:=fun r hr=>by
    have hri:r<i:=kg.2.2 r hr i (ym);have hbit:((gQ ops.toList).getD i 0).testBit r=false:=by
     cases hb:((gQ ops.toList).getD i 0).testBit r with
     | false=>rfl
     | true=>exact absurd (yX _ hr) (o0 hbf dd (i + 1) i o (by omega) hol hedL r hri hb)
    obtain ⟨x,y,hx,hy,h1,h2⟩:=draw_pair hdr (by simpa using fc) hri hbit;rw [hc] at hy;injection hy with hy;subst hy;exact ⟨x,hx,h1,h2⟩
   have h1:=bubble hc hL1 hr;have cw:i ∉ L1++L2:=fun hm=>by
    rcases yp.1 hm with h | h
    ·have:=kg.2.2 i h i (ym); omega
    ·have:=(List.pairwise_cons.1 kg.2.1).1 i h; omega
   have oc:∀ j,j ∉ L1++i :: L2 ↔ (j ∉ L1++L2/\j≠i):=fun j=>by
    simp only [yp,yh,not_or];exact ⟨fun ⟨h1,h2,h3⟩=>⟨⟨h1,h3⟩,h2⟩,fun ⟨⟨h1,h3⟩,h2⟩=>⟨h1,h2,h3⟩⟩
   refine DV R ua tg ho ok (fun d hd hA ⟨j,c',hj,af,jp⟩=>?_) h1 fun s1 a' w' R' h2=>?_
   ·have:j≠i:=((oc j).1 hj).2;exact fX hf af hc this hA (by rw [ok.dst,hd]; rfl) (by rw [jp,ok.dst,hd])
   ·refine MZ ua tg na ia hf hdr hQ fuel (L1++L2) (listed.setIfInBounds i true) s1 a' w' (by simp at hl ⊢; omega) (fun j hj=>?_) (by simpa using ac) ?_ (fun j hj=>cf j ?_) (fun j o' ho' hj e he hm=>?_) ?_ h2
    ·have hjs:j<listed.size:=by omega
     by_cases e:i=j
     ·subst e;simp only [yW,Array.getElem?_setIfInBounds,if_true,hjs,Option.getD_some];exact ⟨fun h=>by simp at h,fun h=>absurd h cw⟩
     ·simp only [yW,Array.getElem?_setIfInBounds,if_neg e];have:=hlist j hj;simp only [yW] at this;rw [this];simp only [yp,yh];exact ⟨fun h=>by rcases h with h | h | h; exact .inl h; exact absurd h.symm e; exact .inr h,fun h=>by rcases h with h | h; exact .inl h; exact .inr (.inr h)⟩
    ·exact List.pairwise_append.2 ⟨kg.1,(List.pairwise_cons.1 kg.2.1).2,fun x hx y hy=>kg.2.2 x hx y (yo _ hy)⟩
    ·rcases yp.1 hj with h | h
     ·exact yX _ h
     ·exact List.mem_append_right _ (yo _ h)
    ·have bd:e∈L1++i :: L2:=by
      rcases yp.1 hm with h | h
      ·exact yX _ h
      ·exact List.mem_append_right _ (yo _ h)
     by_cases e':j=i
     ·subst e';rw [hol] at ho';injection ho' with ho';subst ho';exact hedL e he bd
     ·exact dd j o' ho' ((oc j).2 ⟨hj,e'⟩) e he bd
    ·obtain ⟨ι,Θ,R'⟩:=R';refine ⟨ι,Θ,R'.more fun t ht=>?_⟩;rcases ht with ⟨j,c',hj,af,jp⟩ | ht
     ·exact ⟨j,c',((oc j).1 hj).1,af,jp⟩
     ·exact ⟨i,c,cw,hc,by rw [ok.dst,ht]⟩
theorem H4 (hm:P.follows .mixedOrders=true) (ua:∀ f args S r,call f args S=some r->aD P O f args S r) (tg:b3 P O lh.h) {boxes:List Nat} {id:Nat} {ops:Array Oper} {draw:Bool} {cs:List WA} (hc:TS P boxes nt ops.toList draw ops.toList=some cs) (hf:FS cs=true) (hd:draw=true->wU ops.toList cs=true)
  (R:ID P O nt B F0 da w0 (fun _=>False) s a w) {k:pA->Option RV} {r:RV} (hr:SF call lh cs s k=some r) (hQ:∀ s' a' w',ID P O nt B F0 da w0 (fun _=>False) { s' with next:=s'.next + 1 } a' w'->k s'=some r->Q .normal a' w'):(Code.region id ops draw).wp P Q a w:=by
 obtain ⟨ia,uh⟩:=cV hc;have ur:cs.length=ops.size:=by simpa using ia
 have na:∀ (i:Nat) (o:Oper),ops[i]?=some o->∃ c,cs[i]?=some c/\d5 P nt ops o c:=fun i o ho=>by
  have:=uh i o (by simpa using ho);rw [yV] at this;exact this
 have hQ':∀ s' a' w',ID P O nt B F0 da w0 (fun _=>True) s' a' w'->k s'=some r->Q .normal a' w':=fun s' a' w' h hk=>hQ s' a' w' h.next hk
 cases draw with
 | false =>
  refine wp_region ?_;rw [List.range_eq_range'];refine N1 ua tg na ur hf ops.size 0 s a w (by omega) ?_ (by simpa using hr) hQ';obtain ⟨ι,Θ,R⟩:=R;exact ⟨ι,Θ,R.more fun _ h=>h.elim⟩
 | true =>
  refine wp_region_any hm ?_;have ca:mK call lh cs (List.range' 0 ops.size) s k=some r:=by
   rw [<- ur,<- LY cs k cs.length 0 s (by omega)];simpa using hr
  refine MZ ua tg na ur hf (hd rfl) hQ' ops.size (List.range' 0 ops.size) _ s a _ (by simp) (fun i hi=>?_) (by simp) List.pairwise_lt_range' (fun i hi=>?_) (fun j o ho hj=>?_) ?_ ca
  ·simp [hi]
  ·simpa using hi
  ·have:=(yf.1 ho).1;exact absurd (by simpa using this) (by simpa using hj)
  ·obtain ⟨ι,Θ,R⟩:=R;exact ⟨ι,Θ,(R.grow (w':=w.drew) (fun _ _=>rfl) (yn _) R.kept.drew).more fun _ h=>h.elim⟩
end
end
section
open Go Go.RowKit
section
variable {P:Program} {O:rH} {nt B:Nat} {F0:qP} {da:Av} {w0:World} {s s':pA} {a:Act} {w w':World} {call:iB} {lp:LH}
def exOf:Ex->Exit
 | .nrm=>.normal
 | .exit id=>.exit id
 | .ret=>.ret
def LpOk (P:Program) (O:rH) (N:Nat) (lp:LpT):Prop :=
 ∀ (boxes:List Nat) (nt B:Nat) (F0:qP) (da:Av) (w0:World) (code:Code) (b:C) (s:pA) (k:Ex->pA->Option RV) (r:RV) (a:Act) (w:World) (Q:Exit->Act->World->Prop),comp P boxes nt code=some b->lp b s k=some r->ID P O nt B F0 da w0 (fun _=>False) s a w →
  (∀ e s' a' w',ID P O nt B F0 da w0 (fun _=>False) s' a' w'->k e s'=some r->Q (exOf e) a' w')->Code.rounds P code Q N a w
theorem lF (hm:P.follows .mixedOrders=true) (ua:∀ f args S r,call f args S=some r->aD P O f args S r) {N:Nat} (dh:LpOk P O N lp.l) (tg:b3 P O lp.h) {boxes:List Nat} :
  ∀ (code:Code) (c:C) (s:pA) (k:Ex->pA->Option RV) (r:RV) (a:Act) (w:World) (Q:Exit->Act->World->Prop),comp P boxes nt code=some c->c.run call lp s k=some r->ID P O nt B F0 da w0 (fun _=>False) s a w →
   (∀ e s' a' w',ID P O nt B F0 da w0 (fun _=>False) s' a' w'->k e s'=some r->Q (exOf e) a' w')->code.wp P Q a w
 | .skip,c,s,k,r,a,w,Q,hc,hr,R,hk=>by
  injection hc with hc;subst hc;exact wp_skip (hk .nrm s a w R hr)
 | .seq x y,c,s,k,r,a,w,Q,hc,hr,R,hk=>by
  unfold comp at hc;split at hc
  ·rename_i cx cy hx hy;injection hc with hc;subst hc;refine wp_seq (lF hm ua dh tg x cx s _ r a w _ hx hr R fun e s' a' w' R' he=>?_);cases e with
   | nrm=>exact lF hm ua dh tg y cy s' k r a' w' Q hy he R' hk
   | exit id=>exact hk _ _ _ _ R' he
   | ret=>exact hk _ _ _ _ R' he
  ·cases hc
 | .region id ops draw,c,s,k,r,a,w,Q,hc,hr,R,hk=>by
  unfold comp at hc;split at hc
  ·rename_i cs aj;split at hc
   ·rename_i na;injection hc with hc;subst hc;simp only [y9,Bool.or_eq_true] at na;simp only [C.run] at hr;exact H4 hm ua tg aj na.1 (fun h=>by rcases na.2 with h' | h'; rw [h] at h'; cases h'; exact h') R hr fun s' a' w' R' uc=>hk .nrm _ _ _ R' uc
   ·cases hc
  ·cases hc
 | .cond x t e,c,s,k,r,a,w,Q,hc,hr,R,hk=>by
  unfold comp at hc;split at hc
  ·rename_i cx ct ce hx ht he;injection hc with hc;subst hc;simp only [C.run] at hr;split at hr
   ·rename_i b hb;have hv:a.eval x=.bool b:=by
     obtain ⟨ι,Θ,R⟩:=R;have:=(R.opd hx).1
     rwa [hb,OB] at this
    cases b with
    | true=>exact wp_cond_true hv (lF hm ua dh tg t ct s k r a w Q ht (by simpa using hr) R hk)
    | false=>exact wp_cond_false hv (lF hm ua dh tg e ce s k r a w Q he (by simpa using hr) R hk)
   ·cases hr
  ·cases hc
 | .block id b,c,s,k,r,a,w,Q,hc,hr,R,hk=>by
  unfold comp at hc;obtain ⟨cb,hb,rfl⟩:=yj.1 hc;refine wp_block (lF hm ua dh tg b cb s _ r a w _ hb hr R fun e s' a' w' R' he=>?_);cases e with
  | nrm=>exact hk _ _ _ _ R' he
  | ret=>exact hk _ _ _ _ R' he
  | exit j =>
   simp only at he;show Exit.inBlock id Q (.exit j) a' w';unfold Exit.inBlock;split at he
   ·rename_i e; simp only [e,if_true]; exact hk _ _ _ _ R' he
   ·rename_i e; simp only [e,if_false]; exact hk _ _ _ _ R' he
 | .loop b,c,s,k,r,a,w,Q,hc,hr,R,hk=>by
  unfold comp at hc;obtain ⟨cb,hb,rfl⟩:=yj.1 hc;exact wp_loop_rounds N (dh boxes nt B F0 da w0 b cb s k r a w Q hb hr R hk)
 | .exit id,c,s,k,r,a,w,Q,hc,hr,R,hk=>by
  injection hc with hc;subst hc;exact wp_exit (hk (.exit id) s a w R hr)
 | .ret,c,s,k,r,a,w,Q,hc,hr,R,hk=>by
  injection hc with hc;subst hc;exact wp_ret (hk .ret s a w R hr)
 | .scope b,c,s,k,r,a,w,Q,hc,hr,R,hk=>by
  unfold comp at hc;refine wp_scope_straight (lF hm ua dh tg b c s k r a w _ hc hr R fun e s' a' w' R' he=>?_);have:=hk _ _ _ _ R' he;cases e <;> exact this
 | .rangeFunc ..,_,_,_,_,_,_,_,hc,_,_,_=>by cases hc
 | .label _,_,_,_,_,_,_,_,hc,_,_,_=>by cases hc
 | .goto _,_,_,_,_,_,_,_,hc,_,_,_=>by cases hc
 | .refuse _,_,_,_,_,_,_,_,hc,_,_,_=>by cases hc
theorem rep_of_S {ι:Ix} {av:Av} {x:AV} {v:Value} (h:MA ι av (fun _ _=>False) w x v) (hx:x.free=true):xE av w x v:=by
  cases x <;> first
    | exact h
    | (simp [AV.free,AV.free0] at hx; done)
    | (obtain ⟨us,hv,hc⟩:=h
       exact ⟨us,hv,uH hc fun y hy=>y6.1 hx y hy⟩)
theorem dV {av:Av}:∀ {xs:List AV} {us:List Value},NN av w xs us->us.length=xs.length
 | [],_,h=>by simp only [NN] at h; subst h; rfl
 | x :: r,_,h=>by
  simp only [NN] at h;obtain ⟨u,sa,rfl,_,h⟩:=h;simp [dV h]
theorem fS {p:Nat} {av:Av}:∀ {xs:List AV} {us:List Value},sM p av w xs us->us.length=xs.length
 | [],_,h=>by simp only [sM] at h; subst h; rfl
 | x :: r,_,h=>by
  simp only [sM] at h;obtain ⟨u,sa,rfl,_,h⟩:=h;simp [fS h]
def lN (ι:Ix) (av avb:Av) (w:World):List AV->List Value->Prop
 | [],us=>us=[]
 | x :: r,us=>∃ u sa,us=u :: sa/\MA ι av avb w x u/\lN ι av avb w r sa
theorem MA.toRep {ι:Ix} {av za avb:Av} {x:AV} {v:Value} (h:MA ι av avb w x v) (hx:x.free=true) (pd:∀ b o,za b o->av b o):xE za w x v :=
 xE.held (BA.less pd) _ _ (rep_of_S (f8 (ι':=ι) h hx) hx)
theorem lN.toT {ι:Ix} {av za avb:Av} (pd:∀ b o,za b o->av b o):∀ {xs:List AV} {us:List Value},lN ι av avb w xs us->(∀ v∈xs,v.free=true)->NN za w xs us
 | [],_,h,_=>h
 | x :: r,_,h,hf=>by
  simp only [lN] at h;obtain ⟨u,sa,rfl,h0,h⟩:=h;exact ⟨u,sa,rfl,h0.toRep (hf x ym) pd,h.toT pd fun v hv=>hf v (yo _ hv)⟩
theorem unname_ptr {t n:Nat} {x:AV} (h:(DJ t n x).isObj=true):x=.ptr t n 0:=by
 cases x with
 | ptr t' n' o =>
  simp only [DJ] at h;split at h
  ·rename_i e; obtain ⟨rfl,rfl,rfl⟩:=e; rfl
  ·cases h
 | _=>cases h
theorem N9 {t n:Nat} {x:AV} (h:(DJ t n x).free=true):DJ t n x=x:=by
 cases x with
 | ptr t' n' o =>
  simp only [DJ] at h;split at h <;> cases h
 | _=>rfl
theorem lN.toO {ι:Ix} {av za avb:Av} {t n p:Nat} (hp:ι t n=some p) (pd:∀ b o,za b o->av b o):∀ {xs:List AV} {us:List Value},lN ι av avb w xs us->(∀ v∈xs,((DJ t n v).free||(DJ t n v).isObj)=true)->sM p za w (xs.map (DJ t n)) us
 | [],_,h,_=>h
 | x :: r,_,h,hf=>by
  simp only [lN] at h;obtain ⟨u,sa,rfl,h0,h⟩:=h;refine ⟨u,sa,rfl,?_,h.toO hp pd fun v hv=>hf v (yo _ hv)⟩;have h1:=hf x ym;unfold HT;split
  ·rename_i ho;have:=unname_ptr ho;subst this;obtain ⟨b,hb,hv⟩:=h0;rw [hp] at hb;injection hb with hb;rw [hv,hb]
  ·rename_i ho;have hfr:(DJ t n x).free=true:=by
    rcases Bool.or_eq_true_iff.1 h1 with h | h
    ·exact h
    ·exact absurd h ho
   have wi:=N9 hfr;rw [wi] at hfr ⊢;exact h0.toRep hfr pd
def avF (s:pA) (av:Av) (ι:Ix):Av:=fun b o=>av b o/\¬ ∃ t n r,s.mem t n=some r/\ι t n=some b
theorem NA.frz1 {D:Nat->Prop} {ι:Ix} {Θ:aL} (R:uC P O nt B F0 da w0 D s a w ι Θ) {x:AV} {u:Value} (h:NA ι (PC da ι Θ) w x u):NA ι (avF s (PC da ι Θ) ι) w (x.frz1 s) u:=by
 have less:BA (PC da ι Θ) (avF s (PC da ι Θ) ι) w w:=BA.less fun b o h=>h.1
 have same:=NA.held (Ix.Le.refl ι) less x u h;cases x with
 | ref t n sz off len c =>
  simp only [AV.frz1];split
  ·rename_i l hl;obtain ⟨r,hm,hl⟩:=yb.1 hl;obtain ⟨b,hb,ub,cc,sf,hz,hv⟩:=h;obtain ⟨kc,b',cur,ty,ta,oa,ka,_⟩:=R.rows t n r hm;rw [hb] at ta;injection ta with ta;subst ta;obtain ⟨h1,h2,us,hL,nd⟩:=uL ka oa hl;subst h1;show xE _ w (.sl false l) u;simp only [xE];refine ⟨_,cc,hv,Nat.le_trans ub sf,fun x hx y hy=>(h2 x hx).trans (h2 y hy).symm,(fun h=>by cases h),fun _=>⟨fun h=>(by cases h),fun _=>⟨b,off,rfl,?_⟩⟩⟩;rw [UF];exact ZK (lD.held less _ _ hL) fun j u hj=>⟨nd j u hj,fun h=>h.2 ⟨t,n,r,hm,hb⟩⟩
  ·exact same
 | _=>exact same
theorem HA.frz1 {D:Nat->Prop} {ι:Ix} {Θ:aL} (R:uC P O nt B F0 da w0 D s a w ι Θ):∀ {xs:List AV} {us:List Value},HA ι (PC da ι Θ) w xs us->HA ι (avF s (PC da ι Θ) ι) w (xs.map (AV.frz1 s)) us
 | [],_,h=>h
 | x :: r,_,h=>by
  simp only [HA] at h;obtain ⟨u,sa,rfl,h0,h1,h⟩:=h;exact ⟨u,sa,rfl,h0.frz1 R,h1,h.frz1 R⟩
theorem NA.frz {D:Nat->Prop} {ι:Ix} {Θ:aL} (R:uC P O nt B F0 da w0 D s a w ι Θ) {x:AV} {u:Value} (h:NA ι (PC da ι Θ) w x u):NA ι (avF s (PC da ι Θ) ι) w (x.frz0 s) u:=by
 have less:BA (PC da ι Θ) (avF s (PC da ι Θ) ι) w w:=BA.less fun b o h=>h.1
 have same:=NA.held (Ix.Le.refl ι) less x u h;cases x with
 | ref t n sz off len c =>
  simp only [AV.frz0];split
  ·rename_i l hl;obtain ⟨r,hm,hl⟩:=yb.1 hl;obtain ⟨b,hb,ub,cc,sf,hz,hv⟩:=h;obtain ⟨kc,b',cur,ty,ta,oa,ka,_⟩:=R.rows t n r hm;rw [hb] at ta;injection ta with ta;subst ta;obtain ⟨h1,h2,us,hL,nd⟩:=uL ka oa hl;subst h1;show xE _ w (.sl false l) u;simp only [xE];refine ⟨_,cc,hv,Nat.le_trans ub sf,fun x hx y hy=>(h2 x hx).trans (h2 y hy).symm,(fun h=>by cases h),fun _=>⟨fun h=>(by cases h),fun _=>⟨b,off,rfl,?_⟩⟩⟩;rw [UF];exact ZK (lD.held less _ _ hL) fun j u hj=>⟨nd j u hj,fun h=>h.2 ⟨t,n,r,hm,hb⟩⟩
  ·split
   ·rename_i l hl;obtain ⟨r,hm,hl⟩:=yb.1 hl;obtain ⟨l0,fh,hl⟩:=yb.1 hl;split at hl
    ·rename_i de;injection hl with hl;subst hl;obtain ⟨b,hb,ub,cc,sf,hz,hv⟩:=h;obtain ⟨kc,b',cur,ty,ta,oa,ka,_⟩:=R.rows t n r hm;rw [hb] at ta;injection ta with ta;subst ta;obtain ⟨h1,h2,us,hL,nd⟩:=wQ ka oa fh;subst h1;have hL1:=HA.frz1 R hL;rw [List.map_flatten] at hL1;have hL2:=uH hL1 fun x hx=>y6.1 de x hx
     show xE _ w (.sl false _) u;simp only [xE];refine ⟨_,cc,by rw [yq]; exact hv,by rw [yq]; exact Nat.le_trans ub sf,fun x hx y hy=>?_,(fun h=>by cases h),fun _=>⟨fun h=>(by cases h),fun _=>⟨b,off,rfl,?_⟩⟩⟩
     ·obtain ⟨x',gl,rfl⟩:=yu.1 hx;obtain ⟨y',cu,rfl⟩:=yu.1 hy;rw [yq,yq,h2 x' gl,h2 y' cu]
     ·rw [UF];exact ZK hL2 fun j u hj=>⟨nd j u hj,fun h=>h.2 ⟨t,n,r,hm,hb⟩⟩
    ·cases hl
   ·exact same
 | _=>exact same
theorem HA.frz {D:Nat->Prop} {ι:Ix} {Θ:aL} (R:uC P O nt B F0 da w0 D s a w ι Θ):∀ {xs:List AV} {us:List Value},HA ι (PC da ι Θ) w xs us->HA ι (avF s (PC da ι Θ) ι) w (xs.map (AV.frz0 s)) us
 | [],_,h=>h
 | x :: r,_,h=>by
  simp only [HA] at h;obtain ⟨u,sa,rfl,h0,h1,h⟩:=h;exact ⟨u,sa,rfl,h0.frz R,h1,h.frz R⟩
theorem MA.frz {D:Nat->Prop} {ι:Ix} {Θ:aL} (R:uC P O nt B F0 da w0 D s a w ι Θ) {x:AV} {u:Value} (h:MA ι (PC da ι Θ) (IC ι Θ) w x u):MA ι (avF s (PC da ι Θ) ι) (IC ι Θ) w (x.frz s) u:=by
 have less:BA (PC da ι Θ) (avF s (PC da ι Θ) ι) w w:=BA.less fun b o h=>h.1
 have same:=MA.held (Ix.Le.refl ι) less (BA.refl _ _) x u h;cases x with
 | agg cs=>obtain ⟨us,hv,hc⟩:=h; exact ⟨us,hv,hc.frz R⟩
 | ref t n sz off len c =>
  have:=NA.frz R (x:=.ref t n sz off len c) h;show MA _ _ _ w (AV.frz0 s (.ref t n sz off len c)) u;generalize hy:AV.frz0 s (.ref t n sz off len c)=y at this ⊢;simp only [AV.frz0] at hy;split at hy
  ·subst hy; exact this
  ·split at hy <;> (subst hy; exact this)
 | _=>exact same
theorem lN.frz {D:Nat->Prop} {ι:Ix} {Θ:aL} (R:uC P O nt B F0 da w0 D s a w ι Θ):∀ {xs:List AV} {us:List Value},lN ι (PC da ι Θ) (IC ι Θ) w xs us->lN ι (avF s (PC da ι Θ) ι) (IC ι Θ) w (xs.map (AV.frz s)) us
 | [],_,h=>h
 | x :: r,_,h=>by
  simp only [lN] at h;obtain ⟨u,sa,rfl,h0,h⟩:=h;exact ⟨u,sa,rfl,h0.frz R,h.frz R⟩
def XP (us:List Value):Value:=if h:us.toArray.size=1 then us.toArray[0] else .tuple us.toArray
theorem WY {av:Av}:∀ {xs:List AV} {us:List Value},NN av w xs us->xE av w (cW xs) (XP us)
 | [],us,h=>by simp only [NN] at h; subst h; exact ⟨#[],rfl,rfl⟩
 | [x],us,h=>by
  simp only [NN] at h;obtain ⟨u,sa,rfl,h0,rfl⟩:=h;exact h0
 | x :: y :: r,us,h=>by
  have hl:=dV h;have:¬ us.toArray.size=1:=by simp; simp at hl; omega
  unfold XP;rw [dif_neg this];exact ⟨_,rfl,h⟩
theorem pack_repN {p:Nat} {av:Av}:∀ {xs:List AV} {us:List Value},sM p av w xs us->(∀ v∈xs,(v.free||v.isObj)=true)->RepN p av w (cW xs) (XP us)
 | [],us,h,_=>by simp only [sM] at h; subst h; exact ⟨#[],rfl,rfl⟩
 | [x],us,h,hf=>by
  simp only [sM] at h;obtain ⟨u,sa,rfl,h0,rfl⟩:=h;have:=hf x ym;cases x with
  | tup vs=>cases this
  | _=>exact h0
 | x :: y :: r,us,h,_=>by
  have hl:=fS h;have:¬ us.toArray.size=1:=by simp; simp at hl; omega
  unfold XP;rw [dif_neg this];exact ⟨_,rfl,h⟩
def OO (tmps:Array Value):ResultVar->Sem Value
 | .tmp t=>pure (tmps.getD t undef)
 | .cell b t=>do loadVar t (<- asAddr (tmps.getD b undef))
theorem OW {D:Nat->Prop} {ι:Ix} {Θ:aL} (R:uC P O nt B F0 da w0 D s a w ι Θ):∀ {rs:List ResultVar} {cs:List ResC} {vs:List AV},FL P rs=some cs->RT s cs=some vs →
  ∃ us,(rs.mapM (OO a.tmps)).run P w=Result.ok us w/\lN ι (PC da ι Θ) (IC ι Θ) w vs us
 | [],cs,vs,h,hr=>by
  injection h with h;subst h;injection hr with hr;subst hr;exact ⟨[],by simp,rfl⟩
 | .tmp t :: rs,cs,vs,h,hr=>by
  unfold FL at h;obtain ⟨l,hl,rfl⟩:=yj.1 h;simp only [RT] at hr;obtain ⟨zu,hv,rfl⟩:=yj.1 hr;obtain ⟨us,hu,hT⟩:=OW R hl hv;refine ⟨a.tmps.getD t undef :: us,by rw [List.mapM_cons]; simp only [OO,Sem.run_bind,Sem.run_pure,Result.andThen_ok,hu],_,us,rfl,R.env t,hT⟩
 | .cell b t :: rs,cs,vs,h,hr=>by
  unfold FL at h;split at h
  ·rename_i ag z l hA hz hl;injection h with h;subst h;simp only [RT] at hr;split at hr
   ·rename_i t' n off hb;cases hm:s.mem t' n with
    | none=>rw [hm] at hr; cases hr
    | some row =>
     rw [hm,V] at hr;obtain ⟨x,hx,hr⟩:=yb.1 hr;obtain ⟨zu,hv,rfl⟩:=yj.1 hr;obtain ⟨us,hu,hT⟩:=OW R hl hv;have hv:=R.env b;rw [hb,cG] at hv;obtain ⟨bb,hbb,hv⟩:=hv;obtain ⟨sk,b',cur,ty,ta,oa,ka,_⟩:=R.rows t' n row hm;rw [hbb] at ta;injection ta with ta;subst ta;have mb:∀ (j:Nat) (u:Value),((cur.toList.take row.length).drop off)[j]?=some u->w.cell? ⟨bb,off + j,none⟩=some u:=fun j u hu=>by
      rw [cell_of_row w bb (off + j) cur ty (0,0) oa];rw [yT,yQ] at hu;split at hu
      ·simpa using hu
      ·cases hu
     have zb:=fF off ka.rep;have hi:zG ag z ((row.map (·.v)).drop off)=some x.v:=by
      cases ag with
      | true =>
       simp only [jB,if_true] at hx;split at hx
       ·rename_i ub;injection hx with hx;subst hx;simp only [zG,if_true,List.length_drop,yq];rw [if_pos (by omega)];simp [List.map_take,List.map_drop]
       ·cases hx
      | false =>
       simp only [jB,yt,if_false] at hx;simp [zG,yT,hx]
     obtain ⟨u,ca,hS,_⟩:=AP (P:=P) (avb:=IC ι Θ) hA hz zb mb hi;refine ⟨u :: us,by rw [List.mapM_cons]; simp only [OO,Sem.run_bind,hv,asAddr,Sem.run_pure,Result.andThen_ok,ca,hu],_,us,rfl,hS,hT⟩
   ·cases hr
  ·cases h
structure bA (P:Program) (f:FuncId) (c:qB):Prop where
 enter:∀ xs w,(callFunc f xs).run P w=.ok (.enter f xs) w
 fn:∃ fn,P.funcs[f]?=some fn/\xV P c.mu fn=some c
theorem aV {ι:Ix} {av avl:Av}:∀ {xs:List AV} {us:List Value},aM ι av avl w xs us->us.length=xs.length
 | [],_,h=>by simp only [aM] at h; subst h; rfl
 | x :: r,_,h=>by
  simp only [aM] at h;obtain ⟨u,sa,rfl,_,h⟩:=h;simp [aV h]
theorem z5 {ι:Ix} {av avl:Av}:∀ {xs:List AV} {us:List Value} (_:aM ι av avl w xs us) (t:Nat),MA ι av avl w (xs.getD t .undef) (us.getD t undef)
 | [],_,_,_=>by simp [MA]
 | x :: r,_,h,t=>by
  simp only [aM] at h;obtain ⟨u,sa,rfl,h0,h⟩:=h;cases t with
  | zero=>simpa using h0
  | succ t=>simpa using z5 h t
section
variable {vs:List Value} {args:List AV}
include vs args
theorem iU {ι:Ix} {av avl:Av} {np:Nat} (h:aM ι av avl w args vs) (hl:args.length=np) (hn:np<=nt):(vs.toArray++Array.replicate (nt - vs.toArray.size) undef).size=nt:=by
 have:=aV h;simp;omega
theorem bX {ι ι':Ix} {av za avb avl:Av} {S0:Option AV} (h:aM ι av avl w args vs) (hι:Ix.Le ι ι') (hA:BA av za w w) (hB:BA avl avb w w) (t:Nat) :
  MA ι' za avb w ((pA.init args S0).env t).v ((vs.toArray++Array.replicate (nt - vs.toArray.size) undef).getD t undef):=by
 have h1:=MA.held hι hA hB _ _ (z5 h t);have h2:(vs.toArray++Array.replicate (nt - vs.toArray.size) undef).getD t undef=vs.getD t undef:=by
  simp only [yW,List.getD_eq_getElem?_getD,Array.getElem?_append,List.size_toArray,List.getElem?_toArray];split
  ·rfl
  ·rename_i mf;rw [yZ (by omega)];simp only [Array.getElem?_replicate];split <;> rfl
 rw [h2];exact h1
theorem C0 {av:Av} {np:Nat} (h:aM Ix.none av (fun _ _=>False) w args vs) (pd:∀ b o,av b o->b<w.heap.size) (hl:args.length=np) (hn:np<=nt) :
  ID P O nt w.heap.size ⟨fun _=>False,none,fun _=>False,0,fun _=>undef⟩ av w (fun _=>False) (pA.init args none) { tmps:=vs.toArray++Array.replicate (nt - vs.toArray.size) undef,defers:=[] } w:=by
 have ju:∀ b o,IC Ix.none (fun _=>none) b o->False:=fun b o h=>by rcases h with (⟨t,n,h⟩ | ⟨t,n,H,h,_⟩) | ⟨k,ow,h,_⟩ <;> cases h
 have hA:BA av (PC av Ix.none (fun _=>none)) w w:=BA.less fun b o h=>h.resolve_right (ju b o)
 have hB:BA (fun _ _=>False) (IC Ix.none (fun _=>none)) w w:=BA.less fun b o h=>ju b o h
 exact ⟨Ix.none,fun _=>none,rfl,iU h hl hn,fun t=>bX h (Ix.Le.refl _) hA hB t,fun t=>trivial,fun t n r h=>(by cases h),fun t n b h=>(by cases h),fun _ _ _ _ _ h=>(by cases h),fun _ _ h=>(by cases h),fun _ _ _ _ h=>(by cases h),fun _ _ _ _ h=>(by cases h),pd,fun _ h=>(by cases h),WD.refl _ _,rfl,fun t n S h=>(by simp [pA.init] at h),fun t n H h=>(by cases h),fun _=>trivial,fun _=>trivial⟩
theorem init_some {av:Av} {np p:Nat} {H:Nat->Prop} {S:AV} (h:aM (Ix.one p) av (fun b _=>H b) w args vs) (pd:∀ b o,av b o->b<w.heap.size) (hH:∀ b o,H b->av b o) (tc:O.at_ S H p w) (iw:K8 S=true) (hl:args.length=np) (hn:np<=nt) :
  ID P O nt w.heap.size ⟨H,some p,fun _=>False,0,fun _=>undef⟩ av w (fun _=>False) (pA.init args (some S)) { tmps:=vs.toArray++Array.replicate (nt - vs.toArray.size) undef,defers:=[] } w:=by
 obtain ⟨ι,hι⟩:∃ ι:Ix,ι=⟨fun t n=>if t=0/\n=0 then some p else none,fun t n=>if t=0/\n=0 then some H else none,fun _=>0⟩:=⟨_,rfl⟩;have hf:∀ t n b,ι t n=some b->t=0/\n=0/\b=p:=fun t n b h=>by
  subst hι;have h':(if t=0/\n=0 then some p else none)=some b:=h;split at h'
  ·rename_i e; injection h' with h'; exact ⟨e.1,e.2,h'.symm⟩
  ·cases h'
 have ho:∀ t n H1,ι.ob t n=some H1->t=0/\n=0/\H1=H:=fun t n b h=>by
  subst hι;simp only at h;split at h
  ·rename_i e; injection h with h'; exact ⟨e.1,e.2,h'.symm⟩
  ·cases h
 have h0:ι 0 0=some p:=by subst hι; rfl
 have h1:ι.ob 0 0=some H:=by subst hι; rfl
 have oc:∀ t n b,Ix.one p t n=some b->ι t n=some b:=fun t n b h=>by subst hι; exact h
 have ub:Ix.Le (Ix.one p) ι:=⟨oc,fun _ _ _ _=>by subst hι; rfl⟩;clear hι;have hpH:=O.main tc;have ju:∀ b o,IC ι (fun _=>none) b o->H b:=fun b o h=>by
  rcases h with (⟨t,n,h⟩ | ⟨t,n,H1,h,hb⟩) | ⟨k,ow,h,_⟩
  ·rw [(hf _ _ _ h).2.2]; exact hpH
  ·rw [(ho _ _ _ h).2.2] at hb; exact hb
  ·cases h
 have hA:BA av (PC av ι (fun _=>none)) w w:=BA.less fun b o h=>h.elim id fun h=>hH b o (ju b o h)
 refine ⟨ι,fun _=>none,rfl,iU h hl hn,fun t=>?_,fun t=>trivial,fun t n r h=>(by cases h),fun t n b h=>?_,fun t n t' n' b h h'=>?_,fun _ _ h=>(by cases h),fun _ _ _ _ h=>(by cases h),fun _ _ _ _ h=>(by cases h),pd,fun q h=>?_,WD.refl _ _,rfl,fun t n S1 h=>?_,fun t n H1 h=>?_,fun _=>trivial,fun _=>trivial⟩
 ·exact bX h ub hA (BA.less fun b o h=>ju b o h) t
 ·obtain ⟨rfl,rfl,rfl⟩:=hf _ _ _ h;exact ⟨.inr hpH,O.lt tc hpH,.inl (by simp [pA.init])⟩
 ·obtain ⟨rfl,rfl,_⟩:=hf _ _ _ h;obtain ⟨rfl,rfl,_⟩:=hf _ _ _ h';exact ⟨rfl,rfl⟩
 ·injection h with h;subst h;exact ⟨h0,.inr ⟨H,h1⟩⟩
 ·simp only [pA.init] at h;split at h
  ·rename_i e;injection h with h;subst h;exact ⟨p,H,by rw [e.1,e.2]; exact h0,by rw [e.1,e.2]; exact h1,tc,r5.no iw⟩
  ·cases h
 ·obtain ⟨rfl,rfl,rfl⟩:=ho _ _ _ h;refine ⟨fun b hb=>⟨.inr hb,O.lt tc hb,fun t' n' h=>?_,fun _ _ h=>(by cases h),fun t' n' H' h _=>?_⟩,.inl (by simp [pA.init])⟩
  ·obtain ⟨rfl,rfl,_⟩:=hf _ _ _ h; exact ⟨rfl,rfl⟩
  ·obtain ⟨rfl,rfl,_⟩:=ho _ _ _ h; exact ⟨rfl,rfl⟩
end
theorem init_row {vs:List Value} {args cs:List AV} {av:Av} {np p:Nat} {cur:Array Value} {ty:TypeId} (h:aM (Ix.row p cur.size) av (fun b _=>b=p) w args vs) (pd:∀ b o,av b o->b<w.heap.size) (ck:∀ o,av p o) (oa:w.heap[p]?=some (.cells cur ty (0,0))) (aj:cs.length<=cur.size) (zb:lD av w cs (cur.toList.take cs.length)) (hl:args.length=np) (hn:np<=nt) :
  ID P O nt w.heap.size ⟨fun b=>b=p,some p,fun b=>b=p,cur.size,fun _=>undef⟩ av w (fun _=>False) (pA.initR args cs) { tmps:=vs.toArray++Array.replicate (nt - vs.toArray.size) undef,defers:=[] } w:=by
 have hf:∀ t n b,(Ix.row p cur.size) t n=some b->t=0/\n=0/\b=p:=fun t n b h=>by
  have h':(if t=0/\n=0 then some p else none)=some b:=h;split at h'
  ·rename_i e; injection h' with h'; exact ⟨e.1,e.2,h'.symm⟩
  ·cases h'
 have ju:∀ b o,IC (Ix.row p cur.size) (fun _=>none) b o->b=p:=fun b o h=>by
  rcases h with (⟨t,n,h⟩ | ⟨t,n,H1,h,hb⟩) | ⟨k,ow,h,_⟩
  ·exact (hf _ _ _ h).2.2
  ·cases h
  ·cases h
 have hA:BA av (PC av (Ix.row p cur.size) (fun _=>none)) w w:=BA.less fun b o h=>h.elim id fun h=>ju b o h ▸ ck o
 refine ⟨Ix.row p cur.size,fun _=>none,rfl,iU h hl hn,fun t=>?_,fun t=>trivial,fun t n r h=>?_,fun t n b h=>?_,fun t n t' n' b h h'=>?_,fun _ _ h=>(by cases h),fun _ _ _ _ h=>(by cases h),fun _ _ _ _ h=>(by cases h),pd,fun q h=>?_,WD.refl _ _,rfl,fun t n S1 h=>(by cases h),fun t n H1 h=>(by cases h),fun _=>trivial,fun _=>trivial⟩
 ·exact bX (S0:=none) h (Ix.Le.refl _) hA (BA.less fun b o h=>ju b o h) t
 ·simp only [pA.initR] at h;split at h
  ·rename_i e;injection h with h;subst h;refine ⟨rfl,p,cur,ty,by rw [e.1,e.2]; rfl,oa,row_ofz (lD.held hA _ _ zb) fun j u hu=>?_,.inr rfl,rfl⟩;have hj:j<cs.length:=by
    have:=(yf.1 hu).1;rw [yF] at this;omega
   rw [List.getElem?_take_of_lt hj] at hu;simpa using hu
  ·cases h
 ·obtain ⟨rfl,rfl,rfl⟩:=hf _ _ _ h;exact ⟨.inr rfl,IA oa,.inl (by simp [pA.initR])⟩
 ·obtain ⟨rfl,rfl,_⟩:=hf _ _ _ h;obtain ⟨rfl,rfl,_⟩:=hf _ _ _ h';exact ⟨rfl,rfl⟩
 ·injection h with h;subst h;exact ⟨rfl,.inl ⟨rfl,rfl⟩⟩
theorem uC.drop0 {D:Nat->Prop} {ι:Ix} {Θ:aL} (R:uC P O nt B F0 da w0 D s a w ι Θ):uC P O nt B F0 da w0 D s.drop0 a w ι Θ :=
 ⟨R.defers,R.size,R.env,R.ann,fun t n r h=>by
  simp only [pA.drop0] at h;split at h
  ·cases h
  ·exact R.rows t n r h,R.mine,R.inj,R.tok,R.tinj,R.apart,R.out,R.pin,R.kept,R.base,R.objs,R.obs,R.gen,R.gann⟩
theorem row_sound (hm:P.follows .mixedOrders=true) {call:iB} {lp:LH} {N:Nat} (ua:∀ f args S r,call f args S=some r->aD P O f args S r) (dh:LpOk P O N lp.l) (tg:b3 P O lp.h) {f:FuncId} {fn:Func} {c:qB} (zc:∀ xs w,(callFunc f xs).run P w=.ok (.enter f xs) w) (cq:P.funcs[f]?=some fn) (ge:xV P c.mu fn=some c) {rest cs:List AV} {r:RV} (ia:rest.length=c.np)
  (h:c.code.run call lp (pA.initR rest cs) (GL c cs.length)=some r):i3 P f rest (some (.agg cs)) r:=by
 unfold xV at ge;split at ge
 ·cases ge
 ·rename_i code ik;split at ge
  ·rename_i cc rr sf hrr;split at ge
   ·rename_i aa;injection ge with ge;obtain ⟨mu,wm⟩:∃ mu,mu=c.mu:=⟨_,rfl⟩;rw [<- wm] at ge sf;clear wm;subst ge;have dt:fn.params.size + fn.nfree<=fn.ntmps:=aa;refine ⟨zc,?_⟩;obtain ⟨r1,r2⟩:=r
    match r2,h with
    | some (.agg gv),h =>
     intro av w vs p cur ty pd ck oa ub zb lc;refine calls_of_wp cq ik ?_;refine lF hm ua dh tg code cc _ _ _ _ w _ sf h (init_row lc pd ck oa ub zb ia dt) fun e s' a' w' R' he=>?_
     have mh:e=.nrm\/e=.ret:=by
      cases e with
      | nrm=>exact .inl rfl
      | ret=>exact .inr rfl
      | exit id=>cases he
     have sg:∃ xs,RT s' rr=some xs/\GI cs.length s' (xs.map (AV.frz s'.drop0))=some (r1,some (.agg gv)):=by
      rcases mh with rfl | rfl <;> exact yb.1 he
     obtain ⟨xs,zd,fd⟩:=sg;obtain ⟨ι,Θ,R'⟩:=R';obtain ⟨us,nd,hT'⟩:=OW R' hrr zd;have md:(results fn a'.tmps).run P w'=.ok (XP us) w':=by
      have he:results fn a'.tmps=(do let vs <- fn.results.mapM (OO a'.tmps); pure (if h:vs.size=1 then vs[0] else .tuple vs)):=rfl;rw [he,Array.mapM_eq_mapM_toList];simp only [Sem.run_bind,Sem.run_map,nd,Result.andThen_ok,Sem.run_pure];rfl
     have hs:=hT'.frz R'.drop0;unfold GI at fd;split at fd
     ·rename_i ra;obtain ⟨row,mt,fd⟩:=yb.1 fd;split at fd
      ·rename_i aa;injection fd with fd;injection fd with hfv1 hfv2;injection hfv2 with hfv2;injection hfv2 with hfv2;subst hfv1;subst hfv2;obtain ⟨kc,b,jb,zo,hb,um,ka,_,hz⟩:=R'.rows 0 0 row mt;obtain ⟨hpp,hpz⟩:=R'.pin p rfl;rw [hpp] at hb;injection hb with hb;subst hb;have hz':ι.z p=cur.size:=by
        rcases hpz with ⟨_,h⟩ | ⟨H,h⟩
        ·exact h
        ·rw [h] at kc; cases kc
       have oc:∀ b o,av b o->avF s'.drop0 (PC av ι Θ) ι b o:=fun b o h=>⟨.inl h,fun ⟨t,n,r,hm,hb⟩=>by
        simp only [pA.drop0] at hm;split at hm
        ·cases hm
        ·rename_i hn;obtain ⟨_,b',_,_,ta,_,_,dj,_⟩:=R'.rows t n r hm;rw [hb] at ta;injection ta with ta;subst ta;rcases dj with dj | dj
         ·have:=pd _ _ h; omega
         ·have:b=p:=dj;subst this;exact hn (R'.inj _ _ _ _ _ hb hpp)⟩
       have post:a'.defers=[]/\∃ v,(results fn a'.tmps).run P w'=.ok v w'/\∃ v' cur'' ty'',Ending.returned v=.returned v'/\xE av w' (cW (xs.map (AV.frz s'.drop0))) v'/\w'.heap[p]?=some (.cells cur'' ty'' (0,0))/\cur''.size=cur.size/\lD av w' (row.map fun x=>AV.frz0 s'.drop0 x.v) (cur''.toList.take (row.map fun x=>AV.frz0 s'.drop0 x.v).length)/\WD (fun b=>b=p) w w':=by
        refine ⟨R'.defers,_,md,_,jb,zo,rfl,WY (hs.toT oc fun v hv=>y6.1 ra v hv),um,hz.trans hz',?_,R'.kept⟩;have h1:=ka.rep.frz R'.drop0;rw [y3] at h1;have h2:=uH h1 fun x hx=>y6.1 aa.1 x hx
        rw [yq];exact lD.held (BA.less oc) _ _ h2
       rcases mh with rfl | rfl <;> exact post
      ·cases fd
     ·cases fd
    | none,h=>trivial
    | some (.int ..),h=>trivial
    | some (.bool _),h=>trivial
    | some (.str _),h=>trivial
    | some .nilP,h=>trivial
    | some (.ptr ..),h=>trivial
    | some (.ip _),h=>trivial
    | some (.bp _),h=>trivial
    | some (.sl ..),h=>trivial
    | some (.bl _),h=>trivial
    | some (.ref ..),h=>trivial
    | some (.mp ..),h=>trivial
    | some (.fn ..),h=>trivial
    | some (.tup _),h=>trivial
    | some .undef,h=>trivial
   ·cases ge
  ·cases ge
theorem UY {D:Nat->Prop} {ι:Ix} {Θ:aL} (R:uC P O nt B F0 da w0 D s a w ι Θ):∀ {rs:List ResultVar} {cs:List ResC} {vs:List wA},FL P rs=some cs->PZ s cs=some vs →
  ∃ us,(rs.mapM (OO a.tmps)).run P w=Result.ok us w/\mH ι Θ (PC da ι Θ) (IC ι Θ) w vs us
 | [],cs,vs,h,hr=>by
  injection h with h;subst h;injection hr with hr;subst hr;exact ⟨[],by simp,rfl⟩
 | .tmp t :: rs,cs,vs,h,hr=>by
  unfold FL at h;obtain ⟨l,hl,rfl⟩:=yj.1 h;simp only [PZ] at hr;obtain ⟨zu,hv,rfl⟩:=yj.1 hr;obtain ⟨us,hu,hT⟩:=UY R hl hv;refine ⟨a.tmps.getD t undef :: us,by rw [List.mapM_cons]; simp only [OO,Sem.run_bind,Sem.run_pure,Result.andThen_ok,hu],_,us,rfl,R.env t,R.ann t,hT⟩
 | .cell b t :: rs,cs,vs,h,hr=>by
  unfold FL at h;split at h
  ·rename_i ag z l hA hz hl;injection h with h;subst h;simp only [PZ] at hr;split at hr
   ·rename_i t' n off hb;cases hm:s.mem t' n with
    | none=>rw [hm] at hr; cases hr
    | some row =>
     rw [hm,V] at hr;obtain ⟨x,hx,hr⟩:=yb.1 hr;obtain ⟨zu,hv,rfl⟩:=yj.1 hr;obtain ⟨us,hu,hT⟩:=UY R hl hv;have hv:=R.env b;rw [hb,cG] at hv;obtain ⟨bb,hbb,hv⟩:=hv;obtain ⟨sk,b',cur,ty,ta,oa,ka,_⟩:=R.rows t' n row hm;rw [hbb] at ta;injection ta with ta;subst ta;have mb:∀ (j:Nat) (u:Value),((cur.toList.take row.length).drop off)[j]?=some u->w.cell? ⟨bb,off + j,none⟩=some u:=fun j u hu=>by
      rw [cell_of_row w bb (off + j) cur ty (0,0) oa];rw [yT,yQ] at hu;split at hu
      ·simpa using hu
      ·cases hu
     have zb:=fF off ka.rep;have hi:zG ag z ((row.map (·.v)).drop off)=some x.v:=by
      cases ag with
      | true =>
       simp only [jB,if_true] at hx;split at hx
       ·rename_i ub;injection hx with hx;subst hx;simp only [zG,if_true,List.length_drop,yq];rw [if_pos (by omega)];simp [List.map_take,List.map_drop]
       ·cases hx
      | false =>
       simp only [jB,yt,if_false] at hx;simp [zG,yT,hx]
     obtain ⟨u,ca,hS,_⟩:=AP (P:=P) (avb:=IC ι Θ) hA hz zb mb hi;refine ⟨u :: us,by rw [List.mapM_cons]; simp only [OO,Sem.run_bind,hv,asAddr,Sem.run_pure,Result.andThen_ok,ca,hu],u,us,rfl,hS,trivial,hT⟩
   ·cases hr
  ·cases h
theorem BN {ι:Ix} {Θ:aL} {av avb:Av}:∀ {xs:List wA} {us:List Value},mH ι Θ av avb w xs us->us.length=xs.length
 | [],_,h=>by simp only [mH] at h; subst h; rfl
 | x :: r,_,h=>by
  simp only [mH] at h;obtain ⟨u,sa,rfl,_,_,h⟩:=h;simp [BN h]
theorem JT {ι:Ix} {Θ:aL} {av avb:Av}:∀ {xs:List wA} {us:List Value} (_:mH ι Θ av avb w xs us) (t:Nat),MA ι av avb w (xs.getD t ⟨.undef,.no⟩).v (us.getD t undef)/\uM Θ (xs.getD t ⟨.undef,.no⟩).a (us.getD t undef)
 | [],_,_,_=>by simp [MA,uM]
 | x :: r,_,h,t=>by
  simp only [mH] at h;obtain ⟨u,sa,rfl,h0,h1,h⟩:=h;cases t with
  | zero=>simpa using ⟨h0,h1⟩
  | succ t=>simpa using JT h t
theorem RepU_ofS {ι:Ix} {av avb:Av} {x:AV} {v:Value} (h:MA ι av avb w x v) (hx:x.tupOk=true):jP ι av w x v:=by
 cases x <;> first
  | exact h
  | (cases hx; done)
theorem HW {ι:Ix} {Θ:aL} {av avb:Av}:∀ {xs:List wA} {us:List Value},mH ι Θ av avb w xs us->xs.all (fun x=>x.v.tupOk)=true->RG ι av w (xs.map (·.v)) us
 | [],_,h,_=>h
 | x :: r,_,h,hf=>by
  simp only [mH] at h;obtain ⟨u,sa,rfl,h0,_,h⟩:=h;simp only [List.all_cons,y9] at hf;exact ⟨u,sa,rfl,RepU_ofS h0 hf.1,HW h hf.2⟩
theorem packS_rep {ι:Ix} {Θ:aL} {av avb:Av}:∀ {xs:List wA} {us:List Value} {y:wA},mH ι Θ av avb w xs us->QY xs=some y->MA ι av avb w y.v (XP us)/\uM Θ y.a (XP us)
 | [],us,y,h,hp=>by
  simp only [mH] at h;subst h;injection hp with hp;subst hp;exact ⟨⟨#[],rfl,rfl⟩,trivial⟩
 | [x],us,y,h,hp=>by
  simp only [mH] at h;obtain ⟨u,sa,rfl,h0,h1,rfl⟩:=h;injection hp with hp;subst hp;exact ⟨h0,h1⟩
 | x :: z :: r,us,y,h,hp=>by
  have hl:=BN h;have:¬ us.toArray.size=1:=by simp; simp at hl; omega
  unfold XP;rw [dif_neg this];unfold QY at hp;split at hp
  ·rename_i e; cases e
  ·split at hp
   ·rename_i ra;injection hp with hp;subst hp;exact ⟨⟨_,rfl,HW h ra⟩,trivial⟩
   ·cases hp
theorem initH_rel {B:Nat} {F0:qP} {da:Av} {w0 w:World} {ι:Ix} {Θ:aL} {xs:List wA} {us:List Value} (R:j5 P O B F0 da w0 s w ι Θ) (h:mH ι Θ (PC da ι Θ) (IC ι Θ) w xs us) {np:Nat} (hl:xs.length=np) (hn:np<=nt) :
  uC P O nt B F0 da w0 (fun _=>False) (s.initH xs) { tmps:=us.toArray++Array.replicate (nt - us.toArray.size) undef,defers:=[] } w ι Θ:=by
 have hg:∀ t,(us.toArray++Array.replicate (nt - us.toArray.size) undef).getD t undef=us.getD t undef:=fun t=>by
  simp only [yW,List.getD_eq_getElem?_getD,Array.getElem?_append,List.size_toArray,List.getElem?_toArray];split
  ·rfl
  ·rename_i mf;rw [yZ (by omega)];simp only [Array.getElem?_replicate];split <;> rfl
 have ac:(us.toArray++Array.replicate (nt - us.toArray.size) undef).size=nt:=by
  have:=BN h;simp;omega
 exact ⟨rfl,ac,fun t=>by simp only [pA.initH]; rw [hg]; exact (JT h t).1,fun t=>by simp only [pA.initH]; rw [hg]; exact (JT h t).2,R.rows,R.mine,R.inj,R.tok,R.tinj,R.apart,R.out,R.pin,R.kept,R.base,R.objs,R.obs,R.gen,R.gann⟩
theorem uC.bare {D:Nat->Prop} {ι:Ix} {Θ:aL} (R:uC P O nt B F0 da w0 (fun _=>False) s a w ι Θ):j5 P O B F0 da w0 s w ι Θ :=
 ⟨rfl,rfl,fun _=>trivial,fun _=>trivial,R.rows,R.mine,R.inj,R.tok,R.tinj,R.apart,R.out,R.pin,R.kept,R.base,R.objs,R.obs,R.gen,R.gann⟩
theorem heap_sound (hm:P.follows .mixedOrders=true) {call:iB} {lp:LH} {N:Nat} (ua:∀ f args S r,call f args S=some r->aD P O f args S r) (dh:LpOk P O N lp.l) (tg:b3 P O lp.h) {f:FuncId} {fn:Func} {c:qB} (zc:∀ xs w,(callFunc f xs).run P w=.ok (.enter f xs) w) (cq:P.funcs[f]?=some fn) (ge:xV P c.mu fn=some c) {xs:List wA} {k:wA->pA->Option RV} {r:RV} (ia:xs.length=c.np)
  (h:c.code.run call lp (s.initH xs) (FQ c k)=some r):(∀ vs w,(callFunc f vs).run P w=.ok (.enter f vs) w) ∧
 ∀ (B:Nat) (F0:qP) (da:Av) (w0 w:World) (ι:Ix) (Θ:aL) (us:List Value) (E:Ending->World->Prop),j5 P O B F0 da w0 s w ι Θ->mH ι Θ (PC da ι Θ) (IC ι Θ) w xs us →
  (∀ y s' w' ι' Θ' v,j5 P O B F0 da w0 s' w' ι' Θ'->MA ι' (PC da ι' Θ') (IC ι' Θ') w' y.v v->uM Θ' y.a v->k y s'=some r->E (.returned v) w')->Calls P f us.toArray w E:=by
 unfold xV at ge;split at ge
 ·cases ge
 ·rename_i code ik;split at ge
  ·rename_i cc rr sf hrr;split at ge
   ·rename_i aa;injection ge with ge;obtain ⟨mu,wm⟩:∃ mu,mu=c.mu:=⟨_,rfl⟩;rw [<- wm] at ge sf;clear wm;subst ge;have dt:fn.params.size + fn.nfree<=fn.ntmps:=aa;refine ⟨zc,fun B F0 da w0 w ι Θ us E R zd hE=>?_⟩;refine calls_of_wp cq ik ?_;refine lF hm ua dh tg code cc _ _ _ _ w _ sf h ⟨ι,Θ,initH_rel R zd ia dt⟩ fun e s' a' w' R' he=>?_
    have mh:e=.nrm\/e=.ret:=by
     cases e with
     | nrm=>exact .inl rfl
     | ret=>exact .inr rfl
     | exit id=>cases he
    have sg:∃ y,(PZ s' rr).bind QY=some y/\k y s'=some r:=by
     rcases mh with rfl | rfl <;> exact yb.1 he
    obtain ⟨y,hy,hk⟩:=sg;obtain ⟨l,hl,hp⟩:=yb.1 hy;obtain ⟨ι',Θ',R'⟩:=R';obtain ⟨vs,hvs,hT'⟩:=UY R' hrr hl;have md:(results fn a'.tmps).run P w'=.ok (XP vs) w':=by
     have he:results fn a'.tmps=(do let vs <- fn.results.mapM (OO a'.tmps); pure (if h:vs.size=1 then vs[0] else .tuple vs)):=rfl;rw [he,Array.mapM_eq_mapM_toList];simp only [Sem.run_bind,Sem.run_map,hvs,Result.andThen_ok,Sem.run_pure];rfl
    obtain ⟨ff,ah⟩:=packS_rep hT' hp;have post:a'.defers=[]/\∃ v,(results fn a'.tmps).run P w'=.ok v w'/\E (.returned v) w':=⟨R'.defers,_,md,hE y s' w' ι' Θ' _ (uC.bare (D:=fun _=>False) R') ff ah hk⟩;rcases mh with rfl | rfl <;> exact post
   ·cases ge
  ·cases ge
theorem markR_some {args rest:List AV} (h:DP args=some rest):args=.undef :: .undef :: rest:=by
 unfold DP at h;split at h
 ·injection h with h; subst h; rfl
 ·cases h
theorem NW (hm:P.follows .mixedOrders=true) {T:Nat->Option qB} {ext:iB} (hT:∀ f c,T f=some c->bA P f c) (dr:∀ f args S r,ext f args S=some r->aD P O f args S r) :
  ∀ N,(∀ f args S r,jD T ext N f args S=some r->aD P O f args S r)/\LpOk P O N (FJ T ext N)/\b3 P O (wM T ext N)
 | 0=>by
  refine ⟨fun f args S r h=>?_,fun _ _ _ _ _ _ _ _ _ _ _ _ _ _ _ h _ _=>(by cases h),fun _ _ _ _ _ h=>(by cases h)⟩;unfold jD at h;split at h
  ·exact dr f args S r h
  ·cases h
 | N + 1=>by
  obtain ⟨wo,dl,xo⟩:=NW hm hT dr N;refine ⟨fun f args S0 r h=>?_,fun boxes nt B F0 da w0 code b s k r a w Q hc h R hk=>?_,fun f xs s k r h=>?_⟩
  ·unfold jD at h;split at h
   ·exact dr f args S0 r h
   ·rename_i c hTc;obtain ⟨zc,fn,cq,ge⟩:=hT f c hTc;cases hmk:DP args with
    | some rest =>
     rw [hmk] at h
     match S0,h with
     | some (.agg cs),h =>
      simp only at h;split at h
      ·rename_i hl;rw [markR_some hmk];exact row_sound (lp:=⟨FJ T ext N,wM T ext N⟩) hm wo dl xo zc cq ge hl.1 h
      ·cases h
     | none,h=>cases h
     | some (.int ..),h=>cases h
     | some (.bool _),h=>cases h
     | some (.str _),h=>cases h
     | some .nilP,h=>cases h
     | some (.ptr ..),h=>cases h
     | some (.ip _),h=>cases h
     | some (.bp _),h=>cases h
     | some (.sl ..),h=>cases h
     | some (.bl _),h=>cases h
     | some (.ref ..),h=>cases h
     | some (.mp ..),h=>cases h
     | some (.fn ..),h=>cases h
     | some (.tup _),h=>cases h
     | some .undef,h=>cases h
    | none =>
    rw [hmk] at h;simp only at h;split at h
    ·rename_i hlm;obtain ⟨ia,hmark,hnoit⟩:=hlm;unfold xV at ge;split at ge
     ·cases ge
     ·rename_i code ik;split at ge
      ·rename_i cc rr sf hrr;split at ge
       ·rename_i aa;injection ge with ge;obtain ⟨mu,wm⟩:∃ mu,mu=c.mu:=⟨_,rfl⟩;rw [<- wm] at ge sf;clear wm;subst ge;have dt:fn.params.size + fn.nfree<=fn.ntmps:=aa;have ending:∀ {F0:qP} {av:Av} {w:World} {vs:List Value} {E:Ending->World->Prop},
          ID P O fn.ntmps w.heap.size F0 av w (fun _=>False) (pA.init args S0) { tmps:=vs.toArray++Array.replicate (fn.ntmps - vs.toArray.size) undef,defers:=[] } w →
          (∀ (s':pA) (a':Act) (w':World) (ι:Ix) (Θ:aL) (us:List Value) (xs:List AV),uC P O fn.ntmps w.heap.size F0 av w (fun _=>False) s' a' w' ι Θ->lN ι (avF s' (PC av ι Θ) ι) (IC ι Θ) w' xs us->sX S0 s' xs=some r->E (.returned (XP us)) w')->Calls P f vs.toArray w E:=fun {F0 av w vs E} R hE=>by
         refine calls_of_wp cq ik ?_;refine lF (lp:=⟨FJ T ext N,wM T ext N⟩) hm wo dl xo code cc _ _ r _ w _ sf h R fun e s' a' w' R' he=>?_
         have mh:e=.nrm\/e=.ret:=by
          cases e with
          | nrm=>exact .inl rfl
          | ret=>exact .inr rfl
          | exit id=>cases he
         have sg:∃ xs,RT s' rr=some xs/\sX S0 s' (xs.map (AV.frz s'))=some r:=by
          rcases mh with rfl | rfl <;> exact yb.1 he
         obtain ⟨xs,zd,fd⟩:=sg;obtain ⟨ι,Θ,R'⟩:=R';obtain ⟨us,nd,hT'⟩:=OW R' hrr zd;have md:(results fn a'.tmps).run P w'=.ok (XP us) w':=by
          have he:results fn a'.tmps=(do let vs <- fn.results.mapM (OO a'.tmps); pure (if h:vs.size=1 then vs[0] else .tuple vs)):=rfl;rw [he,Array.mapM_eq_mapM_toList];simp only [Sem.run_bind,Sem.run_map,nd,Result.andThen_ok,Sem.run_pure];rfl
         have post:a'.defers=[]/\∃ v,(results fn a'.tmps).run P w'=.ok v w'/\E (.returned v) w':=⟨R'.defers,_,md,hE s' a' w' ι Θ us _ R' (hT'.frz R') fd⟩;rcases mh with rfl | rfl <;> exact post
        refine (aD.of hmark).2 ⟨zc,?_⟩;obtain ⟨r1,r2⟩:=r;cases S0 with
        | none =>
         cases r2 with
         | none =>
          intro av w vs pd lc;refine ending (C0 lc pd ia dt) fun s' a' w' ι Θ us xs R' hs fd=>?_
          refine ⟨_,rfl,?_,R'.kept.below⟩;simp only [sX] at fd;split at fd
          ·rename_i ra;injection fd with fd;injection fd with fd;subst fd;exact WY (hs.toT (fun b o h=>⟨.inl h,fun ⟨t,n,r,hm,hb⟩=>by
            obtain ⟨_,b',cur,ty,ta,_,_,dj,_⟩:=R'.rows t n r hm;rw [hb] at ta;injection ta with ta;subst ta;have:=pd _ _ h;have:=dj.elim id False.elim;omega⟩) fun v hv=>y6.1 ra v hv)
          ·split at fd
           ·split at fd
            ·split at fd <;> cases fd
            ·cases fd
           ·cases fd
         | some S' =>
          intro av w vs pd lc;refine ending (C0 lc pd ia dt) fun s' a' w' ι Θ us xs R' hs fd=>?_
          simp only [sX] at fd;split at fd
          ·cases fd
          ·split at fd
           ·rename_i t n _;split at fd
            ·rename_i S hS;split at fd
             ·rename_i ra;injection fd with fd;injection fd with hfv1 hfv2;injection hfv2 with hfv2;subst hfv1;subst hfv2;obtain ⟨p,H,hp,kb,tc,_⟩:=R'.objs t n S hS;refine ⟨_,p,H,rfl,?_,tc,fun b hb=>(((R'.obs t n H kb).1 b hb).1).elim id False.elim,R'.kept.below⟩;have ec:∀ v∈xs,((DJ t n v).free||(DJ t n v).isObj)=true:=fun v hv=>y6.1 ra _ (List.mem_map_of_mem hv)
              refine pack_repN (hs.toO hp (fun b o h=>?_) ec) fun v hv=>y6.1 ra v hv
              refine ⟨?_,fun ⟨t',n',r,hm,hb⟩=>?_⟩
              ·rcases h with h | h
               ·exact .inl h
               ·exact .inr (.inl (.inr ⟨t,n,H,kb,h⟩))
              ·obtain ⟨kc,b',cur,ty,ta,_,_,dj,_⟩:=R'.rows t' n' r hm;rw [hb] at ta;injection ta with ta;subst ta;rcases h with h | h
               ·have:=pd _ _ h;have:=dj.elim id False.elim;omega
               ·have e:=((R'.obs t n H kb).1 b h).2.2.1 t' n' hb;rw [e.1,e.2,kb] at kc;cases kc
             ·cases fd
            ·cases fd
           ·cases fd
        | some S =>
         cases r2 with
         | none =>
          trivial
         | some S' =>
          intro av w vs p H pd hH tc lc;have iw:K8 S=true:=hnoit;refine ending (init_some lc pd hH tc iw ia dt) fun s' a' w' ι Θ us xs R' hs fd=>?_
          simp only [sX] at fd;split at fd
          ·rename_i ra;obtain ⟨S1,hS1,fd⟩:=yj.1 fd;injection fd with hfv1 hfv2;injection hfv2 with hfv2;subst hfv1;subst hfv2;obtain ⟨p',H',hp,kb,sh,_⟩:=R'.objs 0 0 S1 hS1;have hpp:=(R'.pin p rfl).1;rw [hpp] at hp;injection hp with hp;subst hp;refine ⟨_,H',rfl,WY (hs.toT (fun b o h=>?_) fun v hv=>y6.1 ra v hv),sh,fun b hb=>(((R'.obs 0 0 H' kb).1 b hb).1).symm,R'.kept⟩;refine ⟨?_,fun ⟨t',n',r,hm,hb⟩=>?_⟩
           ·rcases h with h | h
            ·exact .inl h
            ·exact .inr (.inl (.inr ⟨0,0,H',kb,h⟩))
           ·obtain ⟨kc,b',cur,ty,ta,_,_,dj,_⟩:=R'.rows t' n' r hm;rw [hb] at ta;injection ta with ta;subst ta;rcases h with h | h
            ·have:=pd _ _ h;have:=dj.elim id False.elim;omega
            ·have e:=((R'.obs 0 0 H' kb).1 b h).2.2.1 t' n' hb;rw [e.1,e.2,kb] at kc;cases kc
          ·cases fd
       ·cases ge
      ·cases ge
    ·cases h
  ·unfold FJ at h;rw [rounds_succ];refine lF (lp:=⟨FJ T ext N,wM T ext N⟩) hm wo dl xo code b s _ r a w _ hc h R fun e s' a' w' R' he=>?_
   cases e with
   | nrm=>exact dl boxes nt B F0 da w0 code b s' k r a' w' Q hc he R' hk
   | exit id=>exact hk _ _ _ _ R' he
   | ret=>exact hk _ _ _ _ R' he
  ·unfold wM at h;split at h
   ·cases h
   ·rename_i c hTc;obtain ⟨zc,fn,cq,ge⟩:=hT f c hTc;split at h
    ·rename_i ia;exact heap_sound (lp:=⟨FJ T ext N,wM T ext N⟩) hm wo dl xo zc cq ge ia h
    ·cases h
end
end
end Go.Proofs.YtbnlmgncbgaepaaGreat
