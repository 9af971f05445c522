/- A part of the proof. -/
import Derived.Test.YtbnlmgncbgaepaaGreatXa
import Derived.Laws.BytesString
import Derived.OrdersHeld
import Derived.LoopN
set_option linter.all false
set_option maxRecDepth 100000
set_option maxHeartbeats 8000000
open Option renaming bind_some → V, bind_eq_some_iff → y8, map_eq_some_iff → yh, map_some → yA
open List renaming map_map → y0, getElem?_eq_getElem → y4, all_eq_true → y5, getElem?_eq_some_iff → y9, drop_eq_getElem_cons → yb, getElem?_map → yc, drop_eq_nil_of_le → ye, mem_cons → yf, map_cons → yg, mem_of_getElem? → yj, mem_cons_self → yk, length_append → yl, map_nil → yn, length_map → yo, mem_cons_of_mem → yp, map_congr_left → yq, mem_append → yt, take_of_length_le → yx, mem_map → yy, flatten_cons → yz, length_take → yC, replicate → yD, length_cons → yE, getElem?_append_left → yF, eq_nil_of_length_eq_zero → yM, mem_map_of_mem → yN, getElem?_take → yO, nil_append → yP, getElem?_append_right → yR, getElem?_drop → yT, append_assoc → yU, getElem?_eq_none → yW
open Bool renaming and_eq_true → y7, false_eq_true → yr
open Nat renaming le_refl → ym, succ_mul → yw, zero_add → yG, eq_zero_or_pos → yK, mul_le_mul_right → yX
open Array renaming toArray_toList → yQ, length_toList → yV, getElem?_eq_getElem → yY, getD_eq_getD_getElem? → yZ
namespace Go.Proofs.YtbnlmgncbgaepaaGreat
open Go
section
open Go Go.RowKit
section
variable {P:Program} {O:AH} {nt B:Nat} {F0:OO} {aa:Av} {w0:World} {D:Nat->Prop} {s:aA} {a:Act} {w w':World} {ι:Ix} {Θ:dL} {o:Oper}
def An.twice (A:An) (d:Nat) (x:An):An:=match A with
 | .own k _=>(x.strip k).strip d
 | _=>x.strip d
theorem twice_eq (A:An) (d:Nat):(s.stripA A).strip d=s.mapAn (A.twice d):=by
 cases A with
 | own k e=>simp [aA.stripA,aA.strip,aA.mapAn,qA.strip,An.twice,Function.comp_def]
 | no=>rfl
 | ex=>rfl
def dL.less (Θ:dL) (A:An) (d:Nat):dL:=fun j=>match A with
 | .own k _=>if j=d\/j=k then none else Θ j
 | _=>if j=d then none else Θ j
theorem UC {A:An} {d j:Nat} {o:Ow} (h:Θ.less A d j=some o):Θ j=some o/\j≠d/\∀ k e,A=.own k e->j≠k:=by
 unfold dL.less at h;cases A with
 | own k e =>
  simp only at h;split at h
  ·cases h
  ·rename_i hn; exact ⟨h,fun e=>hn (.inl e),fun k' e' he=>by injection he with h1; subst h1; exact fun e=>hn (.inr e)⟩
 | no =>
  simp only at h;split at h
  ·cases h
  ·rename_i hn; exact ⟨h,hn,fun k' e' he=>by cases he⟩
 | ex =>
  simp only at h;split at h
  ·cases h
  ·rename_i hn; exact ⟨h,hn,fun k' e' he=>by cases he⟩
theorem less_d {A:An} {d:Nat}:Θ.less A d d=none:=by
 unfold dL.less;cases A <;> simp
theorem less_an {A:An} {d:Nat} {Θ':dL} (hΘ:∀ j o,Θ.less A d j=some o->Θ' j=some o) (x:An) (v:Value) (h:qM Θ x v):qM Θ' (A.twice d x) v:=by
 have h1:∀ k,x.strip k=.no\/(x.strip k=x/\∀ j e,x=.own j e->j≠k):=fun k=>by
  cases x with
  | no=>exact .inl rfl
  | ex=>exact .inr ⟨rfl,fun _ _ h=>by cases h⟩
  | own j e =>
   simp only [An.strip];split
   ·exact .inl rfl
   ·rename_i hn; exact .inr ⟨rfl,fun j' e' h=>by injection h with h; subst h; exact hn⟩
 have key:A.twice d x=.no\/(A.twice d x=x/\(∀ j e,x=.own j e->j≠d)/\∀ k e',A=.own k e'->∀ j e,x=.own j e->j≠k):=by
  cases A with
  | own k e' =>
   simp only [An.twice];rcases h1 k with h2 | ⟨h2,h3⟩
   ·rw [h2]; exact .inl rfl
   ·rw [h2];rcases h1 d with h4 | ⟨h4,h5⟩
    ·exact .inl h4
    ·exact .inr ⟨h4,h5,fun k' e'' he=>by injection he with he; subst he; exact h3⟩
  | no=>rcases h1 d with h4 | ⟨h4,h5⟩; exact .inl h4; exact .inr ⟨h4,h5,fun _ _ he=>by cases he⟩
  | ex=>rcases h1 d with h4 | ⟨h4,h5⟩; exact .inl h4; exact .inr ⟨h4,h5,fun _ _ he=>by cases he⟩
 rcases key with h2 | ⟨h2,h3,h4⟩
 ·rw [h2]; trivial
 ·rw [h2];cases x with
  | no=>trivial
  | ex=>exact h
  | own j e =>
   refine h.imp id fun ⟨ow,h5,h6⟩=>⟨ow,hΘ _ _ ?_,h6⟩
   unfold dL.less;cases A with
   | own k e'=>simp only; rw [if_neg]; exact h5; rintro (e1 | e1); exact h3 _ _ rfl e1; exact h4 _ _ rfl _ _ rfl e1
   | no=>simp only; rw [if_neg (h3 _ _ rfl)]; exact h5
   | ex=>simp only; rw [if_neg (h3 _ _ rfl)]; exact h5
theorem iC.apob (R:iC P O nt B F0 aa w0 D s a w ι Θ) {k:Nat} {o:Ow} {t n:Nat} {H:Nat->Prop} (h:Θ k=some o) (hH:ι.ob t n=some H):¬ H o.g:=fun hb=>((R.obs t n H hH).1 _ hb).2.2.2.1 k o h rfl
theorem iC.less (R:iC P O nt B F0 aa w0 D s a w ι Θ) (A:An) (d:Nat):iC P O nt B F0 aa w0 D (s.mapAn (A.twice d)) a w ι (Θ.less A d) :=
 R.fam _ _ (fun _ _ h=>h.imp id fun ⟨k,ow,h1,h2⟩=>⟨k,ow,(UC h1).1,h2⟩) (less_an fun _ _ h=>h) (fun k o h=>R.tok k o (UC h).1) (fun k k' o o' h h'=>R.tinj k k' o o' (UC h).1 (UC h').1) (fun k o t n h=>R.apart k o t n (UC h).1) (fun _ _ _ _ _ h=>R.apob (UC h).1)
theorem PM {av:Av}:∀ {xs ys:List AV} {us vs:List Value},MC av w xs us->MC av w ys vs->MC av w (xs++ys) (us++vs)
 | [],_,_,_,h,h'=>by simp only [MC] at h; subst h; exact h'
 | x :: r,_,_,_,h,h'=>by
  simp only [MC] at h;obtain ⟨u,ta,rfl,h0,h1,h⟩:=h;exact ⟨u,ta++_,rfl,h0,h1,PM h h'⟩
theorem P2 {av:Av}:∀ {xs:List AV} {us:List Value},MC av w xs us->∀ u∈us,u.oneCell'=true
 | [],_,h,u,hu=>by simp only [MC] at h; subst h; cases hu
 | x :: r,_,h,u,hu=>by
  simp only [MC] at h;obtain ⟨v,ta,rfl,h0,h1,h⟩:=h;rcases yf.1 hu with rfl | hu
  ·exact h1
  ·exact P2 h u hu
theorem op_app (R:iC P O nt B F0 aa w0 D s a w ι Θ) {t e:TypeId} {i:TypeInfo} {z:List AV} (ht:P.underlying t=some (.slice e)) (hi:P.info? e=some i) (hz:aL P e=some z) (ac:z.length=i.size) (fb:0<i.size) {X Y:Operand} {x y:LB} (hx:opd X=some x) (hy:opd Y=some y)
  (ho:o.op=.call { callee:=.builtin .append,args:=#[X,Y],argTypes:=#[t,t] }) {d:Nat} (ca:o.dst=some d) (hd:d<nt) {cl:Cl} {call} {xe:qA × nD} (hr:(K.app cl e i.size i.bytes x y).run call s=some xe) {g} {s':aA} (he:UA.eff ⟨o.dst,.app cl e i.size i.bytes x y,g⟩ s xe=some s') :
  ∃ v w',(execOp a.eval o).run P w=.ok (.value v) w'/\KD P O nt B F0 aa w0 D s' (a.put o.dst v) w':=by
 obtain ⟨zv,i',fc,tp,nj,hl⟩:=UH hz w;rw [hi] at fc;injection fc with fc;subst fc;have zn:zv.cells.size=i.size:=by
  have:=zH hl;simp only [yV] at this;omega
 have hX:=R.opd hx;have hY:=(R.opd hy).1;have aj:∀ v w',(Builtin.append_ #[t,t] o.type #[a.eval X,a.eval Y]).run P w=.ok v w'->(execOp a.eval o).run P w=.ok (.value v) w':=fun v w' h=>by
  simp only [execOp,ho,resolve,invoke,builtin,Sem.run_bind,Sem.run_pure,Result.andThen_ok,List.map_toArray,yg,yn,h]
 simp only [K.run] at hr;split at hr
 ·rename_i b l m kc zc;split at hr
  ·rename_i ba;obtain ⟨ka,sa⟩:=ba;obtain ⟨jf,jg⟩:=EA.1 ka;have dc:∀ c∈l++m,c.length=i.size:=fun c hc=>by simpa using y5.1 sa c hc
   have md:∀ c∈m,c.length=i.size:=fun c hc=>dc c (List.mem_append_right _ hc)
   have ot:∀ c∈l,c.length=i.size:=fun c hc=>dc c (List.mem_append_left _ hc)
   obtain ⟨news,ud,ae⟩:=sM R hY zc fb md;rw [kc] at hX;have kz:=hX.1;rw [tE] at kz;obtain ⟨xs,be,zu⟩:=sM (cl:=cl) R hX.1 (m:=l) rfl fb ot;simp only [bE] at kz;obtain ⟨A,c,hv,ov,hu,hn,hs⟩:=kz;have le:xs.length=l.length * i.size:=zu.1;have te:∀ a',A=some a'->∀ j u,xs[j]?=some u->w.cell? (a'.add j)=some u:=fun a' ha j u hj=>by
    obtain ⟨_,A2,c2,hv2,_,h2⟩:=zu;rw [hv] at hv2;injection hv2 with e1 e2 e3;subst e1;have hp:0<l.length:=by
     rcases yK l.length with h | h
     ·rw [h] at le; have:=(y9.1 hj).1; omega
     ·exact h
    obtain ⟨b',off,hA,_,_,bd⟩:=h2 hp;rw [ha] at hA;injection hA with hA;subst hA;rw [Addr.add_lit];exact bd j u hj
   have ld:news.length=m.length * i.size:=ae.1;have gp:∀ u∈news,u.oneCell'=true:=P2 ud;have oq:∃ A0,AC b (x.an s)=A0/\(A0=.ex\/∃ k,A0=.own k e)/\xe=(⟨.sl (b&&m.isEmpty) (l++m),.own 0 e⟩,.app A0 0):=by
    cases sj:AC b (x.an s) with
    | no=>rw [sj] at hr; cases hr
    | ex=>rw [sj] at hr; injection hr with hr; exact ⟨_,rfl,.inl rfl,hr.symm⟩
    | own k e' =>
     rw [sj] at hr;simp only at hr;split at hr
     ·rename_i hee; subst hee; injection hr with hr; exact ⟨_,rfl,.inr ⟨k,rfl⟩,hr.symm⟩
     ·cases hr
   obtain ⟨A0,sj,hAk,rfl⟩:=oq;simp only [UA.eff,ca] at he;injection he with he;subst he;rw [twice_eq,ca];have cv:qM Θ A0 (a.eval X):=by
    rw [<- sj];cases b with
    | false=>exact hX.2
    | true =>
     obtain ⟨h1,h2,h3⟩:=hn rfl;exact ⟨none,0,by rw [hv,h1,h2,h3]⟩
   -- what is read of the old elements and the new ones behind
   have ec:MC (SC aa ι Θ) w (l++m).flatten (xs++news):=by rw [List.flatten_append]; exact PM be ud
   have huni:∀ c∈l++m,∀ c'∈l++m,c.length=c'.length:=fun c hc c' pf=>(dc c hc).trans (dc c' pf).symm
   -- a new block
   have grow:c<l.length + m.length->∃ v w',(execOp a.eval o).run P w=.ok (.value v) w'/\KD P O nt B F0 aa w0 D ((s.mapAn (A0.twice d)).put (some d) ⟨.sl (b&&m.isEmpty) (l++m),.own d e⟩) (a.put (some d) v) w':=fun da=>by
    have ia:=qU (P:=P) (w:=w) ht hi tp o.type le (fun hA=>by
     cases b with
     | true=>have:=hn rfl; exact ⟨this.2.1,this.2.2⟩
     | false =>
      obtain ⟨h1,h2⟩:=hs rfl;refine ⟨?_,h1 hA⟩;rcases yK l.length with h0 | h0
      ·exact h0
      ·obtain ⟨_,_,ha,_⟩:=h2 h0; rw [hA] at ha; cases ha) te ae da ov jg jf
    rw [<- hv] at ia;have ne:=grownCap_ge w (l.length + m.length) c e;have xr:grownCap w (l.length + m.length) c e<=maxLen:=grownCap_le_maxLen w (l.length + m.length) c e (by unfold maxLen; omega);have ou:(xs.toArray++news.toArray++Builtin.zeroCells zv.cells (grownCap w (l.length + m.length) c e - (l.length + m.length))).size=grownCap w (l.length + m.length) c e * i.size:=by
     simp only [Array.size_append,List.size_toArray,size_zeroCells,zn,le,ld,<- Nat.add_mul];congr 1;omega
    have R1:=(R.less A0 d).fresh (d:=d) less_d ou fb ne xr (e:=e) (by simp [uC,hi]);refine ⟨_,_,aj _ _ ia,ι,_,R1.put hd ?_ (.inr ⟨_,if_pos rfl,rfl,rfl⟩)⟩;have hb:(b&&m.isEmpty)=false:=by
     cases b with
     | false=>rfl
     | true =>
      have:=(hn rfl);have:m≠[]:=fun h=>by subst h; simp at da; omega
      simpa using this
    show qB _ _ _ _ (.sl (b&&m.isEmpty) (l++m)) _;rw [hb,tE];simp only [bE,yl];refine ⟨_,_,rfl,ne,huni,(fun h=>by cases h),fun _=>⟨fun h=>(by cases h),fun _=>⟨w.heap.size,0,rfl,?_⟩⟩⟩;rw [AF];have dt:BA (SC aa ι Θ) (SC aa ι (fun j=>if j=d then some ⟨w.heap.size,l.length + m.length,grownCap w (l.length + m.length) c e,i.size,e⟩ else Θ.less A0 d j)) w (grewW w xs news zv e (l.length + m.length) c):=BA.grown (fun b hb=>Below.heap_alloc w.drew _ b hb) fun b' o' ua h=>h.imp id fun h=>h.imp id fun ⟨k,ow,h1,h2,h3⟩=>by
     by_cases ek:k=d
     ·simp only [if_pos ek] at h1; injection h1 with h1; subst h1; simp only at h2; omega
     ·simp only [if_neg ek] at h1; exact ⟨k,ow,(UC h1).1,h2,h3⟩
    refine XK (MC.held dt _ _ ec) fun j u hj=>⟨?_,fun h=>?_⟩
    ·rw [yG];rw [cell_of_row _ w.heap.size j _ e (0,0) (XQ (w:=w.drew) rfl)];have xh:=(y9.1 hj).1;rw [Array.getElem?_append_left (by simp only [Array.size_append,List.size_toArray]; simpa using xh)];simpa using hj
    ·rw [yG] at h;have xh:=(y9.1 hj).1;rw [yl,le,ld,<- Nat.add_mul] at xh;rcases h with h | (⟨t',n',h⟩ | ⟨t',n',H,h,ua⟩) | ⟨k,ow,h1,h2,h3⟩
     ·have:=R.out _ _ h; have:=R.lowB; omega
     ·have:=(R.mine _ _ _ h).2.1; omega
     ·have:=((R.obs _ _ _ h).1 _ ua).2.1; omega
     ·by_cases ek:k=d
      ·simp only [if_pos ek] at h1; injection h1 with h1; subst h1; simp only at h3; omega
      ·simp only [if_neg ek] at h1;obtain ⟨_,_,_,_,nb,h5,_⟩:=R.tok _ _ (UC h1).1;have:=OA h5;omega
   -- nothing new
   have same:m=[]->exV (a.eval X)->∃ v w',(execOp a.eval o).run P w=.ok (.value v) w'/\KD P O nt B F0 aa w0 D ((s.mapAn (A0.twice d)).put (some d) ⟨.sl (b&&m.isEmpty) (l++m),.own d e⟩) (a.put (some d) v) w':=fun xl sq=>by
    subst xl;have ia:=wU (P:=P) (w:=w) ht hi o.type (A:=A) ov ae;rw [<- hv] at ia;have R1:=R.less A0 d;refine ⟨_,_,aj _ _ ia,ι,_,R1.put hd ?_ (.inl sq)⟩;have hb:(b&&List.isEmpty ([]:List (List AV)))=b:=by simp
    show qB _ _ _ _ (.sl (b&&List.isEmpty []) (l++[])) _;rw [hb,List.append_nil];have hless:BA (SC aa ι Θ) (SC aa ι (Θ.less A0 d)) w w:=BA.less fun b o h=>h.imp id fun h=>h.imp id fun ⟨k,ow,h1,h2⟩=>⟨k,ow,(UC h1).1,h2⟩
    have hlessB:BA (PC ι Θ) (PC ι (Θ.less A0 d)) w w:=BA.less fun b o h=>h.imp id fun ⟨k,ow,h1,h2⟩=>⟨k,ow,(UC h1).1,h2⟩
    exact qB.held (Ix.Le.refl _) hless hlessB _ _ hX.1
   have exact:exV (a.eval X)->∃ v w',(execOp a.eval o).run P w=.ok (.value v) w'/\KD P O nt B F0 aa w0 D ((s.mapAn (A0.twice d)).put (some d) ⟨.sl (b&&m.isEmpty) (l++m),.own d e⟩) (a.put (some d) v) w':=fun sq=>by
    obtain ⟨A',n',hex'⟩:=sq;rw [hv] at hex';injection hex' with e1 e2 e3;rcases yK m.length with h0 | h0
    ·exact same (yM h0) ⟨A',n',by rw [hv,e1,e2,e3]⟩
    ·exact grow (by omega)
   rcases hAk with rfl | ⟨k,rfl⟩
   ·exact exact cv
   ·rcases cv with cv | ⟨ow,hk,hoe,cv⟩
    ·exact exact cv
    ·rw [hv] at cv;injection cv with e1 e2 e3;obtain ⟨hgB,hosz,honc,hocm,cur,me,uw⟩:=R.tok k ow hk;rw [hoe] at me;have dq:ow.sz=i.size:=by
      have:=uw.2;rw [hoe] at this;simp [uC,hi] at this;exact this.symm
     rcases Nat.lt_or_ge c (l.length + m.length) with da | ne
     ·exact grow da
     ·subst e1;have ia:=B2 (P:=P) (w:=w) ht hi o.type me (by rw [uw.1,dq]) tp ae gp (n:=l.length) (m:=m.length) (c:=ow.c) (by omega);have po:l.length * i.size + news.length<=cur.toList.length:=by
       have bd:cur.toList.length=ow.c * i.size:=by rw [yV,uw.1,dq]
       rw [ld,<- Nat.add_mul,bd];exact yX _ (by omega)
      obtain ⟨new,wb⟩:∃ new,new=(cur.toList.take (l.length * i.size)++news++cur.toList.drop (l.length * i.size + news.length)).toArray:=⟨_,rfl⟩;rw [<- wb] at ia;have tv:new.size=cur.size:=by
       rw [wb];simp only [List.size_toArray,yl,yC,List.length_drop];simp only [yV] at po ⊢;omega
      have gu:ow.n * ow.sz=l.length * i.size:=by rw [<- e2,dq]
      have rx:(cur.toList.take (l.length * i.size)).length=l.length * i.size:=by rw [yC]; omega
      have eu:∀ j,j<l.length * i.size->new[j]?=cur[j]?:=fun j hj=>by
       rw [wb,List.getElem?_toArray,yU,yF (by omega),yO,if_pos hj];simp
      have hxs':∀ j u,(xs++news)[j]?=some u->new[j]?=some u:=fun j u hj=>by
       rcases Nat.lt_or_ge j (l.length * i.size) with xh | xh
       ·rw [eu j xh];rw [yF (by omega)] at hj;have:=te _ rfl j u hj;rw [Addr.add_lit,yG,cell_of_row w ow.g j cur e (0,0) me] at this;exact this
       ·rw [yR (by omega),le] at hj;have hjn:=(y9.1 hj).1;rw [wb,List.getElem?_toArray,yU,yR (by omega),rx,yF hjn];exact hj
      have R1:=R.spare (new:=new) hk (by rw [hoe]; exact me) tv (fun j hj=>eu j (by omega));have zr:(w.setRow ow.g new).heap[ow.g]?=some (.cells new e (0,0)):=setRow_heap w ow.g cur new e (0,0) me;have sd:∀ b o,PC ι (fun j=>if j=d then some ⟨ow.g,l.length + m.length,ow.c,i.size,e⟩ else Θ.less (.own k e) d j) b o->PC ι Θ b o:=fun b o h=>h.imp id fun ⟨k',ow',h1,h2,h3⟩=>by
       by_cases ek:k'=d
       ·simp only [if_pos ek] at h1;injection h1 with h1;subst h1;refine ⟨k,ow,hk,h2,?_⟩;simp only [Nat.add_mul] at h3;omega
       ·simp only [if_neg ek] at h1; exact ⟨k',ow',(UC h1).1,h2,h3⟩
      have R2:=R1.fam (fun j=>if j=d then some ⟨ow.g,l.length + m.length,ow.c,i.size,e⟩ else Θ.less (.own k e) d j) ((An.own k e).twice d) sd
       (less_an fun j o' h=>by have:=(UC h).2.1; simp only [if_neg this]; exact h)
       (fun k' o' h=>by
        by_cases ek:k'=d
        ·simp only [if_pos ek] at h;injection h with h;subst h;exact ⟨hgB,fb,by simp only; omega,hocm,new,zr,by rw [tv,uw.1,dq],by simp [uC,hi]⟩
        ·simp only [if_neg ek] at h;exact R1.tok k' o' (UC h).1)
       (fun k' k'' o' o'' h h' hg=>by
        by_cases e1:k'=d <;> by_cases e2:k''=d
        ·rw [e1,e2]
        ·simp only [if_pos e1] at h; simp only [if_neg e2] at h';injection h with h; subst h;exact absurd (R.tinj _ _ _ _ hk (UC h').1 hg).symm ((UC h').2.2 k e rfl)
        ·simp only [if_neg e1] at h; simp only [if_pos e2] at h';injection h' with h'; subst h';exact absurd (R.tinj _ _ _ _ (UC h).1 hk hg) ((UC h).2.2 k e rfl)
        ·simp only [if_neg e1] at h; simp only [if_neg e2] at h';exact R.tinj _ _ _ _ (UC h).1 (UC h').1 hg)
       (fun k' o' t' n' h=>by
        by_cases ek:k'=d
        ·simp only [if_pos ek] at h;injection h with h;subst h;exact R.apart k ow t' n' hk
        ·simp only [if_neg ek] at h;exact R.apart k' o' t' n' (UC h).1)
       (fun k' o' t' n' H h hH=>by
        by_cases ek:k'=d
        ·simp only [if_pos ek] at h;injection h with h;subst h;show ¬ H ow.g;exact R.apob hk hH
        ·simp only [if_neg ek] at h;exact R.apob (UC h).1 hH)
      have tx:a.eval X=.slice (some ⟨ow.g,0,none⟩) l.length ow.c:=by rw [hv,e3]
      rw [<- tx] at ia;refine ⟨_,_,aj _ _ ia,ι,_,R2.put hd ?_ (.inr ⟨_,if_pos rfl,rfl,rfl⟩)⟩;show qB _ _ _ _ (.sl (b&&m.isEmpty) (l++m)) _;have hb:b=false:=by
       cases b with
       | false=>rfl
       | true=>have:=(hn rfl).1; cases this
      rw [hb,Bool.false_and,tE];simp only [bE,yl];refine ⟨_,_,rfl,by omega,huni,(fun h=>by cases h),fun _=>⟨fun h=>(by cases h),fun _=>⟨ow.g,0,rfl,?_⟩⟩⟩;rw [AF];have dt:BA (SC aa ι Θ) (SC aa ι (fun j=>if j=d then some ⟨ow.g,l.length + m.length,ow.c,i.size,e⟩ else Θ.less (.own k e) d j)) w (w.setRow ow.g new):=⟨fun b' o' u hc hna=>by
       refine ⟨?_,fun h=>hna (h.imp id (sd b' o'))⟩;by_cases ua:b'=ow.g
       ·subst ua;rw [cell_of_row _ ow.g o' new e (0,0) zr];have:o'<l.length * i.size:=by
         rcases Nat.lt_or_ge o' (l.length * i.size) with h | h
         ·exact h
         ·exact absurd (.inr (.inr ⟨k,ow,hk,rfl,by omega⟩)) hna
        rw [eu o' this,<- cell_of_row w ow.g o' cur e (0,0) me];exact hc
       ·exact (World.cell?_of_block (w:=w) (a:=⟨b',o',none⟩) (setRow_other w ow.g b' new ua)).trans hc⟩
      refine XK (MC.held dt _ _ ec) fun j u hj=>⟨?_,fun h=>?_⟩
      ·rw [yG,cell_of_row _ ow.g j new e (0,0) zr];exact hxs' j u hj
      ·rw [yG] at h;have xh:=(y9.1 hj).1;rw [yl,le,ld,<- Nat.add_mul] at xh;rcases h with h | (⟨t',n',h⟩ | ⟨t',n',H,h,ua⟩) | ⟨k',ow',h1,h2,h3⟩
       ·have:=R.out _ _ h; omega
       ·exact R.apart k ow t' n' hk h
       ·exact R.apob hk h ua
       ·by_cases ek:k'=d
        ·simp only [if_pos ek] at h1; injection h1 with h1; subst h1; simp only at h3; omega
        ·simp only [if_neg ek] at h1;exact absurd (R.tinj _ _ _ _ (UC h1).1 hk h2) ((UC h1).2.2 k e rfl)
  ·cases hr
 ·cases hr
def Ix.del (ι:Ix) (t n:Nat):Ix:=⟨fun t' n'=>if t'=t/\n'=n then .none else ι t' n',ι.ob,ι.z⟩
theorem Ix.del_some {ι:Ix} {t n t' n' b:Nat} (h:(ι.del t n) t' n'=some b):ι t' n'=some b/\¬ (t'=t/\n'=n):=by
 have h':(if t'=t/\n'=n then Option.none else ι t' n')=Option.some b:=h;split at h'
 ·cases h'
 ·rename_i hn; exact ⟨h',hn⟩
theorem Ix.del_lk (ι:Ix) (t n:Nat):Ix.Lk t n ι (ι.del t n):=⟨fun t' n' b hn h=>by
 show (if t'=t/\n'=n then Option.none else ι t' n')=Option.some b;rw [if_neg hn]; exact h,fun _ _ _ _=>rfl⟩
theorem uE.kill {t n:Nat} {ι':Ix} {av gb:Av} {r:List qA} {cur:Array Value} (h:uE ι Θ av w r cur) (hι:Ix.Lk t n ι ι') (hh:BA av gb w w):uE ι' Θ gb w (r.map (qA.kill t n)) cur:=by
 refine ⟨by simpa using h.1,fun j x hx=>?_⟩;rw [yc] at hx;cases hj:r[j]? with
 | none=>rw [hj] at hx; cases hx
 | some y =>
  rw [hj] at hx;injection hx with hx;subst hx;obtain ⟨u,hu,h1,hr,ha⟩:=h.2 j y hj;refine ⟨u,hu,h1,?_,ha⟩;have hk:=NA.kill hι hh y.v u hr;show NA ι' gb w (y.v.kill t n) u;cases hy:y.v with
  | agg cs=>rw [hy] at hr; obtain ⟨us,rfl,_⟩:=hr; simp [Value.oneCell'] at h1
  | tup cs=>rw [hy] at hr; obtain ⟨us,rfl,_⟩:=hr; simp [Value.oneCell'] at h1
  | _=>rw [hy] at hk; exact hk
theorem iC.kill (R:iC P O nt B F0 aa w0 D s a w ι Θ) {t n:Nat} (gu:t≠0) {r:List qA} (hm:s.mem t n=some r):iC P O nt B F0 aa w0 D (s.kill t n) a w (ι.del t n) Θ:=by
 have ad:=(R.rows t n r hm).1;have sk:=Ix.del_lk ι t n;have ej:∀ b o,PC (ι.del t n) Θ b o->PC ι Θ b o:=fun b o h=>h.imp (fun h=>h.imp (fun ⟨t',n',h⟩=>⟨t',n',(Ix.del_some h).1⟩) id) id
 have hB:BA (PC ι Θ) (PC (ι.del t n) Θ) w w:=BA.less ej;have hA:BA (SC aa ι Θ) (SC aa (ι.del t n) Θ) w w:=BA.less fun b o h=>h.imp id (ej b o)
 refine ⟨R.defers,R.size,fun j=>qB.kill sk hA hB _ _ (R.env j),R.ann,fun t' n' r' hr=>?_,fun t' n' b h=>R.mine t' n' b (Ix.del_some h).1,fun t1 n1 t2 n2 b h h'=>R.inj t1 n1 t2 n2 b (Ix.del_some h).1 (Ix.del_some h').1,R.tok,R.tinj,fun k o t' n' h h'=>R.apart k o t' n' h (Ix.del_some h').1,R.out,fun p h=>?_,R.kept,R.base,fun t' n' S h=>?_,fun t' n' H h=>?_,fun j=>qB.kill sk hA hB _ _ (R.gen j),R.gann⟩
 ·simp only [aA.kill] at hr;split at hr
  ·cases hr
  ·rename_i hn;cases md:s.mem t' n' with
   | none=>rw [md] at hr; cases hr
   | some r0 =>
    rw [md] at hr;injection hr with hr;subst hr;obtain ⟨h0,b,cur,ty,h1,h2,h3,h4⟩:=R.rows t' n' r0 md;exact ⟨h0,b,cur,ty,sk.f _ _ _ hn h1,h2,h3.kill sk hA,h4⟩
 ·obtain ⟨h1,h2⟩:=R.pin p h;exact ⟨sk.f _ _ _ (fun e=>gu e.1.symm) h1,h2.imp (fun g=>⟨g.1,(sk.z _ _ _ h1).trans g.2⟩) id⟩
 ·obtain ⟨p,H,h1,h2,h3,h4⟩:=R.objs t' n' S h;have zw:∀ t1 n1 b1 H1,ι t1 n1=some b1->ι.ob t1 n1=some H1->(ι.del t n) t1 n1=some b1:=fun t1 n1 b1 H1 g1 g2=>sk.f _ _ _ (fun e=>by rw [<- e.1,<- e.2,g2] at ad; cases ad) g1
  exact ⟨p,H,zw _ _ _ _ h1 h2,h2,h3,h4.keep (fun t1 n1 b1 H1 g1 g2=>⟨zw _ _ _ _ g1 g2,H1,g2⟩) fun x hx=>hx⟩
 ·obtain ⟨h1,h2⟩:=R.obs t' n' H h;refine ⟨fun b hb=>?_,h2⟩;obtain ⟨g1,g2,g3,g4,g5⟩:=h1 b hb;exact ⟨g1,g2,fun t2 n2 h=>g3 t2 n2 (Ix.del_some h).1,g4,g5⟩
theorem iC.ren (R:iC P O nt B F0 aa w0 D s a w ι Θ) {t n:Nat} (gu:t≠0) {r:List qA} (hm:s.mem t n=some r) (se:r.map (qA.kill t n)=r) {d:Nat} (hd:d<nt) (hD:¬ D d) {x:AV} {v:Value}
  (hx:∀ ι':Ix,ι' d s.next=ι t n->(∀ b,ι'.z b=ι.z b)->qB ι' (SC aa ι' Θ) (PC ι' Θ) w x v) :
  ∃ ι',iC P O nt B F0 aa w0 (fun j=>D j\/j=d) (((s.kill t n).setRow d s.next r).put (some d) ⟨x,.no⟩) (a.put (some d) v) w ι' Θ:=by
 obtain ⟨ad,b0,cur0,ty0,pw,xz,ku,bv,gc⟩:=R.rows t n r hm;have ee:ι d s.next=none:=by
  cases h:ι d s.next with
  | none=>rfl
  | some b =>
   rcases (R.mine _ _ _ h).2.2 with h1 | h1
   ·omega
   ·exact absurd h1.2 hD
 have fe:ι.ob d s.next=none:=by
  cases h:ι.ob d s.next with
  | none=>rfl
  | some b =>
   rcases (R.obs _ _ _ h).2 with h1 | h1
   ·omega
   ·exact absurd h1.2 hD
 have na:¬ (t=d/\n=s.next):=fun e=>by rw [e.1,e.2,ee] at pw; cases pw
 obtain ⟨ι',hι'⟩:∃ ι':Ix,ι'=⟨fun t' n'=>if t'=d/\n'=s.next then some b0 else (ι.del t n) t' n',ι.ob,ι.z⟩:=⟨_,rfl⟩;have wb:ι' d s.next=some b0:=by subst hι'; show (if d=d/\s.next=s.next then some b0 else _)=_; rw [if_pos ⟨rfl,rfl⟩]
 have di:∀ t' n' b,ι' t' n'=some b->(t'=d/\n'=s.next/\b=b0)\/(ι t' n'=some b/\¬ (t'=t/\n'=n)/\¬ (t'=d/\n'=s.next)):=fun t' n' b h=>by
  subst hι';have h':(if t'=d/\n'=s.next then some b0 else (ι.del t n) t' n')=some b:=h;split at h'
  ·rename_i e; injection h' with h'; exact .inl ⟨e.1,e.2,h'.symm⟩
  ·rename_i e; exact .inr ⟨(Ix.del_some h').1,(Ix.del_some h').2,e⟩
 have pb:ι'.ob=ι.ob:=by subst hι'; rfl
 have sk:Ix.Lk t n ι ι':=⟨fun t' n' b hn h=>by
  subst hι';show (if t'=d/\n'=s.next then some b0 else (ι.del t n) t' n')=some b;rw [if_neg (fun e=>by rw [e.1,e.2,ee] at h; cases h)];exact (Ix.del_lk ι t n).f _ _ _ hn h,fun _ _ _ _=>by subst hι'; rfl⟩
 have dw:∀ b,ι'.z b=ι.z b:=fun b=>by subst hι'; rfl
 clear hι';have ej:∀ b o,PC ι' Θ b o->PC ι Θ b o:=fun b o h=>h.imp (fun h=>h.imp (fun ⟨t',n',h⟩=>by
  rcases di _ _ _ h with ⟨_,_,e⟩ | ⟨h,_⟩
  ·exact ⟨t,n,e ▸ pw⟩
  ·exact ⟨t',n',h⟩) (fun ⟨t',n',H,h,hb⟩=>⟨t',n',H,pb ▸ h,hb⟩)) id
 have hB:BA (PC ι Θ) (PC ι' Θ) w w:=BA.less ej;have hA:BA (SC aa ι Θ) (SC aa ι' Θ) w w:=BA.less fun b o h=>h.imp id (ej b o)
 refine ⟨ι',iC.put (s:=(s.kill t n).setRow d s.next r) ⟨R.defers,R.size,fun j=>qB.kill sk hA hB _ _ (R.env j),R.ann,fun t' n' r' hr=>?_,fun t' n' b h=>?_,fun t1 n1 t2 n2 b h h'=>?_,R.tok,R.tinj,fun k o t' n' h h'=>?_,R.out,fun p h=>?_,R.kept,R.base,fun t' n' S h=>?_,fun t' n' H h=>?_,fun j=>qB.kill sk hA hB _ _ (R.gen j),R.gann⟩ hd (hx _ (wb.trans pw.symm) dw) trivial⟩
 ·simp only [aA.setRow] at hr;split at hr
  ·rename_i e;injection hr with hr;subst hr;refine ⟨by rw [pb,e.1,e.2]; exact fe,b0,cur0,ty0,by rw [e.1,e.2]; exact wb,xz,?_,bv,gc.trans (dw _).symm⟩;have:=ku.kill sk hA;rw [se] at this;exact this
  ·simp only [aA.kill] at hr;split at hr
   ·cases hr
   ·rename_i hn;cases md:s.mem t' n' with
    | none=>rw [md] at hr; cases hr
    | some r0 =>
     rw [md] at hr;injection hr with hr;subst hr;obtain ⟨h0,b,cur,ty,h1,h2,h3,h4,h5⟩:=R.rows t' n' r0 md;exact ⟨pb ▸ h0,b,cur,ty,sk.f _ _ _ hn h1,h2,h3.kill sk hA,h4,h5.trans (dw _).symm⟩
 ·rcases di _ _ _ h with ⟨e1,e2,e3⟩ | ⟨h,_⟩
  ·subst e1; subst e3;obtain ⟨h1,h2,_⟩:=R.mine t n b pw;exact ⟨h1,h2,.inr ⟨e2,.inr rfl⟩⟩
  ·obtain ⟨h1,h2,h3⟩:=R.mine t' n' b h;exact ⟨h1,h2,h3.imp id fun ⟨e,d⟩=>⟨e,.inl d⟩⟩
 ·rcases di _ _ _ h with ⟨e1,e2,e3⟩ | ⟨h,hn,_⟩ <;> rcases di _ _ _ h' with ⟨f1,f2,f3⟩ | ⟨h',tk,_⟩
  ·exact ⟨e1.trans f1.symm,e2.trans f2.symm⟩
  ·subst e3; exact absurd (R.inj _ _ _ _ _ h' pw) tk
  ·subst f3; exact absurd (R.inj _ _ _ _ _ h pw) hn
  ·exact R.inj _ _ _ _ _ h h'
 ·rcases di _ _ _ h' with ⟨e1,e2,e3⟩ | ⟨h',_⟩
  ·exact R.apart k o t n h (e3 ▸ pw)
  ·exact R.apart k o t' n' h h'
 ·obtain ⟨h1,h2⟩:=R.pin p h;exact ⟨sk.f _ _ _ (fun e=>gu e.1.symm) h1,h2.imp (fun g=>⟨g.1,(sk.z _ _ _ h1).trans g.2⟩) fun g=>pb ▸ g⟩
 ·obtain ⟨p,H,h1,h2,h3,h4⟩:=R.objs t' n' S h;have zw:∀ t1 n1 b1 H1,ι t1 n1=some b1->ι.ob t1 n1=some H1->ι' t1 n1=some b1:=fun t1 n1 b1 H1 g1 g2=>sk.f _ _ _ (fun e=>by rw [<- e.1,<- e.2,g2] at ad; cases ad) g1
  exact ⟨p,H,zw _ _ _ _ h1 h2,pb ▸ h2,h3,h4.keep (fun t1 n1 b1 H1 g1 g2=>⟨zw _ _ _ _ g1 g2,H1,pb ▸ g2⟩) fun x hx=>hx⟩
 ·rw [pb] at h;obtain ⟨h1,h2⟩:=R.obs t' n' H h;refine ⟨fun b hb=>?_,h2.imp id fun ⟨e,d⟩=>⟨e,.inl d⟩⟩;obtain ⟨g1,g2,g3,g4,g5⟩:=h1 b hb;refine ⟨g1,g2,fun t2 n2 h'=>?_,g4,pb ▸ g5⟩;rcases di _ _ _ h' with ⟨e1,e2,e3⟩ | ⟨h',_⟩
  ·exfalso;have e:=g3 t n (e3 ▸ pw);rw [<- e.1,<- e.2] at h;rw [ad] at h;cases h
  ·exact g3 t2 n2 h'
theorem row_of {av:Av} {cs:List AV} {us:List Value} (h:MC av w cs us) {cur:Array Value} (hc:∀ (j:Nat) (u:Value),us[j]?=some u->cur[j]?=some u):uE ι Θ av w (cs.map (⟨·,.no⟩)) cur:=by
 have ja:=pD (LD (ι:=ι) h);constructor
 ·rw [yo];rcases yK cs.length with h0 | h0
  ·omega
  ·have:=hc (cs.length - 1) us[cs.length - 1] (y4 (by omega));have:=(Array.getElem?_eq_some_iff.1 this).1;omega
 ·intro j x hx;rw [yc] at hx;cases hj:cs[j]? with
  | none=>rw [hj] at hx; cases hx
  | some y =>
   rw [hj] at hx;injection hx with hx;subst hx;obtain ⟨u,hu,h1,hr⟩:=CJ (LD (ι:=ι) h) hj;exact ⟨u,hc j u hu,h1,hr,trivial⟩
theorem iC.drew (R:iC P O nt B F0 aa w0 D s a w ι Θ):iC P O nt B F0 aa w0 D s a w.drew ι Θ:=R.grow (w':=w.drew) (fun _ _=>rfl) (ym _) R.kept.drew
theorem J5 (s:aA) (t n:Nat) (r:List qA):(s.setRow t n r).kill t n=s.kill t n:=by
 simp only [aA.setRow,aA.kill];congr 1;funext t' n';by_cases h:t'=t/\n'=n <;> simp [h]
theorem O1 {av:Av} {cs:List AV} {us:List Value} (h:JA ι av w cs us) {cur:Array Value} (hc:∀ (j:Nat) (u:Value),us[j]?=some u->cur[j]?=some u):uE ι Θ av w (cs.map (⟨·,.no⟩)) cur:=by
 have ja:=pD h;constructor
 ·rw [yo];rcases yK cs.length with h0 | h0
  ·omega
  ·have:=hc (cs.length - 1) us[cs.length - 1] (y4 (by omega));have:=(Array.getElem?_eq_some_iff.1 this).1;omega
 ·intro j x hx;rw [yc] at hx;cases hj:cs[j]? with
  | none=>rw [hj] at hx; cases hx
  | some y =>
   rw [hj] at hx;injection hx with hx;subst hx;obtain ⟨u,hu,h1,hr⟩:=CJ h hj;exact ⟨u,hc j u hu,h1,hr,trivial⟩
theorem sY {av:Av}:∀ {xs:List AV} {us:List Value},JA ι av w xs us->∀ u∈us,u.oneCell'=true
 | [],us,h,u,hu=>by simp only [JA] at h; subst h; cases hu
 | x :: r,us,h,u,hu=>by
  simp only [JA] at h;obtain ⟨u',ta,rfl,_,h1,h⟩:=h;rcases yf.1 hu with rfl | hu
  ·exact h1
  ·exact sY h u hu
theorem LR {t n:Nat} {v:AV} (h:v.noName t n=true):v.kill0 t n=v/\v.kill t n=v:=by
  cases v <;> first
    | exact ⟨rfl,rfl⟩
    | (simp only [AV.noName,Bool.not_eq_true',Bool.and_eq_false_imp,decide_eq_true_eq,decide_eq_false_iff_not] at h
       have h':¬ (_=t/\_=n):=fun e=>h e.1 e.2
       exact ⟨by simp only [AV.kill0,if_neg h'],by simp only [AV.kill,AV.kill0,if_neg h']⟩)
    | cases h
theorem L4 {t n:Nat} {l:List AV} (h:l.all (AV.noName t n)=true):l.map (AV.kill0 t n)=l:=by
 have:l.map (AV.kill0 t n)=l.map id:=yq fun x hx=>(LR (y5.1 h x hx)).1
 rwa [List.map_id] at this
theorem K4 {t n:Nat} {l:List AV} (h:l.all (AV.noName t n)=true):(l.map (⟨·,.no⟩)).map (qA.kill t n)=l.map (⟨·,.no⟩):=by
 rw [y0];apply yq;intro x hx;show (⟨x.kill t n,.no⟩:qA)=⟨x,.no⟩;rw [(LR (y5.1 h x hx)).2]
theorem X0 (R:iC P O nt B F0 aa w0 D s a w ι Θ) {t e:TypeId} {i:TypeInfo} {z:List AV} (ht:P.underlying t=some (.slice e)) (hi:P.info? e=some i) (hz:aL P e=some z) (ac:z.length=i.size) (fb:0<i.size) {X Y:Operand} {x y:LB} (hx:opd X=some x) (hy:opd Y=some y)
  (ho:o.op=.call { callee:=.builtin .append,args:=#[X,Y],argTypes:=#[t,t] }) {d:Nat} (ca:o.dst=some d) (hd:d<nt) (hD:¬ D d) {cl:Cl} {call} {xe:qA × nD} (hr:(K.appn cl e i.size i.bytes x y).run call s=some xe) {g} {s':aA} (he:UA.eff ⟨o.dst,.appn cl e i.size i.bytes x y,g⟩ s xe=some s') :
  ∃ v w',(execOp a.eval o).run P w=.ok (.value v) w'/\KD P O nt B F0 aa w0 (fun t=>D t\/t=d) s' (a.put o.dst v) w':=by
 obtain ⟨zv,i',fc,tp,nj,hl⟩:=UH hz w;rw [hi] at fc;injection fc with fc;subst fc;have zn:zv.cells.size=i.size:=by
  have:=zH hl;simp only [yV] at this;omega
 have hX:=R.opd hx;have hY:=(R.opd hy).1;have aj:∀ v w',(Builtin.append_ #[t,t] o.type #[a.eval X,a.eval Y]).run P w=.ok v w'->(execOp a.eval o).run P w=.ok (.value v) w':=fun v w' h=>by
  simp only [execOp,ho,resolve,invoke,builtin,Sem.run_bind,Sem.run_pure,Result.andThen_ok,List.map_toArray,yg,yn,h]
 -- a new block for l++m
 have grow:∀ {s1:aA} {ι1:Ix} {l m:List (List AV)} {xs news:List Value} {A:Option Addr} {ln c:Nat},iC P O nt B F0 aa w0 D s1 a w.drew ι1 Θ->a.eval X=.slice A ln c->xs.length=ln * i.size->(A=none->ln=0/\c=0)->(∀ a',A=some a'->∀ j u,xs[j]?=some u->w.cell? (a'.add j)=some u) →
   l.length=ln->Sl (fun _=>False) w i.size (a.eval Y) m.length news->c<ln + m.length->ln<=c->JA ι1 (SC aa ι1 Θ) w.drew (l++m).flatten (xs++news)->eB i.bytes (ln + m.length)=true →
   ∃ v w',(execOp a.eval o).run P w=.ok (.value v) w'/\KD P O nt B F0 aa w0 (fun t=>D t\/t=d) ((s1.setRow d s1.next ((l++m).flatten.map (⟨·,.no⟩))).put (some d) ⟨.ref d s1.next i.size 0 (ln + m.length) (ln + m.length),.no⟩) (a.put (some d) v) w':=by
  intro s1 ι1 l m xs news A ln c R1 hv be hA hxc uc ae da ov ec ka;obtain ⟨jf,jg⟩:=EA.1 ka;have ia:=qU (P:=P) (w:=w) ht hi tp o.type be hA hxc ae da ov jg jf;rw [<- hv] at ia;have ne:=grownCap_ge w (ln + m.length) c e;have tv:news.length=m.length * i.size:=ae.1;have la:uE ι1 Θ (SC aa ι1 Θ) w.drew ((l++m).flatten.map (⟨·,.no⟩)) (xs.toArray++news.toArray++Builtin.zeroCells zv.cells (grownCap w (ln + m.length) c e - (ln + m.length))):=O1 ec fun j u hj=>by
   have xh:=(y9.1 hj).1;rw [Array.getElem?_append_left (by simp only [Array.size_append,List.size_toArray]; simpa using xh)];simpa using hj
  obtain ⟨ι',h⟩:=R1.new hd hD e la (x:=.ref d s1.next i.size 0 (ln + m.length) (ln + m.length)) (v:=.slice (some ⟨w.heap.size,0,none⟩) (ln + m.length) (grownCap w (ln + m.length) c e)) (fun ι' h hz=>⟨_,h,ym _,_,ne,by
   rw [show ι'.z w.drew.heap.size=_ from hz,yG];simp only [Array.size_append,List.size_toArray,size_zeroCells,zn,be,tv,<- Nat.add_mul];exact yX _ (by omega),rfl⟩)
  exact ⟨_,_,aj _ _ ia,ι',Θ,h⟩
 have drewHeld:BA (SC aa ι Θ) (SC aa ι Θ) w w.drew:=BA.grown (fun _ _=>rfl) fun _ _ _ h=>h
 simp only [K.run] at hr;split at hr
 ·rename_i b l m kc zc;split at hr
  ·rename_i ba;obtain ⟨ka,sa,xl⟩:=ba;have dc:∀ c∈l++m,c.length=i.size:=fun c hc=>by simpa using y5.1 sa c hc
   have md:∀ c∈m,c.length=i.size:=fun c hc=>dc c (List.mem_append_right _ hc)
   have ot:∀ c∈l,c.length=i.size:=fun c hc=>dc c (List.mem_append_left _ hc)
   obtain ⟨news,ud,ae⟩:=raws_sl R hY zc fb md;rw [kc] at hX;have kz:=hX.1;rw [tE] at kz;obtain ⟨xs,be,zu⟩:=sM (cl:=cl) R hX.1 (m:=l) rfl fb ot;simp only [bE] at kz;obtain ⟨A,c,hv,ov,hu,hn,hs⟩:=kz;have le:xs.length=l.length * i.size:=zu.1;have te:∀ a',A=some a'->∀ j u,xs[j]?=some u->w.cell? (a'.add j)=some u:=fun a' ha j u hj=>by
    obtain ⟨_,A2,c2,hv2,_,h2⟩:=zu;rw [hv] at hv2;injection hv2 with e1 e2 e3;subst e1;have hp:0<l.length:=by
     rcases yK l.length with h | h
     ·rw [h] at le; have:=(y9.1 hj).1; omega
     ·exact h
    obtain ⟨b',off,hA,_,_,bd⟩:=h2 hp;rw [ha] at hA;injection hA with hA;subst hA;rw [Addr.add_lit];exact bd j u hj
   split at hr
   ·rename_i sj;have hXe:exV (a.eval X):=by
     cases b with
     | false=>have h2:=hX.2; rw [show x.an s=.ex from sj] at h2; exact h2
     | true =>
      obtain ⟨h1,h2,h3⟩:=hn rfl;exact ⟨none,0,by rw [hv,h1,h2,h3]⟩
    obtain ⟨A',n',sq⟩:=hXe;rw [hv] at sq;injection sq with e1 e2 e3;injection hr with hr;subst hr;simp only [UA.eff,ca] at he;injection he with he;subst he;rw [ca];exact grow R.drew hv le (fun hA=>by
     cases b with
     | true=>have:=hn rfl; exact ⟨this.2.1,this.2.2⟩
     | false =>
      obtain ⟨h1,h2⟩:=hs rfl;refine ⟨?_,h1 hA⟩;rcases yK l.length with h0 | h0
      ·exact h0
      ·obtain ⟨_,_,ha,_⟩:=h2 h0; rw [hA] at ha; cases ha) te rfl ae (by omega) ov (by rw [List.flatten_append]; exact kH (LD (MC.held drewHeld _ _ be)) (JA.held (Ix.Le.refl _) drewHeld _ _ ud)) ka
   ·cases hr
  ·cases hr
 ·rename_i t' n sz off ln cp m kc zc;split at hr
  ·rename_i l uc;split at hr
   ·rename_i ba;obtain ⟨rfl,rfl,ka,sa,gu,ry⟩:=ba;injection hr with hr;subst hr;have md:∀ c∈m,c.length=i.size:=fun c hc=>by simpa using y5.1 sa c hc
    obtain ⟨news,ud,ae⟩:=raws_sl R hY zc fb md;rw [kc] at hX;obtain ⟨b,hb,ab,cc,xg,hzb,hv⟩:=fH.1 hX.1;simp only [AV.raws] at uc;split at uc
    ·cases hm:s.mem t' n with
     | none=>rw [hm] at uc; cases uc
     | some r =>
      rw [hm,V] at uc;obtain ⟨ad,b',cur,ty,ua,oa,la,tj,js⟩:=R.rows t' n r hm;rw [hb] at ua;injection ua with ua;subst ua;obtain ⟨hln,ot,xs,be,te⟩:=zP la oa uc;simp only [yG] at te hzb;have et:∀ {q:List (List AV)},(∀ c∈q,c.length=i.size)->q.flatten.length=q.length * i.size:=fun {q} hq=>by
       induction q with
       | nil=>simp
       | cons c r ih=>rw [yz,yl,hq c (by simp),ih (fun c hc=>hq c (by simp [hc])),yE,yw]; omega
      have le:xs.length=ln * i.size:=by
       have:=pD be;rw [this,et ot,hln]
      have ld:news.length=m.length * i.size:=ae.1;have ec:JA ι (SC aa ι Θ) w (l++m).flatten (xs++news):=by rw [List.flatten_append]; exact kH be ud
      have kt:(l++m).flatten.map (AV.kill0 t' n)=(l++m).flatten:=L4 ry;simp only [UA.eff,ca,aA.killO] at he;injection he with he;subst he;rw [ca];rcases Nat.lt_or_ge cc (ln + m.length) with da | ne
      ·have sk:BA (SC aa ι Θ) (SC aa (ι.del t' n) Θ) w w.drew:=BA.grown (fun _ _=>rfl) fun b o _ h=>h.imp id fun h=>h.imp (fun h=>h.imp (fun ⟨t',n',h⟩=>⟨t',n',(Ix.del_some h).1⟩) id) id
       exact grow (R.drew.kill gu hm) hv le (fun h=>by cases h) (fun a' ha j u hj=>by
        injection ha with ha;subst ha;rw [Addr.add_lit,yG];exact te j u hj) hln ae da (Nat.le_trans ab xg) (by have:=JA.kill (Ix.del_lk ι t' n) sk _ _ ec; rwa [kt] at this) ka
      ·obtain ⟨new,wb⟩:∃ new,new=(cur.toList.take (ln * i.size)++news++cur.toList.drop (ln * i.size + news.length)).toArray:=⟨_,rfl⟩;have po:ln * i.size + news.length<=cur.size:=by
        rw [ld,<- Nat.add_mul,js];exact Nat.le_trans (yX _ ne) hzb
       have ia:(Builtin.append_ #[t,t] o.type #[a.eval X,a.eval Y]).run P w=.ok (.slice (some ⟨b,0,none⟩) (ln + m.length) cc) (w.setRow b new):=by
        rw [hv,wb];obtain ⟨ug,A,c',hsv,hc,sb⟩:=ae;rw [hsv];cases A with
        | none =>
         have xl:m.length=0:=by
          rcases yK m.length with h | h
          ·exact h
          ·obtain ⟨b,off,hA,_⟩:=sb h; cases hA
         have ry:news=[]:=yM (by rw [ld,xl,Nat.zero_mul]);subst ry;rw [xl] at ne ⊢;have lu:w.setRow b (cur.toList.take (ln * i.size)++[]++cur.toList.drop (ln * i.size + ([]:List Value).length)).toArray=w:=by
          simp only [List.append_nil,List.length_nil,Nat.add_zero,List.take_append_drop,yQ];exact setRow_self w b cur ty (0,0) oa
         rw [lu];simp only [Nat.add_zero] at ne;simp [Builtin.append_,run_underlying ht,sizeOf,typeInfo,hi,Builtin.lenOf,Builtin.firstCells,ne,storeCells]
        | some a' =>
         have hnews':∀ (j:Nat) (u:Value),news[j]?=some u->w.cell? (a'.add j)=some u:=fun j u hu=>by
          have xl:0<m.length:=by
           rcases yK m.length with h | h
           ·rw [h] at ld; have:=(y9.1 hu).1; omega
           ·exact h
          obtain ⟨b,off,hA,_,_,bd⟩:=sb xl;injection hA with hA;subst hA;rw [Addr.add_lit];exact bd j u hu
         have pt:=run_loadCells_list (P:=P) w a' news hnews';rw [ld] at pt;have db:=run_storeCells_at P b (ln * i.size) ty news 0 cur w oa (by simpa using po) (sY ud);simp only [Nat.add_zero] at db;simp [Builtin.append_,run_underlying ht,sizeOf,typeInfo,hi,Builtin.lenOf,Builtin.firstCells,ne,pt,Addr.add_lit,db]
       have hns:new.size=cur.size:=by
        rw [wb];simp only [List.size_toArray,yl,yC,List.length_drop,yV];omega
       have dm:uE ι Θ (SC aa ι Θ) w ((l++m).flatten.map (⟨·,.no⟩)) new:=O1 ec fun j u hj=>by
        have rx:(cur.toList.take (ln * i.size)).length=ln * i.size:=by rw [yC,yV]; omega
        rw [wb,List.getElem?_toArray,yU];rcases Nat.lt_or_ge j (ln * i.size) with h | h
        ·rw [yF (by omega)] at hj;have:=te j u hj;rw [cell_of_row w b j cur ty (0,0) oa] at this;rw [yF (by omega),yO,if_pos h];simpa using this
        ·rw [yR (by omega),le] at hj;have hjn:=(y9.1 hj).1;rw [yR (by omega),rx,yF hjn];exact hj
       have R1:=R.set hb ad oa dm tj (hns.trans js);have R2:=R1.ren (t:=t') (n:=n) gu (d:=d) (r:=(l++m).flatten.map (⟨·,.no⟩)) (by simp [aA.setRow]) (K4 ry) hd hD (x:=.ref d s.next i.size 0 (ln + m.length) (ln + m.length)) (v:=.slice (some ⟨b,0,none⟩) (ln + m.length) cc) (fun ι' h1 h2=>⟨b,h1.trans hb,ym _,cc,ne,by rw [h2,yG]; exact hzb,rfl⟩);rw [J5] at R2;obtain ⟨ι',R2⟩:=R2;exact ⟨_,_,aj _ _ ia,ι',Θ,R2⟩
    ·cases uc
   ·cases hr
  ·cases hr
 ·cases hr
theorem i1 {v:AV} {cl:Cl} {l:List (List AV)} (h:v.elems s cl=some l):v.raws s cl=some l:=by
 cases v with
 | ref t n sz off len cap =>
  simp only [AV.elems,AV.raws] at h ⊢;split at h
  ·rename_i hc;rw [if_pos hc];cases hm:s.mem t n with
   | none=>rw [hm] at h; cases h
   | some r =>
    rw [hm,V,aE] at h;split at h
    ·rename_i hr;rw [V,jH,if_pos hr.1];exact h
    ·cases h
  ·cases h
 | _=>exact h
theorem EZ {av:Av} (t n:Nat):∀ {xs:List AV} {us:List Value},MC av w xs us->xs.all (AV.noName t n)=true
 | [],_,_=>rfl
 | x :: r,_,h=>by
  simp only [MC] at h;obtain ⟨u,ta,rfl,h0,h1,h⟩:=h;rw [List.all_cons,EZ t n h,Bool.and_true];cases x <;> first | rfl | (simp [bE] at h0; done) | (simp only [bE] at h0; obtain ⟨us,rfl,_⟩:=h0; simp [Value.oneCell'] at h1; done)
theorem op_appf (R:iC P O nt B F0 aa w0 D s a w ι Θ) {t e:TypeId} {i:TypeInfo} {z:List AV} (ht:P.underlying t=some (.slice e)) (hi:P.info? e=some i) (hz:aL P e=some z) (ac:z.length=i.size) (fb:0<i.size) {X Y:Operand} {x y:LB} (hx:opd X=some x) (hy:opd Y=some y)
  (ho:o.op=.call { callee:=.builtin .append,args:=#[X,Y],argTypes:=#[t,t] }) {d:Nat} (ca:o.dst=some d) (hd:d<nt) (hD:¬ D d) {cl:Cl} {call} {xe:qA × nD} (hr:(K.appf cl e i.size i.bytes x y).run call s=some xe) {g} {s':aA} (he:UA.eff ⟨o.dst,.appf cl e i.size i.bytes x y,g⟩ s xe=some s') :
  ∃ v w',(execOp a.eval o).run P w=.ok (.value v) w'/\KD P O nt B F0 aa w0 (fun t=>D t\/t=d) s' (a.put o.dst v) w':=by
 have hX:=R.opd hx;have hY:=(R.opd hy).1;simp only [K.run] at hr;split at hr
 ·rename_i b l m kc zc;split at hr
  ·rename_i ba;split at hr
   ·rename_i sj;split at hr
    ·rename_i dx;cases hr;have xl:m=[]:=by simpa using dx
     subst xl;have dc:∀ c∈l,c.length=i.size:=fun c hc=>by simpa using y5.1 ba.2 c (List.mem_append_left _ hc)
     obtain ⟨news,ud,ae⟩:=sM R hY zc fb (fun _ h=>by cases h);rw [kc] at hX;obtain ⟨hX,cv⟩:=hX;obtain ⟨A,c,hv,ov,_,hn,_⟩:=tE.1 hX;cases he;have ia:=wU (P:=P) (w:=w) ht hi o.type (A:=A) ov ae;rw [<- hv] at ia;refine ⟨_,_,by simp only [execOp,ho,resolve,invoke,builtin,Sem.run_bind,Sem.run_pure,Result.andThen_ok,List.map_toArray,yg,yn,ia],ι,Θ,(R.putN (d:=o.dst) (x:=⟨.sl b l,.ex⟩) (fun t h=>by rw [ca] at h; cases h; exact hd) hX ?_).more fun _ h=>.inl h⟩;cases b with
     | false=>rw [show x.an s=.ex from sj] at cv; exact cv
     | true=>obtain ⟨h1,h2,h3⟩:=hn rfl; exact ⟨none,0,by rw [hv,h1,h2,h3]⟩
    ·rename_i dx;exact X0 R ht hi hz ac fb hx hy ho ca hd hD (cl:=cl) (call:=call) (xe:=xe) (by simp only [K.run,kc,i1 zc]; rw [if_pos ⟨ba.1,ba.2,by cases m <;> simp at dx ⊢⟩,sj]; exact hr) (g:=g) he
   ·cases hr
  ·cases hr
 ·cases hr
theorem op_appm (R:iC P O nt B F0 aa w0 D s a w ι Θ) {t e:TypeId} {i:TypeInfo} {z:List AV} (ht:P.underlying t=some (.slice e)) (hi:P.info? e=some i) (hz:aL P e=some z) (ac:z.length=i.size) (fb:0<i.size) {X Y:Operand} {x y:LB} (hx:opd X=some x) (hy:opd Y=some y)
  (ho:o.op=.call { callee:=.builtin .append,args:=#[X,Y],argTypes:=#[t,t] }) {d:Nat} (ca:o.dst=some d) (hd:d<nt) (hD:¬ D d) {cl:Cl} {call} {xe:qA × nD} (hr:(K.appm cl e i.size i.bytes x y).run call s=some xe) {g} {s':aA} (he:UA.eff ⟨o.dst,.appm cl e i.size i.bytes x y,g⟩ s xe=some s') :
  ∃ v w',(execOp a.eval o).run P w=.ok (.value v) w'/\KD P O nt B F0 aa w0 (fun t=>D t\/t=d) s' (a.put o.dst v) w':=by
 have hX:=R.opd hx;have hY:=(R.opd hy).1;simp only [K.run] at hr;split at hr
 ·rename_i b l m kc zc;exact op_appf R ht hi hz ac fb hx hy ho ca hd hD (cl:=cl) (call:=call) (xe:=xe) (by simp only [K.run,kc,zc]; exact hr) (g:=g) he
 ·rename_i t' n sz off ln cp m kc zc;split at hr
  ·rename_i l uc;split at hr
   ·rename_i ba;obtain ⟨h1,h2,ka,sa,gu⟩:=ba;obtain ⟨news,ud,ae⟩:=sM R hY zc fb fun c hc=>by simpa using y5.1 sa c hc
    rw [kc] at hX;have ad:(l++m).flatten.all (AV.noName t' n)=true:=by
     rw [List.flatten_append,List.all_append,EZ t' n ud,Bool.and_true];simp only [AV.elems] at uc;split at uc
     ·cases hm:s.mem t' n with
      | none=>rw [hm] at uc; cases uc
      | some r =>
       rw [hm,V] at uc;obtain ⟨_,b',cur,ty,_,oa,la,_⟩:=R.rows t' n r hm;obtain ⟨_,_,xs,be,_⟩:=iL la oa uc;exact EZ t' n be
     ·cases uc
    exact X0 R ht hi hz ac fb hx hy ho ca hd hD (cl:=cl) (call:=call) (xe:=xe) (by simp only [K.run,kc,i1 zc,i1 uc]; rw [if_pos ⟨h1,h2,ka,sa,gu,ad⟩]; exact hr) (g:=g) he
   ·cases hr
  ·cases hr
 ·cases hr
theorem op_bslr (R:iC P O nt B F0 aa w0 D s a w ι Θ) {t e:TypeId} {n z:Nat} {zero:List AV} (ht:P.underlying t=some (.slice e)) (hz:aL P e=some zero) (hs:uC P e=some z) (ac:zero.length=z) (fb:0<z) (dd:n * z<=16777216) {ps:Array (Nat × Operand)} {ys:List (Nat × LB)} (hy:opds ps.toList=some ys) (ho:o.op=.buildSlice t n ps)
  {d:Nat} (ca:o.dst=some d) (hd:d<nt) (hD:¬ D d) {call} {xe:qA × nD} (hr:(K.bslr z zero n ys).run call s=some xe) {g} {s':aA} (he:UA.eff ⟨o.dst,.bslr z zero n ys,g⟩ s xe=some s') :
  ∃ v w',(execOp a.eval o).run P w=.ok (.value v) w'/\KD P O nt B F0 aa w0 (fun t=>D t\/t=d) s' (a.put o.dst v) w':=by
 obtain ⟨zv,i',fc,tp,nj,hl⟩:=UH hz w;have hisz:i'.size=z:=by simp [uC,fc] at hs; exact hs
 have zn:zv.cells.size=z:=by
  have:=zH hl;simp only [yV] at this;omega
 simp only [K.run] at hr;split at hr
 ·rename_i ba;obtain ⟨mg,sa,_,_⟩:=ba;injection hr with hr; subst hr;simp only [UA.eff,ca] at he;injection he with he;subst he;have dc:∀ p∈ys,(p.2.get s).whole=true/\(p.2.get s).cells.length=zero.length:=fun p hp=>by
   have:=y5.1 sa p hp;simpa using this
  have hn:ys.length=n:=by
   have:=congrArg List.length mg;simpa using this
  have bj:=HS (s:=s) z ys 0 [] (yD n zero).flatten (by rw [mg,List.range_eq_range',hn]) (by simp) (by simp [hn,ac]) (fun p hp=>by rw [(dc p hp).2,ac]);rw [yP,yP] at bj;have hp:=rR z ys;have kj:((Array.range (n * z)).map (((if n * z=0 then (#[]:Array Value) else zv.cells)[· % (if n * z=0 then (#[]:Array Value) else zv.cells).size]!))).toList=(yD n zv.cells.toList).flatten:=by
   rcases yK n with h0 | h0
   ·subst h0; simp
   ·have:¬ n * z=0:=by have:=Nat.mul_pos h0 fb; omega
    simp only [if_neg this];rw [<- zn];exact UT zv.cells n
  obtain ⟨ta,h1,h2⟩:=WR (pl:=fun i=>some (i * z,z)) (ι:=ι) (av:=SC aa ι Θ) (avb:=PC ι Θ) (w:=w) (s:=s) (a:=a) rfl (fun X y h=>(R.opd h).1) hy hp (fun p hp=>by
   obtain ⟨q,hq,rfl⟩:=yy.1 hp;exact (dc q hq).1) (by rw [y0]; exact bj) (us:=(Array.range (n * z)).map (((if n * z=0 then (#[]:Array Value) else zv.cells)[· % (if n * z=0 then (#[]:Array Value) else zv.cells).size]!))) (by
    rw [kj];exact IT _ _ (MJ hl _ _) n)
  have ia:(execOp a.eval o).run P w=.ok (.value (.slice (some ⟨w.heap.size,0,none⟩) n n)) (w.alloc (.cells ta e)):=by
   have h3:Instr.fill (fun i=>some (i * z,z)) ((Array.range (n * z)).map (((if n * z=0 then (#[]:Array Value) else zv.cells)[· % (if n * z=0 then (#[]:Array Value) else zv.cells).size]!))) (ps.map fun (i,x)=>(i,a.eval x)).toList=some ta:=by
    rw [Array.toList_map];exact h1
   have ab:¬ (n * z > 2 ^ 24):=by omega
   by_cases h0:n * z=0
   ·simp only [if_pos h0] at h3;simp only [execOp,ho,Instr.buildSlice,Sem.run_bind,run_underlying ht,Result.andThen_ok,bC hs,if_neg ab,if_pos h0,Sem.run_pure,h3,newRow,run_newObj_alloc]
   ·simp only [if_neg h0] at h3;simp only [execOp,ho,Instr.buildSlice,Sem.run_bind,run_underlying ht,Result.andThen_ok,bC hs,if_neg ab,if_neg h0,Sem.run_pure,nj,h3,newRow,run_newObj_alloc]
  refine ⟨_,_,ia,?_⟩;rw [ca];have ja:=pD h2;have oh:(ys.map fun p=>(p.2.get s).cells).flatten.length=n * z:=by
   rw [<- hn];clear bj h2 ja h1 mg sa hp hy dd kj hn
   induction ys with
   | nil=>simp
   | cons p r ih=>rw [yg,yz,yl,(dc p (by simp)).2,ih (fun q hq=>dc q (by simp [hq])),ac,yE,yw]; omega
  have od:ta.size=n * z:=by
   rw [oh,yV] at ja;exact ja
  have la:uE ι Θ (SC aa ι Θ) w (sA (ys.map fun p=>(p.2.get s).cells)) ta:=O1 h2 fun j u hj=>by simpa using hj
  obtain ⟨ι',h⟩:=R.new hd hD e la (x:=.ref d s.next z 0 n n) (v:=.slice (some ⟨w.heap.size,0,none⟩) n n) (fun ι' h hz=>⟨_,h,ym _,_,ym _,by
   rw [show ι'.z w.heap.size=_ from hz,yG,od];exact ym _,rfl⟩)
  exact ⟨ι',Θ,h⟩
 ·cases hr
end
end
section
open Go Go.RowKit
section
variable {P:Program} {O:AH} {nt B:Nat} {F0:OO} {aa:Av} {w0:World} {D:Nat->Prop} {s:aA} {a:Act} {w w':World} {ι:Ix} {Θ:dL} {o:Oper}
def mL (ι:Ix) (av avl:Av) (w:World):List AV->List Value->Prop
 | [],us=>us=[]
 | x :: r,us=>∃ u ta,us=u :: ta/\qB ι av avl w x u/\mL ι av avl w r ta
def Ix.one (p:Nat):Ix:=⟨fun t n=>if t=0/\n=0 then some p else .none,fun _ _=>.none,fun _=>0⟩
def TS (p:Nat) (av:Av) (w:World) (x:AV) (v:Value):Prop:=if x.isObj then v=.pointer (some ⟨p,0,none⟩) else bE av w x v
def rM (p:Nat) (av:Av) (w:World):List AV->List Value->Prop
 | [],us=>us=[]
 | x :: r,us=>∃ u ta,us=u :: ta/\TS p av w x u/\rM p av w r ta
def E6 (p:Nat) (av:Av) (w:World):AV->Value->Prop
 | .tup vs,v=>∃ us,v=.tuple us/\rM p av w vs us.toList
 | x,v=>TS p av w x v
def OwnV (base:Nat) (H:Nat->Prop) (w:World) (l:List (List AV)) (v:Value):Prop :=
 (l=[]/\∃ A c,v=.slice A 0 c/\(A=none->c=0))\/∃ g c cur ty,v=.slice (some ⟨g,0,none⟩) l.length c/\base<=g/\¬ H g/\w.heap[g]?=some (.cells cur ty (0,0))/\l.length<=c/\(∀ sz,lB sz l=true->0<l.length->c * sz<=cur.size)/\∀ (j:Nat) (x:AV),l.flatten[j]?=some x->cur[j]?=some x.scalV
def bZ (P:Program) (O:AH) (f:FuncId) (args:List AV) (S0:Option AV) (r:RV):Prop :=
 (∀ xs w,(callFunc f xs).run P w=.ok (.enter f xs) w) ∧
 match S0,r with
 | some S,(.sl false l,some S')=>∀ (av:Av) (w:World) (vs:List Value) (p:Nat) (H:Nat->Prop),(∀ b o,av b o->b<w.heap.size)->(∀ b o,H b->av b o)->O.at_ S H p w->mL (Ix.one p) av (fun b _=>H b) w args vs →
  Calls P f vs.toArray w fun e w'=>∃ v H',e=.returned v/\OwnV w.heap.size H' w' l v/\O.at_ S' H' p w'/\(∀ b,H' b->H b\/w.heap.size<=b)/\ID H w w'
 | _,_=>True
def cZ (P:Program) (O:AH) (f:FuncId) (args:List AV) (S0:Option AV) (r:RV):Prop :=
 (∀ xs w,(callFunc f xs).run P w=.ok (.enter f xs) w) ∧
 match S0,r.2 with
 | none,none=>∀ (av:Av) (w:World) (vs:List Value),(∀ b o,av b o->b<w.heap.size)->mL Ix.none av (fun _ _=>False) w args vs →
  Calls P f vs.toArray w fun e w'=>∃ v,e=.returned v/\bE av w' r.1 v/\Below w.heap.size w w'
 | some S,some S'=>∀ (av:Av) (w:World) (vs:List Value) (p:Nat) (H:Nat->Prop),(∀ b o,av b o->b<w.heap.size)->(∀ b o,H b->av b o)->O.at_ S H p w->mL (Ix.one p) av (fun b _=>H b) w args vs →
  Calls P f vs.toArray w fun e w'=>∃ v H',e=.returned v/\bE (fun b o=>av b o\/H' b) w' r.1 v/\O.at_ S' H' p w'/\(∀ b,H' b->H b\/w.heap.size<=b)/\ID H w w'
 | none,some S'=>∀ (av:Av) (w:World) (vs:List Value),(∀ b o,av b o->b<w.heap.size)->mL Ix.none av (fun _ _=>False) w args vs →
  Calls P f vs.toArray w fun e w'=>∃ v p H',e=.returned v/\E6 p (fun b o=>av b o\/H' b) w' r.1 v/\O.at_ S' H' p w'/\(∀ b,H' b->w.heap.size<=b)/\Below w.heap.size w w'
 | some _,none=>True
def Ix.row (p z:Nat):Ix:=⟨fun t n=>if t=0/\n=0 then some p else .none,fun _ _=>.none,fun _=>z⟩
def XU (P:Program) (f:FuncId) (args:List AV) (S0:Option AV) (r:RV):Prop :=
 (∀ xs w,(callFunc f xs).run P w=.ok (.enter f xs) w) ∧
 match S0,r with
 | some (.agg cs),(r1,some (.agg bw))=>∀ (av:Av) (w:World) (vs:List Value) (p:Nat) (cur:Array Value) (ty:TypeId),(∀ b o,av b o->b<w.heap.size)->(∀ o,av p o)->w.heap[p]?=some (.cells cur ty (0,0))->cs.length<=cur.size->MC av w cs (cur.toList.take cs.length)->mL (Ix.row p cur.size) av (fun b _=>b=p) w args vs →
  Calls P f vs.toArray w fun e w'=>∃ v nb lq,e=.returned v/\bE av w' r1 v/\w'.heap[p]?=some (.cells nb lq (0,0))/\nb.size=cur.size/\MC av w' bw (nb.toList.take bw.length)/\ID (fun b=>b=p) w w'
 | _,_=>True
def xD (P:Program) (O:AH) (f:FuncId) (args:List AV) (S0:Option AV) (r:RV):Prop:=match args with
 | .undef :: .undef :: rest=>XU P f rest S0 r
 | .undef :: rest=>bZ P O f rest S0 r
 | _=>cZ P O f args S0 r
theorem xD.of {P:Program} {O:AH} {f:FuncId} {args:List AV} {S0:Option AV} {r:RV} (hm:kK args=false):xD P O f args S0 r ↔ cZ P O f args S0 r:=by
 unfold xD;split
 ·cases hm
 ·cases hm
 ·simp_all
theorem xD.own {P:Program} {O:AH} {f:FuncId} {args:List AV} {S0:Option AV} {r:RV} (hm:kK args=false) (h:xD P O f (.undef :: args) S0 r):bZ P O f args S0 r:=by
 cases args with
 | nil=>exact h
 | cons x r=>cases x <;> first | exact h | (simp [kK] at hm; done)
theorem X3 {ι':Ix} {av avb avl:Av} {x:AV} {v:Value} (h:qB ι av avb w x v) (hx:x.free=true):qB ι' av avl w x v:=by
  cases x <;> first
    | exact h
    | (simp [AV.free,AV.free0] at hx; done)
    | (obtain ⟨us,hv,hc⟩:=h
       exact ⟨us,hv,LD (lH hc fun y hy=>y5.1 hx y hy)⟩)
theorem RS {av avb:Av}:∀ {cs:List AV} {us:List Value} {b off:Nat},MC av w cs us->(∀ (j:Nat) (u:Value),us[j]?=some u->w.cell? ⟨b,off + j,none⟩=some u/\¬ avb b (off + j))->xC av avb w cs b off
 | [],_,_,_,_,_=>by simp [xC]
 | x :: r,_,b,off,h,hj=>by
  simp only [MC] at h;obtain ⟨u,ta,rfl,h0,h1,h⟩:=h;simp only [xC];have h2:=hj 0 u rfl;refine ⟨⟨u,h2.1,h0,h1⟩,h2.2,RS h fun j v hv=>?_⟩;have:=hj (j + 1) v (by simpa using hv);rw [show off + 1 + j=off + (j + 1) from by omega];exact this
section
variable (R:iC P O nt B F0 aa w0 D s a w ι Θ) {avl:Av}
include R avl
theorem rT {cl:Cl} {y x:AV} (hB:∀ b o,avl b o->PC ι Θ b o) (hsep:∀ t n b o,ι t n=some b->ι.ob t n=none->(∃ sz off len cap,y=.ref t n sz off len cap)->¬ avl b o) {v:Value} {ι':Ix} (hY:qB ι (SC aa ι Θ) (PC ι Θ) w y v) (h:DR s cl y=some x) (pb:∀ t n,y=.ptr t n 0->ι' 0 0=ι t n):qB ι' (SC aa ι Θ) avl w x v:=by
 unfold DR at h;split at h
 ·rename_i t n sz off len cap;split at h
  ·cases hm:s.mem t n with
   | none=>rw [hm] at h; cases h
   | some r =>
    rw [hm,V] at h;cases hr:aE r sz off len with
    | none=>rw [hr] at h; cases h
    | some m =>
     rw [hr] at h;cases h;obtain ⟨b,hb,ab,cc,xg,_,hv⟩:=fH.1 hY;obtain ⟨ad,b',cur,ty,ua,oa,la,_⟩:=R.rows t n r hm;rw [hb] at ua;injection ua with ua
     subst ua;obtain ⟨h1,h2,us,hl,od⟩:=iL la oa hr;subst h1;exact ⟨_,cc,hv,Nat.le_trans ab xg,fun c hc c' pf=>(h2 c hc).trans (h2 c' pf).symm,fun _=>⟨b,off,rfl,BJ.2 (RS hl fun j u hj=>⟨od j u hj,hsep t n b _ hb ad ⟨_,_,_,_,rfl⟩⟩)⟩⟩
  ·cases h
 ·cases h;obtain ⟨a',c,hv,hc,hu,hs⟩:=hY;refine ⟨a',c,hv,hc,hu,fun h0=>?_⟩;obtain ⟨b,off,ha,hr⟩:=hs h0;exact ⟨b,off,ha,tM.held (BA.refl _ _) (BA.less hB) _ _ _ hr⟩
 ·cases h;obtain ⟨b,off,hv,hc⟩:=hY;exact ⟨b,off,hv,xC.held (BA.refl _ _) (BA.less hB) _ _ _ hc⟩
 ·rename_i t n off;split at h
  ·rename_i hc;cases h;obtain ⟨h0,_,_⟩:=hc;subst h0;obtain ⟨b,hb,hv⟩:=AG.1 hY;exact ⟨b,(pb t n rfl).trans hb,hv⟩
  ·cases h
 ·split at h
  ·rename_i hf;cases h;exact X3 hY hf
  ·cases h
theorem lend_rep (sf:∀ b o,avl b o->∃ t n H,ι.ob t n=some H/\H b) {cl:Cl} {y x:AV} {v:Value} {ι':Ix} (hY:qB ι (SC aa ι Θ) (PC ι Θ) w y v) (h:DR s cl y=some x) (pb:∀ t n,y=.ptr t n 0->ι' 0 0=ι t n):qB ι' (SC aa ι Θ) avl w x v :=
 rT R (fun b o h=>.inl (.inr (sf b o h))) (fun t n b o hb ad _ h=>by
  obtain ⟨t',n',H,ho,hH⟩:=sf _ _ h;obtain ⟨e1,e2⟩:=((R.obs _ _ _ ho).1 _ hH).2.2.1 _ _ hb;rw [e1,e2,ho] at ad;cases ad) hY h pb
theorem lendP_rep (sf:∀ b o,avl b o->∃ t n H,ι.ob t n=some H/\H b) {cl:Cl} {y x:AV} {v:Value} {ι':Ix} (hY:cU ι (SC aa ι Θ) (PC ι Θ) w y v) (h:eP s cl y=some x):cU ι' (SC aa ι Θ) avl w x v:=by
 have hB:∀ b o,avl b o->PC ι Θ b o:=fun b o h=>.inl (.inr (sf b o h))
 unfold eP at h;split at h
 ·rename_i t n off;split at h
  ·split at h
   ·rename_i r hm;split at h
    ·rename_i sa;cases h;obtain ⟨b,hb,hv⟩:=hY;obtain ⟨ad,b',cur,ty,ua,oa,la,_⟩:=R.rows t n r hm;rw [hb] at ua;injection ua with ua
     subst ua;have ec:=xF off la.rep;rw [<- List.map_drop] at ec;have se:∀ x∈(r.drop off).map (·.v),x.free0=true:=fun x hx=>by
      grind
     refine ⟨b,off,hv,RS (lH ec se) fun j u hu=>⟨?_,fun h=>?_⟩⟩
     ·rw [yT] at hu;have hj:off + j<r.length:=by
       grind
      rw [List.getElem?_take_of_lt hj] at hu;simp only [World.cell?,oa];simp_all
     ·obtain ⟨t',n',H,ho,hH⟩:=sf _ _ h;obtain ⟨e1,e2⟩:=((R.obs _ _ _ ho).1 _ hH).2.2.1 _ _ hb;simp_all
    ·cases h
   ·cases h
  ·cases h
 ·cases h;obtain ⟨b,off,hv,hc⟩:=hY;exact ⟨b,off,hv,xC.held (BA.refl _ _) (BA.less hB) _ _ _ hc⟩
 ·cases h;exact hY
 ·cases h
end
theorem JQ (R:iC P O nt B F0 aa w0 D s a w ι Θ) {avl:Av} (sf:∀ b o,avl b o->∃ t n H,ι.ob t n=some H/\H b) {cl:Cl} {ι':Ix}:∀ {ys xs:List AV} {us:List Value},XG ι (SC aa ι Θ) (PC ι Θ) w ys us->OD s cl ys=some xs->XG ι' (SC aa ι Θ) avl w xs us
 | [],xs,us,hY,h=>by
  injection h with h;subst h;exact hY
 | y :: r,xs,us,hY,h=>by
  obtain ⟨u,ta,rfl,h0,hY⟩:=hY;unfold OD at h;split at h
  ·rename_i v vs hv hr;injection h with h;subst h;exact ⟨u,ta,rfl,lendP_rep R sf h0 hv,JQ R sf hY hr⟩
  ·cases h
theorem lendF_rep (R:iC P O nt B F0 aa w0 D s a w ι Θ) {avl:Av} (sf:∀ b o,avl b o->∃ t n H,ι.ob t n=some H/\H b) {cl:Cl} {y x:AV} {v:Value} {ι':Ix} (hY:qB ι (SC aa ι Θ) (PC ι Θ) w y v) (h:qG s cl y=some x) (pb:∀ t n,y=.ptr t n 0->ι' 0 0=ι t n):qB ι' (SC aa ι Θ) avl w x v:=by
 unfold qG at h;split at h
 ·rename_i f cs;obtain ⟨ws,hw,h⟩:=yh.1 h;subst h;obtain ⟨us,hv,hc⟩:=hY;exact ⟨us,hv,JQ R sf hc hw⟩
 ·exact lend_rep R sf hY h pb
theorem aY {ι':Ix} {av avl:Av}:∀ {xs:List AV} {us:List Value},(∀ x∈xs,x.capOk=true)->XG ι' av avl w xs us->mL ι' av avl w xs us
 | [],_,_,h=>h
 | x :: r,_,hc,h=>by
  obtain ⟨u,ta,rfl,h0,h⟩:=h;refine ⟨u,ta,rfl,?_,aY (fun y hy=>hc y (yp _ hy)) h⟩;have:=hc x (yk);cases x <;> first | (simp [AV.capOk] at this; done) | exact h0
theorem XT {ι':Ix} {av avl:Av}:∀ {xs ys:List AV} {us vs:List Value},mL ι' av avl w xs us->mL ι' av avl w ys vs->mL ι' av avl w (xs++ys) (us++vs)
 | [],_,_,_,h,h'=>by cases h; exact h'
 | x :: r,_,_,_,h,h'=>by
  obtain ⟨u,ta,rfl,h0,h⟩:=h;exact ⟨u,ta++_,rfl,h0,XT h h'⟩
theorem wT {cl:Cl}:∀ {ys xs:List AV},OD s cl ys=some xs->∀ x∈xs,x.capOk=true
 | [],xs,h=>by injection h with h; subst h; intro x hx; cases hx
 | y :: r,xs,h=>by
  unfold OD at h;split at h
  ·rename_i v vs hv hr;injection h with h;subst h;intro x hx;rcases yf.1 hx with rfl | hx
   ·unfold eP at hv;split at hv
    ·split at hv
     ·split at hv
      ·split at hv
       ·injection hv with hv; subst hv; rfl
       ·cases hv
      ·cases hv
     ·cases hv
    ·injection hv with hv; subst hv; rfl
    ·injection hv with hv; subst hv; rfl
    ·cases hv
   ·exact wT hr x hx
  ·cases h
theorem eL (R:iC P O nt B F0 aa w0 D s a w ι Θ) {avl:Av} (sf:∀ b o,avl b o->∃ t n H,ι.ob t n=some H/\H b) {cl:Cl} {ι':Ix}:∀ {Xs:List Operand} {xs:List LB} {vs:List AV},HH Xs=some xs->EE s cl xs=some vs->(∀ x∈xs,∀ t n,x.get s=.ptr t n 0->ι' 0 0=ι t n)->mL ι' (SC aa ι Θ) avl w vs (Xs.map a.eval)
 | [],xs,vs,h,hl,_=>by
  injection h with h;subst h;injection hl with hl;subst hl;rfl
 | X :: Xs,xs,vs,h,hl,pb=>by
  unfold HH at h;split at h
  ·rename_i x l hx hr;injection h with h;subst h;unfold EE at hl;split at hl
   ·rename_i v aw hv lf;injection hl with hl;subst hl;exact ⟨_,_,rfl,lendF_rep R sf (R.opd hx).1 hv (pb x (yk)),eL R sf hr lf fun y hy=>pb y (yp _ hy)⟩
   ·cases hl
  ·cases h
theorem named_rep {p d n:Nat} {ι':Ix} {av avb:Av} {x:AV} {v:Value} (h:E6 p av w x v) (hp:ι' d n=some p) (hx:x.backN=true):qB ι' av avb w (x.named d n) v:=by
 have one:∀ {x:AV} {u:Value},TS p av w x u->NA ι' av w (if x.isObj then .ptr d n 0 else x) u:=fun {x u} h=>by
  unfold TS at h;split at h
  ·rename_i ho; rw [if_pos ho]; exact ⟨p,hp,h⟩
  ·rename_i ho; rw [if_neg ho]; exact CK h
 have oneU:∀ {x:AV} {u:Value},TS p av w x u->KO ι' av w (if x.isObj then .ptr d n 0 else x) u:=fun {x u} h=>by
  unfold TS at h;split at h
  ·rename_i ho; rw [if_pos ho]; exact ⟨p,hp,h⟩
  ·rename_i ho; rw [if_neg ho]; exact eH h
 have all:∀ {xs:List AV} {us:List Value},rM p av w xs us->ZG ι' av w (xs.map fun v=>if v.isObj then .ptr d n 0 else v) us:=by
  intro xs
  induction xs with
  | nil=>intro us h; simpa [rM,ZG] using h
  | cons x r ih =>
   intro us h;simp only [rM] at h;obtain ⟨u,ta,rfl,h0,h⟩:=h;exact ⟨u,ta,rfl,oneU h0,ih h⟩
 cases x with
 | tup vs =>
  obtain ⟨us,hv,hc⟩:=h;exact ⟨us,hv,all hc⟩
 | ptr t' n' off =>
  have h1:=one (x:=.ptr t' n' off) h;have h2:(AV.ptr t' n' off).isObj=true:=hx;simp only [h2,if_true] at h1;show qB ι' av avb w (if (AV.ptr t' n' off).isObj then .ptr d n 0 else .ptr t' n' off) v;rw [if_pos h2];exact h1
 | _=>simp [AV.backN,AV.isObj] at hx
theorem TS.held {p:Nat} {av gb:Av} {w w':World} (h:BA av gb w w') {x:AV} {v:Value} (hr:TS p av w x v):TS p gb w' x v:=by
 unfold TS at hr ⊢;split at hr
 ·rename_i ho; rw [if_pos ho]; exact hr
 ·rename_i ho; rw [if_neg ho]; exact bE.held h _ _ hr
theorem E6.held {p:Nat} {av gb:Av} {w w':World} (h:BA av gb w w') {x:AV} {v:Value} (hr:E6 p av w x v):E6 p gb w' x v:=by
 have all:∀ {xs:List AV} {us:List Value},rM p av w xs us->rM p gb w' xs us:=by
  intro xs
  induction xs with
  | nil=>intro us h; exact h
  | cons x r ih =>
   intro us h';simp only [rM] at h' ⊢;obtain ⟨u,ta,rfl,h0,h'⟩:=h';exact ⟨u,ta,rfl,TS.held h h0,ih h'⟩
 cases x <;> first | exact TS.held h hr | (obtain ⟨us,hv,hc⟩:=hr; exact ⟨us,hv,all hc⟩)
theorem iC.turnObj (R:iC P O nt B F0 aa w0 D s a w ι Θ) {t n p:Nat} {H H':Nat->Prop} {S':AV} (hp:ι t n=some p) (pb:ι.ob t n=some H) (sc:O.at_ S' H' p w') (bk:N1 ι S' p w') (hH:∀ b,H' b->H b\/w.heap.size<=b) (hk:ID H w w') :
  ∃ ι':Ix,iC P O nt B F0 aa w0 D (s.setObj t n S') a w' ι' Θ/\BA (fun b o=>SC aa ι Θ b o\/H' b) (SC aa ι' Θ) w' w':=by
 obtain ⟨zo,cu⟩:=R.obs t n H pb;have ei:∀ t' n' H1,(if t'=t/\n'=n then some H' else ι.ob t' n')=some H1->(t'=t/\n'=n/\H1=H')\/(¬ (t'=t/\n'=n)/\ι.ob t' n'=some H1):=fun t' n' H1 h=>by
  grind
 have ej:∀ b o,b<w.heap.size->PC ⟨ι.f,fun t' n'=>if t'=t/\n'=n then some H' else ι.ob t' n',ι.z⟩ Θ b o->PC ι Θ b o:=fun b o hb h=>h.imp (fun h=>h.imp id fun ⟨t',n',H1,h1,h2⟩=>by
  rcases ei _ _ _ h1 with ⟨e1,e2,e3⟩ | ⟨_,h1⟩
  ·subst e3;rcases hH b h2 with h3 | h3
   ·exact ⟨t,n,H,pb,h3⟩
   ·omega
  ·exact ⟨t',n',H1,h1,h2⟩) id
 have wg:∀ t1 n1 b1 H1,ι t1 n1=some b1->ι.ob t1 n1=some H1->(⟨ι.f,fun t' n'=>if t'=t/\n'=n then some H' else ι.ob t' n',ι.z⟩:Ix) t1 n1=some b1/\∃ H2,(⟨ι.f,fun t' n'=>if t'=t/\n'=n then some H' else ι.ob t' n',ι.z⟩:Ix).ob t1 n1=some H2:=fun t1 n1 b1 H1 g1 g2=>⟨g1,by
  by_cases e:t1=t/\n1=n
  ·exact ⟨H',by simp only [if_pos e]⟩
  ·exact ⟨H1,by simp only [if_neg e]; exact g2⟩⟩
 have sb:∀ b o u,w.cell? ⟨b,o,none⟩=some u->¬ H b->w'.cell? ⟨b,o,none⟩=some u:=fun b o u hc hn=>(World.cell?_of_block (w:=w) (a:=⟨b,o,none⟩) (hk.block b (WI hc) hn)).trans hc
 have hB:BA (PC ι Θ) (PC ⟨ι.f,fun t' n'=>if t'=t/\n'=n then some H' else ι.ob t' n',ι.z⟩ Θ) w w':=⟨fun b o u hc hn=>⟨sb b o u hc fun h=>hn (.inl (.inr ⟨t,n,H,pb,h⟩)),fun h=>hn (ej b o (WI hc) h)⟩⟩;have hA:BA (SC aa ι Θ) (SC aa ⟨ι.f,fun t' n'=>if t'=t/\n'=n then some H' else ι.ob t' n',ι.z⟩ Θ) w w':=⟨fun b o u hc hn=>⟨sb b o u hc fun h=>hn (.inr (.inl (.inr ⟨t,n,H,pb,h⟩))),fun h=>hn (h.imp id (ej b o (WI hc)))⟩⟩;have ur:=R.lowB;have ac:=hk.size;have henv:∀ t1,qB ⟨ι.f,fun t' n'=>if t'=t/\n'=n then some H' else ι.ob t' n',ι.z⟩ (SC aa ⟨ι.f,fun t' n'=>if t'=t/\n'=n then some H' else ι.ob t' n',ι.z⟩ Θ) (PC ⟨ι.f,fun t' n'=>if t'=t/\n'=n then some H' else ι.ob t' n',ι.z⟩ Θ) w' (s.env t1).v (a.tmps.getD t1 undef):=fun t1=>qB.held (ι:=ι) (ι':=⟨ι.f,fun t' n'=>if t'=t/\n'=n then some H' else ι.ob t' n',ι.z⟩) ⟨fun _ _ _ h=>h,fun _ _ _ _=>rfl⟩ hA hB _ _ (R.env t1)
 have hgen:∀ t1,qB ⟨ι.f,fun t' n'=>if t'=t/\n'=n then some H' else ι.ob t' n',ι.z⟩ (SC aa ⟨ι.f,fun t' n'=>if t'=t/\n'=n then some H' else ι.ob t' n',ι.z⟩ Θ) (PC ⟨ι.f,fun t' n'=>if t'=t/\n'=n then some H' else ι.ob t' n',ι.z⟩ Θ) w' (s.gh t1).v (F0.g t1):=fun t1=>qB.held (ι:=ι) (ι':=⟨ι.f,fun t' n'=>if t'=t/\n'=n then some H' else ι.ob t' n',ι.z⟩) ⟨fun _ _ _ h=>h,fun _ _ _ _=>rfl⟩ hA hB _ _ (R.gen t1)
 refine ⟨⟨ι.f,fun t' n'=>if t'=t/\n'=n then some H' else ι.ob t' n',ι.z⟩,⟨R.defers,R.size,henv,R.ann,fun t' n' r hr=>?_,fun t' n' b h=>?_,R.inj,fun k o h=>?_,R.tinj,R.apart,R.out,(fun p' h=>⟨(R.pin p' h).1,by
  rcases (R.pin p' h).2 with hr0 | ⟨H1,h1⟩
  ·exact .inl hr0
  refine .inr ?_;show ∃ H2,(if 0=t/\0=n then some H' else ι.ob 0 0)=some H2;split
  ·exact ⟨_,rfl⟩
  ·exact ⟨H1,h1⟩⟩),?_,R.base,fun t' n' S1 h=>?_,fun t' n' H1 h=>?_,hgen,R.gann⟩,?_⟩
 ·obtain ⟨h0,b,cur,ty,h1,h2,h3,h8⟩:=R.rows t' n' r hr;have na:¬ (t'=t/\n'=n):=fun e=>by rw [e.1,e.2,pb] at h0; cases h0
  have hbn:¬ H b:=fun hb=>na ((zo b hb).2.2.1 t' n' h1)
  exact ⟨by simp only [if_neg na]; exact h0,b,cur,ty,h1,(hk.block b (OA h2) hbn).trans h2,h3.held ⟨fun _ _ _ h=>h,fun _ _ _ _=>rfl⟩ hA (fun _ _ h=>h),h8⟩
 ·obtain ⟨h1,h2,h3⟩:=R.mine t' n' b h;exact ⟨h1,by omega,h3⟩
 ·obtain ⟨h1,h2,h3,h4,nb,h5,h6⟩:=R.tok k o h;exact ⟨h1,h2,h3,h4,nb,(hk.block _ (OA h5) (R.apob h pb)).trans h5,h6⟩
 ·refine R.kept.trans hk fun i hi h=>?_
  have:=R.base
  grind
 ·simp only [aA.setObj] at h;split at h
  ·rename_i e;injection h with h;subst h;exact ⟨p,H',by rw [e.1,e.2]; exact hp,by simp only [if_pos e],sc,bk.keep wg fun x hx=>hx⟩
  ·rename_i e;obtain ⟨p1,H1,h1,h2,h3,h4⟩:=R.objs t' n' S1 h;have fq:∀ b,H1 b->¬ H b:=fun b hb ua=>e ((zo b ua).2.2.2.2 t' n' H1 h2 hb)
   exact ⟨p1,H1,h1,by simp only [if_neg e]; exact h2,O.keep h3 (fun b hb=>hk.block b (O.lt h3 hb) (fq b hb)) ac,h4.keep wg fun x hx=>(hk.block _ (OA hx) (fq _ (O.main h3))).trans hx⟩
 ·rcases ei _ _ _ h with ⟨e1,e2,e3⟩ | ⟨e,h⟩
  ·subst e1; subst e2; subst e3;refine ⟨fun b hb=>?_,cu⟩;rcases hH b hb with h1 | h1
   ·grind
   ·refine ⟨.inl (by omega),O.lt sc hb,fun t1 n1 h2=>?_,fun k o h2 e=>?_,fun t1 n1 H2 h2 h3=>?_⟩
    ·have:=(R.mine _ _ _ h2).2.1; omega
    ·obtain ⟨_,_,_,_,nb,h5,_⟩:=R.tok k o h2; have:=OA h5; omega
    ·rcases ei _ _ _ h2 with ⟨e1,e2,_⟩ | ⟨_,h2⟩
     ·omega
     ·have:=((R.obs _ _ _ h2).1 b h3).2.1; omega
  ·obtain ⟨h1,h2⟩:=R.obs t' n' H1 h;refine ⟨fun b hb=>?_,h2⟩;obtain ⟨g1,g2,g3,g4,g5⟩:=h1 b hb;refine ⟨g1,by omega,g3,g4,fun t1 n1 H2 h2 h3=>?_⟩;rcases ei _ _ _ h2 with ⟨e1,e2,e3⟩ | ⟨_,h2⟩
   ·subst e3;rcases hH b h3 with h4 | h4
    ·have:=g5 t n H pb h4;omega
    ·omega
   ·exact g5 t1 n1 H2 h2 h3
 ·refine BA.less fun b o h=>?_
  rcases h with h | h | h
  ·exact .inl (.inl h)
  ·rcases h with h | ⟨t1,n1,H2,h2,h3⟩
   ·exact .inl (.inr (.inl (.inl h)))
   ·rcases ei _ _ _ h2 with ⟨_,_,e3⟩ | ⟨_,h2⟩
    ·grind
    ·exact .inl (.inr (.inl (.inr ⟨t1,n1,H2,h2,h3⟩)))
  ·exact .inl (.inr (.inr h))
theorem iC.newObj (R:iC P O nt B F0 aa w0 D s a w ι Θ) {d p:Nat} {H:Nat->Prop} {S:AV} (hb:Below w.heap.size w w') (hD:¬ D d) (sc:O.at_ S H p w') (bk:N1 ι S p w') (hH:∀ b,H b->w.heap.size<=b) :
  ∃ ι':Ix,iC P O nt B F0 aa w0 (fun t=>D t\/t=d) (s.setObj d s.next S) a w' ι' Θ/\ι' d s.next=some p/\BA (fun b o=>SC aa ι Θ b o\/H b) (SC aa ι' Θ) w' w':=by
 have ur:=R.lowB;have ac:=hb.size;have hpH:=hH p (O.main sc);have ee:ι d s.next=none:=by
  cases h:ι d s.next with
  | none=>rfl
  | some b =>
   rcases (R.mine _ _ _ h).2.2 with h1 | h1
   ·omega
   ·simp_all
 have fe:ι.ob d s.next=none:=by
  cases h:ι.ob d s.next with
  | none=>rfl
  | some b =>
   rcases (R.obs _ _ _ h).2 with h1 | h1
   ·omega
   ·simp_all
 have hmemn:s.mem d s.next=none:=by
  cases h:s.mem d s.next with
  | none=>rfl
  | some r=>obtain ⟨_,b,cur,ty,h1,_⟩:=R.rows _ _ _ h; rw [ee] at h1; cases h1
 obtain ⟨ι',hι'⟩:∃ ι':Ix,ι'=⟨fun t' n'=>if t'=d/\n'=s.next then some p else ι t' n',fun t' n'=>if t'=d/\n'=s.next then some H else ι.ob t' n',ι.z⟩:=⟨_,rfl⟩;have hf:∀ t' n' b,ι' t' n'=some b->(t'=d/\n'=s.next/\b=p)\/(¬ (t'=d/\n'=s.next)/\ι t' n'=some b):=fun t' n' b h=>by
  subst hι'
  grind
 have ho:∀ t' n' H1,ι'.ob t' n'=some H1->(t'=d/\n'=s.next/\H1=H)\/(¬ (t'=d/\n'=s.next)/\ι.ob t' n'=some H1):=fun t' n' H1 h=>by
  subst hι'
  grind
 have nc:∀ t n b,ι t n=some b->ι' t n=some b:=fun t n b h=>by
  subst hι'
  grind
 have bq:∀ t n H1,¬ (t=d/\n=s.next)->ι.ob t n=H1->ι'.ob t n=H1:=fun t n H1 e h=>by
  simp_all
 have wb:ι' d s.next=some p:=by
  simp_all
 have fu:ι'.ob d s.next=some H:=by subst hι'; simp
 have wg:∀ t1 n1 b1 H1,ι t1 n1=some b1->ι.ob t1 n1=some H1->ι' t1 n1=some b1/\∃ H2,ι'.ob t1 n1=some H2:=fun t1 n1 b1 H1 g1 g2=>⟨nc _ _ _ g1,H1,bq _ _ _ (fun e=>by rw [e.1,e.2,fe] at g2; cases g2) g2⟩
 have dw:∀ b,ι'.z b=ι.z b:=fun b=>by subst hι'; rfl
 have ab:Ix.Le ι ι':=⟨nc,fun _ _ _ _=>dw _⟩;clear hι';have ej:∀ b o,b<w.heap.size->PC ι' Θ b o->PC ι Θ b o:=fun b o eg h=>h.imp (fun h=>by
  rcases h with ⟨t',n',h⟩ | ⟨t',n',H1,h,h2⟩
  ·rcases hf _ _ _ h with ⟨_,_,e⟩ | ⟨_,h⟩
   ·omega
   ·exact .inl ⟨t',n',h⟩
  ·rcases ho _ _ _ h with ⟨_,_,e⟩ | ⟨_,h⟩
   ·subst e; have:=hH b h2; omega
   ·exact .inr ⟨t',n',H1,h,h2⟩) id
 have hB:BA (PC ι Θ) (PC ι' Θ) w w':=BA.grown (fun b ua=>hb.block b ua) ej;have hA:BA (SC aa ι Θ) (SC aa ι' Θ) w w':=BA.grown (fun b ua=>hb.block b ua) fun b o eg h=>h.imp id (ej b o eg)
 refine ⟨ι',⟨R.defers,R.size,fun t=>qB.held ab hA hB _ _ (R.env t),R.ann,fun t' n' r hr=>?_,fun t' n' b h=>?_,fun t n t' n' b h h'=>?_,fun k o h=>?_,R.tinj,fun k o t n h h'=>?_,R.out,fun p h=>⟨nc _ _ _ (R.pin p h).1,by
  rcases (R.pin p h).2 with hr0 | ⟨H1,h1⟩
  ·exact .inl ⟨hr0.1,(ab.z _ _ _ (R.pin p h).1).trans hr0.2⟩
  refine .inr ?_;by_cases e:0=d/\0=s.next
  ·exact ⟨H,by rw [<- e.1,<- e.2] at fu; exact fu⟩
  ·exact ⟨H1,bq _ _ _ e h1⟩⟩,R.kept.trans_below hb,R.base,fun t' n' S1 h=>?_,fun t' n' H1 h=>?_,fun t=>qB.held ab hA hB _ _ (R.gen t),R.gann⟩,wb,?_⟩
 ·obtain ⟨h0,b,cur,ty,h1,h2,h3,h8,h9⟩:=R.rows t' n' r hr;have na:¬ (t'=d/\n'=s.next):=fun e=>by
   simp_all
  exact ⟨bq _ _ _ na h0,b,cur,ty,nc _ _ _ h1,(hb.block b (OA h2)).trans h2,h3.held ab hA (fun _ _ h=>h),h8,h9.trans (dw _).symm⟩
 ·rcases hf _ _ _ h with ⟨e1,e2,e⟩ | ⟨_,h⟩
  ·subst e;exact ⟨.inl (by omega),O.lt sc (O.main sc),.inr ⟨e2,.inr e1⟩⟩
  ·obtain ⟨h1,h2,h3⟩:=R.mine t' n' b h;exact ⟨h1,by omega,h3.imp id fun ⟨e,d⟩=>⟨e,.inl d⟩⟩
 ·rcases hf _ _ _ h with ⟨e1,e2,e⟩ | ⟨_,h⟩ <;> rcases hf _ _ _ h' with ⟨g1,g2,g⟩ | ⟨_,h'⟩
  ·omega
  ·have:=(R.mine _ _ _ h').2.1; omega
  ·have:=(R.mine _ _ _ h).2.1; omega
  ·exact R.inj t n t' n' b h h'
 ·obtain ⟨h1,h2,h3,h4,nb,h5,h6⟩:=R.tok k o h;exact ⟨h1,h2,h3,h4,nb,(hb.block _ (OA h5)).trans h5,h6⟩
 ·obtain ⟨_,_,_,_,nb,h5,_⟩:=R.tok k o h;have da:=OA h5;rcases hf _ _ _ h' with ⟨_,_,e⟩ | ⟨_,h'⟩
  ·omega
  ·exact R.apart k o t n h h'
 ·simp only [aA.setObj] at h;split at h
  ·rename_i e;injection h with h;subst h;exact ⟨p,H,by rw [e.1,e.2]; exact wb,by rw [e.1,e.2]; exact fu,sc,bk.keep wg fun x hx=>hx⟩
  ·rename_i e;obtain ⟨p1,H1,h1,h2,h3,h4⟩:=R.objs t' n' S1 h;exact ⟨p1,H1,nc _ _ _ h1,bq _ _ _ e h2,O.keep h3 (fun b ua=>hb.block b (O.lt h3 ua)) ac,h4.keep wg fun x hx=>(hb.block _ (OA hx)).trans hx⟩
 ·rcases ho _ _ _ h with ⟨e1,e2,e⟩ | ⟨_,h⟩
  ·subst e;refine ⟨fun b ua=>⟨.inl (by have:=hH b ua; omega),O.lt sc ua,fun t1 n1 h2=>?_,fun k o h2 e=>?_,fun t1 n1 H2 h2 h3=>?_⟩,.inr ⟨e2,.inr e1⟩⟩
   ·have:=hH b ua;rcases hf _ _ _ h2 with ⟨g1,g2,_⟩ | ⟨_,h2⟩
    ·omega
    ·have:=(R.mine _ _ _ h2).2.1; omega
   ·have:=hH b ua;obtain ⟨_,_,_,_,nb,h5,_⟩:=R.tok k o h2; have:=OA h5; omega
   ·have:=hH b ua;rcases ho _ _ _ h2 with ⟨g1,g2,_⟩ | ⟨_,h2⟩
    ·omega
    ·have:=((R.obs _ _ _ h2).1 b h3).2.1; omega
  ·obtain ⟨h1,h2⟩:=R.obs t' n' H1 h;refine ⟨fun b ua=>?_,h2.imp id fun ⟨e,d⟩=>⟨e,.inl d⟩⟩;obtain ⟨g1,g2,g3,g4,g5⟩:=h1 b ua;refine ⟨g1,by omega,fun t1 n1 h2=>?_,g4,fun t1 n1 H2 h2 h3=>?_⟩
   ·grind
   ·grind
 ·refine BA.less fun b o h=>?_
  rcases h with h | h | h
  ·exact .inl (.inl h)
  ·rcases h with ⟨t',n',h⟩ | ⟨t',n',H1,h,h2⟩
   ·rcases hf _ _ _ h with ⟨_,_,e⟩ | ⟨_,h⟩
    ·subst e; exact .inr (O.main sc)
    ·exact .inl (.inr (.inl (.inl ⟨t',n',h⟩)))
   ·rcases ho _ _ _ h with ⟨_,_,e⟩ | ⟨_,h⟩
    ·simp_all
    ·exact .inl (.inr (.inl (.inr ⟨t',n',H1,h,h2⟩)))
  ·exact .inl (.inr (.inr h))
theorem HP {s:aA} {cl:Cl}:∀ {xs:List LB} {vs:List AV},EE s cl xs=some vs->kK vs=false
 | [],vs,h=>by injection h with h; subst h; rfl
 | x :: r,vs,h=>by
  unfold EE at h;split at h
  ·rename_i v us hv hr;injection h with h;subst h;cases v with
   | undef =>
    exfalso;unfold qG at hv;split at hv
    ·obtain ⟨_,_,hv⟩:=yh.1 hv; cases hv
    unfold DR at hv;split at hv
    ·split at hv
     ·obtain ⟨_,_,hv⟩:=yh.1 hv; cases hv
     ·cases hv
    ·injection hv with hv; cases hv
    ·injection hv with hv; cases hv
    ·split at hv
     ·injection hv with hv; cases hv
     ·cases hv
    ·split at hv
     ·rename_i hf; injection hv with hv; rw [hv] at hf; cases hf
     ·cases hv
   | _=>rfl
  ·cases h
section
variable (R:iC P O nt B F0 aa w0 D s a w ι Θ) {call:AB} (wa:∀ f args S r,call f args S=some r->xD P O f args S r)
include R call wa
theorem op_call {f:FuncId} {Xs:Array Operand} {ts:Array TypeId} {xs:List LB} (hx:HH Xs.toList=some xs) (ho:o.op=.call { callee:=.value (.func f),args:=Xs,argTypes:=ts }) (hd:∀ d,o.dst=some d->d<nt) (hD:∀ d,o.dst=some d->¬ D d) {cl:Cl} {xe:qA × nD} (hr:(K.call cl f xs).run call s=some xe) {g} {s':aA} (he:UA.eff ⟨o.dst,.call cl f xs,g⟩ s xe=some s')
  {Kn:Act->World->Prop} {Q:Exit->Act->World->Prop} (hK:∀ a' w',KD P O nt B F0 aa w0 (fun t=>D t\/o.dst=some t) s' a' w'->Kn a' w'):o.wp P a w Kn Q:=by
 simp only [K.run] at hr;obtain ⟨vs,hl,hr⟩:=y8.1 hr;have ic:(Xs.toList.map a.eval).toArray=Xs.map a.eval:=by rw [<- Array.toList_map,yQ]
 have run:∀ {S0:Option AV} {r:RV},cZ P O f vs S0 r->(execOp a.eval o).run P w=.ok (.enter f (Xs.map a.eval)) w:=fun h=>by
  simp only [execOp,ho,resolve,Act.eval,Deferred.ofValue,Sem.run_bind,Sem.run_pure,Result.andThen_ok,invoke];have:=h.1 (#[]++Xs.map a.eval++#[]) w;simp_all
 have ff:∀ b o,SC aa ι Θ b o->b<w.heap.size:=fun b o h=>R.low h
 split at hr
 ·rename_i zl;have nob:∀ x∈xs,∀ t n,x.get s=.ptr t n 0->False:=fun x hx t n h=>by
   have:(t,n)∈TJ s xs:=List.mem_filterMap.2 ⟨x,hx,by rw [h]⟩;simp_all
  have lc:=eL (ι':=Ix.none) (avl:=fun _ _=>False) R (fun _ _ h=>h.elim) hx hl fun x hx t n h=>(nob x hx t n h).elim
  obtain ⟨r,hc,hr⟩:=y8.1 hr;have ra:=(xD.of (HP hl)).1 (wa f vs none r hc);obtain ⟨r1,r2⟩:=r;unfold Oper.wp;rw [run ra,Oper.upon_enter];cases r2 with
  | none =>
   simp only at hr;split at hr
   ·cases hr;simp only [UA.eff] at he;cases he;have hC:=ra.2 (SC aa ι Θ) w _ ff lc;rw [ic] at hC;refine hC.mono ?_;rintro e w' ⟨v,rfl,hv,hb⟩;have R':iC P O nt B F0 aa w0 D s a w' ι Θ:=R.grow (fun b ua=>hb.block b ua) hb.size (R.kept.trans_below hb);exact hK _ _ ⟨ι,Θ,(R'.putN (x:=⟨_,.no⟩) hd (gN hv) trivial).more fun _ h=>.inl h⟩
   ·cases hr
  | some S' =>
   simp only at hr;split at hr
   ·rename_i pp;cases hr;simp only [UA.eff] at he;split at he
    ·cases he
    ·rename_i d ca;cases he;have hC:=ra.2 (SC aa ι Θ) w _ ff lc;rw [ic] at hC;refine hC.mono ?_;rintro e w' ⟨v,p,H',rfl,hv,sc,hH,hb⟩;obtain ⟨ι',R2,hι,sd⟩:=R.newObj (d:=d) hb (hD d ca) sc (N1.no pp.2.2) hH;rw [ca];refine hK _ _ ⟨ι',Θ,(R2.put (x:=⟨_,.no⟩) (hd d ca) (named_rep (E6.held sd hv) hι pp.1) trivial).more fun t h=>h.imp id fun e=>by rw [ca,e]⟩
   ·cases hr
 ·rename_i t n gp;obtain ⟨r,hc,hr⟩:=y8.1 hr;obtain ⟨r1,r2⟩:=r;cases r2 with
  | none=>cases hr
  | some S' =>
   simp only at hr;split at hr
   ·rename_i ba;cases hr;simp only [UA.eff] at he;cases he;obtain ⟨S,hS⟩:=Option.isSome_iff_exists.1 ba.2.1;rw [hS] at hc;have ra:=(xD.of (HP hl)).1 (wa f vs (some S) _ hc);obtain ⟨p,H,hp,pb,sc,_⟩:=R.objs t n S hS;have lc:=eL (ι':=Ix.one p) (avl:=fun b _=>H b) R (fun b _ h=>⟨t,n,H,pb,h⟩) hx hl fun x hx t' n' h=>by
     have:(t',n')∈TJ s xs:=List.mem_filterMap.2 ⟨x,hx,by rw [h]⟩;rw [gp] at this;have:=List.mem_singleton.1 this;injection this with e1 e2;rw [e1,e2,hp];rfl
    unfold Oper.wp;rw [run ra,Oper.upon_enter];have hC:=ra.2 (SC aa ι Θ) w _ p H ff (fun b o h=>.inr (.inl (.inr ⟨t,n,H,pb,h⟩))) sc lc;rw [ic] at hC;refine hC.mono ?_;rintro e w' ⟨v,H',rfl,hv,mi,hH,hk⟩;obtain ⟨ι',R',sd⟩:=R.turnObj hp pb mi (N1.no ba.2.2) hH hk;refine hK _ _ ⟨ι',Θ,(R'.putN (x:=⟨_,.no⟩) hd (gN (bE.held sd _ _ hv)) trivial).more fun _ h=>.inl h⟩
   ·cases hr
 ·cases hr
theorem op_callv {tf:Nat} {Xs:Array Operand} {ts:Array TypeId} {xs:List LB} (hx:HH Xs.toList=some xs) (ho:o.op=.call { callee:=.value (.tmp tf),args:=Xs,argTypes:=ts }) (hd:∀ d,o.dst=some d->d<nt) {cl:Cl} {xe:qA × nD} (hr:(K.callv cl (.t tf) xs).run call s=some xe) {g} {s':aA} (he:UA.eff ⟨o.dst,.callv cl (.t tf) xs,g⟩ s xe=some s')
  {Kn:Act->World->Prop} {Q:Exit->Act->World->Prop} (hK:∀ a' w',KD P O nt B F0 aa w0 (fun t=>D t\/o.dst=some t) s' a' w'->Kn a' w'):o.wp P a w Kn Q:=by
 simp only [K.run,LB.get] at hr;have hF:=R.env tf;split at hr
 ·rename_i f cs dr;rw [dr] at hF;obtain ⟨us,jd,nk⟩:=hF;split at hr
  ·rename_i vs ws hl hw zl;have ff:∀ b o,SC aa ι Θ b o->b<w.heap.size:=fun b o h=>R.low h
   have nob:∀ x∈xs,∀ t n,x.get s=.ptr t n 0->False:=fun x hx t n h=>by
    have:(t,n)∈TJ s xs:=List.mem_filterMap.2 ⟨x,hx,by rw [h]⟩;simp_all
   have lc:=eL (ι':=Ix.none) (avl:=fun _ _=>False) R (fun _ _ h=>h.elim) hx hl fun x hx t n h=>(nob x hx t n h).elim
   have hcaps:=aY (wT hw) (JQ (ι':=Ix.none) (avl:=fun _ _=>False) R (fun _ _ h=>h.elim) nk hw);have sa:=XT lc hcaps;obtain ⟨r,hc,hr⟩:=y8.1 hr;have hm:kK (vs++ws)=false:=by
    cases vs with
    | cons v r=>have:=HP hl; cases v <;> first | rfl | exact this
    | nil =>
     cases ws with
     | nil=>rfl
     | cons v r =>
      have:=wT hw v (yk);cases v <;> first | rfl | (simp [AV.capOk] at this; done)
   have ra:=(xD.of hm).1 (wa f (vs++ws) none r hc);obtain ⟨r1,r2⟩:=r;cases r2 with
   | some S'=>cases hr
   | none =>
    simp only at hr;split at hr
    ·cases hr;simp only [UA.eff] at he;cases he;have ic:(Xs.toList.map a.eval++us.toList).toArray=Xs.map a.eval++us:=by
      simp_all
     have run:(execOp a.eval o).run P w=.ok (.enter f (Xs.map a.eval++us)) w:=by
      have ww:a.eval (.tmp tf)=.func (.func f) #[] us:=jd;simp only [execOp,ho,resolve,ww,Deferred.ofValue,Sem.run_bind,Sem.run_pure,Result.andThen_ok,invoke];have:=ra.1 (#[]++Xs.map a.eval++us) w;simp_all
     unfold Oper.wp;rw [run,Oper.upon_enter];have hC:=ra.2 (SC aa ι Θ) w _ ff sa;rw [ic] at hC;refine hC.mono ?_;rintro e w' ⟨v,rfl,hv,hb⟩;have R':iC P O nt B F0 aa w0 D s a w' ι Θ:=R.grow (fun b ua=>hb.block b ua) hb.size (R.kept.trans_below hb);exact hK _ _ ⟨ι,Θ,(R'.putN (x:=⟨_,.no⟩) hd (gN hv) trivial).more fun _ h=>.inl h⟩
    ·cases hr
  ·cases hr
 ·cases hr
end
theorem val_rstr (R:iC P O nt B F0 aa w0 D s a w ι Θ) {t t':TypeId} {k:IntKind} (ht:P.underlying t=some (.int k)) (ht':P.underlying t'=some .string) {X:Operand} {x:LB} (hx:opd X=some x) (ho:o.op=.convert t t' X)
  {call} {y:qA} {e:nD} (hr:(K.rstr x).run call s=some (y,e)):e=.none/\dR P aa a w ι Θ o y:=by
 have hX:=(R.opd hx).1;simp only [K.run] at hr;split at hr
 ·rename_i k' n hy;injection hr with hr; injection hr with h1 h2; subst h1; subst h2;rw [hy,kB] at hX;exact ⟨rfl,.string (Utf8.encode n),by simp [execOp,ho,convert,run_underlying ht,run_underlying ht',hX,Conv.intToString],by rw [gH],trivial⟩
 ·cases hr
theorem lR {av:Av}:∀ {m:List (List AV)} {bs:List UInt8} {us:List Value},bytesOf m=some bs->MC av w m.flatten us->∃ ns:List Int,us=ns.map (Value.int .u8)/\bs=ns.map (fun n=>UInt8.ofNat n.toNat)/\∀ c∈m,c.length=1
 | [],bs,us,hb,h=>by
  injection hb with hb;subst hb;cases h;exact ⟨[],rfl,rfl,by simp⟩
 | c :: r,bs,us,hb,h=>by
  unfold bytesOf at hb;split at hb
  ·rename_i n l hr;injection hb with hb;subst hb;simp only [yz,List.cons_append,yP,MC] at h;obtain ⟨u,ta,rfl,h0,_,h⟩:=h;obtain ⟨ns,e1,e2,e3⟩:=lR hr h;refine ⟨n :: ns,?_,by rw [e2]; rfl,?_⟩
   ·simp only [bE] at h0;rw [h0,e1]; rfl
   ·intro c hc;rcases yf.1 hc with rfl | hc
    ·rfl
    ·exact e3 c hc
  ·cases hb
theorem MY:∀ (ns:List Int) (acc:ByteArray),ns.foldl (fun r n=>r.push (UInt8.ofNat n.toNat)) acc=⟨acc.data++(ns.map fun n=>UInt8.ofNat n.toNat).toArray⟩
 | [],acc=>by simp
 | n :: r,acc=>by
  rw [List.foldl_cons,MY r];congr 1;apply Array.ext';simp [ByteArray.push]
theorem val_bstr (R:iC P O nt B F0 aa w0 D s a w ι Θ) {t t' e':TypeId} (ht:P.underlying t=some (.slice e')) (zg:P.underlying e'=some (.int .u8)) (ht':P.underlying t'=some .string) {X:Operand} {x:LB} (hx:opd X=some x) (ho:o.op=.convert t t' X)
  {call} {cl:Cl} {y:qA} {e:nD} (hr:(K.bstr cl x).run call s=some (y,e)):e=.none/\dR P aa a w ι Θ o y:=by
 have hX:=(R.opd hx).1;simp only [K.run] at hr;split at hr
 ·rename_i m hm;obtain ⟨bs,sw,hr⟩:=yh.1 hr;injection hr with h1 h2; subst h1; subst h2;have hlen1:∀ c∈m,c.length=1:=by
   clear hX hm hr
   induction m generalizing bs with
   | nil=>simp
   | cons c r ih =>
    unfold bytesOf at sw
    grind
  obtain ⟨us,ec,hl,A,c,hv,hc,sb⟩:=sM R hX hm (sz:=1) (by omega) hlen1;obtain ⟨ns,e1,e2,_⟩:=lR sw ec;refine ⟨rfl,.string ⟨bs.toArray⟩,?_,by rw [gH],trivial⟩;have hns:ns.length=m.length:=by rw [e1] at hl; simpa using hl
  simp only [execOp,ho,hv,Sem.run_bind];rw [run_convert_bytes_string w t t' e' A m.length c ht zg ht'];cases A with
  | none =>
   rcases yK m.length with h0 | h0
   ·have:ns=[]:=yM (by omega);subst this;subst e2;simp [Conv.bytesToString];rfl
   ·simp_all
  | some a' =>
   have pt:(loadCells a' m.length).run P w=.ok (ns.map (Value.int .u8)).toArray w:=by
    have:=run_loadCells_list (P:=P) w a' (ns.map (Value.int .u8)) (fun j v hj=>by
     have xh:j<m.length:=by
      grind
     obtain ⟨b,off,hA,_,_,bd⟩:=sb (by omega);cases hA;rw [Addr.add_lit];rw [<- e1] at hj;exact bd j v hj)
    simp_all
   rw [run_bytesToString w a' m.length c ns pt,MY];simp_all
 ·cases hr
theorem rY {t e:TypeId} {z n:Nat} (ht:P.underlying t=some (.array n e)) (hz:uC P e=some z) {b off:Nat} {L H:Option Operand} {l h:Nat} (hl:IV a 0 L (L.map a.eval,l)) (hh:IV a n H (H.map a.eval,h)) (h1:l<=h) (h2:h<=n) :
  (Instr.sliceAt t (.pointer (some ⟨b,off,none⟩)) (L.map a.eval) (H.map a.eval) none).run P w=.ok (.slice (some (if n=l then ⟨b,off,none⟩ else ⟨b,off + l * z,none⟩)) (h - l) (n - l)) w:=by
 cases L with
 | none =>
  obtain ⟨_,rfl⟩:=hl;cases H with
  | none =>
   obtain ⟨_,rfl⟩:=hh;simp [Instr.sliceAt,Instr.sureAddr,Instr.sliceBounds,run_underlying ht,bC hz,Addr.add_lit]
  | some x =>
   obtain ⟨_,k,i,hx,h0,rfl⟩:=hh;have:0<=i/\i<=(n:Int):=⟨h0,by omega⟩;simp [Instr.sliceAt,Instr.sureAddr,Instr.sliceBounds,Instr.sliceBound,run_underlying ht,bC hz,hx,asIntOf,this,Addr.add_lit]
 | some y =>
  obtain ⟨_,k',i',hy,we,rfl⟩:=hl;cases H with
  | none =>
   obtain ⟨_,rfl⟩:=hh;have:0<=i'/\i'<=(h:Int):=⟨we,by omega⟩;simp [Instr.sliceAt,Instr.sureAddr,Instr.sliceBounds,Instr.sliceBound,run_underlying ht,bC hz,hy,asIntOf,this,Addr.add_lit]
  | some x =>
   obtain ⟨_,k,i,hx,h0,rfl⟩:=hh;have h3:0<=i/\i<=(n:Int):=⟨h0,by omega⟩;have h4:0<=i'/\i'<=i:=⟨we,by omega⟩;have h5:((i.toNat:Nat):Int)=i:=by omega
   simp [Instr.sliceAt,Instr.sureAddr,Instr.sliceBounds,Instr.sliceBound,run_underlying ht,bC hz,hy,hx,asIntOf,h3,h4,h5,Addr.add_lit]
section
variable (R:iC P O nt B F0 aa w0 D s a w ι Θ)
include R
theorem val_aslc {t e':TypeId} {n z:Nat} (ht:P.underlying t=some (.array n e')) (hz:uC P e'=some z) {X:Operand} {L H:Option Operand} {x:LB} {l h:Option LB} (hx:opd X=some x) (hl:JU L=some l) (hh:JU H=some h)
  (ho:o.op=.slice t X L H none) {call} {cl:Cl} {y:qA} {e:nD} (hr:(K.aslc cl n z x l h).run call s=some (y,e)):e=.none/\dR P aa a w ι Θ o y:=by
 have hX:=(R.opd hx).1;simp only [K.run] at hr;split at hr
 ·rename_i t' n' off hy;split at hr
  ·rename_i lo hi r hlo bt hm;have hL:=cK R hl hlo;have hH:=cK R hh bt;rw [hy,AG] at hX;obtain ⟨b,hb,hv⟩:=hX;obtain ⟨_,b',cur,ty,ua,oa,la,_,js⟩:=R.rows t' n' r hm;rw [hb] at ua;injection ua with ua;subst ua;split at hr
   ·rename_i ba;obtain ⟨h1,h2,gc,h3,_⟩:=ba;have ia:=rY (w:=w) (b:=b) (off:=off) ht hz hL hH h1 h2;split at hr
    ·rename_i heq;injection hr with hr; injection hr with e1 e2; subst e1; subst e2;refine ⟨rfl,.slice (some (if n=lo then ⟨b,off,none⟩ else ⟨b,off + lo * z,none⟩)) (hi - lo) (n - lo),by simp only [execOp,ho,hv,Option.map_none,Sem.run_bind,ia,Result.andThen_ok,Sem.run_pure],?_,trivial⟩;simp only [tE,bE];refine ⟨some (if n=lo then ⟨b,off,none⟩ else ⟨b,off + lo * z,none⟩),n - lo,by rw [heq]; simp,by simp,by simp,by simp,fun _=>⟨by simp,by simp⟩⟩
    ·rename_i na;injection hr with hr; injection hr with e1 e2; subst e1; subst e2;refine ⟨rfl,.slice (some (if n=lo then ⟨b,off,none⟩ else ⟨b,off + lo * z,none⟩)) (hi - lo) (n - lo),by simp only [execOp,ho,hv,Option.map_none,Sem.run_bind,ia,Result.andThen_ok,Sem.run_pure],?_,trivial⟩;rw [fH];refine ⟨b,hb,by omega,n - lo,ym _,?_,by rw [if_neg (by omega)]⟩;have:(n - lo) * z + lo * z=n * z:=by rw [<- Nat.add_mul]; congr 1; omega
     have:=la.1;omega
   ·cases hr
  ·cases hr
 ·cases hr
theorem val_mkf {f:FuncId} {fs Xs:Array Operand} (hfs:fs.size=0) {xs:List LB} (hx:HH Xs.toList=some xs) (ho:o.op=.makeFunc (.func f) fs Xs)
  {call} {y:qA} {e:nD} (hr:(K.mkf f xs).run call s=some (y,e)):e=.none/\dR P aa a w ι Θ o y:=by
 simp only [K.run] at hr;split at hr
 ·rename_i sa;injection hr with hr; injection hr with e1 e2; subst e1; subst e2;have key:∀ {Xs:List Operand} {xs:List LB},HH Xs=some xs->xs.all (fun x=>(x.get s).capOk)=true->XG ι (SC aa ι Θ) (PC ι Θ) w (xs.map (·.get s)) (Xs.map a.eval):=by
   intro Xs
   induction Xs with
   | nil=>intro xs h _; injection h with h; subst h; rfl
   | cons X r ih =>
    intro xs h hc;unfold HH at h;split at h
    ·rename_i x l h1 h2;cases h;simp only [List.all_cons,y7] at hc;refine ⟨_,_,rfl,?_,ih h2 hc.2⟩;have hX:=(R.opd h1).1;have hk:=hc.1;show cU ι (SC aa ι Θ) (PC ι Θ) w (x.get s) (a.eval X);cases hg:x.get s <;> rw [hg] at hX hk <;> first | exact hX | (simp [AV.capOk] at hk; done)
    ·cases h
  have hfs0:fs=#[]:=Array.eq_empty_of_size_eq_zero hfs;refine ⟨rfl,.func (.func f) #[] (Xs.map a.eval),by simp [execOp,ho,Instr.makeFunc,hfs0],⟨Xs.map a.eval,rfl,?_⟩,trivial⟩;simp_all
 ·cases hr
theorem iC.turnRow {t n b:Nat} (hb:ι t n=some b) (ad:ι.ob t n=none) {r:List qA} {new:Array Value} {lq:TypeId} (sc:w'.heap[b]?=some (.cells new lq (0,0))) (hk:ID (fun k=>k=b) w w') (la:uE ι Θ (SC aa ι Θ) w' r new) (tj:B<=b\/F0.r b) (hnz:new.size=ι.z b) :
  iC P O nt B F0 aa w0 D (s.setRow t n r) a w' ι Θ:=by
 have na:∀ b',b'<w.heap.size->b'≠b->w'.heap[b']?=w.heap[b']?:=fun b' h1 h=>hk.block b' h1 h
 have hB:BA (PC ι Θ) (PC ι Θ) w w':=⟨fun b' o u hc hn=>by
  have:b'≠b:=fun e=>hn (.inl (.inl ⟨t,n,e ▸ hb⟩))
  exact ⟨(World.cell?_of_block (w:=w) (a:=⟨b',o,none⟩) (na b' (WI hc) this)).trans hc,hn⟩⟩
 have hA:BA (SC aa ι Θ) (SC aa ι Θ) w w':=⟨fun b' o u hc hn=>by
  have:b'≠b:=fun e=>hn (.inr (.inl (.inl ⟨t,n,e ▸ hb⟩)))
  exact ⟨(World.cell?_of_block (w:=w) (a:=⟨b',o,none⟩) (na b' (WI hc) this)).trans hc,hn⟩⟩
 have xt:=R.mine t n b hb;have ac:=hk.size;refine ⟨R.defers,R.size,fun t=>qB.held (Ix.Le.refl _) hA hB _ _ (R.env t),R.ann,fun t' n' r' hr=>?_,fun t n b h=>?_,R.inj,fun k o h=>?_,R.tinj,R.apart,R.out,R.pin,?_,R.base,fun t' n' S h=>?_,fun t n H h=>(R.obs t n H h).grow ac,fun t=>qB.held (Ix.Le.refl _) hA hB _ _ (R.gen t),R.gann⟩
 ·simp only [aA.setRow] at hr;split at hr
  ·rename_i e;simp_all
  ·rename_i e;obtain ⟨h0,b',nb,lq,h1,h2,h3,h4⟩:=R.rows t' n' r' hr;have:b'≠b:=fun e'=>e (R.inj _ _ _ _ _ (e' ▸ h1) hb)
   exact ⟨h0,b',nb,lq,h1,(na b' (OA h2) this).trans h2,h3.held (Ix.Le.refl _) hA (fun _ _ h=>h),h4⟩
 ·obtain ⟨h1,h2,h3⟩:=R.mine t n b h;exact ⟨h1,by omega,h3⟩
 ·obtain ⟨h1,h2,h3,h4,nb,h5,h6⟩:=R.tok k o h;have:o.g≠b:=fun e=>R.apart k o t n h (e ▸ hb)
  grind
 ·refine R.kept.trans hk fun i hi h=>?_
  subst h;rcases xt.1 with h | h
  ·have:=R.base; omega
  ·exact h
 ·obtain ⟨p,H,h1,h2,h3,h4⟩:=R.objs t' n' S h;have fq:∀ b',H b'->b'≠b:=fun b' hH e=>by
   subst e;have:=((R.obs _ _ _ h2).1 _ hH).2.2.1 t n hb;simp_all
  exact ⟨p,H,h1,h2,O.keep h3 (fun b' hH=>na b' (O.lt h3 hH) (fq b' hH)) ac,h4.keep (fun t n b H h g=>⟨h,H,g⟩) fun x hx=>(na _ (OA hx) (fq _ (O.main h3))).trans hx⟩
end
theorem iW (R:iC P O nt B F0 aa w0 D s a w ι Θ) {t n p z:Nat} (hp:ι t n=some p) (hz:ι.z p=z) {cl:Cl}:∀ {Xs:List Operand} {xs:List LB} {vs:List AV},HH Xs=some xs->bD s cl t n xs=some vs->mL (Ix.row p z) (SC aa ι Θ) (fun b _=>b=p) w vs (Xs.map a.eval)
 | [],xs,vs,h,hl=>by
  injection h with h;subst h;injection hl with hl;subst hl;rfl
 | X :: Xs,xs,vs,h,hl=>by
  unfold HH at h;split at h
  ·rename_i x l hx hr;injection h with h;subst h;unfold bD at hl;split at hl
   ·rename_i v aw hv lf;injection hl with hl;subst hl;refine ⟨_,_,rfl,?_,iW R hp hz hr lf⟩;have hX:=(R.opd hx).1;have hB:∀ (b o:Nat),b=p->PC ι Θ b o:=fun b o h=>.inl (.inl ⟨t,n,h ▸ hp⟩)
    unfold UG at hv;split at hv
    ·rename_i t' n' off hg;split at hv
     ·rename_i e;injection hv with hv;subst hv;rw [hg,e.1,e.2] at hX;obtain ⟨b,hb,hv⟩:=AG.1 hX;rw [hp] at hb;injection hb with hb;subst hb;exact ⟨p,rfl,hv⟩
     ·cases hv
    ·rename_i t' n' sz off len cap hg;split at hv
     ·rename_i e;injection hv with hv;subst hv;rw [hg,e.1,e.2] at hX;obtain ⟨b,hb,h1,c,h2,h3,hv⟩:=fH.1 hX;rw [hp] at hb;injection hb with hb;subst hb;exact ⟨p,rfl,h1,c,h2,by rw [hz] at h3; exact h3,hv⟩
     ·rename_i e;rw [hg] at hX;refine rT R hB (fun t1 n1 b o hb1 _ ⟨sz1,off1,len1,cap1,hy⟩ h=>e ?_) hX hv fun t n h=>by cases h
      injection hy with e1 e2;subst h;exact R.inj _ _ _ _ _ (by rw [e1,e2]; exact hb1) hp
    ·rename_i f cs hg;split at hv
     ·rename_i hc;injection hv with hv;subst hv;rw [hg,List.isEmpty_iff.1 hc] at hX;exact hX
     ·cases hv
    ·rename_i y h1 h2 h3;exact rT R hB (fun t1 n1 b o _ _ ⟨sz1,off1,len1,cap1,hy⟩=>absurd hy (h2 _ _ _ _ _ _)) hX hv fun t n h=>absurd h (h1 _ _ _)
   ·cases hl
  ·cases h
theorem row_ofz {av:Av} {cs:List AV} {us:List Value} (h:MC av w cs us) {cur:Array Value} (hc:∀ (j:Nat) (u:Value),us[j]?=some u->cur[j]?=some u):uE ι Θ av w (cs.map fun v=>⟨v,KB v⟩) cur:=by
 have h0:=row_of (ι:=ι) (Θ:=Θ) h hc;refine ⟨by simpa using h0.1,fun j x hx=>?_⟩;rw [yc] at hx;obtain ⟨v,hv,rfl⟩:=yh.1 hx;obtain ⟨u,h1,h2,h3,_⟩:=h0.2 j ⟨v,.no⟩ (by rw [yc,hv]; rfl);refine ⟨u,h1,h2,h3,?_⟩;unfold KB;split
 ·rename_i b l hh;simp only at h3;obtain ⟨A,c,hv,_,_,hn,_⟩:=(by simpa [NA,bE] using h3:bE av w (.sl true _) u);obtain ⟨rfl,e1,rfl⟩:=hn rfl;exact ⟨none,0,by rw [hv,e1]⟩
 ·trivial
theorem op_callr (R:iC P O nt B F0 aa w0 D s a w ι Θ) {call:AB} (wa:∀ f args S r,call f args S=some r->xD P O f args S r) {f:FuncId} {Xs:Array Operand} {ts:Array TypeId} {xs:List LB} (hx:HH Xs.toList=some xs) (ho:o.op=.call { callee:=.value (.func f),args:=Xs,argTypes:=ts }) (hd:∀ d,o.dst=some d->d<nt) {cl:Cl} {xe:qA × nD} (hr:(K.callr cl f xs).run call s=some xe) {g} {s':aA} (he:UA.eff ⟨o.dst,.callr cl f xs,g⟩ s xe=some s')
  {Kn:Act->World->Prop} {Q:Exit->Act->World->Prop} (hK:∀ a' w',KD P O nt B F0 aa w0 (fun t=>D t\/o.dst=some t) s' a' w'->Kn a' w'):o.wp P a w Kn Q:=by
 simp only [K.run] at hr;split at hr
 ·rename_i t n _;split at hr
  ·split at hr
   ·rename_i r vs hm hl;split at hr
    ·rename_i sa;obtain ⟨q,hc,hr⟩:=y8.1 hr;split at hr
     ·rename_i cs hq;split at hr
      ·rename_i ba;cases hr;simp only [UA.eff] at he;cases he;obtain ⟨q1,q2⟩:=q;simp only at hq;subst hq;obtain ⟨ad,p,cur,ty,hp,oa,la,tj,js⟩:=R.rows t n r hm;have ra:XU P f vs (some (.agg (r.map (·.v)))) (q1,some (.agg cs)):=wa f (.undef :: .undef :: vs) _ _ hc;have se:∀ x∈r.map (·.v),x.free0=true:=fun x hx=>by
        grind
       have ic:(Xs.toList.map a.eval).toArray=Xs.map a.eval:=by rw [<- Array.toList_map,yQ]
       have run:(execOp a.eval o).run P w=.ok (.enter f (Xs.map a.eval)) w:=by
        simp only [execOp,ho,resolve,Act.eval,Deferred.ofValue,Sem.run_bind,Sem.run_pure,Result.andThen_ok,invoke];have:=ra.1 (#[]++Xs.map a.eval++#[]) w;simp_all
       unfold Oper.wp;rw [run,Oper.upon_enter];have hC:=ra.2 (SC aa ι Θ) w _ p cur ty (fun b o h=>R.low h) (fun o=>.inr (.inl (.inl ⟨t,n,hp⟩))) oa (by simpa using la.1) (by simpa using lH la.rep se) (iW R hp js.symm hx hl);rw [ic] at hC;refine hC.mono ?_;rintro e w' ⟨v,nb,lq,rfl,hv,so,ac,ec,hk⟩;have dm:uE ι Θ (SC aa ι Θ) w' (cs.map fun v=>⟨v,KB v⟩) nb:=row_ofz ec fun j u hu=>by
        grind
       have R':=R.turnRow hp ad so hk dm tj (ac.trans js);exact hK _ _ ⟨ι,Θ,(R'.putN (x:=⟨_,.no⟩) hd (gN hv) trivial).more fun _ h=>.inl h⟩
      ·cases hr
     ·cases hr
    ·cases hr
   ·cases hr
  ·cases hr
 ·cases hr
end
end
section
open Go Go.RowKit
section
variable {P:Program} {O:AH} {nt B:Nat} {F0:OO} {aa:Av} {w0:World} {D:Nat->Prop} {s:aA} {a:Act} {w w':World} {ι:Ix} {Θ:dL} {o:Oper}
theorem HN {av:Av} {x:AV} (h:x.scal=true):bE av w x x.scalV/\x.scalV.oneCell'=true:=by
 cases x <;> first | (simp [AV.scal] at h; done) | exact ⟨rfl,rfl⟩
theorem ST {av:Av}:∀ {cs:List AV},cs.all AV.scal=true->MC av w cs (cs.map AV.scalV)
 | [],_=>rfl
 | x :: r,h=>by
  simp only [List.all_cons,y7] at h;exact ⟨_,_,rfl,(HN h.1).1,(HN (av:=av) (w:=w) h.1).2,ST h.2⟩
theorem bN {av:Av} {x:AV} (h:x.flat=true):bE av w x x.flatV:=by
 cases x with
 | agg cs=>exact ⟨_,rfl,by simpa using ST (av:=av) (w:=w) h⟩
 | int k n=>exact (HN (x:=.int k n) rfl).1
 | bool b=>exact (HN (x:=.bool b) rfl).1
 | str b=>exact (HN (x:=.str b) rfl).1
 | _=>simp [AV.flat,AV.scal] at h
theorem flat_S {av avb:Av} {x:AV} (h:x.flat=true):qB ι av avb w x x.flatV:=by
 have h1:=bN (av:=av) (w:=w) h;cases x with
 | agg cs=>obtain ⟨us,hv,hc⟩:=h1; exact ⟨us,hv,LD hc⟩
 | _=>first | exact h1 | (simp [AV.flat,AV.scal] at h; done)
theorem ER {av avb:Av} {x:AV} {v:Value} (hf:x.flat=true) (h:qB ι av avb w x v):v=x.flatV:=by
 cases x with
 | agg cs =>
  obtain ⟨us,hv,hc⟩:=h;subst hv;have key:∀ {cs:List AV} {us:List Value},cs.all AV.scal=true->JA ι av w cs us->us=cs.map AV.scalV:=by
   intro cs
   induction cs with
   | nil=>intro us _ h; simpa [JA] using h
   | cons x r ih =>
    intro us hf h;simp only [JA] at h;obtain ⟨u,ta,rfl,h0,_,h⟩:=h;simp only [List.all_cons,y7] at hf;rw [yg,ih hf.2 h];congr 1;cases x <;> first | exact h0 | (simp [AV.scal] at hf; done)
  have:=key hf hc;show Value.agg us=.agg (cs.map AV.scalV).toArray;rw [<- this,yQ]
 | int k n=>exact h
 | bool b=>exact h
 | str b=>exact h
 | _=>simp [AV.flat,AV.scal] at hf
theorem avC_flat {v:Value} {x:AV} (h:avC v=some x) (hf:x.flat=true):v=x.flatV :=
 ER (ι:=Ix.none) (av:=fun _ _=>False) (avb:=fun _ _=>False) (w:=default) hf (p8 h _ _ _ _)
theorem U6 (a b:ByteArray):(a == b)=decide (a=b):=by
 obtain ⟨a⟩:=a;obtain ⟨b⟩:=b;rw [Bool.eq_iff_iff];simp only [decide_eq_true_eq,ByteArray.mk.injEq];exact beq_iff_eq (α:=Array UInt8)
def RG {κ:Type} [DecidableEq κ] (L:List (κ × Value)) (n:κ) (m:Nat):Option (Nat × Value):=((L.map (·.1)).idxOf? n).bind fun i=>(L[i]?).map fun p=>(m + i,p.2)
theorem eN {κ:Type} [DecidableEq κ] (p:κ × Value) (L:List (κ × Value)) (n:κ) (m:Nat):RG (p :: L) n m=if n=p.1 then some (m,p.2) else RG L n (m + 1):=by
 unfold RG;simp only [yg,List.idxOf?_cons];by_cases hk:n=p.1
 ·subst hk; simp
 ·have hb:(p.1 == n)=false:=by simpa using fun e:p.1=n=>hk e.symm
  simp only [hb,hk,if_false];cases hi:List.idxOf? n (List.map (fun x=>x.1) L) with
  | none=>simp
  | some i=>simp [Nat.add_assoc,Nat.add_comm 1 i]
theorem pU (k:IntKind) (n:Int):∀ (es:List MapEntry) (L:List (Int × Value)) (m:Nat),es.map (fun e=>(e.key,e.val))=L.map (fun p=>(Value.int k p.1,p.2)) →
   Instr.findNow (.int k) (.int k n) es m=some (RG L n m)
 | [],[],m,_=>by simp [Instr.findNow,RG]
 | [],_ :: _,_,h=>by simp at h
 | _ :: _,[],_,h=>by simp at h
 | e :: es,p :: L,m,h=>by
  simp only [yg,List.cons.injEq,Prod.mk.injEq] at h;obtain ⟨⟨h1,h2⟩,h3⟩:=h;have ih:=pU k n es L (m + 1) h3;have hs:Instr.sameNow (.int k) (.int k n) e.key=some (n == p.1):=by rw [h1]; simp [Instr.sameNow]
  simp only [Instr.findNow,hs,eN];by_cases hk:n=p.1
  ·subst hk; simp [h2]
  ·have ua:(n == p.1)=false:=by simpa using hk
   simp only [ua,ih,hk,if_false]
theorem aU (n:ByteArray):∀ (es:List MapEntry) (L:List (ByteArray × Value)) (m:Nat),es.map (fun e=>(e.key,e.val))=L.map (fun p=>(Value.string p.1,p.2)) →
   Instr.findNow .string (.string n) es m=some (RG L n m)
 | [],[],m,_=>by simp [Instr.findNow,RG]
 | [],_ :: _,_,h=>by simp at h
 | _ :: _,[],_,h=>by simp at h
 | e :: es,p :: L,m,h=>by
  simp only [yg,List.cons.injEq,Prod.mk.injEq] at h;obtain ⟨⟨h1,h2⟩,h3⟩:=h;have ih:=aU n es L (m + 1) h3;have hs:Instr.sameNow .string (.string n) e.key=some (decide (n=p.1)):=by
   rw [h1];simp only [Instr.sameNow,U6]
  simp only [Instr.findNow,hs,eN];by_cases hk:n=p.1
  ·subst hk; simp [h2]
  ·simp only [hk,decide_false,ih,if_false]
theorem o0 {T:TypeId} {k:IntKind} (u:P.underlying T=some (.int k)):GO P T (fun n:Int=>Value.int k n) where
 check empty n w:=by
  have hq:∀ (d:Nat),(Instr.checkKey empty (d + 1) T (.int k n)).run P w=.ok () w:=fun d=>by simp [Instr.checkKey,run_underlying u]
  exact hq 9999
 find n es L w h:=by
  simp only [Instr.findKey,Sem.run_bind,run_underlying u,Result.andThen_ok,pU k n es L 0 h,RG,yG,Sem.run_pure]
 same n:=by
  have hq:∀ (d:Nat),Instr.sameBits (d + 1) (.int k n) (.int k n)=true:=fun d=>by simp [Instr.sameBits]
  exact hq 9999
theorem Q0 {T:TypeId} (u:P.underlying T=some .string):GO P T Value.string where
 check empty n w:=by
  have hq:∀ (d:Nat),(Instr.checkKey empty (d + 1) T (.string n)).run P w=.ok () w:=fun d=>by simp [Instr.checkKey,run_underlying u]
  exact hq 9999
 find n es L w h:=by
  simp only [Instr.findKey,Sem.run_bind,run_underlying u,Result.andThen_ok,aU n es L 0 h,RG,yG,Sem.run_pure]
 same n:=by
  have hq:∀ (d:Nat),Instr.sameBits (d + 1) (.string n) (.string n)=true:=fun d=>by simp [Instr.sameBits,U6]
  exact hq 9999
structure zQ (ty:KTy) (κ:Type) [DecidableEq κ] (ke:κ->Value) (kx:κ->AV):Prop where
 val:∀ a,(kx a).flatV=ke a
 eq:∀ a b,TO (kx a) (kx b)=decide (a=b)
 of:∀ x,NF ty x=true->∃ a,x=kx a
 flat:∀ a,(kx a).flat=true
section
variable {κ:Type} [DecidableEq κ] {ke:κ->Value} {kx:κ->AV} {ty:KTy}
theorem SY (K:zQ ty κ ke kx) (n:κ):∀ M:List (κ × AV),DI (M.map fun p=>[kx p.1,p.2]) (kx n)=xL M n
 | []=>rfl
 | p :: r=>by
  simp only [yg,DI,xL,K.eq,decide_eq_true_eq,SY K n r];by_cases h:p.1=n
  ·rw [if_pos h,if_pos h.symm]
  ·rw [if_neg h,if_neg fun e=>h e.symm]
theorem DY (K:zQ ty κ ke kx) (n:κ) (v:AV):∀ M:List (κ × AV),lG (M.map fun p=>[kx p.1,p.2]) (kx n) v=(wY M n v).map fun p=>[kx p.1,p.2]
 | []=>rfl
 | p :: r=>by
  simp only [yg,lG,wY,K.eq,decide_eq_true_eq,DY K n v r];by_cases h:p.1=n
  ·rw [if_pos h,if_pos h.symm]; rfl
  ·rw [if_neg h,if_neg fun e=>h e.symm]; rfl
theorem FV (g:AV->Value) (n:κ):∀ M:List (κ × AV),xL (M.map fun p=>(p.1,g p.2)) n=(xL M n).map g
 | []=>rfl
 | p :: r=>by
  simp only [yg,xL,FV g n r];split <;> rfl
theorem G5 (g:AV->Value) (n:κ) (v:AV):∀ M:List (κ × AV),wY (M.map fun p=>(p.1,g p.2)) n (g v)=(wY M n v).map fun p=>(p.1,g p.2)
 | []=>rfl
 | p :: r=>by
  simp only [yg,wY,G5 g n v r];split <;> rfl
theorem PY (K:zQ ty κ ke kx):∀ L:List (List AV),AI ty L=true->∃ M:List (κ × AV),L=M.map (fun p=>[kx p.1,p.2])/\∀ p∈M,p.2.flat=true
 | [],_=>⟨[],rfl,fun _ h=>by cases h⟩
 | e :: r,h=>by
  unfold AI at h;simp only [List.all_cons,y7] at h;obtain ⟨M,hM,hf⟩:=PY K r h.2;have h1:=h.1;split at h1
  ·rename_i k v;simp only [y7] at h1;obtain ⟨n,rfl⟩:=K.of k h1.1;exact ⟨(n,v) :: M,by rw [hM]; rfl,fun p hp=>by
    rcases yf.1 hp with rfl | hp
    ·exact h1.2
    ·exact hf p hp⟩
  ·cases h1
theorem AY (K:zQ ty κ ke kx) (M:List (κ × AV)):(M.map fun p=>[kx p.1,p.2]).map entV=(M.map fun p=>(p.1,p.2.flatV)).map fun p=>(ke p.1,p.2):=by
 rw [y0,y0];apply yq;intro p _;simp [entV,K.val]
end
theorem NS (k:IntKind):zQ (.some k) Int (fun n=>Value.int k n) (fun n=>.int k n) where
 val _:=rfl
 eq a b:=by simp [TO]
 of x h:=by
  cases x <;> first | (simp [NF] at h; done) | (simp only [NF,decide_eq_true_eq] at h; subst h; exact ⟨_,rfl⟩)
 flat _:=rfl
theorem MS:zQ .none ByteArray Value.string AV.str where
 val _:=rfl
 eq a b:=by simp [TO]
 of x h:=by
  cases x <;> first | (simp [NF] at h; done) | exact ⟨_,rfl⟩
 flat _:=rfl
inductive KV where
 | i (k:IntKind) (n:Int)
 | s (b:ByteArray)
 deriving DecidableEq
def KV.av:KV->AV
 | .i k n=>.int k n
 | .s b=>.str b
def KV.kd:KV->Option IntKind
 | .i k _=>some k
 | .s _=>none
abbrev AKey (l:List (Option IntKind)):={ a:List KV // a.map KV.kd=l }
theorem IY:∀ a b:List KV,HQ (a.map KV.av) (b.map KV.av)=decide (a=b)
 | [],[]=>rfl
 | [],b :: r=>by cases b <;> rfl
 | a :: r,[]=>by cases a <;> rfl
 | a :: r,b :: r'=>by
  have ih:=IY r r';cases a <;> cases b <;> simp [KV.av,HQ,ih,Bool.decide_and]
theorem CS:∀ (l:List (Option IntKind)) (cs:List AV),PI l cs=true->∃ a:List KV,a.map KV.kd=l/\cs=a.map KV.av
 | [],[],_=>⟨[],rfl,rfl⟩
 | [],_ :: _,h=>by simp [PI] at h
 | k :: r,[],h=>by cases k <;> simp [PI] at h
 | k :: r,c :: cs,h=>by
  cases k with
  | none =>
   cases c <;> simp only [PI] at h <;> first | (cases h; done) | skip
   rename_i b;obtain ⟨a,h1,h2⟩:=CS r cs h;exact ⟨.s b :: a,by simp [KV.kd,h1],by simp [KV.av,h2]⟩
  | some k =>
   cases c <;> simp only [PI] at h <;> first | (cases h; done) | skip
   rename_i k' n;simp only [y7,decide_eq_true_eq] at h;obtain ⟨rfl,h⟩:=h;obtain ⟨a,h1,h2⟩:=CS r cs h;exact ⟨.i k n :: a,by simp [KV.kd,h1],by simp [KV.av,h2]⟩
theorem kv_scal (a:List KV):(a.map KV.av).all AV.scal=true:=by
 simp only [List.all_map,y5];intro x _;cases x <;> rfl
theorem BS (l:List (Option IntKind)):zQ (.agg l) (AKey l) (fun a=>.agg ((a.1.map KV.av).map AV.scalV).toArray) (fun a=>.agg (a.1.map KV.av)) where
 val _:=rfl
 eq a b:=by
  simp only [TO,IY];by_cases h:a.1=b.1
  ·rw [decide_eq_true h,decide_eq_true (Subtype.ext h)]
  ·rw [decide_eq_false h,decide_eq_false fun e=>h (congrArg Subtype.val e)]
 of x h:=by
  cases x <;> first | (simp [NF] at h; done) | skip
  rename_i cs;obtain ⟨a,h1,h2⟩:=CS l cs h;exact ⟨⟨a,h1⟩,by rw [h2]⟩
 flat a:=kv_scal a.1
theorem eqC_kv:∀ a b:List KV,a.map KV.kd=b.map KV.kd->zL ((a.map KV.kd).map JK) (a.map KV.av) (b.map KV.av)=some (decide (a=b))
 | [],[],_=>rfl
 | [],_ :: _,h=>by simp at h
 | _ :: _,[],h=>by simp at h
 | a :: r,b :: r',h=>by
  simp only [yg,List.cons.injEq] at h;have ih:=eqC_kv r r' h.2;cases a <;> cases b <;> simp only [KV.kd,reduceCtorEq,Option.some.injEq,false_and] at h
  ·obtain ⟨rfl,h⟩:=h;rename_i n m;by_cases e:n=m
   ·subst e; simp [KV.kd,KV.av,JK,zL,ih,-y0]
   ·simp [KV.kd,KV.av,JK,zL,e]
  ·rename_i n m;by_cases e:n=m
   ·subst e; simp [KV.kd,KV.av,JK,zL,ih,-y0]
   ·simp [KV.kd,KV.av,JK,zL,e]
theorem nP {t:TypeId} {ks:List Nat} (h:TQ P t=some ks):sH P 8 t=some ks/\DJ P t=some true:=by
 unfold TQ at h;split at h
 ·cases h
 ·split at h
  ·rename_i ep; exact ⟨h,by simp [DJ,ep]⟩
  ·rename_i ep; exact ⟨h,by simp [DJ,ep]⟩
  ·cases h
theorem equal_kv {T:TypeId} {l:List (Option IntKind)} (ht:TQ P T=some (l.map JK)) (a b:AKey l) (w:World) :
  (Op.equal T (.agg ((a.1.map KV.av).map AV.scalV).toArray) (.agg ((b.1.map KV.av).map AV.scalV).toArray)).run P w=.ok (decide (a=b)) w:=by
 obtain ⟨hk,hA⟩:=nP ht;have he:=eqC_kv a.1 b.1 (a.2.trans b.2.symm);rw [a.2] at he;have hd:decide (a.1=b.1)=decide (a=b):=by
  by_cases h:a.1=b.1
  ·rw [decide_eq_true h,decide_eq_true (Subtype.ext h)]
  ·rw [decide_eq_false h,decide_eq_false fun e=>h (congrArg Subtype.val e)]
 rw [hd] at he;have hl:∀ c:AKey l,JA Ix.none (fun _ _=>False) w (c.1.map KV.av) (((c.1.map KV.av).map AV.scalV).toArray.toList.take (l.map JK).length):=fun c=>by
  rw [yx (by simp [<- c.2])];exact LD (ST (kv_scal c.1))
 exact (LT (ι:=Ix.none) (av:=fun _ _=>False) (fun t ks h=>qT 7 t ks h) 9992 hk hA (hl a) (hl b) he).2
theorem NN (em:Bool) (w:World):∀ (n:Nat) (t:TypeId) (ks:List Nat),sH P n t=some ks->∀ (d:Nat) (us:Array Value) (off:Nat),off + ks.length<=us.size->(∃ a,(part t us off).run P w=.ok a w/\(Instr.checkKey em (d + n) t a).run P w=.ok () w)/\(DJ P t=some true->off=0->(Instr.checkKey em (d + n) t (.agg us)).run P w=.ok () w)
 | 0,_,_,h=>by cases h
 | n + 1,t,ks,hk=>by
  intro d us off ab;have whole:DJ P t=some true->∀ vs:Array Value,ks.length<=vs.size->uC P t=some ks.length/\(Instr.checkKey em (d + (n + 1)) t (.agg vs)).run P w=.ok () w:=by
   intro hA vs hvs;unfold sH at hk;split at hk
   ·rename_i k fd;unfold DJ at hA;unfold mX at fd;split at fd <;> first | (cases fd; done) | (rename_i ht _; rw [ht] at hA; injection hA with hA; cases hA) | (rename_i ht; rw [ht] at hA; injection hA with hA; cases hA)
   ·split at hk
    ·rename_i m e ht;obtain ⟨l,hl,hk⟩:=y8.1 hk;split at hk
     ·rename_i hc;injection hk with hk;subst hk;obtain ⟨i,hi⟩:=PR hc.2.1;refine ⟨hc.2.2,?_⟩;have ac:i.size=l.length:=by
       have:=hc.2.1;simp only [uC,hi,yA,Option.some.injEq] at this;exact this
      have oh:(yD m l).flatten.length=m * l.length:=by simp
      rw [show d + (n + 1)=(d + n) + 1 from rfl,Instr.checkKey];simp only [Sem.run_bind,run_underlying ht,Result.andThen_ok];simp only [Std.Legacy.Range.forIn_eq_forIn_range',Std.Legacy.Range.size,Nat.sub_zero,Nat.add_one_sub_one,Nat.div_one];have each:∀ j∈List.range' 0 m,∃ a,(part e vs (j * P.cellsOf e)).run P w=.ok a w/\(Instr.checkKey em (d + n) e a).run P w=.ok () w:=fun j hj=>by
       have hjm:j<m:=by simpa using hj
       refine (NN em w n e l hl d vs (j * P.cellsOf e) ?_).1;rw [hc.1,<- yw];rw [oh] at hvs;exact Nat.le_trans (yX _ hjm) hvs
      generalize List.range' 0 m=is at each
      induction is with
      | nil=>simp
      | cons j is ih =>
       obtain ⟨a,p1,p2⟩:=each j (by simp);simp only [List.forIn_cons,Sem.run_bind,run_sizeOf w hi,Result.andThen_ok,p1,p2,Sem.run_pure];exact ih (fun y hy=>each y (by simp [hy]))
     ·cases hk
    ·rename_i fs ht;split at hk
     ·cases hk
     ·obtain ⟨l,hl,hk⟩:=y8.1 hk;split at hk
      ·rename_i hc;injection hk with hk;subst hk;refine ⟨hc,?_⟩;rw [show d + (n + 1)=(d + n) + 1 from rfl,Instr.checkKey];simp only [Sem.run_bind,run_underlying ht,Result.andThen_ok];rw [<- Array.forIn_toList];have go:∀ (L:List Field) (i:Nat) (l:List Nat),SP (sH P n) i L=some l->i + l.length<=vs.size->∀ f∈L,f.name≠"_"/\∃ a,(part f.type vs f.offset).run P w=.ok a w/\(Instr.checkKey em (d + n) f.type a).run P w=.ok () w:=by
        intro L
        induction L with
        | nil=>intro i l _ _ f hf; cases hf
        | cons g L ih =>
         intro i l hl ab f hf;unfold SP at hl;obtain ⟨l1,h1,hl⟩:=y8.1 hl;split at hl
         ·rename_i hn;obtain ⟨l2,h2,rfl⟩:=yh.1 hl;rw [yl] at ab;rcases yf.1 hf with rfl | hf
          ·exact ⟨hn.1,(NN em w n _ l1 h1 d vs f.offset (by rw [hn.2]; omega)).1⟩
          ·exact ih (i + l1.length) l2 h2 (by omega) f hf
         ·cases hl
       have each:=go fs.toList 0 l hl (by omega);clear go hl;generalize fs.toList=L at each
       induction L with
       | nil=>simp
       | cons f L ih =>
        obtain ⟨hn,a,p1,p2⟩:=each f (by simp);simp only [List.forIn_cons,Sem.run_bind,hn,ne_eq,not_false_eq_true,if_true,Result.andThen_ok,p1,p2,Sem.run_pure];exact ih (fun y hy=>each y (by simp [hy]))
      ·cases hk
    ·cases hk
  refine ⟨?_,fun hA h0=>(whole hA us (by omega)).2⟩;by_cases hA:DJ P t=some true
  ·obtain ⟨h1,h2⟩:=whole hA (us.extract off (off + ks.length)) (by simp; omega);exact ⟨_,(eR hA h1 us off).1,h2⟩
  ·have tc:=hk;unfold sH at hk;split at hk
   ·rename_i k fd;injection hk with hk;subst hk;simp only [yE,List.length_nil] at ab;have hu:us[off]?=some us[off]:=yY (by omega);have hp:=(C5 (w:=w) 0 fd hu hu).1;refine ⟨_,hp,?_⟩;unfold mX at fd;rw [show d + (n + 1)=(d + n) + 1 from rfl];split at fd
    ·rename_i ht _; simp [Instr.checkKey,run_underlying ht]
    ·rename_i ht _; simp [Instr.checkKey,run_underlying ht]
    ·rename_i ht _; simp [Instr.checkKey,run_underlying ht]
    ·cases fd
   ·split at hk
    ·rename_i ht; exact absurd (by simp [DJ,ht]) hA
    ·rename_i ht; exact absurd (by simp [DJ,ht]) hA
    ·cases hk
theorem find_kv {T:TypeId} {l:List (Option IntKind)} (ht:TQ P T=some (l.map JK)) (a:AKey l) (w:World):∀ (es:List MapEntry) (L:List (AKey l × Value)) (m:Nat),es.map (fun e=>(e.key,e.val))=L.map (fun p=>(Value.agg ((p.1.1.map KV.av).map AV.scalV).toArray,p.2)) →
  (Instr.findAsking T (.agg ((a.1.map KV.av).map AV.scalV).toArray) es m).run P w=.ok (RG L a m) w
 | [],[],m,_=>by simp [Instr.findAsking,RG]
 | [],_ :: _,_,h=>by simp at h
 | _ :: _,[],_,h=>by simp at h
 | e :: es,p :: L,m,h=>by
  simp only [yg,List.cons.injEq,Prod.mk.injEq] at h;obtain ⟨⟨h1,h2⟩,h3⟩:=h;have ih:=find_kv ht a w es L (m + 1) h3;have he:=equal_kv (P:=P) ht a p.1 w;simp only [Instr.findAsking,Sem.run_bind,h1,he,Result.andThen_ok,eN,Sem.run_ite];by_cases hk:a=p.1
  ·simp [hk,h2]
  ·simp [hk,ih,-y0]
theorem MZ {T:TypeId} {l:List (Option IntKind)} (ht:TQ P T=some (l.map JK)):GO P T (fun a:AKey l=>Value.agg ((a.1.map KV.av).map AV.scalV).toArray) where
 check empty a w:=by
  obtain ⟨hk,hA⟩:=nP ht;exact (NN empty w 8 T _ hk 9992 _ 0 (by simp [<- a.2])).2 hA rfl
 find a es L w h:=by
  have hu:∃ desc,P.underlying T=some desc/\∀ x e,Instr.sameNow desc (.agg x) e=none:=by
   obtain ⟨hk,hA⟩:=nP ht;unfold DJ at hA;cases hd:P.underlying T with
   | none=>rw [hd] at hA; cases hA
   | some desc =>
    refine ⟨desc,rfl,fun x e=>?_⟩;cases desc <;> rfl
  obtain ⟨desc,hu,hn⟩:=hu;cases es with
  | nil =>
   cases L with
   | nil=>simp [Instr.findKey,run_underlying hu,Instr.findNow]
   | cons=>simp at h
  | cons e es =>
   have:=find_kv ht a w (e :: es) L 0 h;simp only [Instr.findKey,Sem.run_bind,run_underlying hu,Result.andThen_ok,Instr.findNow,hn,this,RG,yG]
 same a:=by
  have hq:∀ l:List KV,(((l.map KV.av).map AV.scalV).zip ((l.map KV.av).map AV.scalV)).all (fun (x,y)=>Instr.sameBits 9999 x y)=true:=by
   intro l
   induction l with
   | nil=>rfl
   | cons c r ih =>
    simp only [yg,List.zip_cons_cons,List.all_cons,ih,Bool.and_true];cases c <;> simp [KV.av,AV.scalV,Instr.sameBits,U6]
  show Instr.sameBits (9999 + 1) _ _=true;simp only [Instr.sameBits,beq_self_eq_true,Bool.true_and];exact hq a.1
theorem zero_run {e:TypeId} {z:AV} (h:((P.info? e).bind (·.zero)).bind avC=some z) (w:World):∃ zv,(zeroValue e).run P w=.ok zv w/\avC zv=some z:=by
 obtain ⟨zv,h1,h2⟩:=y8.1 h;obtain ⟨i,hi,hz⟩:=y8.1 h1;exact ⟨zv,by simp [zeroValue,typeInfo,hi,hz],h2⟩
theorem F4 {κ:Type} [DecidableEq κ] {ke:κ->Value} {kx:κ->AV} {ty:KTy} (R:iC P O nt B F0 aa w0 D s a w ι Θ) (K:zQ ty κ ke kx) {t n:Nat} {v:Value} (hv:qB ι (SC aa ι Θ) (PC ι Θ) w (.mp t n) v) {L:List (List AV)} (hL:(s.obj t n).bind ZI=some L) (hk:AI ty L=true) :
  ∃ (b:Nat) (H:Nat->Prop) (M:List (κ × AV)),v=.map (some b)/\ι t n=some b/\ι.ob t n=some H/\(∀ x,H x ↔ x=b)/\L=M.map (fun p=>[kx p.1,p.2])/\(∀ p∈M,p.2.flat=true)/\QO ke w b (M.map fun p=>(p.1,p.2.flatV))/\∃ es clock,w.heap[b]?=some (.map es clock)/\RZ es clock:=by
 obtain ⟨b,hb,rfl⟩:=hv;obtain ⟨S,hS,hm⟩:=y8.1 hL;obtain ⟨p,H,hp,pb,sc,_⟩:=R.objs t n S hS;rw [hb] at hp;injection hp with hp;subst hp;have kw:S=OG L:=by
  unfold ZI at hm;split at hm
  ·injection hm with hm; subst hm; rfl
  ·cases hm
 subst kw;obtain ⟨hH,es,clock,he,uf,db⟩:=(O.maps L H b w).1 sc;obtain ⟨M,rfl,hf⟩:=PY K L hk;exact ⟨b,H,M,rfl,hb,pb,hH,rfl,hf,⟨es,clock,he,uf.trans (AY K M)⟩,es,clock,he,db⟩
theorem RY {κ:Type} [DecidableEq κ]:∀ {M:List (κ × AV)} {n:κ} {x:AV},(∀ p∈M,p.2.flat=true)->xL M n=some x->x.flat=true
 | [],_,_,_,h=>by cases h
 | p :: r,n,x,hf,h=>by
  unfold xL at h;split at h
  ·injection h with h; subst h; exact hf p yk
  ·exact RY (fun q hq=>hf q (yp _ hq)) h
theorem fW {κ:Type} [DecidableEq κ] {ke:κ->Value} {kx:κ->AV} {ty:KTy} (R:iC P O nt B F0 aa w0 D s a w ι Θ) (K:zQ ty κ ke kx) {T kT eT:TypeId} (KL:GO P kT ke) (hT:P.underlying T=some (.map kT eT)) {zero:AV} (hz:((P.info? eT).bind (·.zero)).bind avC=some zero) (hzf:zero.flat=true)
  {X I:Operand} {y i:LB} (hx:opd X=some y) (hi:opd I=some i) {ok:Bool} (ho:o.op=.lookup T X I ok) {t n:Nat} (hy:y.get s=.mp t n) {L:List (List AV)} (hL:(s.obj t n).bind ZI=some L) (hk:AI ty L=true) (bc:NF ty (i.get s)=true) :
  dR P aa a w ι Θ o ⟨if ok then .tup [(DI L (i.get s)).getD zero,.bool (DI L (i.get s)).isSome] else (DI L (i.get s)).getD zero,.no⟩:=by
 have hX:=(R.opd hx).1;have hI:=(R.opd hi).1;rw [hy] at hX;obtain ⟨b,H,M,hv,hb,pb,hH,rfl,hf,sc,_⟩:=F4 R K hX hL hk;obtain ⟨k,hkx⟩:=K.of _ bc;rw [hkx] at hI ⊢;have hkf:(kx k).flat=true:=K.flat k;have hIv:a.eval I=ke k:=(ER hkf hI).trans (K.val k);obtain ⟨zv,hzr,hzc⟩:=zero_run hz w;have hzv:=avC_flat hzc hzf;rw [SY K];have nd:(xL (M.map fun p=>(p.1,p.2.flatV)) k).getD zv=((xL M k).getD zero).flatV:=by
  rw [FV,hzv];cases xL M k <;> rfl
 have cj:((xL M k).getD zero).flat=true:=by
  cases hg:xL M k with
  | none=>exact hzf
  | some x=>exact RY hf hg
 cases ok with
 | false =>
  have ia:=sc.lookup KL hT hzr k;rw [nd] at ia;refine ⟨((xL M k).getD zero).flatV,by simp only [execOp,ho,hv,hIv,Sem.run_bind,ia,Result.andThen_ok,Sem.run_pure],?_,trivial⟩;exact flat_S cj
 | true =>
  have ia:=sc.lookup_ok KL hT hzr k;rw [nd] at ia;have om:(xL (M.map fun p=>(p.1,p.2.flatV)) k).isSome=(xL M k).isSome:=by rw [FV]; cases xL M k <;> rfl
  rw [om] at ia;refine ⟨.tuple #[((xL M k).getD zero).flatV,.bool (xL M k).isSome],by simp only [execOp,ho,hv,hIv,Sem.run_bind,ia,Result.andThen_ok,Sem.run_pure],?_,trivial⟩;refine ⟨_,rfl,_,_,rfl,?_,_,_,rfl,rfl,rfl⟩;exact eH (bN cj)
theorem QO.updateS {κ:Type} [DecidableEq κ] {P:Program} {T kT eT:TypeId} {ke:κ->Value} {w:World} {m:Nat} {L:List (κ × Value)} (h:QO ke w m L) (K:GO P kT ke) (hT:P.underlying T=some (.map kT eT)) {es0:Array MapEntry} {cl0:Nat} (h0:w.heap[m]?=some (.map es0 cl0)) (db:RZ es0 cl0) (k:κ) (v:Value) :
  ∃ es clock,(Instr.mapUpdate T (.map (some m)) (ke k) v).run P w=.ok () { w with heap:=w.heap.setIfInBounds m (.map es clock) }/\es.toList.map (fun e=>(e.key,e.val))=(wY L k v).map (fun p=>(ke p.1,p.2))/\RZ es clock:=by
 obtain ⟨es,clock,h1,h2⟩:=h;rw [h1] at h0;injection h0 with h0;injection h0 with e1 e2;subst e1;subst e2;obtain ⟨s1,s2⟩:=db;have hg:(getObj m).run P w=.ok (.map es clock) w:=by simp [getObj,Sem.run,h1]
 have hf:=K.find k es.toList L w h2;have hi:=idx_set L k v;have hl:es.toList.length=L.length:=by simpa using congrArg List.length h2
 cases hq:(L.map (·.1)).idxOf? k with
 | none =>
  rw [hq] at hf hi;refine ⟨es.push { key:=ke k,val:=v,born:=clock },clock + 1,?_,by rw [hi]; simp [h2],by simp [s1],fun i h=>?_⟩
  case refine_2 =>
   simp only [Array.size_push] at h;simp only [Array.getElem_push];split
   ·exact s2 _ _
   ·show clock=i;omega
  case refine_1 =>
   simp only [Instr.mapUpdate,Sem.run_bind,run_underlying hT,Result.andThen_ok,hg,K.check,hf,Option.bind_none];simp [setObj,Sem.run,h1]
 | some i =>
  rw [hq] at hf hi;have tg:i<L.length:=by have:=List.idxOf?_eq_some_iff.1 hq; simpa using this.1
  have hk:(L[i]).1=k:=by have:=List.idxOf?_eq_some_iff.1 hq; simpa using this.2.1
  have lg:i<es.size:=by
   have:es.size=L.length:=by simpa using hl
   omega
  have bc:(es[i]).key=ke k:=by
   have:=congrArg (fun l=>(l[i]?).map (·.1)) h2;simp only [yc,Array.getElem?_toList,yY lg,yA,y4 tg,hk,Option.some.injEq] at this;exact this
  refine ⟨es.modify i fun e=>{ e with key:=ke k,val:=v },clock,?_,?_,by simp [s1],fun j h=>?_⟩
  case refine_3 =>
   simp only [Array.getElem_modify];split <;> exact s2 _ _
  case refine_1 =>
   have hL:L[i]?=some L[i]:=y4 tg;have he:es[i]?=some es[i]:=yY lg;simp only [Instr.mapUpdate,Sem.run_bind,run_underlying hT,Result.andThen_ok,hg,K.check,hf,V,hL,yA,he,Option.getD_some,bc];simp [Instr.keyThatStays,K.same,setObj,Sem.run,h1]
  case refine_2 =>
   rw [hi];apply List.ext_getElem?;intro j;have hj:=congrArg (fun l=>l[j]?) h2;simp only [yc,Array.getElem?_toList] at hj;simp only [yc,Array.getElem?_toList,Array.getElem?_modify,List.getElem?_set];by_cases hij:i=j
   ·subst hij;simp [yY lg,tg]
   ·simp only [if_neg hij];exact hj
theorem RN {κ:Type} [DecidableEq κ] {ke:κ->Value} {kx:κ->AV} {ty:KTy} (R:iC P O nt B F0 aa w0 D s a w ι Θ) (K:zQ ty κ ke kx) {T kT eT:TypeId} (KL:GO P kT ke) (hT:P.underlying T=some (.map kT eT))
  {X I Y:Operand} {x i y:LB} (hx:opd X=some x) (hi:opd I=some i) (hyo:opd Y=some y) (ho:o.op=.mapUpdate T X I Y\/o.op=.insert T X I Y) (hd:∀ d,o.dst=some d->d<nt) {t n:Nat} (kc:x.get s=.mp t n) {L:List (List AV)} (hL:(s.obj t n).bind ZI=some L) (hk:AI ty L=true) (bc:NF ty (i.get s)=true) (hvf:(y.get s).flat=true) :
  ∃ w',(execOp a.eval o).run P w=.ok .skip w'/\KD P O nt B F0 aa w0 D ((s.setObj t n (OG (lG L (i.get s) (y.get s)))).put o.dst ⟨.undef,.no⟩) (a.put o.dst undef) w':=by
 have hX:=(R.opd hx).1;have hI:=(R.opd hi).1;have hY:=ER hvf (R.opd hyo).1;rw [kc] at hX;obtain ⟨b,H,M,hv,hb,pb,hH,rfl,hf,sc,es0,cl0,hes0,px⟩:=F4 R K hX hL hk;obtain ⟨k,hkx⟩:=K.of _ bc;rw [hkx] at hI ⊢;have hkf:(kx k).flat=true:=K.flat k;have hIv:a.eval I=ke k:=(ER hkf hI).trans (K.val k);have da:=sc.lt;obtain ⟨es,clock,ia,uf,db⟩:=sc.updateS KL hT hes0 px k (y.get s).flatV;rw [G5] at uf;have mi:O.at_ (OG (lG (M.map fun p=>[kx p.1,p.2]) (kx k) (y.get s))) H b { w with heap:=w.heap.setIfInBounds b (.map es clock) }:=by
  refine (O.maps _ _ _ _).2 ⟨hH,es,clock,by simp [da],?_,db⟩;rw [DY K,AY K];exact uf
 have jj:ID H w { w with heap:=w.heap.setIfInBounds b (.map es clock) }:=⟨rfl,rfl,rfl,by simp,fun j _ hn=>by
  have:j≠b:=fun e=>hn ((hH j).2 e)
  simp only [Array.getElem?_setIfInBounds];rw [if_neg fun e:b=j=>this e.symm]⟩
 obtain ⟨ι',R2,_⟩:=R.turnObj hb pb mi (N1.no rfl) (fun x hx=>.inl hx) jj;refine ⟨_,by rcases ho with ho | ho <;> simp only [execOp,ho,hv,hIv,hY,Sem.run_bind,ia,Result.andThen_ok,Sem.run_pure],ι',Θ,R2.putN (x:=⟨.undef,.no⟩) hd trivial trivial⟩
section
variable (R:iC P O nt B F0 aa w0 D s a w ι Θ)
include R
theorem op_mkm {T:TypeId} (ho:o.op=.makeMap T none) {d:Nat} (ca:o.dst=some d) (hd:d<nt) (hD:¬ D d) :
  ∃ v w',(execOp a.eval o).run P w=.ok (.value v) w'/\KD P O nt B F0 aa w0 (fun t=>D t\/t=d) ((s.setObj d s.next (OG [])).put (some d) ⟨.mp d s.next,.no⟩) (a.put o.dst v) w':=by
 have ia:(execOp a.eval o).run P w=.ok (.value (.map (some w.heap.size))) (w.alloc (.map #[] 0)):=by
  simp [execOp,ho,Instr.makeMap]
 have hb:Below w.heap.size w (w.alloc (.map #[] 0)):=Below.alloc (Below.refl _ _) (ym _) _;obtain ⟨ι',R2,hι,_⟩:=R.newObj (d:=d) (p:=w.heap.size) (H:=fun b=>b=w.heap.size) (S:=OG []) hb hD ((O.maps _ _ _ _).2 ⟨fun b=>Iff.rfl,#[],0,XQ rfl,rfl,rfl,fun i h=>absurd h (by simp)⟩) (N1.no rfl) (fun b h=>Nat.le_of_eq h.symm);rw [ca];exact ⟨_,_,ia,ι',Θ,R2.put (x:=⟨.mp d s.next,.no⟩) hd ⟨_,hι,rfl⟩ trivial⟩
theorem op_rng {T kT eT:TypeId} (hT:P.underlying T=some (.map kT eT)) {X:Operand} {x:LB} (hx:opd X=some x) (ho:o.op=.range T X) {t n:Nat} (kc:x.get s=.mp t n) {L:List (List AV)} (hL:(s.obj t n).bind ZI=some L) {d:Nat} (ca:o.dst=some d) (hd:d<nt) (hD:¬ D d) :
  ∃ v w',(execOp a.eval o).run P w=.ok (.value v) w'/\KD P O nt B F0 aa w0 (fun t=>D t\/t=d) ((s.setObj d s.next (XZ t n L.length [])).put (some d) ⟨.ptr d s.next 0,.no⟩) (a.put o.dst v) w':=by
 have hX:=(R.opd hx).1;rw [kc] at hX;obtain ⟨b,hb,hv⟩:=hX;obtain ⟨S,hS,hm⟩:=y8.1 hL;obtain ⟨p,H,hp,pb,sc,_⟩:=R.objs t n S hS;rw [hb] at hp;injection hp with hp;subst hp;have kw:S=OG L:=by
  unfold ZI at hm;split at hm
  ·injection hm with hm; subst hm; rfl
  ·cases hm
 subst kw;obtain ⟨hH,es,clock,he,uf,hc,_⟩:=(O.maps L H b w).1 sc;have ja:es.size=L.length:=by simpa using congrArg List.length uf
 have hg:(getObj b).run P w=.ok (.map es clock) w:=by simp [getObj,Sem.run,he]
 have ia:(execOp a.eval o).run P w=.ok (.value (.pointer (some ⟨w.heap.size,0,none⟩))) (w.alloc (.mapIter (some b) clock #[] clock)):=by
  simp only [execOp,ho,hv,Instr.range,Sem.run_bind,run_underlying hT,Result.andThen_ok,hg,Sem.run_pure,run_newObj_alloc]
 have eg:Below w.heap.size w (w.alloc (.mapIter (some b) clock #[] clock)):=Below.alloc (Below.refl _ _) (ym _) _;obtain ⟨ι',R2,hι,_⟩:=R.newObj (d:=d) (p:=w.heap.size) (H:=fun b=>b=w.heap.size) (S:=XZ t n L.length []) eg hD ((O.iters _ _ _ _ (by rw [qV]; rfl)).2 ⟨fun b=>Iff.rfl,by simp⟩) (fun tm nm N seen e=>by
  rw [qV] at e;injection e with e;injection e with g1 e;injection e with g2 e;injection e with g3 g4;subst g1; subst g2; subst g3; subst g4;exact ⟨b,H,hb,pb,by rw [<- ja,<- hc]; exact XQ rfl⟩) (fun b h=>Nat.le_of_eq h.symm)
 rw [ca];exact ⟨_,_,ia,ι',Θ,R2.put (x:=⟨.ptr d s.next 0,.no⟩) hd ⟨_,hι,rfl⟩ trivial⟩
theorem val_ent {X:Operand} {x:LB} (hx:opd X=some x) (ho:o.op=.entry X) {t n tm nm N:Nat} {seen:List Nat} (kc:x.get s=.ptr t n 0) (hi:(s.obj t n).bind BV=some (tm,nm,N,seen)) {L:List (List AV)} (hL:(s.obj tm nm).bind ZI=some L) {i:Nat} (hl:seen.getLast?=some i) (hN:L.length=N) {y v:AV} (iq:L[i]?=some [y,v]) (oh:(y.flat&&v.flat)=true) :
  dR P aa a w ι Θ o ⟨.tup [y,v],.no⟩:=by
 have hX:=(R.opd hx).1;rw [kc] at hX;obtain ⟨q,hq,hv⟩:=hX;obtain ⟨S,hS,pk⟩:=y8.1 hi;obtain ⟨p,H,hp,pb,sc,bk⟩:=R.objs t n S hS;rw [hq] at hp;injection hp with hp;subst hp;obtain ⟨m,Hm,hm,hobm,oa⟩:=bk tm nm N seen pk;obtain ⟨S2,hS2,uq⟩:=y8.1 hL;obtain ⟨p2,H2,ai,cu,nz,_⟩:=R.objs tm nm S2 hS2;rw [hm] at ai;injection ai with ai;subst ai;have kw:S2=OG L:=by
  unfold ZI at uq;split at uq
  ·injection uq with uq; subst uq; rfl
  ·cases uq
 subst kw;obtain ⟨hH2,es,clock,he,uf,hc,db⟩:=(O.maps L H2 m w).1 nz;have tz:es.size=N:=by rw [<- hN]; simpa using congrArg List.length uf
 have hgq:(getObj q).run P w=.ok (.mapIter (some m) N seen.toArray N) w:=by simp [getObj,Sem.run,oa]
 have lv:(getObj m).run P w=.ok (.map es clock) w:=by simp [getObj,Sem.run,he]
 have ij:i<es.size:=by
  have:=(y9.1 iq).1;omega
 have pp:seen.toArray.back?=some i:=by simpa using hl
 have hfind:es.find? (fun e=>e.born == i)=some es[i]:=by
  rw [Array.find?_eq_some_iff_getElem];refine ⟨by simp [db i ij],i,ij,rfl,fun j hj=>?_⟩;simp only [db j (by omega),Bool.not_eq_true'];simp;omega
 have hkv:es[i].key=y.flatV/\es[i].val=v.flatV:=by
  have:=congrArg (fun l=>l[i]?) uf;simp only [yc,iq,Array.getElem?_toList,yY ij,yA,Option.some.injEq,entV] at this;exact ⟨congrArg Prod.fst this,congrArg Prod.snd this⟩
 rw [y7] at oh;have bd:(clock != N)=false:=by simp [hc,tz]
 refine ⟨.tuple #[y.flatV,v.flatV],?_,?_,trivial⟩
 ·simp only [execOp,ho,hv,Instr.entry,Sem.run_bind,hgq,lv,pp,Result.andThen_ok,bd,yr,if_false,hfind,hkv.1,hkv.2,Sem.run_pure]
 ·exact ⟨_,rfl,_,_,rfl,eH (bN oh.1),_,_,rfl,eH (bN oh.2),rfl⟩
end
theorem avOf_nilP {v:Value} (h:EX v=some .nilP):v=.pointer none:=by
 unfold EX at h;split at h <;> first | rfl | (injection h with h; cases h; done) | (cases h; done)
theorem avOf_nil {v:Value} (h:EX v=some (.sl true [])):v=.slice none 0 0:=by
 unfold EX at h;split at h <;> first | rfl | (injection h with h; cases h; done) | (cases h; done)
theorem isBld_eq {l:List AV} (h:isBld l=true):l=[.nilP,.sl true []]:=by
 unfold isBld at h;split at h
 ·rfl
 ·cases h
theorem avAll_bld {vs:List Value} (h:BK vs=some [.nilP,.sl true []]):vs=[.pointer none,.slice none 0 0]:=by
 cases vs with
 | nil=>cases h
 | cons v r =>
  simp only [BK] at h;split at h
  ·rename_i x l hx hl;injection h with h;injection h with h1 h2;subst h1;subst h2;cases r with
   | nil=>cases hl
   | cons v' r' =>
    simp only [BK] at hl;split at hl
    ·rename_i x' l' um ot;injection hl with hl;injection hl with h1 h2;subst h1;subst h2;cases r' with
     | nil=>rw [avOf_nilP hx,avOf_nil um]
     | cons v'' r'' =>
      simp only [BK] at ot;split at ot <;> cases ot
    ·cases hl
  ·cases h
section
variable (R:iC P O nt B F0 aa w0 D s a w ι Θ)
include R
theorem op_mkb {T e:TypeId} (zc:bldEl P T=some e) (ho:o.op=.alloc T) {d:Nat} (ca:o.dst=some d) (hd:d<nt) (hD:¬ D d) :
  ∃ v w',(execOp a.eval o).run P w=.ok (.value v) w'/\KD P O nt B F0 aa w0 (fun t=>D t\/t=d) ((s.setObj d s.next (bldAV T e ⟨#[]⟩)).put (some d) ⟨.ptr d s.next 0,.no⟩) (a.put o.dst v) w':=by
 obtain ⟨l,hl,hb⟩:∃ l,aL P T=some l/\isBld l=true:=by
  unfold bldEl at zc;split at zc
  ·rename_i h; exact yh.1 h
  ·cases zc
 obtain ⟨z,i,hi,tp,hrz,dl⟩:=UH hl w;rw [isBld_eq hb] at dl;have hzc:z.cells=#[.pointer none,.slice none 0 0]:=by
  apply Array.ext';exact avAll_bld dl
 have ia:(execOp a.eval o).run P w=.ok (.value (.pointer (some ⟨w.heap.size,0,none⟩))) (w.alloc (.cells #[.pointer none,.slice none 0 0] T)):=by
  simp [execOp,ho,Instr.alloc,newVar,newRow,hrz,hzc]
 have hb:Below w.heap.size w (w.alloc (.cells #[.pointer none,.slice none 0 0] T)):=Below.alloc (Below.refl _ _) (ym _) _;obtain ⟨ι',R2,hι,_⟩:=R.newObj (d:=d) (p:=w.heap.size) (H:=fun b=>b=w.heap.size) (S:=bldAV T e ⟨#[]⟩) hb hD ((O.blds _ _ _ _ _ _).2 ⟨.slice none 0 0,.pointer none,XQ rfl,.inl rfl,World.ownsRowF_nil _ _ _ _,by simp [Value.ownBlock],fun b=>by simp [Value.ownBlock]⟩) (N1.no rfl) (fun b h=>Nat.le_of_eq h.symm);rw [ca];exact ⟨_,_,ia,ι',Θ,R2.put (x:=⟨.ptr d s.next 0,.no⟩) hd ⟨_,hι,rfl⟩ trivial⟩
theorem op_mlen {T:TypeId} {kT eT:TypeId} (hT:P.underlying T=some (.map kT eT)) {X:Operand} {x:LB} (hx:opd X=some x) (ho:o.op=.call { callee:=.builtin .len,args:=#[X],argTypes:=#[T] }) {t n:Nat} (kc:x.get s=.mp t n) {L:List (List AV)} (hL:(s.obj t n).bind ZI=some L) :
  dR P aa a w ι Θ o ⟨.int .i64 L.length,.no⟩:=by
 have hX:=(R.opd hx).1;rw [kc] at hX;obtain ⟨b,hb,hv⟩:=hX;obtain ⟨S,hS,hm⟩:=y8.1 hL;obtain ⟨p,H,hp,pb,sc,_⟩:=R.objs t n S hS;rw [hb] at hp;injection hp with hp;subst hp;have kw:S=OG L:=by
  unfold ZI at hm;split at hm
  ·injection hm with hm; subst hm; rfl
  ·cases hm
 subst kw;obtain ⟨hH,es,clock,he,uf,_⟩:=(O.maps L H b w).1 sc;have ja:es.size=L.length:=by simpa using congrArg List.length uf
 have hg:(getObj b).run P w=.ok (.map es clock) w:=by simp [getObj,Sem.run,he]
 refine ⟨.int .i64 L.length,?_,by rw [kB],trivial⟩;simp [execOp,ho,resolve,invoke,builtin,Builtin.len_,run_underlying hT,hv,hg,goInt,ja]
theorem iC.turnNew {t n p:Nat} {H H':Nat->Prop} {S':AV} (hp:ι t n=some p) (pb:ι.ob t n=some H) (sc:O.at_ S' H' p w') (bk:N1 ι S' p w') (hH:∀ b,H' b->H b\/w.heap.size<=b) (hk:ID H w w')
  {d g:Nat} (hD:¬ D d) (hg:w.heap.size<=g) (hgH:¬ H' g) {cur:Array Value} {ty:TypeId} (hgw:w'.heap[g]?=some (.cells cur ty (0,0))) {l:List AV} (hl:l.all AV.scal=true) (me:∀ (j:Nat) (x:AV),l[j]?=some x->cur[j]?=some x.scalV) (nk:l.length<=cur.size) :
  ∃ ι':Ix,iC P O nt B F0 aa w0 (fun j=>D j\/j=d) ((s.setObj t n S').setRow d s.next (l.map (⟨·,.no⟩))) a w' ι' Θ/\ι' d s.next=some g/\ι'.z g=cur.size:=by
 obtain ⟨zo,cu⟩:=R.obs t n H pb;have wz:=OA hgw;have ee:ι d s.next=none:=by
  cases h:ι d s.next with
  | none=>rfl
  | some b =>
   rcases (R.mine _ _ _ h).2.2 with h1 | h1
   ·omega
   ·exact absurd h1.2 hD
 have fe:ι.ob d s.next=none:=by
  cases h:ι.ob d s.next with
  | none=>rfl
  | some b =>
   rcases (R.obs _ _ _ h).2 with h1 | h1
   ·omega
   ·exact absurd h1.2 hD
 have hnd:¬ (t=d/\n=s.next):=fun e=>by rw [e.1,e.2,ee] at hp; cases hp
 obtain ⟨ι',hι'⟩:∃ ι':Ix,ι'=⟨fun t' n'=>if t'=d/\n'=s.next then some g else ι t' n',fun t' n'=>if t'=t/\n'=n then some H' else ι.ob t' n',fun b=>if b=g then cur.size else ι.z b⟩:=⟨_,rfl⟩;have hf:∀ t' n' b,ι' t' n'=some b->(t'=d/\n'=s.next/\b=g)\/(¬ (t'=d/\n'=s.next)/\ι t' n'=some b):=fun t' n' b h=>by
  subst hι';have h':(if t'=d/\n'=s.next then some g else ι t' n')=some b:=h;split at h'
  ·rename_i e; injection h' with h'; exact .inl ⟨e.1,e.2,h'.symm⟩
  ·rename_i e; exact .inr ⟨e,h'⟩
 have ei:∀ t' n' H1,ι'.ob t' n'=some H1->(t'=t/\n'=n/\H1=H')\/(¬ (t'=t/\n'=n)/\ι.ob t' n'=some H1):=fun t' n' H1 h=>by
  subst hι';simp only at h;split at h
  ·rename_i e; injection h with h; exact .inl ⟨e.1,e.2,h.symm⟩
  ·rename_i e; exact .inr ⟨e,h⟩
 have nc:∀ t n b,ι t n=some b->ι' t n=some b:=fun t n b h=>by
  subst hι';show (if t=d/\n=s.next then some g else ι t n)=some b;split
  ·rename_i e; rw [e.1,e.2,ee] at h; cases h
  ·exact h
 have wb:ι' d s.next=some g:=by subst hι'; show (if d=d/\s.next=s.next then some g else ι d s.next)=_; rw [if_pos ⟨rfl,rfl⟩]
 have bx:ι'.ob t n=some H':=by subst hι'; simp
 have iu:∀ t' n',¬ (t'=t/\n'=n)->ι'.ob t' n'=ι.ob t' n':=fun t' n' e=>by subst hι'; simp only [if_neg e]
 have hzg:ι'.z g=cur.size:=by subst hι'; simp
 have wg:∀ t1 n1 b1 H1,ι t1 n1=some b1->ι.ob t1 n1=some H1->ι' t1 n1=some b1/\∃ H2,ι'.ob t1 n1=some H2:=fun t1 n1 b1 H1 g1 g2=>⟨nc _ _ _ g1,by
  by_cases e:t1=t/\n1=n
  ·exact ⟨H',by rw [e.1,e.2]; exact bx⟩
  ·exact ⟨H1,by rw [iu _ _ e]; exact g2⟩⟩
 have ab:Ix.Le ι ι':=⟨nc,fun t n b h=>by
  have:=(R.mine t n b h).2.1;subst hι';show (if b=g then cur.size else ι.z b)=ι.z b;rw [if_neg (by omega)]⟩
 clear hι';have ac:=hk.size;have ur:=R.lowB;have ej:∀ b o,b<w.heap.size->PC ι' Θ b o->PC ι Θ b o:=fun b o hb h=>h.imp (fun h=>h.imp (fun ⟨t',n',h⟩=>by
  rcases hf _ _ _ h with ⟨_,_,e⟩ | ⟨_,h⟩
  ·omega
  ·exact ⟨t',n',h⟩) fun ⟨t',n',H1,h1,h2⟩=>by
  rcases ei _ _ _ h1 with ⟨e1,e2,e3⟩ | ⟨_,h1⟩
  ·subst e3;rcases hH b h2 with h3 | h3
   ·exact ⟨t,n,H,pb,h3⟩
   ·omega
  ·exact ⟨t',n',H1,h1,h2⟩) id
 have sb:∀ b o u,w.cell? ⟨b,o,none⟩=some u->¬ H b->w'.cell? ⟨b,o,none⟩=some u:=fun b o u hc hn=>(World.cell?_of_block (w:=w) (a:=⟨b,o,none⟩) (hk.block b (WI hc) hn)).trans hc
 have hB:BA (PC ι Θ) (PC ι' Θ) w w':=⟨fun b o u hc hn=>⟨sb b o u hc fun h=>hn (.inl (.inr ⟨t,n,H,pb,h⟩)),fun h=>hn (ej b o (WI hc) h)⟩⟩;have hA:BA (SC aa ι Θ) (SC aa ι' Θ) w w':=⟨fun b o u hc hn=>⟨sb b o u hc fun h=>hn (.inr (.inl (.inr ⟨t,n,H,pb,h⟩))),fun h=>hn (h.imp id (ej b o (WI hc)))⟩⟩;refine ⟨ι',⟨R.defers,R.size,fun j=>qB.held ab hA hB _ _ (R.env j),R.ann,fun t' n' r hr=>?_,fun t' n' b h=>?_,fun t1 n1 t2 n2 b h h'=>?_,fun k o h=>?_,R.tinj,fun k o t' n' h h'=>?_,R.out,fun p' h=>⟨nc _ _ _ (R.pin p' h).1,?_⟩,?_,R.base,fun t' n' S1 h=>?_,fun t' n' H1 h=>?_,fun j=>qB.held ab hA hB _ _ (R.gen j),R.gann⟩,wb,hzg⟩
 ·simp only [aA.setRow] at hr;split at hr
  ·rename_i e;injection hr with hr;subst hr;have hoo:ι'.ob t' n'=none:=by
    rw [iu t' n' (fun e'=>hnd ⟨e'.1.symm.trans e.1,e'.2.symm.trans e.2⟩),e.1,e.2];exact fe
   refine ⟨hoo,g,cur,ty,by rw [e.1,e.2]; exact wb,hgw,⟨by simpa using nk,fun j x hx=>?_⟩,by omega,hzg.symm⟩;rw [yc] at hx;cases hj:l[j]? with
   | none=>rw [hj] at hx; cases hx
   | some y =>
    rw [hj] at hx;injection hx with hx;subst hx;have hy:=y5.1 hl y (yj hj);have hr:=HN (av:=SC aa ι' Θ) (w:=w') hy;exact ⟨_,me j y hj,hr.2,CK hr.1,trivial⟩
  ·have lf:s.mem t' n'=some r:=hr;obtain ⟨h0,b,nb,lq,h1,h2,h3,h8,h9⟩:=R.rows t' n' r lf;have na:¬ (t'=t/\n'=n):=fun e=>by rw [e.1,e.2,pb] at h0; cases h0
   have hbn:¬ H b:=fun hb=>na ((zo b hb).2.2.1 t' n' h1)
   exact ⟨by rw [iu _ _ na]; exact h0,b,nb,lq,nc _ _ _ h1,(hk.block b (OA h2) hbn).trans h2,h3.held ab hA (fun _ _ h=>h),h8,h9.trans (ab.z _ _ _ h1).symm⟩
 ·rcases hf _ _ _ h with ⟨e1,e2,e3⟩ | ⟨_,h⟩
  ·subst e3;exact ⟨.inl (by omega),wz,.inr ⟨e2,.inr e1⟩⟩
  ·obtain ⟨h1,h2,h3⟩:=R.mine t' n' b h;exact ⟨h1,by omega,h3.imp id fun ⟨e,d⟩=>⟨e,.inl d⟩⟩
 ·rcases hf _ _ _ h with ⟨e1,e2,e3⟩ | ⟨_,h⟩ <;> rcases hf _ _ _ h' with ⟨f1,f2,f3⟩ | ⟨_,h'⟩
  ·exact ⟨e1.trans f1.symm,e2.trans f2.symm⟩
  ·have:=(R.mine _ _ _ h').2.1; omega
  ·have:=(R.mine _ _ _ h).2.1; omega
  ·exact R.inj _ _ _ _ _ h h'
 ·obtain ⟨h1,h2,h3,h4,nb,h5,h6⟩:=R.tok k o h;exact ⟨h1,h2,h3,h4,nb,(hk.block _ (OA h5) (R.apob h pb)).trans h5,h6⟩
 ·obtain ⟨_,_,_,_,nb,h5,_⟩:=R.tok k o h;have da:=OA h5;rcases hf _ _ _ h' with ⟨_,_,e⟩ | ⟨_,h'⟩
  ·omega
  ·exact R.apart k o t' n' h h'
 ·rcases (R.pin p' h).2 with hr0 | ⟨H1,h1⟩
  ·exact .inl ⟨hr0.1,(ab.z _ _ _ (R.pin p' h).1).trans hr0.2⟩
  refine .inr ?_;by_cases e:0=t/\0=n
  ·exact ⟨H',by rw [<- e.1,<- e.2] at bx; exact bx⟩
  ·exact ⟨H1,by rw [iu _ _ e]; exact h1⟩
 ·refine R.kept.trans hk fun i hi h=>?_
  have:=R.base;rcases (zo i h).1 with h1 | h1
  ·omega
  ·exact h1
 ·simp only [aA.setRow,aA.setObj] at h;split at h
  ·rename_i e;injection h with h;subst h;exact ⟨p,H',by rw [e.1,e.2]; exact nc _ _ _ hp,by rw [e.1,e.2]; exact bx,sc,bk.keep wg fun x hx=>hx⟩
  ·rename_i e;obtain ⟨p1,H1,h1,h2,h3,h4⟩:=R.objs t' n' S1 h;have fq:∀ b,H1 b->¬ H b:=fun b hb ua=>e ((zo b ua).2.2.2.2 t' n' H1 h2 hb)
   exact ⟨p1,H1,nc _ _ _ h1,by rw [iu _ _ e]; exact h2,O.keep h3 (fun b hb=>hk.block b (O.lt h3 hb) (fq b hb)) ac,h4.keep wg fun x hx=>(hk.block _ (OA hx) (fq _ (O.main h3))).trans hx⟩
 ·rcases ei _ _ _ h with ⟨e1,e2,e3⟩ | ⟨e,h⟩
  ·subst e1; subst e2; subst e3;refine ⟨fun b hb=>?_,cu.imp id fun ⟨e,d⟩=>⟨e,.inl d⟩⟩;have hbg:b≠g:=fun e=>hgH (e ▸ hb)
   rcases hH b hb with h1 | h1
   ·obtain ⟨g1,g2,g3,g4,g5⟩:=zo b h1;refine ⟨g1,by omega,fun t1 n1 h2=>?_,g4,fun t1 n1 H2 h2 h3=>?_⟩
    ·rcases hf _ _ _ h2 with ⟨_,_,e⟩ | ⟨_,h2⟩
     ·exact absurd e hbg
     ·exact g3 t1 n1 h2
    ·rcases ei _ _ _ h2 with ⟨e1,e2,_⟩ | ⟨_,h2⟩
     ·exact ⟨e1,e2⟩
     ·exact g5 t1 n1 H2 h2 h3
   ·refine ⟨.inl (by omega),O.lt sc hb,fun t1 n1 h2=>?_,fun k o h2 e=>?_,fun t1 n1 H2 h2 h3=>?_⟩
    ·rcases hf _ _ _ h2 with ⟨_,_,e⟩ | ⟨_,h2⟩
     ·exact absurd e hbg
     ·have:=(R.mine _ _ _ h2).2.1; omega
    ·obtain ⟨_,_,_,_,nb,h5,_⟩:=R.tok k o h2; have:=OA h5; omega
    ·rcases ei _ _ _ h2 with ⟨e1,e2,_⟩ | ⟨_,h2⟩
     ·exact ⟨e1,e2⟩
     ·have:=((R.obs _ _ _ h2).1 b h3).2.1; omega
  ·obtain ⟨h1,h2⟩:=R.obs t' n' H1 h;refine ⟨fun b hb=>?_,h2.imp id fun ⟨e,d⟩=>⟨e,.inl d⟩⟩;obtain ⟨g1,g2,g3,g4,g5⟩:=h1 b hb;refine ⟨g1,by omega,fun t1 n1 h2=>?_,g4,fun t1 n1 H2 h2 h3=>?_⟩
   ·rcases hf _ _ _ h2 with ⟨_,_,e'⟩ | ⟨_,h2⟩
    ·omega
    ·exact g3 t1 n1 h2
   ·rcases ei _ _ _ h2 with ⟨e1,e2,e3⟩ | ⟨_,h2⟩
    ·subst e3;rcases hH b h3 with h4 | h4
     ·have:=g5 t n H pb h4;exact absurd ⟨this.1.symm,this.2.symm⟩ e
     ·omega
    ·exact g5 t1 n1 H2 h2 h3
theorem op_callf {call:AB} (wa:∀ f args S r,call f args S=some r->xD P O f args S r) {f:FuncId} {Xs:Array Operand} {ts:Array TypeId} {xs:List LB} (hx:HH Xs.toList=some xs) (ho:o.op=.call { callee:=.value (.func f),args:=Xs,argTypes:=ts }) (hd:∀ d,o.dst=some d->d<nt) (hD:∀ d,o.dst=some d->¬ D d) {cl:Cl} {sz:Nat} (ac:0<sz) {xe:qA × nD} (hr:(K.callf cl f sz xs).run call s=some xe) {g} {s':aA} (he:UA.eff ⟨o.dst,.callf cl f sz xs,g⟩ s xe=some s')
  {Kn:Act->World->Prop} {Q:Exit->Act->World->Prop} (hK:∀ a' w',KD P O nt B F0 aa w0 (fun t=>D t\/o.dst=some t) s' a' w'->Kn a' w'):o.wp P a w Kn Q:=by
 simp only [K.run] at hr;obtain ⟨vs,hl,hr⟩:=y8.1 hr;have ic:(Xs.toList.map a.eval).toArray=Xs.map a.eval:=by rw [<- Array.toList_map,yQ]
 have ff:∀ b o,SC aa ι Θ b o->b<w.heap.size:=fun b o h=>R.low h
 split at hr
 ·rename_i t n gp;obtain ⟨r,hc,hr⟩:=y8.1 hr;split at hr
  ·rename_i l S';split at hr
   ·rename_i ba;obtain ⟨om,ge,hscal,hni⟩:=ba;obtain ⟨S,hS⟩:=Option.isSome_iff_exists.1 om;rw [hS] at hc;have ra:bZ P O f vs (some S) (.sl false l,some S'):=xD.own (HP hl) (wa f (.undef :: vs) (some S) _ hc);obtain ⟨p,H,hp,pb,sc,_⟩:=R.objs t n S hS;have lc:=eL (ι':=Ix.one p) (avl:=fun b _=>H b) R (fun b _ h=>⟨t,n,H,pb,h⟩) hx hl fun x hx t' n' h=>by
     have:(t',n')∈TJ s xs:=List.mem_filterMap.2 ⟨x,hx,by rw [h]⟩;rw [gp] at this;have:=List.mem_singleton.1 this;injection this with e1 e2;rw [e1,e2,hp];rfl
    have ia:(execOp a.eval o).run P w=.ok (.enter f (Xs.map a.eval)) w:=by
     simp only [execOp,ho,resolve,Act.eval,Deferred.ofValue,Sem.run_bind,Sem.run_pure,Result.andThen_ok,invoke];have:=ra.1 (#[]++Xs.map a.eval++#[]) w;simp only [Array.empty_append,Array.append_empty] at this ⊢;exact this
    unfold Oper.wp;rw [ia,Oper.upon_enter];have hC:=ra.2 (SC aa ι Θ) w _ p H ff (fun b o h=>.inr (.inl (.inr ⟨t,n,H,pb,h⟩))) sc lc;rw [ic] at hC;refine hC.mono ?_;rintro e w' ⟨v,H',rfl,hv,mi,hH,hk⟩;split at hr
    ·rename_i ls;injection hr with hr;subst hr;simp only [UA.eff] at he;injection he with he;subst he;have ug:l=[]:=by simpa using ls
     subst ug;obtain ⟨ι',R',sd⟩:=R.turnObj hp pb mi (N1.no hni) hH hk;have tx:∃ A c,v=.slice A 0 c/\(A=none->c=0):=by
      rcases hv with ⟨_,A,c,h1,h2⟩ | ⟨g,c,cur,ty,h1,_⟩
      ·exact ⟨A,c,h1,h2⟩
      ·exact ⟨_,c,h1,fun h=>by cases h⟩
     obtain ⟨A,c,rfl,hA⟩:=tx;refine hK _ _ ⟨ι',Θ,(R'.putN (x:=⟨.sl false [],.no⟩) hd ?_ trivial).more fun _ h=>.inl h⟩;rw [tE];simp only [bE,List.length_nil];exact ⟨A,c,rfl,Nat.zero_le _,(fun x hx=>by cases hx),(fun h=>by cases h),fun _=>⟨hA,fun h=>absurd h (Nat.lt_irrefl 0)⟩⟩
    ·rename_i ls;injection hr with hr;subst hr;cases ca:o.dst with
     | none=>simp [UA.eff,ca] at he
     | some d =>
      simp only [UA.eff,ca] at he;injection he with he;subst he;have na:l≠[]:=fun h=>ls (by simp [h])
      have fb:0<l.length:=List.length_pos_iff.2 na;rcases hv with ⟨h0,_⟩ | ⟨g,c,cur,ty,rfl,h2,h3,h4,h5,h6,h7⟩
      ·exact absurd h0 na
      ·have js:=h6 sz ge fb;have oh:l.flatten.length=l.length * sz:=by
        have hind:∀ q:List (List AV),lB sz q=true->q.flatten.length=q.length * sz:=fun q=>by
         induction q with
         | nil=>simp
         | cons c r ih =>
          intro h;rw [AQ] at h;simp only [y7,decide_eq_true_eq] at h;rw [yz,yl,ih h.2,h.1,yE,yw];omega
        exact hind l ge
       have hsc:l.flatten.all AV.scal=true:=by
        rw [List.all_flatten];exact hscal
       obtain ⟨ι',R',hι,hz⟩:=R.turnNew (d:=d) (g:=g) hp pb mi (N1.no hni) hH hk (hD d ca) h2 h3 h4 hsc h7 (by rw [oh]; exact Nat.le_trans (yX _ h5) js);refine hK _ _ ⟨ι',Θ,?_⟩;rw [ca];exact (R'.put (x:=⟨.ref d s.next sz 0 l.length l.length,.no⟩) (hd d ca) ⟨g,hι,ym _,c,h5,by rw [hz,yG]; exact js,rfl⟩ trivial).more fun t h=>h.imp id fun e=>by rw [e]
   ·cases hr
  ·cases hr
 ·cases hr
end
end
end
section
open Go Go.RowKit
section
variable {P:Program} {O:AH} {nt B:Nat} {F0:OO} {aa:Av} {w0:World} {D:Nat->Prop} {s:aA} {a:Act} {w w':World} {ι:Ix} {Θ:dL} {o:Oper}
theorem rC (R:iC P O nt B F0 aa w0 D s a w ι Θ) {x:qA} {e:nD} (hv:e=.none/\dR P aa a w ι Θ o x) (hd:∀ d,o.dst=some d->d<nt) {k:K} {g} {s':aA} (he:UA.eff ⟨o.dst,k,g⟩ s (x,e)=some s')
  {Kn:Act->World->Prop} {Q:Exit->Act->World->Prop} (hK:∀ a' w',KD P O nt B F0 aa w0 D s' a' w'->Kn a' w'):o.wp P a w Kn Q:=by
 obtain ⟨rfl,v,ia,hS,hA⟩:=hv;simp only [UA.eff] at he;cases he;unfold Oper.wp;rw [ia,Oper.upon_value];exact hK _ _ ⟨ι,Θ,R.putN hd hS hA⟩
theorem run_wp {s':aA} (h:∃ v w',(execOp a.eval o).run P w=.ok (.value v) w'/\KD P O nt B F0 aa w0 D s' (a.put o.dst v) w')
  {Kn:Act->World->Prop} {Q:Exit->Act->World->Prop} (hK:∀ a' w',KD P O nt B F0 aa w0 D s' a' w'->Kn a' w'):o.wp P a w Kn Q:=by
 obtain ⟨v,w',ia,hR⟩:=h;unfold Oper.wp;rw [ia,Oper.upon_value];simp_all
theorem jD {α β:Type} {x:Option α} {f:α->β} {z:β} (h:x.map f=some z):∃ a,x=some a/\f a=z:=by
 simp_all
theorem op_sound (R:iC P O nt B F0 aa w0 D s a w ι Θ) {call:AB} (wa:∀ f args S r,call f args S=some r->xD P O f args S r) {cl:Cl} {mu:Option Bool} {nest:Bool} {k:K} (hk:D6 P cl mu o.op nest=some k) (xo:mu≠none->o.dst≠none) (hd:∀ d,o.dst=some d->d<nt) (hD:∀ d,o.dst=some d->(w7 k||ZS k)=true->¬ D d)
  {xe:qA × nD} (hr:k.run call s=some xe) {g} {s':aA} (he:UA.eff ⟨o.dst,k,g⟩ s xe=some s')
  {Kn:Act->World->Prop} {Q:Exit->Act->World->Prop} (hK:∀ a' w',KD P O nt B F0 aa w0 (fun t=>D t\/o.dst=some t) s' a' w'->Kn a' w'):o.wp P a w Kn Q:=by
 have td:∀ a' w',KD P O nt B F0 aa w0 D s' a' w'->Kn a' w':=fun a' w' ⟨ι',Θ',h⟩=>hK a' w' ⟨ι',Θ',h.more fun _ h=>.inl h⟩
 have wb:∀ d,o.dst=some d->(∃ v w',(execOp a.eval o).run P w=.ok (.value v) w'/\KD P O nt B F0 aa w0 (fun t=>D t\/t=d) s' (a.put o.dst v) w')->o.wp P a w Kn Q:=fun d ca h =>
  run_wp h fun a' w' ⟨ι',Θ',h⟩=>hK a' w' ⟨ι',Θ',h.more fun t h=>h.imp id fun e=>by rw [ca,e]⟩
 obtain ⟨x,e⟩:=xe;cases kb:o.op <;> rw [kb] at hk <;> simp only [D6] at hk
 case move X=>obtain ⟨y,hy,rfl⟩:=jD hk; simp only [K.run] at hr; injection hr with hr; injection hr with h1 h2; subst h1; subst h2; exact rC R ⟨rfl,val_mv R hy (.inl kb)⟩ hd he td
 case assign X=>obtain ⟨y,hy,rfl⟩:=jD hk; simp only [K.run] at hr; injection hr with hr; injection hr with h1 h2; subst h1; subst h2; exact rC R ⟨rfl,val_mv R hy (.inr kb)⟩ hd he td
 case pick C X Y =>
  split at hk
  ·rename_i c x' y' hc hx hy;cases hk;simp only [K.run] at hr;split at hr
   ·rename_i t ht;injection hr with hr; injection hr with h1 h2; subst h1; subst h2;exact rC R ⟨rfl,val_pick R hc hx hy kb ht⟩ hd he td
   ·cases hr
  ·cases hk
 case alloc t =>
  split at hk
  case h_2 =>
   obtain ⟨el,zc,rfl⟩:=jD hk;simp only [K.run] at hr;injection hr with hr; injection hr with h1 h2; subst h1; subst h2;cases ca:o.dst with
   | none=>simp [UA.eff,ca] at he
   | some d =>
    simp only [UA.eff,ca] at he;cases he;exact wb d ca (op_mkb R zc kb ca (hd d ca) (hD d ca rfl))
  obtain ⟨z,hz,rfl⟩:=jD hk;cases ca:o.dst with
  | none=>simp [K.run] at hr; obtain ⟨rfl,rfl⟩:=hr; simp [UA.eff,ca] at he
  | some d=>exact wb d ca (op_alloc R hz kb ca (hd d ca) (hD d ca rfl) hr he)
 case box t X =>
  split at hk
  ·rename_i z x' hz hx;cases hk;cases ca:o.dst with
   | none =>
    simp only [K.run] at hr;split at hr
    ·split at hr
     ·injection hr with hr; injection hr with h1 h2; subst h1; subst h2; simp [UA.eff,ca] at he
     ·cases hr
    ·split at hr
     ·injection hr with hr; injection hr with h1 h2; subst h1; subst h2; simp [UA.eff,ca] at he
     ·cases hr
   | some d=>exact wb d ca (op_boxE R hx kb ca (hd d ca) (hD d ca rfl) hr he)
  ·cases hk
 case build t ps =>
  split at hk
  ·rename_i fs z ys ht hz hy;split at hk
   ·rename_i pl nn;obtain ⟨zs,zn,rfl⟩:=jD hk;obtain ⟨zv,i,hi,tp,_,hl⟩:=UH hz w;refine rC R (kZ R hl (pl:=(pl.toArray[·]?)) ?_ hy zn kb hr) hd he td;simp [Program.built,hi,ht,tp,nn]
   ·cases hk
  ·rename_i n el z ys ht hz hy;split at hk
   ·rename_i ie lg;obtain ⟨zs,zn,rfl⟩:=jD hk;obtain ⟨zv,i,hi,tp,_,hl⟩:=UH hz w;refine rC R (kZ R hl (pl:=fun i=>some (i * ie.size,ie.size)) ?_ hy zn kb hr) hd he td;simp [Program.built,hi,ht,tp,lg]
   ·cases hk
  ·cases hk
 case buildSlice t n ps =>
  split at hk
  ·rename_i el ys ht hy;split at hk
   ·rename_i z kk hz hs;split at hk
    ·rename_i hc;cases mu with
     | none =>
      simp only at hk;cases hk;obtain ⟨rfl,v,w',ia,R',hS,hA⟩:=op_bsl R ht hz hs hc.1 hc.2.1 hc.2.2 hy kb hr;simp only [UA.eff] at he;cases he;unfold Oper.wp;rw [ia,Oper.upon_value];exact td _ _ ⟨ι,Θ,R'.putN hd hS hA⟩
     | some m =>
      simp only at hk;cases hk;cases ca:o.dst with
      | none=>exact absurd ca (xo (by simp))
      | some d=>exact wb d ca (op_bslr R ht hz hs hc.1 hc.2.1 hc.2.2 hy kb ca (hd d ca) (hD d ca rfl) hr he)
    ·cases hk
   ·cases hk
  ·cases hk
 case load t X =>
  split at hk
  ·rename_i ag z y hA hz hx;cases hk;exact rC R (val_load R hA hz hx kb hr) hd he td
  ·cases hk
 case store t X Y =>
  split at hk
  ·rename_i ag z x' y' hA hz hx hy;split at hk
   ·rename_i mz;cases hk;obtain ⟨w',ia,hR⟩:=op_store R hz (by simpa using mz) hx hy kb hd hr he;unfold Oper.wp;rw [ia,Oper.upon_skip];simp_all
   ·cases hk
  ·cases hk
 case nilCheck X=>obtain ⟨y,hy,rfl⟩:=jD hk; exact rC R (N7 R hy kb hr) hd he td
 case binOp op t X Y t' =>
  split at hk
  ·rename_i x' y' hx hy;split at hk
   ·cases hk;simp only [K.run] at hr;obtain ⟨v,hv,hr⟩:=jD hr;injection hr with h1 h2; subst h1; subst h2
    refine rC R ⟨rfl,val_bin R (fun hb=>?_) hx hy kb hv⟩ hd he td
    grind
   ·split at hk
    ·split at hk
     ·rename_i el ht; injection hk with hk; subst hk; exact rC R (uV R (neg:=false) (ptr:=false) ⟨el,ht⟩ hx hy kb hr) hd he td
     ·rename_i el ht; injection hk with hk; subst hk; exact rC R (uV R (neg:=false) (ptr:=true) ⟨el,ht⟩ hx hy kb hr) hd he td
     ·obtain ⟨ks,ht,rfl⟩:=jD hk; exact rC R (val_eqa R (neg:=false) ht hx hy kb hr) hd he td
    ·split at hk
     ·rename_i el ht; injection hk with hk; subst hk; exact rC R (uV R (neg:=true) (ptr:=false) ⟨el,ht⟩ hx hy kb hr) hd he td
     ·rename_i el ht; injection hk with hk; subst hk; exact rC R (uV R (neg:=true) (ptr:=true) ⟨el,ht⟩ hx hy kb hr) hd he td
     ·obtain ⟨ks,ht,rfl⟩:=jD hk; exact rC R (val_eqa R (neg:=true) ht hx hy kb hr) hd he td
    ·cases hk
  ·cases hk
 case unOp op t X =>
  split at hk
  ·obtain ⟨y,hy,rfl⟩:=jD hk; exact rC R (val_un R hy kb hr) hd he td
  ·cases hk
 case convert t t' X =>
  split at hk
  ·rename_i j kk x' h1 h2 hx; injection hk with hk; subst hk; exact rC R (r6 R (k:=some kk) ⟨⟨j,h1⟩,h2⟩ hx kb hr) hd he td
  ·rename_i x' h1 h2 hx; injection hk with hk; subst hk; exact rC R (r6 R (k:=none) ⟨h1,h2⟩ hx kb hr) hd he td
  ·rename_i j x' h1 h2 hx; injection hk with hk; subst hk; exact rC R (val_rstr R h1 h2 hx kb hr) hd he td
  ·rename_i el x' h1 h2 hx;split at hk
   ·rename_i h3;split at hk
    ·injection hk with hk; subst hk; exact rC R (val_bstr R h1 h3 h2 hx kb hr) hd he td
    ·cases hk
   ·cases hk
  ·cases hk
 case makeSlice t L C =>
  split at hk
  ·rename_i el l c ht hl hc;split at hk
   ·rename_i z i hz hi;split at hk
    ·rename_i ba;cases hk;cases ca:o.dst with
     | none =>
      simp only [K.run] at hr;split at hr
      ·split at hr
       ·injection hr with hr; injection hr with h1 h2; subst h1; subst h2; simp [UA.eff,ca] at he
       ·cases hr
      ·cases hr
     | some d=>exact wb d ca (op_mks R ht hi hz ba.1 hl hc kb ca (hd d ca) (hD d ca rfl) hr he)
    ·cases hk
   ·cases hk
  ·cases hk
 case slice t X L H M =>
  split at hk
  ·rename_i x' l h m hx hl hh hm;split at hk
   ·rename_i ht;cases hk;cases M with
    | none=>injection hm with hm; subst hm; exact rC R (val_slc R (str:=true) ht hx hl hh kb hr) hd he td
    | some M=>simp only [JU] at hm; obtain ⟨m',_,rfl⟩:=jD hm; simp [K.run] at hr
   ·rename_i el ht;split at hk
    ·rename_i dw;obtain ⟨z,hz,rfl⟩:=jD hk;rw [y7] at dw;exact rC R (val_slz R ht hz dw.1 dw.2 hx kb hr) hd he td
    ·obtain ⟨z,hz,rfl⟩:=jD hk;cases M with
     | none=>injection hm with hm; subst hm; exact rC R (val_slc R (str:=false) ⟨el,ht,hz⟩ hx hl hh kb hr) hd he td
     | some M=>simp only [JU] at hm; obtain ⟨m',_,rfl⟩:=jD hm; simp [K.run] at hr
   ·rename_i n' el ht;cases M with
    | none =>
     injection hm with hm; subst hm;obtain ⟨z,hz,rfl⟩:=jD hk;exact rC R (val_aslc R ht hz hx hl hh kb hr) hd he td
    | some M=>simp only [JU] at hm; obtain ⟨m',_,rfl⟩:=jD hm; cases hk
   ·cases hk
  ·cases hk
 case fieldAddr t X i =>
  split at hk
  ·rename_i fs x' ht hx;split at hk
   ·rename_i f hf;split at hk
    ·rename_i n hn; injection hk with hk; subst hk; exact rC R (val_faddr R ht hf hn hx kb hr) hd he td
    ·cases hk
   ·cases hk
  ·cases hk
 case field t X i =>
  split at hk
  ·rename_i fs x' ht hx;split at hk
   ·rename_i f hf;split at hk
    ·rename_i ag z hA hz; injection hk with hk; subst hk; exact rC R (val_field R ht hf hA hz hx kb hr) hd he td
    ·cases hk
   ·cases hk
  ·cases hk
 case indexAddr t X I =>
  split at hk
  ·rename_i el x' i' ht hx hi;obtain ⟨z,hz,rfl⟩:=jD hk;exact rC R (val_iaddr R ht hz hx hi kb hr) hd he td
  ·rename_i n' e x' i' ht hx hi;obtain ⟨z,hz,rfl⟩:=jD hk;exact rC R (val_aaddr R ht hz hx hi kb hr) hd he td
  ·cases hk
 case index t X I =>
  split at hk
  ·rename_i x' i' ht hx hi;cases hk;exact rC R (val_index R ht hx hi kb hr) hd he td
  ·cases hk
 case makeMap t r =>
  split at hk
  ·rename_i kT eT ht;obtain ⟨ty,rb,rfl⟩:=jD hk;simp only [K.run] at hr;injection hr with hr; injection hr with h1 h2; subst h1; subst h2;cases ca:o.dst with
   | none=>simp [UA.eff,ca] at he
   | some d =>
    simp only [UA.eff,ca] at he;cases he;have h:=op_mkm R kb ca (hd d ca) (hD d ca rfl);exact wb d ca h
  ·cases hk
 case entry X =>
  obtain ⟨x',hx,rfl⟩:=jD hk;simp only [K.run] at hr;split at hr
  ·rename_i t' n kc;split at hr
   ·rename_i tm nm N seen hi;split at hr
    ·rename_i L i hL hl;split at hr
     ·rename_i hN;split at hr
      ·rename_i y v iq;split at hr
       ·rename_i oh;injection hr with hr; injection hr with h1 h2; subst h1; subst h2;exact rC R ⟨rfl,val_ent R hx kb kc hi hL hl hN iq oh⟩ hd he td
       ·cases hr
      ·cases hr
     ·cases hr
    ·cases hr
   ·cases hr
  ·cases hr
 case range t X =>
  split at hk
  ·rename_i kT eT ht;obtain ⟨x',hx,rfl⟩:=jD hk;simp only [K.run] at hr;split at hr
   ·rename_i t' n kc;split at hr
    ·rename_i L hL;injection hr with hr; injection hr with h1 h2; subst h1; subst h2;cases ca:o.dst with
     | none=>simp [UA.eff,ca] at he
     | some d =>
      simp only [UA.eff,ca] at he;cases he;have h:=op_rng R ht hx kb kc hL ca (hd d ca) (hD d ca rfl);exact wb d ca h
    ·cases hr
   ·cases hr
  ·cases hk
 case lookup t X I ok =>
  split at hk
  ·rename_i kT eT x' i' ht hx hi;split at hk
   ·rename_i ty z rb hz;cases hk;simp only [K.run] at hr;split at hr
    ·rename_i t' n kc;split at hr
     ·rename_i L hL;split at hr
      ·rename_i ba;injection hr with hr; injection hr with h1 h2; subst h1; subst h2;unfold qW at rb;split at rb
       ·rename_i kk tb;cases rb;exact rC R ⟨rfl,fW R (NS kk) (o0 tb) ht hz ba.2.2 hx hi kb kc hL ba.1 ba.2.1⟩ hd he td
       ·rename_i tb;cases rb;exact rC R ⟨rfl,fW R MS (Q0 tb) ht hz ba.2.2 hx hi kb kc hL ba.1 ba.2.1⟩ hd he td
       ·obtain ⟨l,_,rb⟩:=y8.1 rb;split at rb
        ·rename_i oh;cases rb;exact rC R ⟨rfl,fW R (BS l) (MZ oh.1) ht hz ba.2.2 hx hi kb kc hL ba.1 ba.2.1⟩ hd he td
        ·cases rb
      ·cases hr
     ·cases hr
    ·cases hr
   ·cases hk
  ·cases hk
 case mapUpdate t X I Y =>
  split at hk
  ·rename_i kT eT x' i' y' ht hx hi hy;obtain ⟨ty,rb,rfl⟩:=jD hk;simp only [K.run] at hr;split at hr
   ·rename_i t' n kc;split at hr
    ·rename_i L hL;split at hr
     ·rename_i ba;injection hr with hr; injection hr with h1 h2; subst h1; subst h2;simp only [UA.eff] at he;cases he;have key:∃ w',(execOp a.eval o).run P w=.ok .skip w'/\KD P O nt B F0 aa w0 D ((s.setObj t' n (OG (lG L (i'.get s) (y'.get s)))).put o.dst ⟨.undef,.no⟩) (a.put o.dst undef) w':=by
       unfold qW at rb;split at rb
       ·rename_i kk tb;cases rb;exact RN R (NS kk) (o0 tb) ht hx hi hy (.inl kb) hd kc hL ba.1 ba.2.1 ba.2.2
       ·rename_i tb;cases rb;exact RN R MS (Q0 tb) ht hx hi hy (.inl kb) hd kc hL ba.1 ba.2.1 ba.2.2
       ·obtain ⟨l,_,rb⟩:=y8.1 rb;split at rb
        ·rename_i oh;cases rb;exact RN R (BS l) (MZ oh.1) ht hx hi hy (.inl kb) hd kc hL ba.1 ba.2.1 ba.2.2
        ·cases rb
      obtain ⟨w',ia,hR⟩:=key;unfold Oper.wp;rw [ia,Oper.upon_skip];simp_all
     ·cases hr
    ·cases hr
   ·cases hr
  ·cases hk
 case insert t X I Y =>
  split at hk
  ·rename_i kT eT x' i' y' ht hx hi hy;obtain ⟨ty,rb,rfl⟩:=jD hk;simp only [K.run] at hr;split at hr
   ·rename_i t' n kc;split at hr
    ·rename_i L hL;split at hr
     ·rename_i ba;injection hr with hr; injection hr with h1 h2; subst h1; subst h2;simp only [UA.eff] at he;cases he;have key:∃ w',(execOp a.eval o).run P w=.ok .skip w'/\KD P O nt B F0 aa w0 D ((s.setObj t' n (OG (lG L (i'.get s) (y'.get s)))).put o.dst ⟨.undef,.no⟩) (a.put o.dst undef) w':=by
       unfold qW at rb;split at rb
       ·rename_i kk tb;cases rb;exact RN R (NS kk) (o0 tb) ht hx hi hy (.inr kb) hd kc hL ba.1 ba.2.1 ba.2.2
       ·rename_i tb;cases rb;exact RN R MS (Q0 tb) ht hx hi hy (.inr kb) hd kc hL ba.1 ba.2.1 ba.2.2
       ·obtain ⟨l,_,rb⟩:=y8.1 rb;split at rb
        ·rename_i oh;cases rb;exact RN R (BS l) (MZ oh.1) ht hx hi hy (.inr kb) hd kc hL ba.1 ba.2.1 ba.2.2
        ·cases rb
      obtain ⟨w',ia,hR⟩:=key;unfold Oper.wp;rw [ia,Oper.upon_skip];simp_all
     ·cases hr
    ·cases hr
   ·cases hr
  ·cases hk
 case extract X i=>obtain ⟨y,hy,rfl⟩:=jD hk; exact rC R (val_ext R hy kb hr) hd he td
 case call c =>
  obtain ⟨callee,xs,ts⟩:=c;cases callee with
  | invoke r m=>cases hk
  | value f =>
   cases f with
   | func f =>
    have plain:(HH xs.toList).map (.call cl f)=some k->o.wp P a w Kn Q:=fun hk=>by
     obtain ⟨ys,hy,rfl⟩:=jD hk;exact op_call R wa hy kb hd (fun d h=>hD d h rfl) hr he hK
    cases mu with
    | none=>exact plain hk
    | some b =>
     cases b with
     | true =>
      obtain ⟨ys,hy,rfl⟩:=jD (show (HH xs.toList).map (.callr cl f)=some k from hk);exact op_callr R wa hy kb hd hr he hK
     | false =>
      have tc:(match P.funcs[f]? with
       | some fn=>(match fn.resultTypes.toList with
        | [t]=>(match P.underlying t with
         | some (.slice e)=>(match uC P e,HH xs.toList with
          | some z,some xs=>if 0<z then some (K.callf cl f z xs) else none
          | _,_=>none)
         | _=>none)
        | _=>none)
       | none=>none)=some k:=hk
      clear hk;split at tc
      ·split at tc
       ·split at tc
        ·split at tc
         ·rename_i z ys hz hy;split at tc
          ·rename_i fb;injection tc with tc;subst tc;exact op_callf R wa hy kb hd (fun d h=>hD d h rfl) fb hr he hK
          ·cases tc
         ·cases tc
        ·cases tc
       ·cases tc
      ·cases tc
   | tmp tf =>
    obtain ⟨ys,hy,rfl⟩:=jD hk;exact op_callv R wa hy kb hd hr he hK
   | _=>cases hk
  | builtin b =>
  cases b
  case len =>
   simp only at hk;split at hk
   ·rename_i x' t hx ep;have hts:ts=#[t]:=by have h0:=congrArg List.toArray ep; rwa [yQ] at h0
    subst hts;obtain ⟨X,hX,um⟩:∃ X,xs=#[X]/\opd X=some x':=by
     obtain ⟨l⟩:=xs
     match l,hx with
     | [X],hx =>
      unfold HH at hx
      grind
     | [],hx=>simp [HH] at hx
     | X :: Y :: r,hx =>
      unfold HH at hx;split at hx
      ·rename_i y l hy hl;injection hx with hx;injection hx with h1 h2;subst h2;unfold HH at hl
       grind
      ·cases hx
    subst hX;split at hk
    ·rename_i ht; injection hk with hk; subst hk; exact rC R (val_len R (str:=true) ht um kb hr) hd he td
    ·rename_i el ht; injection hk with hk; subst hk; exact rC R (val_len R (str:=false) ⟨el,ht⟩ um kb hr) hd he td
    ·rename_i kT eT ht;cases hk;simp only [K.run] at hr;split at hr
     ·rename_i t n kc;split at hr
      ·rename_i L hL;injection hr with hr; injection hr with h1 h2; subst h1; subst h2;exact rC R ⟨rfl,op_mlen R ht um kb kc hL⟩ hd he td
      ·cases hr
     ·cases hr
    ·cases hk
   ·cases hk
  case max =>
   simp only at hk;split at hk
   ·rename_i X Y be;have hX:xs=#[X,Y]:=by rw [<- yQ (xs:=xs),be]
    subst hX;split at hk
    ·rename_i x' y' hx hy;injection hk with hk; subst hk;simp only [K.run] at hr;obtain ⟨v,hv,hr⟩:=jD hr;injection hr with h1 h2; subst h1; subst h2;exact rC R ⟨rfl,val_mm R (mx:=true) hx hy kb hv⟩ hd he td
    ·cases hk
   ·cases hk
  case min =>
   simp only at hk;split at hk
   ·rename_i X Y be;have hX:xs=#[X,Y]:=by rw [<- yQ (xs:=xs),be]
    subst hX;split at hk
    ·rename_i x' y' hx hy;injection hk with hk; subst hk;simp only [K.run] at hr;obtain ⟨v,hv,hr⟩:=jD hr;injection hr with h1 h2; subst h1; subst h2;exact rC R ⟨rfl,val_mm R (mx:=false) hx hy kb hv⟩ hd he td
    ·cases hk
   ·cases hk
  case append =>
   simp only at hk;split at hk
   ·rename_i x' y' t t' hx ep;split at hk
    ·rename_i htt';subst htt';have hts:ts=#[t,t]:=by have h0:=congrArg List.toArray ep; rwa [yQ] at h0
     subst hts;obtain ⟨X,Y,hX,um,gv⟩:∃ X Y,xs=#[X,Y]/\opd X=some x'/\opd Y=some y':=by
      obtain ⟨l⟩:=xs;have key:∀ {r:List Operand} {ys:List LB},HH r=some ys->r.length=ys.length/\∀ j (h:j<r.length),opd r[j]=ys[j]?:=by
       intro r
       induction r with
       | nil=>intro ys h; injection h with h; subst h; exact ⟨rfl,fun j h=>by simp at h⟩
       | cons X r ih =>
        intro ys h;unfold HH at h
        grind
      obtain ⟨h1,h2⟩:=key hx
      match l,h1,h2 with
      | [X,Y],_,h2=>exact ⟨X,Y,rfl,h2 0 (by simp),h2 1 (by simp)⟩
     subst hX;split at hk
     ·rename_i el ht;split at hk
      ·rename_i i z hi hz;split at hk
       ·rename_i ba;injection hk with hk;cases mu with
        | some m =>
         cases ca:o.dst with
         | none=>exact absurd ca (xo (by simp))
         | some d =>
          cases m with
          | true =>
           cases nest with
           | true=>simp only [if_true] at hk; subst hk; exact wb d ca (X0 R ht hi hz ba.1 ba.2 um gv kb ca (hd d ca) (hD d ca rfl) hr he)
           | false=>simp only [yr,if_false] at hk; subst hk; exact wb d ca (op_appm R ht hi hz ba.1 ba.2 um gv kb ca (hd d ca) (hD d ca rfl) hr he)
          | false=>simp only at hk; subst hk; exact wb d ca (op_appf R ht hi hz ba.1 ba.2 um gv kb ca (hd d ca) (hD d ca rfl) hr he)
        | none =>
        simp only at hk;subst hk;cases ca:o.dst with
        | none =>
         have:∃ A,e=.app A 0:=by
          simp only [K.run] at hr
          grind
         obtain ⟨A,rfl⟩:=this;simp [UA.eff,ca] at he
        | some d=>exact run_wp (op_app R ht hi hz ba.1 ba.2 um gv kb ca (hd d ca) hr he) td
       ·cases hk
      ·cases hk
     ·cases hk
    ·cases hk
   ·cases hk
  all_goals cases hk
 case makeFunc fn fs Xs =>
  cases fn with
  | func f =>
   simp only at hk;split at hk
   ·rename_i h0;obtain ⟨ys,hy,rfl⟩:=jD hk;exact rC R (val_mkf R h0 hy kb hr) hd he td
   ·cases hk
  | _=>cases hk
 all_goals cases hk
end
end
section
section
variable {call:AB} {s s' s1 s2:aA}
inductive Tr where
 | id
 | row (t n:Nat) (r:List qA)
 | an (A:An) (d:Nat)
 | obj (t n:Nat) (S:AV)
 | rn (k:Option (Nat × Nat)) (t n:Nat) (r:List qA)
 | ob2 (t n:Nat) (S:AV) (d m:Nat) (r:List qA)
def Tr.ap:Tr->aA->aA
 | .id,s=>s
 | .row t n r,s=>s.setRow t n r
 | .an A d,s=>(s.stripA A).strip d
 | .obj t n S,s=>s.setObj t n S
 | .rn k t n r,s=>(s.killO k).setRow t n r
 | .ob2 t n S d m r,s=>(s.setObj t n S).setRow d m r
def Tr.f:Tr->An->An
 | .an A d,x=>match A with
  | .own k _=>(x.strip k).strip d
  | _=>x.strip d
 | _,x=>x
theorem Tr.ends (T:Tr):W6 T.f:=by
 cases T with
 | an A d =>
  have h:∀ k j e,(An.own j e).strip k≠.ex:=fun k j e=>by simp only [An.strip]; split <;> simp
  have h':∀ k k' j e,((An.own j e).strip k).strip k'≠.ex:=fun k k' j e=>by
   by_cases hj:j=k
   ·simp [An.strip,hj]
   ·rw [show (An.own j e).strip k=An.own j e from if_neg hj];exact h k' j e
  cases A with
  | own k e=>exact ⟨rfl,rfl,fun j e=>h' k d j e⟩
  | no=>exact ⟨rfl,rfl,fun j e=>h d j e⟩
  | ex=>exact ⟨rfl,rfl,fun j e=>h d j e⟩
 | _=>exact ⟨rfl,rfl,fun _ _ h=>by cases h⟩
theorem Tr.ap_an (A:An) (d:Nat) (s:aA):(Tr.an A d).ap s=s.mapAn (Tr.an A d).f:=by
 cases A with
 | own k e=>simp [Tr.ap,aA.stripA,aA.strip,aA.mapAn,qA.strip,Tr.f,Function.comp_def]
 | no=>rfl
 | ex=>rfl
def UA.runG (call:AB) (o:UA) (s:aA):Option (qA × nD) :=
 match o.guard with
 | none=>o.op.run call s
 | some (t,want)=>match (s.env t).v with
  | .bool b=>if b=want then o.op.run call s else some (⟨.tup [],.no⟩,.none)
  | .tup []=>some (⟨.tup [],.no⟩,.none)
  | _=>none
def UA.effT (o:UA) (next:Nat):qA × nD->Option (Tr × qA)
 | (x,.none)=>some (.id,x)
 | (x,.new r)=>match o.dst with
  | none=>none
  | some d=>some (.row d next r,⟨match x.v with | .ref _ _ sz off l c=>.ref d next sz off l c | _=>.ptr d next 0,.no⟩)
 | (x,.set t n r)=>some (.row t n r,x)
 | (x,.app a _)=>match o.dst with
  | none=>none
  | some d=>some (.an a d,⟨x.v,match x.a with | .own _ e=>.own d e | a=>a⟩)
 | (x,.obj t n S)=>some (.obj t n S,x)
 | (x,.mk S)=>match o.dst with
  | none=>none
  | some d=>some (.obj d next S,⟨x.v.named d next,.no⟩)
 | (x,.ob2 t n S r)=>match o.dst with
  | none=>none
  | some d=>some (.ob2 t n S d next r,⟨match x.v with | .ref _ _ sz off l c=>.ref d next sz off l c | _=>.ptr d next 0,.no⟩)
 | (x,.rn k r)=>match o.dst with
  | none=>none
  | some d=>some (.rn k d next r,⟨match x.v with | .ref _ _ sz off l c=>.ref d next sz off l c | _=>.ptr d next 0,.no⟩)
theorem nO (o:UA) (s:aA):o.step call s=(o.runG call s).bind fun p=>(o.effT s.next p).map fun q=>(q.1.ap s).put o.dst q.2:=by
 have h:∀ p,o.eff s p=(o.effT s.next p).map fun q=>(q.1.ap s).put o.dst q.2:=by
  rintro ⟨x,e⟩;cases e with
  | none=>rfl
  | new r=>simp only [UA.eff,UA.effT]; cases o.dst <;> rfl
  | set t n r=>rfl
  | app a k=>simp only [UA.eff,UA.effT]; cases o.dst <;> rfl
  | obj t n S=>rfl
  | mk S=>simp only [UA.eff,UA.effT]; cases o.dst <;> rfl
  | rn k r=>simp only [UA.eff,UA.effT]; cases o.dst <;> rfl
  | ob2 t n S r=>simp only [UA.eff,UA.effT]; cases o.dst <;> rfl
 have hf:o.eff s=fun p=>(o.effT s.next p).map fun q=>(q.1.ap s).put o.dst q.2:=funext h
 unfold UA.step UA.runG;rw [<- hf];cases o.guard with
 | none=>rfl
 | some p =>
  obtain ⟨t,want⟩:=p;simp only;generalize (s.env t).v=y;cases y with
  | bool b=>simp only; split <;> rfl
  | tup l=>cases l <;> rfl
  | _=>rfl
theorem bO (k:K) {x:qA} {e:nD} (h:k.run call s=some (x,e)):match e with
    | .none=>True
    | .new _=>w7 k=true
    | .set t _ _=>isS k=true/\∃ c,k.cl=some c/\c.okPtr t=true
    | .app _ _=>isT k=true
    | .obj _ _ _=>ZS k=true/\isR k=false
    | .mk _=>ZS k=true/\isR k=false
    | .rn _ _=>isM k=true
    | .ob2 _ _ _ _=>ZS k=true/\isR k=false/\w7 k=true:=by
  have hn:e=.none->(match e with
    | .none=>True
    | .new _=>w7 k=true
    | .set t _ _=>isS k=true/\∃ c,k.cl=some c/\c.okPtr t=true
    | .app _ _=>isT k=true
    | .obj _ _ _=>ZS k=true/\isR k=false
    | .mk _=>ZS k=true/\isR k=false
    | .rn _ _=>isM k=true
    | .ob2 _ _ _ _=>ZS k=true/\isR k=false/\w7 k=true):=fun h=>by subst h; trivial
  cases k with
  | callh nt x xs=>cases h
  | nxt x=>cases h
  | ent x =>
    simp only [K.run] at h;split at h
    · split at h
      · split at h
        · split at h
          · split at h
            · split at h
              · injection h with h; injection h with _ h; exact hn h.symm
              · cases h
            · cases h
          · cases h
        · cases h
      · cases h
    · cases h
  | slz x =>
    simp only [K.run] at h;split at h <;> first | (cases h; done) | (injection h with h; injection h with _ h; exact hn h.symm)
  | rng x =>
    simp only [K.run] at h;split at h
    · split at h
      · injection h with h; injection h with _ h; subst h; exact ⟨rfl,rfl⟩
      · cases h
    · cases h
  | alloc z=>simp only [K.run] at h; injection h with h; injection h with _ h; subst h; rfl
  | box z x =>
    simp only [K.run] at h;split at h <;> split at h <;> first | (cases h; done) | (injection h with h; injection h with _ h; subst h; rfl)
  | mks z b zs l c =>
    simp only [K.run] at h;split at h
    · split at h
      · injection h with h; injection h with _ h; subst h; rfl
      · cases h
    · cases h
  | store cl g z x y =>
    simp only [K.run] at h;split at h
    · split at h
      · rename_i t n off _ ra
        obtain ⟨r,_,h⟩:=yh.1 h;injection h with _ h;subst h;exact ⟨rfl,cl,rfl,ra⟩
      · cases h
    · cases h
  | app cl e z b x y =>
    simp only [K.run] at h;split at h
    · split at h
      · split at h
        · cases h
        · split at h
          · injection h with h; injection h with _ h; subst h; rfl
          · cases h
        · injection h with h; injection h with _ h; subst h; rfl
      · cases h
    · cases h
  | appf cl e z b x y =>
    simp only [K.run] at h;split at h
    · split at h
      · split at h
        · split at h
          · injection h with h; injection h with _ h; exact hn h.symm
          · injection h with h; injection h with _ h; subst h; rfl
        · cases h
      · cases h
    · cases h
  | appm cl e z b x y =>
    simp only [K.run] at h;split at h
    · split at h
      · split at h
        · split at h
          · injection h with h; injection h with _ h; exact hn h.symm
          · injection h with h; injection h with _ h; subst h; rfl
        · cases h
      · cases h
    · split at h
      · split at h
        · injection h with h; injection h with _ h; subst h; rfl
        · cases h
      · cases h
    · cases h
  | appn cl e z b x y =>
    simp only [K.run] at h;split at h
    · split at h
      · split at h
        · injection h with h; injection h with _ h; subst h; rfl
        · cases h
      · cases h
    · split at h
      · split at h
        · injection h with h; injection h with _ h; subst h; rfl
        · cases h
      · cases h
    · cases h
  | bslr sz z n ps =>
    simp only [K.run] at h;split at h
    · injection h with h; injection h with _ h; subst h; rfl
    · cases h
  | bad=>simp only [K.run] at h; cases h
  | mkm=>simp only [K.run] at h; injection h with h; injection h with _ h; subst h; exact ⟨rfl,rfl⟩
  | mkb T e=>simp only [K.run] at h; injection h with h; injection h with _ h; subst h; exact ⟨rfl,rfl⟩
  | mget ok ty z x k =>
    simp only [K.run] at h;split at h
    · split at h
      · split at h
        · injection h with h; injection h with _ h; exact hn h.symm
        · cases h
      · cases h
    · cases h
  | mset ty x k v =>
    simp only [K.run] at h;split at h
    · split at h
      · split at h
        · injection h with h; injection h with _ h; subst h; exact ⟨rfl,rfl⟩
        · cases h
      · cases h
    · cases h
  | mlen x =>
    simp only [K.run] at h;split at h
    · split at h
      · injection h with h; injection h with _ h; exact hn h.symm
      · cases h
    · cases h
  | mv x=>simp only [K.run] at h; injection h with h; injection h with _ h; exact hn h.symm
  | pick c a b =>
    simp only [K.run] at h;split at h
    · injection h with h; injection h with _ h; exact hn h.symm
    · cases h
  | build z ps =>
    simp only [K.run] at h;split at h
    · obtain ⟨r,_,h⟩:=yh.1 h; injection h with _ h; exact hn h.symm
    · cases h
  | bsl z n ps =>
    simp only [K.run] at h;split at h
    · injection h with h; injection h with _ h; exact hn h.symm
    · cases h
  | load cl g z x =>
    simp only [K.run] at h;split at h
    · split at h
      · obtain ⟨r,_,h⟩:=yh.1 h; injection h with _ h; exact hn h.symm
      · cases h
    · split at h
      · cases h
      · obtain ⟨r,_,h⟩:=yh.1 h; injection h with _ h; exact hn h.symm
    · split at h
      · cases h
      · obtain ⟨r,_,h⟩:=yh.1 h; injection h with _ h; exact hn h.symm
    · cases h
  | mm b x y=>simp only [K.run] at h; obtain ⟨r,_,h⟩:=yh.1 h; injection h with _ h; exact hn h.symm
  | bin op b x y=>simp only [K.run] at h; obtain ⟨r,_,h⟩:=yh.1 h; injection h with _ h; exact hn h.symm
  | eqa n ks x y =>
    simp only [K.run] at h;split at h
    · obtain ⟨r,_,h⟩:=yh.1 h; injection h with _ h; exact hn h.symm
    · cases h
  | eqn n p x y =>
    simp only [K.run] at h;split at h <;> first | (cases h; done) | (obtain ⟨r,_,h⟩:=yh.1 h; injection h with _ h; exact hn h.symm)
  | un op x =>
    simp only [K.run] at h;split at h <;> first | (cases h; done) | (injection h with h; injection h with _ h; exact hn h.symm)
  | conv o x =>
    simp only [K.run] at h;split at h <;> first | (cases h; done) | (injection h with h; injection h with _ h; exact hn h.symm)
  | slc st z x lo hi mx =>
    cases mx with
    | some m=>simp [K.run] at h
    | none =>
      simp only [K.run] at h;split at h
      · cases h
      · split at h <;> first
          | (cases h; done)
          | (split at h
             · split at h
               · (try split at h) <;> (injection h with h; injection h with _ h; exact hn h.symm)
               · cases h
             · cases h)
  | faddr o x =>
    simp only [K.run] at h;split at h <;> first | (cases h; done) | (injection h with h; injection h with _ h; exact hn h.symm)
  | field g o z x =>
    simp only [K.run] at h;split at h
    · obtain ⟨r,_,h⟩:=yh.1 h; injection h with _ h; exact hn h.symm
    · cases h
  | aaddr l z x i =>
    simp only [K.run] at h;split at h
    · split at h
      · split at h <;> first | (cases h; done) | (injection h with h; injection h with _ h; exact hn h.symm)
      · cases h
    · cases h
  | iaddr z x i =>
    simp only [K.run] at h;split at h
    · split at h
      · obtain ⟨r,_,h⟩:=y8.1 h; split at h <;> first | (cases h; done) | (injection h with h; injection h with _ h; exact hn h.symm)
      · obtain ⟨r,_,h⟩:=y8.1 h; split at h <;> first | (cases h; done) | (injection h with h; injection h with _ h; exact hn h.symm)
      · split at h <;> first | (cases h; done) | (injection h with h; injection h with _ h; exact hn h.symm)
      · cases h
    · cases h
  | index x i =>
    simp only [K.run] at h;split at h
    · obtain ⟨r,_,h⟩:=yh.1 h; injection h with _ h; exact hn h.symm
    · cases h
  | ext x i =>
    simp only [K.run] at h;split at h
    · obtain ⟨r,_,h⟩:=yh.1 h; injection h with _ h; exact hn h.symm
    · cases h
  | call cl f xs =>
    simp only [K.run] at h;obtain ⟨vs,_,h⟩:=y8.1 h;split at h
    · obtain ⟨r,_,h⟩:=y8.1 h
      split at h
      · split at h <;> first | (cases h; done) | (injection h with h; injection h with _ h; exact hn h.symm)
      · split at h <;> first | (cases h; done) | (injection h with h; injection h with _ h; subst h; exact ⟨rfl,rfl⟩)
    · obtain ⟨r,_,h⟩:=y8.1 h
      split at h
      · cases h
      · split at h <;> first | (cases h; done) | (injection h with h; injection h with _ h; subst h; exact ⟨rfl,rfl⟩)
    · cases h
  | callf cl f z xs =>
    simp only [K.run] at h;obtain ⟨vs,_,h⟩:=y8.1 h;split at h
    · obtain ⟨r,_,h⟩:=y8.1 h
      split at h
      · split at h
        · split at h
          · injection h with h; injection h with _ h; subst h; exact ⟨rfl,rfl⟩
          · injection h with h; injection h with _ h; subst h; exact ⟨rfl,rfl,rfl⟩
        · cases h
      · cases h
    · cases h
  | callr cl f xs =>
    simp only [K.run] at h;split at h
    · split at h
      · rename_i ra
        split at h
        · split at h
          · obtain ⟨q,_,h⟩:=y8.1 h
            split at h
            · split at h
              · injection h with h; injection h with _ h; subst h
                exact ⟨rfl,cl,rfl,ra⟩
              · cases h
            · cases h
          · cases h
        · cases h
      · cases h
    · cases h
  | rstr x =>
    simp only [K.run] at h;split at h <;> first | (cases h; done) | (injection h with h; injection h with _ h; exact hn h.symm)
  | bstr cl x =>
    simp only [K.run] at h;split at h
    · obtain ⟨r,_,h⟩:=yh.1 h; injection h with _ h; exact hn h.symm
    · cases h
  | aslc cl l z x lo hi =>
    simp only [K.run] at h;split at h
    · split at h
      · split at h
        · split at h <;> (injection h with h; injection h with _ h; exact hn h.symm)
        · cases h
      · cases h
    · cases h
  | mkf f xs =>
    simp only [K.run] at h;split at h
    · injection h with h; injection h with _ h; exact hn h.symm
    · cases h
  | callv cl x xs =>
    simp only [K.run] at h;split at h
    · split at h
      · obtain ⟨r,_,h⟩:=y8.1 h
        split at h
        · split at h <;> first | (cases h; done) | (injection h with h; injection h with _ h; exact hn h.symm)
        · cases h
      · cases h
    · cases h
  | len st x =>
    simp only [K.run] at h;split at h <;> first
      | (cases h; done)
      | (split at h <;> first | (cases h; done) | (injection h with h; injection h with _ h; exact hn h.symm))
  | nilchk x =>
    simp only [K.run] at h;split at h <;> first | (cases h; done) | (injection h with h; injection h with _ h; exact hn h.symm)
def Tr.of (T:Tr) (o:UA):Prop:=match T with
 | .id=>True
 | .row t _ _=>(w7 o.op=true/\o.dst=some t)\/(isS o.op=true/\∃ c,o.op.cl=some c/\c.okPtr t=true)
 | .an _ d=>isT o.op=true/\o.dst=some d
 | .obj _ _ _=>ZS o.op=true/\isR o.op=false
 | .rn ..=>isM o.op=true
 | .ob2 _ _ _ d _ _=>(ZS o.op=true/\isR o.op=false/\w7 o.op=true)/\o.dst=some d
theorem S5 (o:UA) {x:qA} {e:nD} (h:o.runG call s=some (x,e)) {n:Nat} {T:Tr} {v:qA} (ht:o.effT n (x,e)=some (T,v)):T.of o:=by
 have key:o.op.run call s=some (x,e)\/e=.none:=by
  unfold UA.runG at h;split at h
  ·exact .inl h
  ·split at h
   ·split at h
    ·exact .inl h
    ·injection h with h; injection h with _ h; exact .inr h.symm
   ·injection h with h; injection h with _ h; exact .inr h.symm
   ·cases h
 cases e with
 | none=>simp only [UA.effT] at ht; injection ht with ht; injection ht with h1 _; subst h1; trivial
 | new r =>
  have:=bO o.op (key.resolve_right (by simp));simp only [UA.effT] at ht;split at ht
  ·cases ht
  ·rename_i d hd; injection ht with ht; injection ht with h1 _; subst h1; exact .inl ⟨this,hd⟩
 | set t n r =>
  have:=bO o.op (key.resolve_right (by simp));simp only [UA.effT] at ht;injection ht with ht; injection ht with h1 _; subst h1;exact .inr this
 | app a k =>
  have:=bO o.op (key.resolve_right (by simp));simp only [UA.effT] at ht;split at ht
  ·cases ht
  ·rename_i d hd; injection ht with ht; injection ht with h1 _; subst h1; exact ⟨this,hd⟩
 | obj t n S =>
  have:=bO o.op (key.resolve_right (by simp));simp only [UA.effT] at ht;injection ht with ht; injection ht with h1 _; subst h1;exact this
 | mk S =>
  have:=bO o.op (key.resolve_right (by simp));simp only [UA.effT] at ht;split at ht
  ·cases ht
  ·injection ht with ht; injection ht with h1 _; subst h1; exact this
 | rn k r =>
  have:=bO o.op (key.resolve_right (by simp));simp only [UA.effT] at ht;split at ht
  ·cases ht
  ·injection ht with ht; injection ht with h1 _; subst h1; exact this
 | ob2 t n S r =>
  have:=bO o.op (key.resolve_right (by simp));simp only [UA.effT] at ht;split at ht
  ·cases ht
  ·rename_i d hd; injection ht with ht; injection ht with h1 _; subst h1; exact ⟨this,hd⟩
theorem get_put {o:LB} {d:Option Nat} {x:qA} (h:∀ n,o=.t n->d≠some n):o.get (s.put d x)=o.get s/\o.an (s.put d x)=o.an s:=by
 cases d with
 | none=>exact ⟨rfl,rfl⟩
 | some d =>
  cases o with
  | c v=>exact ⟨rfl,by cases v <;> first | rfl | (rename_i b l; cases b <;> rfl)⟩
  | t n =>
   have:n≠d:=fun e=>h n rfl (by rw [e])
   simp [LB.get,LB.an,aA.put,this]
theorem d7 {o:UA} {n:Nat} {x:LB} (h:x∈o.op.opds) (hx:x=.t n):n∈o.looks:=by
 unfold UA.looks;refine List.mem_append_left _ (List.mem_filterMap.2 ⟨x,h,?_⟩);rw [hx]
theorem MN {x y:UA} (h:x.clear y=true):(∀ n,x.dst=some n->n ∉ y.looks)/\(∀ n,x.dst=some n->y.dst≠some n):=by
 unfold UA.clear at h;constructor
 ·intro n hn;rw [hn] at h;simp at h;exact h.1
 ·intro n hn;rw [hn] at h;simp at h;exact h.2
theorem zS {y:UA} {d:Option Nat} {v:qA} (h:∀ n,d=some n->n ∉ y.looks):y.runG call (s.put d v)=y.runG call s:=by
 have h1:y.op.run call (s.put d v)=y.op.run call s:=LP _ (fun o ho=>get_put fun n hn hd=>h n hd (d7 ho hn)) (fun t n _=>by cases d <;> rfl) (fun _=>by cases d <;> rfl);unfold UA.runG;rw [h1];cases hg:y.guard with
 | none=>rfl
 | some p =>
  obtain ⟨t,want⟩:=p;have:t∈y.looks:=by unfold UA.looks; rw [hg]; simp
  have he:((s.put d v).env t)=s.env t:=by
   cases d with
   | none=>rfl
   | some d =>
    have:t≠d:=fun e=>h d rfl (e ▸ this)
    simp [aA.put,this]
  simp only [he]
def Tr.off (T:Tr) (o:UA):Prop:=match T with
 | .id=>True
 | .row t _ _=>¬ o.op.reads t
 | .an _ _=>isT o.op=false
 | .obj _ _ _=>ZS o.op=false
 | .rn ..=>False
 | .ob2 _ _ _ d _ _=>ZS o.op=false/\¬ o.op.reads d
def Tr.act (T:Tr) (p:qA × nD):qA × nD:=match T with
 | .an _ _=>(p.1.mapAn T.f,p.2.mapAn T.f)
 | _=>p
theorem runG_tr {y:UA} {T:Tr} (h:T.off y):y.runG call (T.ap s)=(y.runG call s).map T.act:=by
 cases T with
 | rn=>exact absurd h id
 | ob2 t n S d m r =>
  have h1:y.op.run call ((s.setObj t n S).setRow d m r)=y.op.run call s:=LP _ (fun o ho=>by
   cases o with
   | t n=>exact ⟨rfl,rfl⟩
   | c v=>exact ⟨rfl,by cases v <;> first | rfl | (rename_i b l; cases b <;> rfl)⟩) (fun t' n' hr=>by
   simp only [aA.setRow,aA.setObj];rw [if_neg];rintro ⟨e,_⟩;exact h.2 (e ▸ hr)) (fun ho=>by
    have h':ZS y.op=false:=h.1;rw [h'] at ho; cases ho)
  have:y.runG call ((Tr.ob2 t n S d m r).ap s)=y.runG call s:=by
   unfold UA.runG Tr.ap;rw [h1];rfl
  have h2:(Tr.act (.ob2 t n S d m r):qA × nD->qA × nD)=id:=rfl;rw [this,h2,Option.map_id];rfl
 | id =>
  have:(Tr.act .id:qA × nD->qA × nD)=id:=rfl;rw [this,Option.map_id];rfl
 | row t n r =>
  have h1:y.op.run call (s.setRow t n r)=y.op.run call s:=LP _ (fun o ho=>by
   cases o with
   | t n=>exact ⟨rfl,rfl⟩
   | c v=>exact ⟨rfl,by cases v <;> first | rfl | (rename_i b l; cases b <;> rfl)⟩) (fun t' n' hr=>by
   simp only [aA.setRow];rw [if_neg];rintro ⟨e,_⟩;exact h (e ▸ hr)) (fun _=>rfl)
  have:y.runG call ((Tr.row t n r).ap s)=y.runG call s:=by
   unfold UA.runG Tr.ap;rw [h1];rfl
  have h2:(Tr.act (.row t n r):qA × nD->qA × nD)=id:=rfl;rw [this,h2,Option.map_id];rfl
 | obj t n S =>
  have h1:y.op.run call (s.setObj t n S)=y.op.run call s:=LP _ (fun o ho=>by
   cases o with
   | t n=>exact ⟨rfl,rfl⟩
   | c v=>exact ⟨rfl,by cases v <;> first | rfl | (rename_i b l; cases b <;> rfl)⟩) (fun t' n' hr=>rfl) (fun ho=>by
    have h':ZS y.op=false:=h;rw [h'] at ho; cases ho)
  have:y.runG call ((Tr.obj t n S).ap s)=y.runG call s:=by
   unfold UA.runG Tr.ap;rw [h1];rfl
  have h2:(Tr.act (.obj t n S):qA × nD->qA × nD)=id:=rfl;rw [this,h2,Option.map_id];rfl
 | an A d =>
  rw [Tr.ap_an];have h1:=run_mapAn (call:=call) (s:=s) (Tr.ends (.an A d)) y.op h;unfold UA.runG;rw [h1];cases y.guard with
  | none=>rfl
  | some p =>
   obtain ⟨t,want⟩:=p;simp only [aA.mapAn];generalize (s.env t).v=y;cases y with
   | bool b =>
    simp only;split
    ·rfl
    ·simp [Tr.act,qA.mapAn,nD.mapAn,(Tr.ends (.an A d)).no]
   | tup l=>cases l <;> simp [Tr.act,qA.mapAn,nD.mapAn,(Tr.ends (.an A d)).no]
   | _=>rfl
theorem Z4 {x y:UA} (h:RI x y=true):RI y x=true:=by
 unfold RI at h ⊢;simp only [y7] at h ⊢;obtain ⟨⟨⟨⟨⟨⟨⟨m1,m2⟩,h1⟩,h0⟩,h2⟩,h3⟩,h4⟩,h5⟩:=h;refine ⟨⟨⟨⟨⟨⟨⟨m2,m1⟩,by rw [Bool.or_comm]; exact h1⟩,by rw [Bool.or_comm (!ZS y.op),Bool.and_comm]; exact h0⟩,?_⟩,h4⟩,h3⟩,?_⟩
 ·cases hc:x.op.cl with
  | none=>cases y.op.cl <;> rfl
  | some c =>
   cases hd:y.op.cl with
   | none=>rfl
   | some d =>
    rw [hc,hd] at h2;simp only [Bool.or_eq_true] at h2 ⊢;refine h2.imp (fun h=>by rw [Bool.or_comm]; exact h) fun h=>?_
    cases c <;> cases d <;> first | rfl | exact h | (simp at h ⊢; exact fun e=>h e.symm) | (simp at h)
 ·simp only [Bool.or_eq_true] at h5 ⊢;rcases h5 with (h | h) | h
  ·exact .inl (.inr h)
  ·exact .inl (.inl h)
  ·exact .inr (by simp at h ⊢; exact fun e=>h e.symm)
theorem off_of {T:Tr} {x y:UA} (h:T.of x) (ra:RI x y=true):T.off y:=by
 unfold RI at ra;simp only [y7] at ra;obtain ⟨⟨⟨⟨⟨⟨⟨m1,m2⟩,h1⟩,h0⟩,h2⟩,h3⟩,h4⟩,h5⟩:=ra;cases T with
 | id=>trivial
 | rn k t n r =>
  have h':isM x.op=true:=h;rw [h'] at m1;cases m1
 | ob2 t n S d m r =>
  obtain ⟨⟨g1,g2,ha⟩,hd⟩:=h;rw [g1,g2] at h0;refine ⟨by simpa using h0,fun hr=>?_⟩;unfold K.reads at hr;rw [ha,hd] at h3;cases bd:y.op.cl with
  | none=>rw [bd] at hr; exact hr
  | some c =>
   rw [bd] at hr h3;cases c with
   | any=>simp at h3
   | imm=>exact hr
   | root r=>simp at h3; exact h3 hr
   | out L=>simp only [Bool.not_true,Bool.false_or] at h3 hr; rw [h3] at hr; cases hr
 | an A d =>
  have:=h.1;rw [this] at h1;show isT y.op=false;simpa using h1
 | obj t n S =>
  obtain ⟨g1,g2⟩:ZS x.op=true/\isR x.op=false:=h;rw [g1,g2] at h0;show ZS y.op=false;simpa using h0
 | row t n r =>
  intro hr;unfold K.reads at hr;rcases h with ⟨ha,hd⟩ | ⟨hs,hc⟩
  ·rw [ha,hd] at h3;cases bd:y.op.cl with
   | none=>rw [bd] at hr; exact hr
   | some c =>
    rw [bd] at hr h3;cases c with
    | any=>simp at h3
    | imm=>exact hr
    | root r=>simp at h3; exact h3 hr
    | out L=>simp only [Bool.not_true,Bool.false_or] at h3 hr; rw [h3] at hr; cases hr
  ·cases bd:y.op.cl with
   | none=>rw [bd] at hr; exact hr
   | some c =>
    rw [bd] at hr;obtain ⟨c0,hc,hp⟩:=hc;rw [hc,bd,hs] at h2;cases c0 with
    | imm=>simp [Cl.okPtr] at hp
    | any=>cases c <;> first | exact hr | (simp at h2)
    | root r0 =>
     simp [Cl.okPtr] at hp;subst hp;cases c with
     | imm=>exact hr
     | any=>simp at h2
     | root r=>simp at h2; exact h2 hr
     | out L=>simp at h2 hr; exact hr h2
    | out L0 =>
     simp [Cl.okPtr] at hp;cases c with
     | imm=>exact hr
     | any=>simp at h2
     | root r=>simp at h2 hr; subst hr; exact hp h2
     | out L=>simp at h2
theorem P7 {t n t' n':Nat} {r r':List qA} {x y:UA} (h:(Tr.row t n r).of x) (h':(Tr.row t' n' r').of y) (ra:RI x y=true):t≠t':=by
 unfold RI at ra;simp only [y7] at ra;obtain ⟨⟨⟨⟨⟨⟨⟨m1,m2⟩,h1⟩,h0⟩,h2⟩,h3⟩,h4⟩,h5⟩:=ra;rintro rfl;rcases h with ⟨ha,hd⟩ | ⟨hs,hc⟩ <;> rcases h' with ⟨jv,pq⟩ | ⟨ji,pf⟩
 ·rw [ha,jv,hd,pq] at h5; simp at h5
 ·rw [ha,hd] at h3;obtain ⟨c,pf,hp⟩:=pf;rw [pf] at h3;cases c <;> simp [Cl.okPtr] at h3 hp <;> first | exact h3 hp.symm | exact hp h3
 ·rw [jv,pq] at h4;obtain ⟨c,hc,hp⟩:=hc;rw [hc] at h4;cases c <;> simp [Cl.okPtr] at h4 hp <;> first | exact h4 hp.symm | exact hp h4
 ·obtain ⟨c,hc,hp⟩:=hc;obtain ⟨c',pf,hp'⟩:=pf;rw [hc,pf,hs] at h2;cases c <;> cases c' <;> simp [Cl.okPtr] at h2 hp hp'
  ·subst hp; subst hp'; exact h2 rfl
  ·subst hp; exact hp' h2
  ·subst hp'; exact hp h2
def Tr.conj (T:Tr):Tr->Tr
 | .row t n r=>match T with
  | .an A d=>.row t n (r.map (qA.mapAn (Tr.an A d).f))
  | _=>.row t n r
 | .ob2 t n S d m r=>match T with
  | .an A d'=>.ob2 t n S d m (r.map (qA.mapAn (Tr.an A d').f))
  | _=>.ob2 t n S d m r
 | T'=>T'
def Tr.actS (T:Tr) (v:qA):qA:=match T with
 | .an A d=>v.mapAn (Tr.an A d).f
 | _=>v
theorem D3 {T:Tr} {o:UA} {n:Nat} {p:qA × nD} {T':Tr} {v:qA} (h:o.effT n p=some (T',v)) (hT:(∃ A d,T=.an A d)->∀ A d,T'≠.an A d) (hR:∀ k t m r,T'≠.rn k t m r):o.effT n (T.act p)=some (T.conj T',T.actS v):=by
 obtain ⟨x,e⟩:=p;cases T with
 | id=>rw [show Tr.id.act (x,e)=(x,e) from rfl,h]; cases T' <;> rfl
 | row t m r=>rw [show (Tr.row t m r).act (x,e)=(x,e) from rfl,h]; cases T' <;> rfl
 | obj t m S=>rw [show (Tr.obj t m S).act (x,e)=(x,e) from rfl,h]; cases T' <;> rfl
 | rn k t m r=>rw [show (Tr.rn k t m r).act (x,e)=(x,e) from rfl,h]; cases T' <;> rfl
 | ob2 t n S d m r=>rw [show (Tr.ob2 t n S d m r).act (x,e)=(x,e) from rfl,h]; cases T' <;> rfl
 | an A d =>
  cases e with
  | none=>simp only [UA.effT] at h; injection h with h; injection h with h1 h2; subst h1; subst h2; rfl
  | new r =>
   simp only [UA.effT] at h;split at h
   ·cases h
   ·rename_i d' hd;injection h with h; injection h with h1 h2; subst h1; subst h2;simp only [Tr.act,UA.effT,nD.mapAn,hd,Tr.conj,Tr.actS,qA.mapAn,(Tr.ends (.an A d)).no]
  | set t m r =>
   simp only [UA.effT] at h;injection h with h; injection h with h1 h2; subst h1; subst h2;simp only [Tr.act,UA.effT,nD.mapAn,Tr.conj,Tr.actS,qA.mapAn,(Tr.ends (.an A d)).no]
  | app a k =>
   simp only [UA.effT] at h;split at h
   ·cases h
   ·injection h with h; injection h with h1 h2; subst h1; exact absurd rfl (hT ⟨A,d,rfl⟩ _ _)
  | obj t m S =>
   simp only [UA.effT] at h;injection h with h; injection h with h1 h2; subst h1; subst h2;rfl
  | mk S =>
   simp only [UA.effT] at h;split at h
   ·cases h
   ·rename_i d' hd;injection h with h; injection h with h1 h2; subst h1; subst h2;simp only [Tr.act,UA.effT,nD.mapAn,hd,Tr.conj,Tr.actS,qA.mapAn,(Tr.ends (.an A d)).no]
  | rn k r =>
   simp only [UA.effT] at h;split at h
   ·cases h
   ·injection h with h; injection h with h1 h2; exact absurd h1.symm (hR _ _ _ _)
  | ob2 t n S r =>
   simp only [UA.effT] at h;split at h
   ·cases h
   ·rename_i d' hd;injection h with h; injection h with h1 h2; subst h1; subst h2;simp only [Tr.act,UA.effT,nD.mapAn,hd,Tr.conj,Tr.actS,qA.mapAn,(Tr.ends (.an A d)).no]
theorem iD {d d':Option Nat} (h:∀ n,d=some n->d'≠some n) (v v':qA):(s.put d v).put d' v'=(s.put d' v').put d v:=by
 cases d with
 | none=>rfl
 | some d =>
  cases d' with
  | none=>rfl
  | some d' =>
   have:d≠d':=fun e=>h d rfl (by rw [e])
   simp only [aA.put];congr 1;funext t;by_cases h1:t=d'
   ·by_cases h2:t=d
    ·exact absurd (h2.symm.trans h1) this
    ·rw [h1]; simp only [if_true]; rw [if_neg (fun e=>this e.symm)]
   ·simp [h1]
theorem LI (f:An->An) (d:Option Nat) (v:qA):(s.put d v).mapAn f=(s.mapAn f).put d (v.mapAn f):=by
 cases d with
 | none=>rfl
 | some d =>
  simp only [aA.put,aA.mapAn];congr 1;funext t;by_cases h:t=d <;> simp [h,qA.mapAn]
theorem HL (f:An->An) (t n:Nat) (r:List qA):(s.setRow t n r).mapAn f=(s.mapAn f).setRow t n (r.map (qA.mapAn f)):=by
 simp only [aA.setRow,aA.mapAn];congr 1;funext t' n';by_cases h:t'=t/\n'=n
 ·simp only [h,and_self,if_true,yA]; rfl
 ·simp [h]
theorem ZC (d:Option Nat) (v:qA) (t n:Nat) (r:List qA):(s.put d v).setRow t n r=(s.setRow t n r).put d v:=by cases d <;> rfl
theorem xP {t n t' n':Nat} (h:t≠t') (r r':List qA):(s.setRow t n r).setRow t' n' r'=(s.setRow t' n' r').setRow t n r:=by
 simp only [aA.setRow];congr 1;funext a b;by_cases h1:a=t'
 ·have:¬ (a=t/\b=n):=fun e=>h (e.1.symm.trans h1)
  simp [this]
 ·have:¬ (a=t'/\b=n'):=fun e=>h1 e.1
  simp [this]
theorem cE (d:Option Nat) (v:qA) (t n:Nat) (S:AV):(s.put d v).setObj t n S=(s.setObj t n S).put d v:=by cases d <;> rfl
theorem GL (f:An->An) (t n:Nat) (S:AV):(s.setObj t n S).mapAn f=(s.mapAn f).setObj t n S:=rfl
theorem RQ (t n:Nat) (r:List qA) (t' n':Nat) (S:AV):(s.setRow t n r).setObj t' n' S=(s.setObj t' n' S).setRow t n r:=rfl
theorem F2 {t n:Nat} {S:AV} {d m:Nat} {r:List qA} {o:UA} (h:(Tr.ob2 t n S d m r).of o):(Tr.row d m r).of o:=.inl ⟨h.1.2.2,h.2⟩
theorem next_tr (T:Tr) (s:aA) (d:Option Nat) (v:qA):((T.ap s).put d v).next=s.next:=by
 have:(T.ap s).next=s.next:=by
  cases T with
  | an A d=>rw [Tr.ap_an]; rfl
  | rn k t n r=>cases k <;> rfl
  | _=>rfl
 cases d <;> exact this
theorem commute0 {x y:UA} (ll:NJ x y=true) (ra:RI x y=true) (h1:x.step call s=some s1) (h2:y.step call s1=some s2):∃ gr,y.step call s=some gr/\x.step call gr=some s2:=by
 unfold NJ at ll;simp only [y7] at ll;obtain ⟨a1,a2⟩:=MN ll.1;obtain ⟨a3,a4⟩:=MN ll.2;rw [nO] at h1 h2;obtain ⟨p,hp,h1⟩:=y8.1 h1;obtain ⟨⟨Tx,vx⟩,hx,h1⟩:=yh.1 h1;obtain ⟨q,hq,h2⟩:=y8.1 h2;obtain ⟨⟨Ty,vy⟩,hy,h2⟩:=yh.1 h2;simp only at h1 h2;subst h1;have ofx:Tx.of x:=S5 x (x:=p.1) (e:=p.2) hp hx;have offy:=off_of ofx ra;rw [zS a1,runG_tr offy] at hq;obtain ⟨q0,hq0,rfl⟩:=yh.1 hq;rw [next_tr] at hy
 -- y in the first state
 have ii:∃ Ty0 vy0,y.effT s.next q0=some (Ty0,vy0):=by
  obtain ⟨u,e⟩:=q0;cases e with
  | none=>exact ⟨_,_,rfl⟩
  | new r =>
   cases hd:y.dst with
   | none =>
    exfalso;cases Tx <;> simp [Tr.act,UA.effT,nD.mapAn,hd] at hy
   | some d=>exact ⟨.row d s.next r,_,by simp only [UA.effT,hd]; rfl⟩
  | set t n r=>exact ⟨_,_,rfl⟩
  | obj t n S=>exact ⟨_,_,rfl⟩
  | mk S =>
   cases hd:y.dst with
   | none =>
    exfalso;cases Tx <;> simp [Tr.act,UA.effT,nD.mapAn,hd] at hy
   | some d=>exact ⟨.obj d s.next S,_,by simp only [UA.effT,hd]; rfl⟩
  | app a k =>
   cases hd:y.dst with
   | none =>
    exfalso;cases Tx <;> simp [Tr.act,UA.effT,nD.mapAn,hd] at hy
   | some d=>exact ⟨.an a d,_,by simp only [UA.effT,hd]; rfl⟩
  | rn k r =>
   cases hd:y.dst with
   | none =>
    exfalso;cases Tx <;> simp [Tr.act,UA.effT,nD.mapAn,hd] at hy
   | some d=>exact ⟨.rn k d s.next r,_,by simp only [UA.effT,hd]; rfl⟩
  | ob2 t n S r =>
   cases hd:y.dst with
   | none =>
    exfalso;cases Tx <;> simp [Tr.act,UA.effT,nD.mapAn,hd] at hy
   | some d=>exact ⟨.ob2 t n S d s.next r,_,by simp only [UA.effT,hd]; rfl⟩
 obtain ⟨Ty0,vy0,ii⟩:=ii;have ofy:Ty0.of y:=S5 y (x:=q0.1) (e:=q0.2) hq0 ii;have offx:=off_of ofy (Z4 ra);have notT:∀ A d A' d',Tx=.an A d->Ty0=.an A' d'->False:=fun A d A' d' e e'=>by
  subst e; subst e';have:=ofy.1;rw [show isT y.op=false from offy] at this;cases this
 have noM:∀ {T:Tr} {o:UA},T.of o->isM o.op=false->∀ k t m r,T≠.rn k t m r:=fun h hm k t m r e=>by
  subst e;have h':isM _=true:=h;rw [hm] at h';cases h'
 have hMx:isM x.op=false:=by unfold RI at ra; simp only [y7] at ra; simpa using ra.1.1.1.1.1.1.1
 have hMy:isM y.op=false:=by unfold RI at ra; simp only [y7] at ra; simpa using ra.1.1.1.1.1.1.2
 have nx:=noM ofx hMx;have ny:=noM ofy hMy;have hyc:=D3 (T:=Tx) ii (hR:=ny) (fun ⟨A,d,e⟩ A' d' e'=>notT A d A' d' e e');rw [hyc] at hy;injection hy with hy;injection hy with e1 e2;subst e1; subst e2;have hxc:=D3 (T:=Ty0) hx (hR:=nx) (fun ⟨A,d,e⟩ A' d' e'=>notT A' d' A d e' e);refine ⟨(Ty0.ap s).put y.dst vy0,by rw [nO,hq0,V,ii]; rfl,?_⟩;rw [nO,zS a3,runG_tr offx,hp];simp only [yA,V,next_tr,hxc];rw [<- h2];congr 1;have notO:∀ t n S t' n' S',Tx=.obj t n S->Ty0=.obj t' n' S'->False:=fun t n S t' n' S' e e'=>by
  subst e; subst e';have h1:ZS y.op=true:=ofy.1;rw [show ZS y.op=false from offy] at h1;cases h1
 cases Tx with
 | rn=>exact absurd rfl (nx _ _ _ _)
 | id =>
  cases Ty0 with
  | rn=>exact absurd rfl (ny _ _ _ _)
  | ob2 t n S d m r=>simp only [Tr.ap,Tr.conj,Tr.actS]; rw [cE,ZC]; exact (iD a2 _ _).symm
  | id=>exact (iD a2 _ _).symm
  | row t n r=>simp only [Tr.ap,Tr.conj,Tr.actS]; rw [ZC]; exact (iD a2 _ _).symm
  | an A d =>
   simp only [Tr.conj,Tr.actS,Tr.ap_an,LI];exact (iD a2 _ _).symm
  | obj t n S=>simp only [Tr.ap,Tr.conj,Tr.actS]; rw [cE]; exact (iD a2 _ _).symm
 | row t n r =>
  cases Ty0 with
  | rn=>exact absurd rfl (ny _ _ _ _)
  | ob2 t' n' S d m r' =>
   have na:=P7 (x:=x) (y:=y) ofx (F2 ofy) ra;simp only [Tr.ap,Tr.conj,Tr.actS];rw [ZC,cE,ZC,RQ,xP na];exact (iD a2 _ _).symm
  | id=>simp only [Tr.ap,Tr.conj,Tr.actS]; rw [ZC]; exact (iD a2 _ _).symm
  | row t' n' r' =>
   simp only [Tr.ap,Tr.conj,Tr.actS];rw [ZC,ZC,xP (P7 ofx ofy ra)];exact (iD a2 _ _).symm
  | an A d =>
   simp only [Tr.conj,Tr.actS,Tr.ap_an,LI];simp only [Tr.ap,HL,ZC];exact (iD a2 _ _).symm
  | obj t' n' S =>
   simp only [Tr.ap,Tr.conj,Tr.actS];rw [cE,ZC];exact (iD a2 _ _).symm
 | an A d =>
  cases Ty0 with
  | rn=>exact absurd rfl (ny _ _ _ _)
  | ob2 t' n' S d' m r' =>
   simp only [Tr.conj,Tr.actS,Tr.ap_an,LI];simp only [Tr.ap,HL,GL,cE,ZC];exact (iD a2 _ _).symm
  | id =>
   simp only [Tr.conj,Tr.actS,Tr.ap_an,LI];exact (iD a2 _ _).symm
  | row t' n' r' =>
   simp only [Tr.conj,Tr.actS,Tr.ap_an,LI];simp only [Tr.ap,HL,ZC];exact (iD a2 _ _).symm
  | an A' d'=>exact (notT A d A' d' rfl rfl).elim
  | obj t' n' S =>
   simp only [Tr.conj,Tr.actS,Tr.ap_an,LI];simp only [Tr.ap,GL,cE];exact (iD a2 _ _).symm
 | obj t n S =>
  cases Ty0 with
  | rn=>exact absurd rfl (ny _ _ _ _)
  | ob2 t' n' S' d m r'=>exact absurd ofy.1.1 (by rw [show ZS y.op=false from offy]; decide)
  | id=>simp only [Tr.ap,Tr.conj,Tr.actS]; rw [cE]; exact (iD a2 _ _).symm
  | row t' n' r' =>
   simp only [Tr.ap,Tr.conj,Tr.actS];rw [ZC,cE];exact (iD a2 _ _).symm
  | an A d =>
   simp only [Tr.conj,Tr.actS,Tr.ap_an,LI];simp only [Tr.ap,GL,cE];exact (iD a2 _ _).symm
  | obj t' n' S'=>exact (notO t n S t' n' S' rfl rfl).elim
 | ob2 t n S d m r =>
  have hyO:ZS y.op=false:=offy.1;cases Ty0 with
  | rn=>exact absurd rfl (ny _ _ _ _)
  | id=>simp only [Tr.ap,Tr.conj,Tr.actS]; rw [cE,ZC]; exact (iD a2 _ _).symm
  | row t' n' r' =>
   have na:=P7 (x:=x) (y:=y) (F2 ofx) ofy ra;simp only [Tr.ap,Tr.conj,Tr.actS];rw [ZC,cE,ZC,<- RQ,xP na];exact (iD a2 _ _).symm
  | an A d' =>
   simp only [Tr.conj,Tr.actS,Tr.ap_an,LI];simp only [Tr.ap,HL,GL,cE,ZC];exact (iD a2 _ _).symm
  | obj t' n' S'=>exact absurd ofy.1 (by rw [hyO]; decide)
  | ob2 t' n' S' d' m' r'=>exact absurd ofy.1.1 (by rw [hyO]; decide)
def Tr.kl (T:Tr) (w:qA):qA:=match T with
 | .rn (some p) _ _ _=>w.kill p.1 p.2
 | _=>w
theorem isN_eff {k:K} (hk:isN k=true) {v:qA} {e:nD} (h:k.run call s=some (v,e)):e=.none\/(∃ r,e=.new r)\/∃ q r,e=.rn q r:=by
 cases k with
 | appm cl e' z b x y =>
  simp only [K.run] at h;split at h
  ·split at h
   ·split at h
    ·split at h
     ·injection h with h; injection h with _ h; exact .inl h.symm
     ·injection h with h; injection h with _ h; exact .inr (.inl ⟨_,h.symm⟩)
    ·cases h
   ·cases h
  ·split at h
   ·split at h
    ·injection h with h; injection h with _ h; exact .inr (.inr ⟨_,_,h.symm⟩)
    ·cases h
   ·cases h
  ·cases h
 | appn cl e' z b x y =>
  simp only [K.run] at h;split at h
  ·split at h
   ·split at h
    ·injection h with h; injection h with _ h; exact .inr (.inl ⟨_,h.symm⟩)
    ·cases h
   ·cases h
  ·split at h
   ·split at h
    ·injection h with h; injection h with _ h; exact .inr (.inr ⟨_,_,h.symm⟩)
    ·cases h
   ·cases h
  ·cases h
 | _=>cases hk
theorem isN_tr {x:UA} (hk:isN x.op=true) {p:qA × nD} (hp:x.runG call s=some p) {n:Nat} {T:Tr} {v:qA} (ht:x.effT n p=some (T,v)):T=.id\/(∃ t m r,T=.row t m r)\/∃ q t m r,T=.rn q t m r:=by
 have he:p.2=.none\/(∃ r,p.2=.new r)\/∃ q r,p.2=.rn q r:=by
  unfold UA.runG at hp;split at hp
  ·exact isN_eff hk (v:=p.1) (e:=p.2) hp
  ·split at hp
   ·split at hp
    ·exact isN_eff hk (v:=p.1) (e:=p.2) hp
    ·injection hp with hp; subst hp; exact .inl rfl
   ·injection hp with hp; subst hp; exact .inl rfl
   ·cases hp
 obtain ⟨v0,e⟩:=p;rcases he with he | ⟨r,he⟩ | ⟨q,r,he⟩
 ·simp only at he; subst he; injection ht with ht; injection ht with h1 _; exact .inl h1.symm
 ·simp only at he;subst he;simp only [UA.effT] at ht;split at ht
  ·cases ht
  ·injection ht with ht; injection ht with h1 _; exact .inr (.inl ⟨_,_,_,h1.symm⟩)
 ·simp only at he;subst he;simp only [UA.effT] at ht;split at ht
  ·cases ht
  ·injection ht with ht; injection ht with h1 _; exact .inr (.inr ⟨_,_,_,_,h1.symm⟩)
theorem LZ {T:Tr} (h:T=.id\/(∃ t m r,T=.row t m r)\/∃ q t m r,T=.rn q t m r) (s:aA) (d:Nat) (w:qA):T.ap (s.put (some d) w)=(T.ap s).put (some d) (T.kl w)/\∀ z,(T.ap s).env z=T.kl (s.env z):=by
 rcases h with rfl | ⟨t,m,r,rfl⟩ | ⟨q,t,m,r,rfl⟩
 ·exact ⟨rfl,fun _=>rfl⟩
 ·exact ⟨rfl,fun _=>rfl⟩
 ·cases q with
  | none=>exact ⟨rfl,fun _=>rfl⟩
  | some p =>
   refine ⟨?_,fun _=>rfl⟩;simp only [Tr.ap,aA.killO,aA.kill,aA.put,aA.setRow,Tr.kl];congr 1;funext j;by_cases hj:j=d <;> simp [hj]
theorem isMv_eq {y:UA} (h:isMv y=true):∃ d z,y=⟨d,.mv (.t z),none⟩:=by
 obtain ⟨d,k,g⟩:=y;unfold isMv at h;simp only at h;split at h
 ·exact ⟨_,_,rfl⟩
 ·cases h
theorem T3 {x y:UA} (ll:NJ x y=true) (hx:isN x.op=true) (hy:isMv y=true):(∀ s s1 s2,x.step call s=some s1->y.step call s1=some s2->∃ gr,y.step call s=some gr/\x.step call gr=some s2)/\∀ s s1 s2,y.step call s=some s1->x.step call s1=some s2->∃ gr,x.step call s=some gr/\y.step call gr=some s2:=by
 obtain ⟨d,z,rfl⟩:=isMv_eq hy;unfold NJ at ll;simp only [y7] at ll;obtain ⟨a1,a2⟩:=MN ll.1;obtain ⟨a3,a4⟩:=MN ll.2;have hz:∀ n,x.dst=some n->n≠z:=fun n hn e=>a1 n hn (by subst e; simp [UA.looks,K.opds])
 have hyr:∀ s:aA,(⟨d,.mv (.t z),none⟩:UA).step call s=some (s.put d ⟨(s.env z).v,(s.env z).a⟩):=fun _=>rfl
 have key:∀ (s:aA) (p:qA × nD) (T:Tr) (v:qA),x.runG call s=some p->x.effT s.next p=some (T,v)->(T.ap (s.put d (s.env z))).put x.dst v=((T.ap s).put x.dst v).put d ((((T.ap s).put x.dst v).env z))/\x.step call (s.put d (s.env z))=some ((T.ap (s.put d (s.env z))).put x.dst v):=fun s p T v hp hT=>by
  have hk:=isN_tr hx hp hT;constructor
  ·have he:((T.ap s).put x.dst v).env z=T.kl (s.env z):=by
    cases hd:x.dst with
    | none=>exact (LZ hk s 0 v).2 z
    | some n =>
     simp only [aA.put];rw [if_neg (fun e=>hz n hd e.symm)];exact (LZ hk s 0 v).2 z
   rw [he];cases d with
   | none=>rfl
   | some d =>
    rw [(LZ hk s d _).1];exact (iD (fun n hn e=>a4 n hn e) _ _)
  ·rw [nO,zS (fun n hn=>a3 n hn),hp];have hn:(s.put d (s.env z)).next=s.next:=by cases d <;> rfl
   simp only [V,hn,hT,yA]
 refine ⟨fun s s1 s2 h1 h2=>?_,fun s s1 s2 h1 h2=>?_⟩
 ·rw [nO] at h1;obtain ⟨p,hp,h1⟩:=y8.1 h1;obtain ⟨⟨T,v⟩,hT,h1⟩:=yh.1 h1;simp only at h1;rw [hyr] at h2;injection h2 with h2;refine ⟨_,hyr s,?_⟩;obtain ⟨k1,k2⟩:=key s p T v hp hT;have k2':x.step call (s.put d ⟨(s.env z).v,(s.env z).a⟩)=some ((T.ap (s.put d (s.env z))).put x.dst v):=k2;rw [k2',k1,<- h2,<- h1]
 ·rw [hyr] at h1;injection h1 with h1;subst h1;have uk:x.step call (s.put d (s.env z))=some s2:=h2;rw [nO,zS (fun n hn=>a3 n hn)] at uk;obtain ⟨p,hp,uk⟩:=y8.1 uk;obtain ⟨⟨T,v⟩,hT,uk⟩:=yh.1 uk;have hn:(s.put d (s.env z)).next=s.next:=by cases d <;> rfl
  rw [hn] at hT;obtain ⟨k1,_⟩:=key s p T v hp hT;refine ⟨(T.ap s).put x.dst v,by rw [nO,hp]; simp only [V,hT,yA],?_⟩;rw [hyr,<- uk];simp only;rw [k1]
theorem C2 {x y:UA} (h:NJ x y=true):NJ y x=true:=by
 unfold NJ at h ⊢;rw [Bool.and_comm];exact h
theorem commute {x y:UA} (ll:NJ x y=true) (ra:aO x y=true) (h1:x.step call s=some s1) (h2:y.step call s1=some s2):∃ gr,y.step call s=some gr/\x.step call gr=some s2:=by
 unfold aO at ra;simp only [Bool.or_eq_true,y7] at ra;rcases ra with h | ⟨h,h'⟩ | ⟨h,h'⟩
 ·exact commute0 ll h h1 h2
 ·exact (T3 (C2 ll) h' h).2 s s1 s2 h1 h2
 ·exact (T3 ll h' h).1 s s1 s2 h1 h2
end
end
section
open Go Go.RowKit
section
variable {P:Program} {O:AH} {nt B:Nat} {F0:OO} {aa:Av} {w0:World} {s s':aA} {a:Act} {w w':World} {ι:Ix} {Θ:dL} {call:AB} {lh:LH} {Q:Exit->Act->World->Prop}
def gsh (nt:Nat) (a:Act) (g:Nat->Value):Nat->Value:=fun t=>if t<nt then a.tmps.getD t undef else g (t - nt)
def OO.wait (F0:OO) (nt:Nat) (a:Act):OO:=⟨F0.b,F0.p,F0.r,F0.z,gsh nt a F0.g⟩
def aA.bare (s:aA):aA:={ s with env:=fun _=>⟨.undef,.no⟩ }
def I2 (P:Program) (O:AH) (B:Nat) (F0:OO) (aa:Av) (w0:World) (s:aA) (w:World) (ι:Ix) (Θ:dL):Prop:=iC P O 0 B F0 aa w0 (fun _=>False) s.bare ⟨#[],[]⟩ w ι Θ
def OH (ι:Ix) (Θ:dL) (av avb:Av) (w:World):List qA->List Value->Prop
 | [],us=>us=[]
 | x :: r,us=>∃ u ta,us=u :: ta/\qB ι av avb w x.v u/\qM Θ x.a u/\OH ι Θ av avb w r ta
theorem aR {av avb:Av}:∀ {xs ys:List qA} {us vs:List Value},OH ι Θ av avb w xs us->OH ι Θ av avb w ys vs->OH ι Θ av avb w (xs++ys) (us++vs)
 | [],_,_,_,h,h'=>by simp only [OH] at h; subst h; exact h'
 | x :: r,_,_,_,h,h'=>by
  simp only [OH] at h;obtain ⟨u,ta,rfl,h0,h1,h⟩:=h;exact ⟨u,ta++_,rfl,h0,h1,aR h h'⟩
def QZ (P:Program) (O:AH) (hp:HpT):Prop:=∀ f xs s k r,hp f xs s k=some r->(∀ vs w,(callFunc f vs).run P w=.ok (.enter f vs) w) ∧
 ∀ (B:Nat) (F0:OO) (aa:Av) (w0 w:World) (ι:Ix) (Θ:dL) (us:List Value) (E:Ending->World->Prop),I2 P O B F0 aa w0 s w ι Θ->OH ι Θ (SC aa ι Θ) (PC ι Θ) w xs us →
  (∀ y s' w' ι' Θ' v,I2 P O B F0 aa w0 s' w' ι' Θ'->qB ι' (SC aa ι' Θ') (PC ι' Θ') w' y.v v->qM Θ' y.a v->k y s'=some r->E (.returned v) w')->Calls P f us.toArray w E
theorem iC.wait {D:Nat->Prop} (R:iC P O nt B F0 aa w0 D s a w ι Θ):I2 P O B (F0.wait nt a) aa w0 (s.enter nt) w ι Θ :=
 ⟨rfl,rfl,fun _=>trivial,fun _=>trivial,R.rows,fun t n b h=>let ⟨h1,h2,h3⟩:=R.mine t n b h; ⟨h1,h2,.inl (by simp only [aA.bare,aA.enter]; rcases h3 with h | h <;> omega)⟩,R.inj,R.tok,R.tinj,R.apart,R.out,R.pin,R.kept,R.base,R.objs,fun t n H h=>let ⟨h1,h2⟩:=R.obs t n H h; ⟨h1,.inl (by simp only [aA.bare,aA.enter]; rcases h2 with h | h <;> omega)⟩,fun t=>by
  simp only [aA.bare,aA.enter,OO.wait,gsh];split
  ·exact R.env t
  ·exact R.gen _,fun t=>by
  simp only [aA.bare,aA.enter,OO.wait,gsh];split
  ·exact R.ann t
  ·exact R.gann _⟩
theorem iC.resume {D D':Nat->Prop} {s':aA} {ι':Ix} {Θ':dL} (R:iC P O nt B F0 aa w0 D s a w ι Θ) (R':I2 P O B (F0.wait nt a) aa w0 s' w' ι' Θ'):iC P O nt B F0 aa w0 D' (s'.leave nt) a w' ι' Θ' :=
 ⟨R.defers,R.size,fun t=>by
  have:=R'.gen t;simp only [aA.bare,OO.wait,gsh] at this;simp only [aA.leave];split
  ·rename_i h; rw [if_pos h] at this; exact this
  ·trivial,fun t=>by
  have:=R'.gann t;simp only [aA.bare,OO.wait,gsh] at this;simp only [aA.leave];split
  ·rename_i h; rw [if_pos h] at this; exact this
  ·trivial,R'.rows,fun t n b h=>let ⟨h1,h2,h3⟩:=R'.mine t n b h; ⟨h1,h2,h3.imp id fun h=>h.2.elim⟩,R'.inj,R'.tok,R'.tinj,R'.apart,R'.out,R'.pin,R'.kept,R'.base,R'.objs,fun t n H h=>let ⟨h1,h2⟩:=R'.obs t n H h; ⟨h1,h2.imp id fun h=>h.2.elim⟩,fun t=>by
  have:=R'.gen (t + nt);simp only [aA.bare,OO.wait,gsh] at this;rw [if_neg (by omega),Nat.add_sub_cancel] at this;exact this,fun t=>by
  have:=R'.gann (t + nt);simp only [aA.bare,OO.wait,gsh] at this;rw [if_neg (by omega),Nat.add_sub_cancel] at this;exact this⟩
theorem fR {D:Nat->Prop} (R:iC P O nt B F0 aa w0 D s a w ι Θ):∀ {Xs:List Operand} {xs:List LB},HH Xs=some xs->OH ι Θ (SC aa ι Θ) (PC ι Θ) w (kN s xs) (Xs.map a.eval)
 | [],xs,h=>by injection h with h; subst h; rfl
 | X :: Xs,xs,h=>by
  unfold HH at h;split at h
  ·rename_i x l hx hl;injection h with h;subst h;exact ⟨_,_,rfl,(R.opd hx).1,(R.opd hx).2,fR R hl⟩
  ·cases h
theorem d3 {av avb:Av}:∀ {cs:List AV} {us:List Value},XG ι av avb w cs us->OH ι Θ av avb w (cs.map (⟨·,.no⟩)) us
 | [],_,h=>h
 | x :: r,_,h=>by
  simp only [XG] at h;obtain ⟨u,ta,rfl,h0,h⟩:=h;refine ⟨u,ta,rfl,?_,trivial,d3 h⟩;cases x with
  | bp cs=>exact h0
  | int k n=>exact ZD (x:=.int k n) h0
  | bool b=>exact ZD (x:=.bool b) h0
  | str b=>exact ZD (x:=.str b) h0
  | nilP=>exact ZD (x:=.nilP) h0
  | ptr t n o=>exact ZD (x:=.ptr t n o) h0
  | ip cs=>exact ZD (x:=.ip cs) h0
  | sl n l=>exact ZD (x:=.sl n l) h0
  | bl l=>exact ZD (x:=.bl l) h0
  | ref a b c d e f=>exact ZD (x:=.ref a b c d e f) h0
  | mp t n=>exact ZD (x:=.mp t n) h0
  | fn f cs=>exact ZD (x:=.fn f cs) h0
  | agg cs=>exact ZD (x:=.agg cs) h0
  | tup cs=>exact ZD (x:=.tup cs) h0
  | undef=>trivial
theorem M4 {D:Nat->Prop} (R:iC P O nt B F0 aa w0 D s a w ι Θ) {lh:LH} (eh:QZ P O lh.h) {o:Oper} {hs:Nat->Bool} {nt':Nat} {x:LB} {xs:List LB} (hk:nY nt hs o.op=some (.callh nt' x xs)) (hd:∀ d,o.dst=some d->d<nt) {k:aA->Option RV} {r:RV} (hr:XM lh o.dst nt' x xs s k=some r)
  {Kn:Act->World->Prop} {Q:Exit->Act->World->Prop} (hK:∀ s' a' w',KD P O nt B F0 aa w0 (fun t=>D t\/o.dst=some t) s' a' w'->k s'=some r->Kn a' w'):o.wp P a w Kn Q:=by
 have go:∀ {f:FuncId} {Xs:Array Operand} {cs:List AV} {us:List Value},nt'=nt->HH Xs.toList=some xs->XG ι (SC aa ι Θ) (PC ι Θ) w cs us->lh.h f (kN s xs++cs.map (⟨·,.no⟩)) (s.enter nt) (fun y s'=>k ((s'.leave nt).put o.dst y))=some r->((∀ vs w,(callFunc f vs).run P w=.ok (.enter f vs) w)->(execOp a.eval o).run P w=.ok (.enter f (Xs.map a.eval++us.toArray)) w)->o.wp P a w Kn Q:=fun {f Xs cs us} hn hx nk hh run=>by
  obtain ⟨h1,h2⟩:=eh _ _ _ _ _ hh;unfold Oper.wp;rw [run h1,Oper.upon_enter];have ic:(Xs.toList.map a.eval++us).toArray=Xs.map a.eval++us.toArray:=by
   apply Array.ext';simp
  rw [<- ic];refine h2 B (F0.wait nt a) aa w0 w ι Θ _ _ R.wait (aR (fR R hx) (d3 nk)) fun y s' w' ι' Θ' v R' hv ha zj=>?_
  exact hK _ _ _ ⟨ι',Θ',((R.resume (D':=D) R').putN hd hv ha).more fun _ h=>.inl h⟩ zj
 unfold nY at hk;split at hk
 ·rename_i f Xs ts ho;split at hk
  ·obtain ⟨l,hl,hk⟩:=yh.1 hk;injection hk with hn hx be;subst hx;subst be;simp only [XM,LB.get] at hr;refine go (cs:=[]) (us:=[]) hn.symm hl rfl (by rw [hn]; exact hr) fun ed=>?_
   simp only [execOp,ho,resolve,Act.eval,Deferred.ofValue,Sem.run_bind,Sem.run_pure,Result.andThen_ok,invoke];have:=ed (#[]++Xs.map a.eval++#[]) w;simp only [Array.empty_append,Array.append_empty] at this ⊢;exact this
  ·cases hk
 ·rename_i tf Xs ts ho;split at hk
  ·obtain ⟨l,hl,hk⟩:=yh.1 hk;injection hk with hn hx be;subst hx;subst be;simp only [XM,LB.get] at hr;split at hr
   ·rename_i f cs dr;have hF:=R.env tf;rw [dr] at hF;obtain ⟨us,jd,nk⟩:=hF;refine go (cs:=cs) (us:=us.toList) hn.symm hl nk (by rw [hn]; exact hr) fun ed=>?_
    have ww:a.eval (.tmp tf)=.func (.func f) #[] us:=jd;simp only [execOp,ho,resolve,ww,Deferred.ofValue,Sem.run_bind,Sem.run_pure,Result.andThen_ok,invoke];have:=ed (#[]++Xs.map a.eval++us) w;simp only [Array.empty_append] at this ⊢;exact this
   ·cases hr
  ·cases hk
 ·obtain ⟨_,_,h⟩:=yh.1 hk; cases h
 ·cases hk
theorem sS {f:Nat->Option RV} {z:Option RV} {r:RV} (l:List Nat) (h:B0 f z l=some r):(l=[]->z=some r)/\∀ i∈l,f i=some r:=by
 match l,h with
 | [],h=>exact ⟨fun _=>h,fun i hi=>absurd hi (by simp)⟩
 | [a],h=>exact ⟨fun e=>(by cases e),fun i hi=>(by rw [List.mem_singleton.1 hi]; exact h)⟩
 | a :: b :: l,h =>
  have h':(open Classical in if ∀ x∈b :: l,f x=f a then f a else none)=some r:=h;split at h'
  ·rename_i hc;refine ⟨fun e=>(by cases e),fun i hi=>?_⟩;rcases yf.1 hi with hi | hi
   ·rw [hi]; exact h'
   ·exact (hc i hi).trans h'
  ·cases h'
theorem BW {f:Nat->Option RV} {z:Option RV} {r:RV} (l:List Nat) (h0:l=[]->z=some r) (h:∀ i∈l,f i=some r):B0 f z l=some r:=by
 match l,h0,h with
 | [],h0,_=>exact h0 rfl
 | [a],_,h=>exact h a yk
 | a :: b :: l,_,h =>
  show (open Classical in if ∀ x∈b :: l,f x=f a then f a else none)=some r;rw [if_pos fun x hx=>(h x (yp _ hx)).trans (h a yk).symm];exact h a yk
theorem op_nxt {D:Nat->Prop} (R:iC P O nt B F0 aa w0 D s a w ι Θ) {o:Oper} {X:Operand} {x:LB} (hx:opd X=some x) (ho:o.op=.next X false) (hd:∀ d,o.dst=some d->d<nt) {k:aA->Option RV} {r:RV} (hr:jW o.dst x s k=some r)
  {Kn:Act->World->Prop} {Q:Exit->Act->World->Prop} (hK:∀ s' a' w',KD P O nt B F0 aa w0 (fun t=>D t\/o.dst=some t) s' a' w'->k s'=some r->Kn a' w'):o.wp P a w Kn Q:=by
 unfold jW at hr;split at hr
 case h_2=>cases hr
 rename_i t n kc;split at hr
 case h_2=>cases hr
 rename_i tm nm N seen hi;split at hr
 case h_2=>cases hr
 rename_i L hL;split at hr
 case isFalse=>cases hr
 rename_i hN;have hX:=(R.opd hx).1;rw [kc] at hX;obtain ⟨q,hq,hv⟩:=hX;obtain ⟨S,hS,pk⟩:=y8.1 hi;obtain ⟨p,H,hp,pb,sc,bk⟩:=R.objs t n S hS;rw [hq] at hp;injection hp with hp;subst hp;obtain ⟨m,Hm,hm,hobm,oa⟩:=bk tm nm N seen pk;obtain ⟨hH,da⟩:=(O.iters S H q w (by rw [pk]; rfl)).1 sc;obtain ⟨S2,hS2,uq⟩:=y8.1 hL;obtain ⟨p2,H2,ai,cu,nz,_⟩:=R.objs tm nm S2 hS2;rw [hm] at ai;injection ai with ai;subst ai;have kw:S2=OG L:=by
  unfold ZI at uq;split at uq
  ·injection uq with uq; subst uq; rfl
  ·cases uq
 subst kw;obtain ⟨hH2,es,clock,he,uf,hc,db⟩:=(O.maps L H2 m w).1 nz;have tz:es.size=N:=by rw [<- hN]; simpa using congrArg List.length uf
 obtain ⟨h1,h2⟩:=sS _ hr;have hgq:(getObj q).run P w=.ok (.mapIter (some m) N seen.toArray N) w:=by simp [getObj,Sem.run,oa]
 have lv:(getObj m).run P w=.ok (.map es clock) w:=by simp [getObj,Sem.run,he]
 have ut:∀ i (hi:i<es.size),(es[i]∈es.filter (fun e=>!seen.toArray.contains e.born) ↔ (!seen.contains i)=true):=fun i hi=>by
  rw [Array.mem_filter,db i hi];simp
 have uy:(!seen.toArray.isEmpty&&!es.isEmpty&&es.all (fun x=>decide (x.born>=N)))=false:=by
  cases ls:es.isEmpty with
  | true=>simp
  | false =>
   have h0:0<es.size:=by
    rcases yK es.size with h0 | h0
    ·simp [Array.isEmpty,h0] at ls
    ·exact h0
   have:es.all (fun x=>decide (x.born>=N))=false:=by
    rw [Bool.eq_false_iff];intro sa;rw [Array.all_eq_true] at sa;have:=sa 0 h0;rw [db 0 h0] at this;simp at this;omega
   simp [this]
 have ma:∀ x∈es.filter (fun e=>!seen.toArray.contains e.born),x.born<N:=fun x hx=>by
  have um:x∈es:=(Array.mem_filter.1 hx).1;obtain ⟨i,fc,rfl⟩:=Array.mem_iff_getElem.1 um;rw [db i fc];omega
 generalize hLf:es.filter (fun e=>!seen.toArray.contains e.born)=Lf at ma ut;have e1:Lf.filter (fun x=>decide (x.born<N))=Lf:=Array.filter_eq_self.2 fun x hx=>by simpa using ma x hx
 have e2:Lf.filter (fun x=>decide (x.born>=N))=#[]:=by
  rw [Array.filter_eq_empty_iff];intro x hx;have:=ma x hx;simp;omega
 unfold Oper.wp;by_cases h0:Lf.size=0
 ·have hz:Lf=#[]:=Array.eq_empty_of_size_eq_zero h0;have du:(List.range N).filter (fun i=>!seen.contains i)=[]:=by
   refine List.eq_nil_iff_forall_not_mem.2 fun i fc=>?_
   have fa:i<es.size:=by have:=(List.mem_filter.1 fc).1; rw [tz]; exact List.mem_range.1 this
   have:=(ut i fa).2 (List.mem_filter.1 fc).2;rw [hz] at this;simp at this
  have ia:(execOp a.eval o).run P w=.ok (.value (.tuple #[.bool false])) w:=by
   simp only [execOp,ho,hv,Instr.next,Sem.run_bind,hgq,lv,Result.andThen_ok,uy,yr,if_false,hLf,e1,e2,hz,Array.append_empty];simp [choose,Sem.run,Question.forced]
  rw [ia,Oper.upon_value];exact hK _ _ _ ⟨ι,Θ,(R.putN hd (x:=⟨.tup [.bool false],.no⟩) ⟨_,rfl,_,_,rfl,rfl,rfl⟩ trivial).more fun _ h=>.inl h⟩ (h1 du)
 ·have na:Lf.isEmpty=false:=by simp [Array.isEmpty,h0]
  obtain ⟨j,w1,hj,wn,ky⟩:∃ (j:Nat) (w1:World),j<Lf.size/\(w1=w\/w1=w.drew)/\(choose (Question.mapNext Lf.size)).run P w=.ok j w1:=by
   by_cases hf:Lf.size<=1
   ·exact ⟨0,w,by omega,.inl rfl,by simp [choose,Sem.run,Question.forced,hf]⟩
   ·exact ⟨_,w.drew,Nat.mod_lt _ (by omega),.inr rfl,by
     simp only [choose,Sem.run,Question.forced,decide_eq_true_eq,hf,if_false,Question.cut];rfl⟩
  have hjm:Lf[j]∈Lf:=by simp
  have hje:Lf[j]∈es:=by
   have:∀ x,x∈Lf->x∈es:=fun x hx=>by rw [<- hLf] at hx; exact (Array.mem_filter.1 hx).1
   exact this _ hjm
  obtain ⟨i,ij,iT⟩:=Array.mem_iff_getElem.1 hje;have fc:i∈(List.range N).filter fun i=>!seen.contains i:=List.mem_filter.2 ⟨List.mem_range.2 (by rw [<- tz]; exact ij),(ut i ij).1 (by rw [iT]; exact hjm)⟩
  have hborn:Lf[j].born=i:=by rw [<- iT]; exact db i ij
  have hk:=h2 i fc;split at hk
  case h_2=>cases hk
  rename_i y v iq;split at hk
  case isFalse=>cases hk
  rename_i oh;rw [y7] at oh;have hkv:Lf[j].key=y.flatV/\Lf[j].val=v.flatV:=by
   have:=congrArg (fun l=>l[i]?) uf;simp only [yc,iq,Array.getElem?_toList,yY ij,yA,Option.some.injEq,entV] at this;rw [<- iT];exact ⟨congrArg Prod.fst this,congrArg Prod.snd this⟩
  have wu:w1.heap=w.heap:=by rcases wn with rfl | rfl <;> rfl
  have hq1:w1.heap[q]?=some (.mapIter (some m) N seen.toArray N):=by rw [wu]; exact oa
  have nu:(setObj q (.mapIter (some m) N (seen.toArray.push i) clock)).run P w1=.ok () { w1 with heap:=w1.heap.setIfInBounds q (.mapIter (some m) N (seen.toArray.push i) clock) }:=by
   simp [setObj,Sem.run,hq1]
  have ia:(execOp a.eval o).run P w=.ok (.value (.tuple #[.bool true,y.flatV,v.flatV])) { w1 with heap:=w1.heap.setIfInBounds q (.mapIter (some m) N (seen.toArray.push i) clock) }:=by
   simp only [execOp,ho,hv,Instr.next,Sem.run_bind,hgq,lv,Result.andThen_ok,uy,yr,if_false,hLf,e1,e2,na,Array.append_empty,Array.empty_append,Array.size_map,ky,Array.getElem?_map,yY hj,yA,hborn,nu,Sem.run_pure,hkv.1,hkv.2]
  rw [ia,Oper.upon_value];have R1:iC P O nt B F0 aa w0 D s a w1 ι Θ:=R.grow (fun b _=>by rw [wu]) (by rw [wu]; exact ym _) (by rcases wn with rfl | rfl; exact R.kept; exact R.kept.drew);have mi:O.at_ (XZ tm nm N (seen++[i])) H q { w1 with heap:=w1.heap.setIfInBounds q (.mapIter (some m) N (seen.toArray.push i) clock) }:=(O.iters _ _ _ _ (by rw [qV]; rfl)).2 ⟨hH,by simp; rw [wu]; exact da⟩;have jj:ID H w1 { w1 with heap:=w1.heap.setIfInBounds q (.mapIter (some m) N (seen.toArray.push i) clock) }:=⟨rfl,rfl,rfl,by simp,fun j' _ hn=>by
   have:j'≠q:=fun e=>hn ((hH j').2 e)
   simp only [Array.getElem?_setIfInBounds];rw [if_neg fun e:q=j'=>this e.symm]⟩
  have htie':N1 ι (XZ tm nm N (seen++[i])) q { w1 with heap:=w1.heap.setIfInBounds q (.mapIter (some m) N (seen.toArray.push i) clock) }:=fun tm' nm' N' seen' e=>by
   rw [qV] at e;injection e with e;injection e with g1 e;injection e with g2 e;injection e with g3 g4;subst g1; subst g2; subst g3; subst g4;refine ⟨m,Hm,hm,hobm,?_⟩;have hlt1:q<w1.heap.size:=by rw [wu]; exact da
   simp [hlt1,hc,tz]
  obtain ⟨ι',R2,_⟩:=R1.turnObj hq pb mi htie' (fun b hb=>.inl hb) jj;refine hK _ _ _ ⟨ι',Θ,(R2.putN hd (x:=⟨.tup [.bool true,y,v],.no⟩) ?_ trivial).more fun _ h=>.inl h⟩ hk;exact ⟨_,rfl,_,_,rfl,rfl,_,_,rfl,eH (bN oh.1),_,_,rfl,eH (bN oh.2),rfl⟩
structure U2 (P:Program) (nt:Nat) (ops:Array Oper) (o:Oper) (c:UA):Prop where
 dst:c.dst=o.dst
 op:(isH c.op=false/\∃ cl mu b q,U3 P cl mu b q o.op=some c.op/\(mu≠none->o.dst≠none))\/∃ hs,nY nt hs o.op=some c.op
 lt:∀ d,o.dst=some d->d<nt
 guard:match o.guard with
  | none=>c.guard=none
  | some (g,want)=>∃ t,(ops[g]?).bind (·.dst)=some t/\c.guard=some (t,want)
theorem tU {boxes:List Nat} {all:List Oper} {draw:Bool}:∀ {ops:List Oper} {cs:List UA},cR P boxes nt all draw ops=some cs->cs.length=ops.length/\∀ (i:Nat) (o:Oper),ops[i]?=some o->∃ c,cs[i]?=some c/\U2 P nt all.toArray o c
 | [],cs,h=>by injection h with h; subst h; exact ⟨rfl,fun i o ho=>by simp at ho⟩
 | o :: r,cs,h=>by
  unfold cR at h;split at h
  ·rename_i k l hk hl;split at h
   ·rename_i da;have fa:∀ d,o.dst=some d->d<nt:=fun d hd=>by rw [hd] at da; simpa [dstOk] using da
    obtain ⟨h1,h2⟩:=tU hl;have KN:∀ c,cs=c :: l->U2 P nt all.toArray o c->cs.length=(o :: r).length/\∀ (i:Nat) (o':Oper),(o :: r)[i]?=some o'->∃ c,cs[i]?=some c/\U2 P nt all.toArray o' c:=fun c e hc=>by
     subst e;refine ⟨by simp [h1],fun i o' ho=>?_⟩;cases i with
     | zero=>simp at ho; subst ho; exact ⟨c,rfl,hc⟩
     | succ i=>simpa using h2 i o' (by simpa using ho)
    have xo:(match o.dst with | some d=>if boxes.contains (nt + 1 + (2 * d + 1)) then some true else if boxes.contains (nt + 1 + 2 * d) then some false else none | none=>none)≠none->o.dst≠none:=fun h e=>by rw [e] at h; exact h rfl
    have kb:(isH k=false/\∃ cl mu b q,U3 P cl mu b q o.op=some k/\(mu≠none->o.dst≠none))\/∃ hs,nY nt hs o.op=some k:=by
     split at hk
     ·rename_i k' tc;injection hk with hk;exact .inr ⟨_,hk ▸ tc⟩
     ·obtain ⟨h1,h2⟩:=Option.filter_eq_some_iff.1 hk;exact .inl ⟨by simpa using h2,_,_,_,_,h1,xo⟩
    cases hg:o.guard with
    | none =>
     simp only [hg] at h;injection h with h;exact KN _ h.symm ⟨rfl,kb,fa,by rw [hg]⟩
    | some p =>
     obtain ⟨g,want⟩:=p;simp only [hg] at h;split at h
     ·rename_i t ht;injection h with h;exact KN _ h.symm ⟨rfl,kb,fa,by rw [hg]; exact ⟨t,by simpa using ht,rfl⟩⟩
     ·cases h
   ·cases h
  ·cases h
section
variable {D:Nat->Prop} (R:KD P O nt B F0 aa w0 D s a w) (wa:∀ f args S r,call f args S=some r->xD P O f args S r)
include D R wa
theorem L7 {ops:Array Oper} {i:Nat} {o:Oper} {c:UA} (ho:ops[i]?=some o) (ok:U2 P nt ops o c) (hD:∀ d,o.dst=some d->(w7 c.op||ZS c.op)=true->¬ D d) (kb:∃ cl mu b q,U3 P cl mu b q o.op=some c.op/\(mu≠none->o.dst≠none)) (hs:c.step call s=some s')
  {Kn:Act->World->Prop} (hK:∀ a' w',KD P O nt B F0 aa w0 (fun t=>D t\/o.dst=some t) s' a' w'->Kn a' w'):wpOp P ops Q i Kn a w:=by
 obtain ⟨ι,Θ,R⟩:=R;obtain ⟨cl,mu,b,q,kb,xo⟩:=kb;obtain ⟨cd,cop,cg⟩:=c;have ca:cd=o.dst:=ok.dst;subst ca;have main:cop.run call s≠none->(cop.run call s).bind (UA.eff ⟨o.dst,cop,cg⟩ s)=some s'->o.wp P a w Kn Q:=fun _ h=>by
  obtain ⟨xe,hx,he⟩:=y8.1 h;unfold U3 at kb;split at kb
  ·rename_i k hk;injection kb with kb;subst kb;exact op_sound R wa hk xo ok.lt hD hx he hK
  ·split at kb
   ·injection kb with kb;subst kb;cases hx
   ·cases kb
 have main':(cop.run call s).bind (UA.eff ⟨o.dst,cop,cg⟩ s)=some s'->o.wp P a w Kn Q:=fun h=>main (fun e=>by rw [e] at h; cases h) h
 unfold wpOp;simp only [ho];have sx:qB ι (SC aa ι Θ) (PC ι Θ) w (.tup []) undef:=⟨#[],rfl,rfl⟩;have hg:=ok.guard;cases ft:o.guard with
 | none =>
  rw [ft] at hg;simp only at hg;subst hg;have:Region.wanted o (yielded ops a.tmps)=true:=by simp [Region.wanted,ft]
  rw [if_pos this];exact .inl (main' hs)
 | some p =>
  obtain ⟨g,want⟩:=p;rw [ft] at hg;obtain ⟨t,ht,hg⟩:=hg;simp only at hg;subst hg;unfold UA.step at hs;simp only at hs;split at hs
  ·rename_i b hb;have hr:=R.env t;rw [hb,PB] at hr;have hy:yielded ops a.tmps g=some b:=by
    unfold yielded;rw [ht];simp only [V];rw [yZ] at hr;cases hh:a.tmps[t]? with
    | none=>rw [hh] at hr; simp [undef] at hr
    | some v=>rw [hh] at hr; simp only [Option.getD_some] at hr; subst hr; rfl
   have hw:Region.wanted o (yielded ops a.tmps)=(b == want):=by
    simp only [Region.wanted,ft,hy];cases b <;> cases want <;> rfl
   rw [hw];split at hs
   ·rename_i e;subst e;rw [if_pos (by simp)];exact .inl (main' hs)
   ·rename_i e;injection hs with hs;subst hs;rw [if_neg (by simpa using e)];exact hK _ _ ⟨ι,Θ,(R.putN ok.lt (x:=⟨.tup [],.no⟩) sx trivial).more fun _ h=>.inl h⟩
  ·rename_i hb;have hr:=R.env t;rw [hb] at hr;obtain ⟨us,hv,od⟩:=hr;have hy:yielded ops a.tmps g=none:=by
    unfold yielded;rw [ht];simp only [V];rw [yZ] at hv;cases hh:a.tmps[t]? with
    | none=>rfl
    | some v=>rw [hh] at hv; simp only [Option.getD_some] at hv; subst hv; rfl
   have hw:Region.wanted o (yielded ops a.tmps)=false:=by
    simp only [Region.wanted,ft,hy];cases want <;> rfl
   rw [hw];injection hs with hs;subst hs;rw [if_neg (by decide)];exact hK _ _ ⟨ι,Θ,(R.putN ok.lt (x:=⟨.tup [],.no⟩) sx trivial).more fun _ h=>.inl h⟩
  ·cases hs
theorem kU (eh:QZ P O lh.h) {ops:Array Oper} {i:Nat} {o:Oper} {c:UA} (ho:ops[i]?=some o) (ok:U2 P nt ops o c) (hD:∀ d,o.dst=some d->(w7 c.op||ZS c.op)=true->¬ D d) {k:aA->Option RV} {r:RV} (hs:c.stepK call lh s k=some r)
  {Kn:Act->World->Prop} (hK:∀ s' a' w',KD P O nt B F0 aa w0 (fun t=>D t\/o.dst=some t) s' a' w'->k s'=some r->Kn a' w'):wpOp P ops Q i Kn a w:=by
 rcases ok.op with ⟨hH,kb⟩ | ⟨ji,kb⟩
 ·have hb:(c.step call s).bind k=some r:=by
   unfold UA.stepK at hs;split at hs
   ·rename_i h; rw [h] at hH; cases hH
   ·rename_i h; rw [h] at hH; cases hH
   ·exact hs
  obtain ⟨s1,h1,h2⟩:=y8.1 hb;exact L7 R wa ho ok hD kb h1 fun a' w' R'=>hK s1 a' w' R' h2
 ·obtain ⟨cd,cop,cg⟩:=c;have ca:cd=o.dst:=ok.dst;subst ca;simp only at kb;obtain ⟨ι,Θ,R⟩:=R;obtain ⟨st,db,main'⟩:∃ st,UA.stepK call lh ⟨o.dst,cop,cg⟩ s k=fK s o.dst cg st k/\(st=some r->o.wp P a w Kn Q):=by
   have ui:=kb;unfold nY at ui;split at ui
   ·split at ui
    ·obtain ⟨_,_,h⟩:=yh.1 ui; subst h; exact ⟨_,rfl,fun h=>M4 R eh kb ok.lt h hK⟩
    ·cases ui
   ·split at ui
    ·obtain ⟨_,_,h⟩:=yh.1 ui; subst h; exact ⟨_,rfl,fun h=>M4 R eh kb ok.lt h hK⟩
    ·cases ui
   ·rename_i X hox;obtain ⟨x,hx,h⟩:=yh.1 ui;subst h;exact ⟨_,rfl,fun h=>op_nxt R hx hox ok.lt h hK⟩
   ·cases ui
  rw [db] at hs;unfold wpOp;simp only [ho];have sx:qB ι (SC aa ι Θ) (PC ι Θ) w (.tup []) undef:=⟨#[],rfl,rfl⟩;have hg:=ok.guard;cases ft:o.guard with
  | none =>
   rw [ft] at hg;simp only at hg;subst hg;have:Region.wanted o (yielded ops a.tmps)=true:=by simp [Region.wanted,ft]
   rw [if_pos this];exact .inl (main' hs)
  | some p =>
   obtain ⟨g,want⟩:=p;rw [ft] at hg;obtain ⟨t,ht,hg⟩:=hg;simp only at hg;subst hg;unfold fK at hs;simp only at hs;split at hs
   ·rename_i b hb;have hr:=R.env t;rw [hb,PB] at hr;have hy:yielded ops a.tmps g=some b:=by
     unfold yielded;rw [ht];simp only [V];rw [yZ] at hr;cases hh:a.tmps[t]? with
     | none=>rw [hh] at hr; simp [undef] at hr
     | some v=>rw [hh] at hr; simp only [Option.getD_some] at hr; subst hr; rfl
    have hw:Region.wanted o (yielded ops a.tmps)=(b == want):=by
     simp only [Region.wanted,ft,hy];cases b <;> cases want <;> rfl
    rw [hw];split at hs
    ·rename_i e;subst e;rw [if_pos (by simp)];exact .inl (main' hs)
    ·rename_i e;rw [if_neg (by simpa using e)];exact hK _ _ _ ⟨ι,Θ,(R.putN ok.lt (x:=⟨.tup [],.no⟩) sx trivial).more fun _ h=>.inl h⟩ hs
   ·rename_i hb;have hr:=R.env t;rw [hb] at hr;obtain ⟨us,hv,od⟩:=hr;have hy:yielded ops a.tmps g=none:=by
     unfold yielded;rw [ht];simp only [V];rw [yZ] at hv;cases hh:a.tmps[t]? with
     | none=>rfl
     | some v=>rw [hh] at hv; simp only [Option.getD_some] at hv; subst hv; rfl
    have hw:Region.wanted o (yielded ops a.tmps)=false:=by
     simp only [Region.wanted,ft,hy];cases want <;> rfl
    rw [hw];rw [if_neg (by decide)];exact hK _ _ _ ⟨ι,Θ,(R.putN ok.lt (x:=⟨.tup [],.no⟩) sx trivial).more fun _ h=>.inl h⟩ hs
   ·cases hs
end
theorem KD.next {D:Nat->Prop} (R:KD P O nt B F0 aa w0 D s a w):KD P O nt B F0 aa w0 (fun _=>False) { s with next:=s.next + 1 } a w:=by
 obtain ⟨ι,Θ,R⟩:=R;exact ⟨ι,Θ,R.defers,R.size,R.env,R.ann,R.rows,fun t n b h=>let ⟨h1,h2,h3⟩:=R.mine t n b h; ⟨h1,h2,.inl (by rcases h3 with h | h <;> simp only <;> omega)⟩,R.inj,R.tok,R.tinj,R.apart,R.out,R.pin,R.kept,R.base,R.objs,fun t n H h=>let ⟨h1,h2⟩:=R.obs t n H h; ⟨h1,.inl (by rcases h2 with h | h <;> simp only <;> omega)⟩,R.gen,R.gann⟩
theorem DV {cs:List UA} (h:RR cs=true) {i j:Nat} {x y:UA} (hx:cs[i]?=some x) (hy:cs[j]?=some y) (na:i≠j) (hA:(w7 y.op||ZS y.op)=true) (om:y.dst.isSome=true):x.dst≠y.dst:=by
 have hj:=(y9.1 hy).1;have hi:=(y9.1 hx).1;have h1:=y5.1 h j (List.mem_range.2 hj);rw [hy] at h1;simp only [hA,om,Bool.true_and,Bool.not_true,Bool.false_or] at h1;have h2:=y5.1 h1 i (List.mem_range.2 hi);rw [hx] at h2;simp only [Bool.or_eq_true] at h2;rcases h2 with h2 | h2
 ·exact absurd (by simpa using h2) na
 ·simpa using h2
theorem BY {ops:Array Oper} {cs:List UA} (wa:∀ f args S r,call f args S=some r->xD P O f args S r) (eh:QZ P O lh.h) (ra:∀ (i:Nat) (o:Oper),ops[i]?=some o->∃ c,cs[i]?=some c/\U2 P nt ops o c) (ja:cs.length=ops.size) (hf:RR cs=true) {k:aA->Option RV} {r:RV} :
  ∀ (n i:Nat) (s:aA) (a:Act) (w:World),i + n=ops.size->KD P O nt B F0 aa w0 (fun t=>∃ j c,j<i/\cs[j]?=some c/\c.dst=some t) s a w->LG call lh (cs.drop i) s k=some r →
   (∀ s' a' w',KD P O nt B F0 aa w0 (fun _=>True) s' a' w'->k s'=some r->Q .normal a' w')->wpOps P ops Q (List.range' i n) a w
 | 0,i,s,a,w,hi,R,hr,hQ=>by
  have:cs.drop i=[]:=ye (by omega);rw [this] at hr;obtain ⟨ι,Θ,R⟩:=R;exact hQ s a w ⟨ι,Θ,R.more fun _ _=>trivial⟩ hr
 | n + 1,i,s,a,w,hi,R,hr,hQ=>by
  have da:i<ops.size:=by omega
  obtain ⟨c,hc,ok⟩:=ra i ops[i] (yY da);have bd:i<cs.length:=by omega
  have hci:cs[i]=c:=(y9.1 hc).2;rw [yb bd,hci] at hr;unfold LG at hr;rw [List.range'_succ,wpOps_cons];refine kU R wa eh (yY da) ok (fun d hd hA ⟨j,c',hj,pf,pq⟩=>?_) hr fun s' a' w' R' hk=>?_
  ·exact DV hf pf hc (by omega) hA (by rw [ok.dst,hd]; rfl) (by rw [pq,ok.dst,hd])
  ·refine BY wa eh ra ja hf n (i + 1) s' a' w' (by omega) ?_ hk hQ;obtain ⟨ι,Θ,R'⟩:=R';refine ⟨ι,Θ,R'.more fun t ht=>?_⟩;rcases ht with ⟨j,c',hj,pf,pq⟩ | ht
   ·exact ⟨j,c',by omega,pf,pq⟩
   ·exact ⟨i,c,by omega,hc,by rw [ok.dst,ht]⟩
end
end
section
open Go Go.RowKit
section
variable {P:Program} {O:AH} {nt B:Nat} {F0:OO} {aa:Av} {w0:World} {s s':aA} {a:Act} {w w':World} {call:AB} {lh:LH} {Q:Exit->Act->World->Prop}
noncomputable def bK (call:AB) (lh:LH) (cs:List UA):List Nat->aA->(aA->Option RV)->Option RV
 | [],s,k=>k s
 | i :: r,s,k=>match cs[i]? with
  | some c=>c.stepK call lh s fun s=>bK call lh cs r s k
  | none=>none
theorem gX (cs:List UA) (k:aA->Option RV):∀ (n i:Nat) (s:aA),i + n=cs.length->LG call lh (cs.drop i) s k=bK call lh cs (List.range' i n) s k
 | 0,i,s,h=>by rw [ye (by omega)]; rfl
 | n + 1,i,s,h=>by
  have da:i<cs.length:=by omega
  rw [yb da,List.range'_succ];unfold LG bK;rw [y4 da];simp only;congr 1;funext s1;exact gX cs k n (i + 1) s1 (by omega)
theorem BI {c:UA} (h:isH c.op=false) (s:aA) (k:aA->Option RV):c.stepK call lh s k=(c.step call s).bind k:=by
 unfold UA.stepK;split
 ·rename_i e; rw [e] at h; cases h
 ·rename_i e; rw [e] at h; cases h
 ·rfl
theorem isM_H {k:K} (h:isM k=false):isH k=false:=by
 cases k <;> first | rfl | cases h
theorem b7 {x y:UA} (h:aO x y=true):isH x.op=false/\isH y.op=false:=by
 have hN:∀ {k:K},isN k=true->isH k=false:=fun {k} h=>by cases k <;> first | rfl | cases h
 have hV:∀ {o:UA},isMv o=true->isH o.op=false:=fun h=>by obtain ⟨d,z,rfl⟩:=isMv_eq h; rfl
 unfold aO at h;simp only [Bool.or_eq_true,y7] at h;rcases h with h | ⟨h,h'⟩ | ⟨h,h'⟩
 ·unfold RI at h;simp only [y7] at h;exact ⟨isM_H (by simpa using h.1.1.1.1.1.1.1),isM_H (by simpa using h.1.1.1.1.1.1.2)⟩
 ·exact ⟨hV h,hN h'⟩
 ·exact ⟨hN h',hV h⟩
theorem bubble0 {cs:List UA} {i:Nat} {c:UA} (hc:cs[i]?=some c) (hH:isH c.op=false) {L2:List Nat} {k:aA->Option RV} {r:RV}:∀ {L1:List Nat} {s:aA},(∀ r∈L1,∃ cr,cs[r]?=some cr/\NJ cr c=true/\aO cr c=true)->bK call lh cs (L1++i :: L2) s k=some r →
  ∃ s1,c.step call s=some s1/\bK call lh cs (L1++L2) s1 k=some r
 | [],s,_,h=>by
  simp only [yP,bK,hc,BI hH] at h;obtain ⟨s1,h1,h2⟩:=y8.1 h;exact ⟨s1,h1,h2⟩
 | q :: L1,s,hL,h=>by
  obtain ⟨cr,hr,ha,ho⟩:=hL q (yk);simp only [List.cons_append,bK,hr,BI (b7 ho).1] at h;obtain ⟨s1,h1,h2⟩:=y8.1 h;obtain ⟨s2,h3,h4⟩:=bubble0 hc hH (fun q hq=>hL q (yp _ hq)) h2;obtain ⟨gr,h5,h6⟩:=commute ha ho h1 h3;refine ⟨gr,h5,?_⟩;simp only [List.cons_append,bK,hr,BI (b7 ho).1,h6,V];exact h4
theorem bubble {cs:List UA} {i:Nat} {c:UA} (hc:cs[i]?=some c) {L2:List Nat} {k:aA->Option RV} {r:RV} {L1:List Nat} {s:aA} (hL:∀ r∈L1,∃ cr,cs[r]?=some cr/\NJ cr c=true/\aO cr c=true) (h:bK call lh cs (L1++i :: L2) s k=some r) :
  c.stepK call lh s (fun s1=>bK call lh cs (L1++L2) s1 k)=some r:=by
 cases L1 with
 | nil=>simpa only [yP,bK,hc] using h
 | cons q L1 =>
  obtain ⟨cr,hr,ha,ho⟩:=hL q (yk);have hH:=(b7 ho).2;obtain ⟨s1,h1,h2⟩:=bubble0 hc hH hL h;rw [BI hH,h1,V];exact h2
theorem KY {o:Oper} {e:Nat}:e∈GK o ↔ ∃ d∈o.after,Region.binds .any d=true/\d.on=e:=by
 unfold GK;rw [List.mem_filterMap];constructor
 ·rintro ⟨d,hd,h⟩;split at h
  ·rename_i hb; injection h with h; exact ⟨d,by simpa using hd,hb,h⟩
  ·cases h
 ·rintro ⟨d,hd,hb,rfl⟩;exact ⟨d,by simpa using hd,by rw [if_pos hb]⟩
theorem bf_spec {ops:List Oper} {bf:List Nat} (h:bfOk ops bf=true) {i:Nat} {o:Oper} (ho:ops[i]?=some o):(∀ e∈GK o,e<i)/\∀ r,r<i->(bf.getD i 0).testBit r=true->∃ e∈GK o,e=r\/(r<e/\(bf.getD e 0).testBit r=true):=by
 have hi:=(y9.1 ho).1;have h1:=y5.1 h i (List.mem_range.2 hi);rw [ho] at h1;simp only [y7] at h1;refine ⟨fun e he=>by simpa using y5.1 h1.1 e he,fun r hr hb=>?_⟩;have h2:=y5.1 h1.2 r (List.mem_range.2 hr);simp only [hb,Bool.not_true,Bool.false_or,List.any_eq_true,Bool.or_eq_true,beq_iff_eq,y7,decide_eq_true_eq] at h2;exact h2
theorem jY {ops:List Oper} {bf:List Nat} (h:bfOk ops bf=true) {L:List Nat} (bd:∀ (j:Nat) (o:Oper),ops[j]?=some o->j ∉ L->∀ e∈GK o,e ∉ L):∀ (n i:Nat) (o:Oper),i<n->ops[i]?=some o->(∀ e∈GK o,e ∉ L)->∀ r,r<i->(bf.getD i 0).testBit r=true->r ∉ L
 | 0,i,o,hn,_,_,_,_,_=>by omega
 | n + 1,i,o,hn,ho,hed,r,hr,hb=>by
  obtain ⟨h1,h2⟩:=bf_spec h ho;obtain ⟨e,he,hor⟩:=h2 r hr hb;rcases hor with rfl | ⟨ze,hbe⟩
  ·exact hed _ he
  ·have hei:=h1 e he;have da:i<ops.length:=(y9.1 ho).1;have hoe:ops[e]?=some ops[e]:=y4 (by omega);exact jY h bd n e _ (by omega) hoe (bd e _ hoe (hed e he)) r ze hbe
theorem draw_pair {ops:List Oper} {cs:List UA} (h:GS ops cs=true) {i j:Nat} (hj:j<ops.length) (hij:i<j) (hb:((TP ops).getD j 0).testBit i=false):∃ x y,cs[i]?=some x/\cs[j]?=some y/\NJ x y=true/\aO x y=true:=by
 unfold GS at h;simp only [y7] at h;have h1:=y5.1 h.2 j (List.mem_range.2 hj);have h2:=y5.1 h1 i (List.mem_range.2 hij);rw [hb,Bool.false_or] at h2;split at h2
 ·rename_i x y hx hy;simp only [y7] at h2;exact ⟨x,y,hx,hy,h2.1,h2.2⟩
 ·cases h2
theorem gY {ops:Array Oper} {cs:List UA} (wa:∀ f args S r,call f args S=some r->xD P O f args S r) (eh:QZ P O lh.h) (ra:∀ (i:Nat) (o:Oper),ops[i]?=some o->∃ c,cs[i]?=some c/\U2 P nt ops o c) (ja:cs.length=ops.size) (hf:RR cs=true) (hdr:GS ops.toList cs=true) {k:aA->Option RV} {r:RV}
  (hQ:∀ s' a' w',KD P O nt B F0 aa w0 (fun _=>True) s' a' w'->k s'=some r->Q .normal a' w') :
  ∀ (fuel:Nat) (L:List Nat) (listed:Array Bool) (s:aA) (a:Act) (w:World),L.length=fuel->(∀ i,i<ops.size->(listed.getD i true=false ↔ i∈L))->listed.size=ops.size->L.Pairwise (·<·)->(∀ i∈L,i<ops.size) →
   (∀ (j:Nat) (o:Oper),ops.toList[j]?=some o->j ∉ L->∀ e∈GK o,e ∉ L)->KD P O nt B F0 aa w0 (fun t=>∃ j c,j ∉ L/\cs[j]?=some c/\c.dst=some t) s a w->bK call lh cs L s k=some r->wpAny P .any ops Q fuel listed a w
 | 0,L,listed,s,a,w,hl,hlist,ac,_,_,_,R,hr=>by
  have:L=[]:=yM hl;subst this;refine ⟨?_,?_⟩
  ·refine List.eq_nil_iff_forall_not_mem.2 fun i hi=>?_
   obtain ⟨sx,o,ho,_⟩:=mem_ready.1 hi;have fc:=(Array.getElem?_eq_some_iff.1 ho).1;have:=(hlist i fc).1 sx;cases this
  ·obtain ⟨ι,Θ,R⟩:=R;exact hQ s a w ⟨ι,Θ,R.more fun _ _=>trivial⟩ hr
 | fuel + 1,L,listed,s,a,w,hl,hlist,ac,hsort,zb,bd,R,hr=>by
  have hbf:bfOk ops.toList (TP ops.toList)=true:=by
   unfold GS at hdr;simp only [y7] at hdr;exact hdr.1
  refine ⟨fun du=>?_,fun i hi=>?_⟩
  ·exfalso;cases L with
   | nil=>simp at hl
   | cons i0 L0 =>
    have kg:=zb i0 (yk);have ho:ops.toList[i0]?=some ops[i0]:=by simp [kg]
    have ma:i0∈Region.ready .any ops listed:=by
     refine mem_ready.2 ⟨(hlist i0 kg).2 (yk),ops[i0],yY kg,fun e he hb=>?_⟩;have da:=(bf_spec hbf ho).1 e.on (KY.2 ⟨e,he,hb,rfl⟩);have hnot:e.on ∉ i0 :: L0:=fun hm=>by
      rcases yf.1 hm with h | h
      ·omega
      ·have:=(List.pairwise_cons.1 hsort).1 _ h; omega
     have h1:listed.getD e.on true≠false:=fun h=>hnot ((hlist e.on (by omega)).1 h)
     have hs:e.on<listed.size:=by omega
     simp only [yZ,yY hs,Option.getD_some] at h1 ⊢;simpa using h1
    rw [du] at ma;cases ma
  ·obtain ⟨sx,o,ho,hed⟩:=mem_ready.1 hi;have fc:=(Array.getElem?_eq_some_iff.1 ho).1;have hiL:=(hlist i fc).1 sx;have hol:ops.toList[i]?=some o:=by simpa using ho
   have hedL:∀ e∈GK o,e ∉ L:=fun e he=>by
    obtain ⟨d,hd,hb,rfl⟩:=KY.1 he;have h1:=hed d hd hb;intro hm;have da:=zb _ hm;have h2:=(hlist _ da).2 hm;have hs:d.on<listed.size:=by omega
    simp only [yZ,yY hs,Option.getD_some] at h1 h2;rw [h1] at h2;cases h2
   obtain ⟨L1,L2,rfl⟩:=List.append_of_mem hiL;obtain ⟨c,hc,ok⟩:=ra i o ho;have og:=List.pairwise_append.1 hsort;have hL1:∀ r∈L1,∃ cr,cs[r]?=some cr/\NJ cr c=true/\aO cr c=true:=fun r hr=>by
    have hri:r<i:=og.2.2 r hr i (yk);have hbit:((TP ops.toList).getD i 0).testBit r=false:=by
     cases hb:((TP ops.toList).getD i 0).testBit r with
     | false=>rfl
     | true=>exact absurd (List.mem_append_left _ hr) (jY hbf bd (i + 1) i o (by omega) hol hedL r hri hb)
    obtain ⟨x,y,hx,hy,h1,h2⟩:=draw_pair hdr (by simpa using fc) hri hbit;rw [hc] at hy;injection hy with hy;subst hy;exact ⟨x,hx,h1,h2⟩
   have h1:=bubble hc hL1 hr;have hnd:i ∉ L1++L2:=fun hm=>by
    rcases yt.1 hm with h | h
    ·have:=og.2.2 i h i (yk); omega
    ·have:=(List.pairwise_cons.1 og.2.1).1 i h; omega
   have nc:∀ j,j ∉ L1++i :: L2 ↔ (j ∉ L1++L2/\j≠i):=fun j=>by
    simp only [yt,yf,not_or];exact ⟨fun ⟨h1,h2,h3⟩=>⟨⟨h1,h3⟩,h2⟩,fun ⟨⟨h1,h3⟩,h2⟩=>⟨h1,h2,h3⟩⟩
   refine kU R wa eh ho ok (fun d hd hA ⟨j,c',hj,pf,pq⟩=>?_) h1 fun s1 a' w' R' h2=>?_
   ·have:j≠i:=((nc j).1 hj).2;exact DV hf pf hc this hA (by rw [ok.dst,hd]; rfl) (by rw [pq,ok.dst,hd])
   ·refine gY wa eh ra ja hf hdr hQ fuel (L1++L2) (listed.setIfInBounds i true) s1 a' w' (by simp at hl ⊢; omega) (fun j hj=>?_) (by simpa using ac) ?_ (fun j hj=>zb j ?_) (fun j o' ho' hj e he hm=>?_) ?_ h2
    ·have hjs:j<listed.size:=by omega
     by_cases e:i=j
     ·subst e;simp only [yZ,Array.getElem?_setIfInBounds,if_true,hjs,Option.getD_some];exact ⟨fun h=>by simp at h,fun h=>absurd h hnd⟩
     ·simp only [yZ,Array.getElem?_setIfInBounds,if_neg e];have:=hlist j hj;simp only [yZ] at this;rw [this];simp only [yt,yf];exact ⟨fun h=>by rcases h with h | h | h; exact .inl h; exact absurd h.symm e; exact .inr h,fun h=>by rcases h with h | h; exact .inl h; exact .inr (.inr h)⟩
    ·exact List.pairwise_append.2 ⟨og.1,(List.pairwise_cons.1 og.2.1).2,fun x hx y hy=>og.2.2 x hx y (yp _ hy)⟩
    ·rcases yt.1 hj with h | h
     ·exact List.mem_append_left _ h
     ·exact List.mem_append_right _ (yp _ h)
    ·have md:e∈L1++i :: L2:=by
      rcases yt.1 hm with h | h
      ·exact List.mem_append_left _ h
      ·exact List.mem_append_right _ (yp _ h)
     by_cases e':j=i
     ·subst e';rw [hol] at ho';injection ho' with ho';subst ho';exact hedL e he md
     ·exact bd j o' ho' ((nc j).2 ⟨hj,e'⟩) e he md
    ·obtain ⟨ι,Θ,R'⟩:=R';refine ⟨ι,Θ,R'.more fun t ht=>?_⟩;rcases ht with ⟨j,c',hj,pf,pq⟩ | ht
     ·exact ⟨j,c',((nc j).1 hj).1,pf,pq⟩
     ·exact ⟨i,c,hnd,hc,by rw [ok.dst,ht]⟩
theorem Q1 (hm:P.follows .mixedOrders=true) (wa:∀ f args S r,call f args S=some r->xD P O f args S r) (eh:QZ P O lh.h) {boxes:List Nat} {id:Nat} {ops:Array Oper} {draw:Bool} {cs:List UA} (hc:cR P boxes nt ops.toList draw ops.toList=some cs) (hf:RR cs=true) (hd:draw=true->GS ops.toList cs=true)
  (R:KD P O nt B F0 aa w0 (fun _=>False) s a w) {k:aA->Option RV} {r:RV} (hr:LG call lh cs s k=some r) (hQ:∀ s' a' w',KD P O nt B F0 aa w0 (fun _=>False) { s' with next:=s'.next + 1 } a' w'->k s'=some r->Q .normal a' w'):(Code.region id ops draw).wp P Q a w:=by
 obtain ⟨ja,ri⟩:=tU hc;have wt:cs.length=ops.size:=by simpa using ja
 have ra:∀ (i:Nat) (o:Oper),ops[i]?=some o->∃ c,cs[i]?=some c/\U2 P nt ops o c:=fun i o ho=>by
  have:=ri i o (by simpa using ho);rw [yQ] at this;exact this
 have hQ':∀ s' a' w',KD P O nt B F0 aa w0 (fun _=>True) s' a' w'->k s'=some r->Q .normal a' w':=fun s' a' w' h hk=>hQ s' a' w' h.next hk
 cases draw with
 | false =>
  refine wp_region ?_;rw [List.range_eq_range'];refine BY wa eh ra wt hf ops.size 0 s a w (by omega) ?_ (by simpa using hr) hQ';obtain ⟨ι,Θ,R⟩:=R;exact ⟨ι,Θ,R.more fun _ h=>h.elim⟩
 | true =>
  refine wp_region_any hm ?_;have ia:bK call lh cs (List.range' 0 ops.size) s k=some r:=by
   rw [<- wt,<- gX cs k cs.length 0 s (by omega)];simpa using hr
  refine gY wa eh ra wt hf (hd rfl) hQ' ops.size (List.range' 0 ops.size) _ s a _ (by simp) (fun i hi=>?_) (by simp) List.pairwise_lt_range' (fun i hi=>?_) (fun j o ho hj=>?_) ?_ ia
  ·simp [hi]
  ·simpa using hi
  ·have:=(y9.1 ho).1;exact absurd (by simpa using this) (by simpa using hj)
  ·obtain ⟨ι,Θ,R⟩:=R;exact ⟨ι,Θ,(R.grow (w':=w.drew) (fun _ _=>rfl) (ym _) R.kept.drew).more fun _ h=>h.elim⟩
end
end
section
open Go Go.RowKit
section
variable {P:Program} {O:AH} {nt B:Nat} {F0:OO} {aa:Av} {w0:World} {s s':aA} {a:Act} {w w':World} {call:AB} {lp:LH}
def exOf:Ex->Exit
 | .nrm=>.normal
 | .exit id=>.exit id
 | .ret=>.ret
def LpOk (P:Program) (O:AH) (N:Nat) (lp:LpT):Prop :=
 ∀ (boxes:List Nat) (nt B:Nat) (F0:OO) (aa:Av) (w0:World) (code:Code) (b:C) (s:aA) (k:Ex->aA->Option RV) (r:RV) (a:Act) (w:World) (Q:Exit->Act->World->Prop),comp P boxes nt code=some b->lp b s k=some r->KD P O nt B F0 aa w0 (fun _=>False) s a w →
  (∀ e s' a' w',KD P O nt B F0 aa w0 (fun _=>False) s' a' w'->k e s'=some r->Q (exOf e) a' w')->Code.rounds P code Q N a w
theorem nF (hm:P.follows .mixedOrders=true) (wa:∀ f args S r,call f args S=some r->xD P O f args S r) {N:Nat} (rh:LpOk P O N lp.l) (eh:QZ P O lp.h) {boxes:List Nat} :
  ∀ (code:Code) (c:C) (s:aA) (k:Ex->aA->Option RV) (r:RV) (a:Act) (w:World) (Q:Exit->Act->World->Prop),comp P boxes nt code=some c->c.run call lp s k=some r->KD P O nt B F0 aa w0 (fun _=>False) s a w →
   (∀ e s' a' w',KD P O nt B F0 aa w0 (fun _=>False) s' a' w'->k e s'=some r->Q (exOf e) a' w')->code.wp P Q a w
 | .skip,c,s,k,r,a,w,Q,hc,hr,R,hk=>by
  injection hc with hc;subst hc;exact wp_skip (hk .nrm s a w R hr)
 | .seq x y,c,s,k,r,a,w,Q,hc,hr,R,hk=>by
  unfold comp at hc;split at hc
  ·rename_i cx cy hx hy;injection hc with hc;subst hc;refine wp_seq (nF hm wa rh eh x cx s _ r a w _ hx hr R fun e s' a' w' R' he=>?_);cases e with
   | nrm=>exact nF hm wa rh eh y cy s' k r a' w' Q hy he R' hk
   | exit id=>exact hk _ _ _ _ R' he
   | ret=>exact hk _ _ _ _ R' he
  ·cases hc
 | .region id ops draw,c,s,k,r,a,w,Q,hc,hr,R,hk=>by
  unfold comp at hc;split at hc
  ·rename_i cs nk;split at hc
   ·rename_i ra;injection hc with hc;subst hc;simp only [y7,Bool.or_eq_true] at ra;simp only [C.run] at hr;exact Q1 hm wa eh nk ra.1 (fun h=>by rcases ra.2 with h' | h'; rw [h] at h'; cases h'; exact h') R hr fun s' a' w' R' tc=>hk .nrm _ _ _ R' tc
   ·cases hc
  ·cases hc
 | .cond x t e,c,s,k,r,a,w,Q,hc,hr,R,hk=>by
  unfold comp at hc;split at hc
  ·rename_i cx ct ce hx ht he;injection hc with hc;subst hc;simp only [C.run] at hr;split at hr
   ·rename_i b hb;have hv:a.eval x=.bool b:=by
     obtain ⟨ι,Θ,R⟩:=R;have:=(R.opd hx).1
     rwa [hb,PB] at this
    cases b with
    | true=>exact wp_cond_true hv (nF hm wa rh eh t ct s k r a w Q ht (by simpa using hr) R hk)
    | false=>exact wp_cond_false hv (nF hm wa rh eh e ce s k r a w Q he (by simpa using hr) R hk)
   ·cases hr
  ·cases hc
 | .block id b,c,s,k,r,a,w,Q,hc,hr,R,hk=>by
  unfold comp at hc;obtain ⟨cb,hb,rfl⟩:=yh.1 hc;refine wp_block (nF hm wa rh eh b cb s _ r a w _ hb hr R fun e s' a' w' R' he=>?_);cases e with
  | nrm=>exact hk _ _ _ _ R' he
  | ret=>exact hk _ _ _ _ R' he
  | exit j =>
   simp only at he;show Exit.inBlock id Q (.exit j) a' w';unfold Exit.inBlock;split at he
   ·rename_i e; simp only [e,if_true]; exact hk _ _ _ _ R' he
   ·rename_i e; simp only [e,if_false]; exact hk _ _ _ _ R' he
 | .loop b,c,s,k,r,a,w,Q,hc,hr,R,hk=>by
  unfold comp at hc;obtain ⟨cb,hb,rfl⟩:=yh.1 hc;exact wp_loop_rounds N (rh boxes nt B F0 aa w0 b cb s k r a w Q hb hr R hk)
 | .exit id,c,s,k,r,a,w,Q,hc,hr,R,hk=>by
  injection hc with hc;subst hc;exact wp_exit (hk (.exit id) s a w R hr)
 | .ret,c,s,k,r,a,w,Q,hc,hr,R,hk=>by
  injection hc with hc;subst hc;exact wp_ret (hk .ret s a w R hr)
 | .scope b,c,s,k,r,a,w,Q,hc,hr,R,hk=>by
  unfold comp at hc;refine wp_scope_straight (nF hm wa rh eh b c s k r a w _ hc hr R fun e s' a' w' R' he=>?_);have:=hk _ _ _ _ R' he;cases e <;> exact this
 | .rangeFunc ..,_,_,_,_,_,_,_,hc,_,_,_=>by cases hc
 | .label _,_,_,_,_,_,_,_,hc,_,_,_=>by cases hc
 | .goto _,_,_,_,_,_,_,_,hc,_,_,_=>by cases hc
 | .refuse _,_,_,_,_,_,_,_,hc,_,_,_=>by cases hc
theorem rep_of_S {ι:Ix} {av:Av} {x:AV} {v:Value} (h:qB ι av (fun _ _=>False) w x v) (hx:x.free=true):bE av w x v:=by
  cases x <;> first
    | exact h
    | (simp [AV.free,AV.free0] at hx; done)
    | (obtain ⟨us,hv,hc⟩:=h
       exact ⟨us,hv,lH hc fun y hy=>y5.1 hx y hy⟩)
theorem NT {av:Av}:∀ {xs:List AV} {us:List Value},ZN av w xs us->us.length=xs.length
 | [],_,h=>by simp only [ZN] at h; subst h; rfl
 | x :: r,_,h=>by
  simp only [ZN] at h;obtain ⟨u,ta,rfl,_,h⟩:=h;simp [NT h]
theorem pR {p:Nat} {av:Av}:∀ {xs:List AV} {us:List Value},rM p av w xs us->us.length=xs.length
 | [],_,h=>by simp only [rM] at h; subst h; rfl
 | x :: r,_,h=>by
  simp only [rM] at h;obtain ⟨u,ta,rfl,_,h⟩:=h;simp [pR h]
def fN (ι:Ix) (av avb:Av) (w:World):List AV->List Value->Prop
 | [],us=>us=[]
 | x :: r,us=>∃ u ta,us=u :: ta/\qB ι av avb w x u/\fN ι av avb w r ta
theorem qB.toRep {ι:Ix} {av gb avb:Av} {x:AV} {v:Value} (h:qB ι av avb w x v) (hx:x.free=true) (sd:∀ b o,gb b o->av b o):bE gb w x v :=
 bE.held (BA.less sd) _ _ (rep_of_S (X3 (ι':=ι) h hx) hx)
theorem fN.toT {ι:Ix} {av gb avb:Av} (sd:∀ b o,gb b o->av b o):∀ {xs:List AV} {us:List Value},fN ι av avb w xs us->(∀ v∈xs,v.free=true)->ZN gb w xs us
 | [],_,h,_=>h
 | x :: r,_,h,hf=>by
  simp only [fN] at h;obtain ⟨u,ta,rfl,h0,h⟩:=h;exact ⟨u,ta,rfl,h0.toRep (hf x yk) sd,h.toT sd fun v hv=>hf v (yp _ hv)⟩
theorem B7 {t n:Nat} {x:AV} (h:(GJ t n x).isObj=true):x=.ptr t n 0:=by
 cases x with
 | ptr t' n' o =>
  simp only [GJ] at h;split at h
  ·rename_i e; obtain ⟨rfl,rfl,rfl⟩:=e; rfl
  ·cases h
 | _=>cases h
theorem M5 {t n:Nat} {x:AV} (h:(GJ t n x).free=true):GJ t n x=x:=by
 cases x with
 | ptr t' n' o =>
  simp only [GJ] at h;split at h <;> cases h
 | _=>rfl
theorem fN.toO {ι:Ix} {av gb avb:Av} {t n p:Nat} (hp:ι t n=some p) (sd:∀ b o,gb b o->av b o):∀ {xs:List AV} {us:List Value},fN ι av avb w xs us->(∀ v∈xs,((GJ t n v).free||(GJ t n v).isObj)=true)->rM p gb w (xs.map (GJ t n)) us
 | [],_,h,_=>h
 | x :: r,_,h,hf=>by
  simp only [fN] at h;obtain ⟨u,ta,rfl,h0,h⟩:=h;refine ⟨u,ta,rfl,?_,h.toO hp sd fun v hv=>hf v (yp _ hv)⟩;have h1:=hf x yk;unfold TS;split
  ·rename_i ho;have:=B7 ho;subst this;obtain ⟨b,hb,hv⟩:=h0;rw [hp] at hb;injection hb with hb;rw [hv,hb]
  ·rename_i ho;have ly:(GJ t n x).free=true:=by
    rcases Bool.or_eq_true_iff.1 h1 with h | h
    ·exact h
    ·exact absurd h ho
   have mj:=M5 ly;rw [mj] at ly ⊢;exact h0.toRep ly sd
def avF (s:aA) (av:Av) (ι:Ix):Av:=fun b o=>av b o/\¬ ∃ t n r,s.mem t n=some r/\ι t n=some b
theorem NA.frz1 {D:Nat->Prop} {ι:Ix} {Θ:dL} (R:iC P O nt B F0 aa w0 D s a w ι Θ) {x:AV} {u:Value} (h:NA ι (SC aa ι Θ) w x u):NA ι (avF s (SC aa ι Θ) ι) w (x.frz1 s) u:=by
 have less:BA (SC aa ι Θ) (avF s (SC aa ι Θ) ι) w w:=BA.less fun b o h=>h.1
 have same:=NA.held (Ix.Le.refl ι) less x u h;cases x with
 | ref t n sz off len c =>
  simp only [AV.frz1];split
  ·rename_i l hl;obtain ⟨r,hm,hl⟩:=y8.1 hl;obtain ⟨b,hb,ab,cc,xg,hz,hv⟩:=h;obtain ⟨ad,b',cur,ty,ua,oa,la,_⟩:=R.rows t n r hm;rw [hb] at ua;injection ua with ua;subst ua;obtain ⟨h1,h2,us,hL,od⟩:=iL la oa hl;subst h1;show bE _ w (.sl false l) u;simp only [bE];refine ⟨_,cc,hv,Nat.le_trans ab xg,fun x hx y hy=>(h2 x hx).trans (h2 y hy).symm,(fun h=>by cases h),fun _=>⟨fun h=>(by cases h),fun _=>⟨b,off,rfl,?_⟩⟩⟩;rw [AF];exact XK (MC.held less _ _ hL) fun j u hj=>⟨od j u hj,fun h=>h.2 ⟨t,n,r,hm,hb⟩⟩
  ·exact same
 | _=>exact same
theorem JA.frz1 {D:Nat->Prop} {ι:Ix} {Θ:dL} (R:iC P O nt B F0 aa w0 D s a w ι Θ):∀ {xs:List AV} {us:List Value},JA ι (SC aa ι Θ) w xs us->JA ι (avF s (SC aa ι Θ) ι) w (xs.map (AV.frz1 s)) us
 | [],_,h=>h
 | x :: r,_,h=>by
  simp only [JA] at h;obtain ⟨u,ta,rfl,h0,h1,h⟩:=h;exact ⟨u,ta,rfl,h0.frz1 R,h1,h.frz1 R⟩
theorem NA.frz {D:Nat->Prop} {ι:Ix} {Θ:dL} (R:iC P O nt B F0 aa w0 D s a w ι Θ) {x:AV} {u:Value} (h:NA ι (SC aa ι Θ) w x u):NA ι (avF s (SC aa ι Θ) ι) w (x.frz0 s) u:=by
 have less:BA (SC aa ι Θ) (avF s (SC aa ι Θ) ι) w w:=BA.less fun b o h=>h.1
 have same:=NA.held (Ix.Le.refl ι) less x u h;cases x with
 | ref t n sz off len c =>
  simp only [AV.frz0];split
  ·rename_i l hl;obtain ⟨r,hm,hl⟩:=y8.1 hl;obtain ⟨b,hb,ab,cc,xg,hz,hv⟩:=h;obtain ⟨ad,b',cur,ty,ua,oa,la,_⟩:=R.rows t n r hm;rw [hb] at ua;injection ua with ua;subst ua;obtain ⟨h1,h2,us,hL,od⟩:=iL la oa hl;subst h1;show bE _ w (.sl false l) u;simp only [bE];refine ⟨_,cc,hv,Nat.le_trans ab xg,fun x hx y hy=>(h2 x hx).trans (h2 y hy).symm,(fun h=>by cases h),fun _=>⟨fun h=>(by cases h),fun _=>⟨b,off,rfl,?_⟩⟩⟩;rw [AF];exact XK (MC.held less _ _ hL) fun j u hj=>⟨od j u hj,fun h=>h.2 ⟨t,n,r,hm,hb⟩⟩
  ·split
   ·rename_i l hl;obtain ⟨r,hm,hl⟩:=y8.1 hl;obtain ⟨l0,ug,hl⟩:=y8.1 hl;split at hl
    ·rename_i se;injection hl with hl;subst hl;obtain ⟨b,hb,ab,cc,xg,hz,hv⟩:=h;obtain ⟨ad,b',cur,ty,ua,oa,la,_⟩:=R.rows t n r hm;rw [hb] at ua;injection ua with ua;subst ua;obtain ⟨h1,h2,us,hL,od⟩:=zP la oa ug;subst h1;have hL1:=JA.frz1 R hL;rw [List.map_flatten] at hL1;have hL2:=lH hL1 fun x hx=>y5.1 se x hx
     show bE _ w (.sl false _) u;simp only [bE];refine ⟨_,cc,by rw [yo]; exact hv,by rw [yo]; exact Nat.le_trans ab xg,fun x hx y hy=>?_,(fun h=>by cases h),fun _=>⟨fun h=>(by cases h),fun _=>⟨b,off,rfl,?_⟩⟩⟩
     ·obtain ⟨x',um,rfl⟩:=yy.1 hx;obtain ⟨y',gv,rfl⟩:=yy.1 hy;rw [yo,yo,h2 x' um,h2 y' gv]
     ·rw [AF];exact XK hL2 fun j u hj=>⟨od j u hj,fun h=>h.2 ⟨t,n,r,hm,hb⟩⟩
    ·cases hl
   ·exact same
 | _=>exact same
theorem JA.frz {D:Nat->Prop} {ι:Ix} {Θ:dL} (R:iC P O nt B F0 aa w0 D s a w ι Θ):∀ {xs:List AV} {us:List Value},JA ι (SC aa ι Θ) w xs us->JA ι (avF s (SC aa ι Θ) ι) w (xs.map (AV.frz0 s)) us
 | [],_,h=>h
 | x :: r,_,h=>by
  simp only [JA] at h;obtain ⟨u,ta,rfl,h0,h1,h⟩:=h;exact ⟨u,ta,rfl,h0.frz R,h1,h.frz R⟩
theorem qB.frz {D:Nat->Prop} {ι:Ix} {Θ:dL} (R:iC P O nt B F0 aa w0 D s a w ι Θ) {x:AV} {u:Value} (h:qB ι (SC aa ι Θ) (PC ι Θ) w x u):qB ι (avF s (SC aa ι Θ) ι) (PC ι Θ) w (x.frz s) u:=by
 have less:BA (SC aa ι Θ) (avF s (SC aa ι Θ) ι) w w:=BA.less fun b o h=>h.1
 have same:=qB.held (Ix.Le.refl ι) less (BA.refl _ _) x u h;cases x with
 | agg cs=>obtain ⟨us,hv,hc⟩:=h; exact ⟨us,hv,hc.frz R⟩
 | ref t n sz off len c =>
  have:=NA.frz R (x:=.ref t n sz off len c) h;show qB _ _ _ w (AV.frz0 s (.ref t n sz off len c)) u;generalize hy:AV.frz0 s (.ref t n sz off len c)=y at this ⊢;simp only [AV.frz0] at hy;split at hy
  ·subst hy; exact this
  ·split at hy <;> (subst hy; exact this)
 | _=>exact same
theorem fN.frz {D:Nat->Prop} {ι:Ix} {Θ:dL} (R:iC P O nt B F0 aa w0 D s a w ι Θ):∀ {xs:List AV} {us:List Value},fN ι (SC aa ι Θ) (PC ι Θ) w xs us->fN ι (avF s (SC aa ι Θ) ι) (PC ι Θ) w (xs.map (AV.frz s)) us
 | [],_,h=>h
 | x :: r,_,h=>by
  simp only [fN] at h;obtain ⟨u,ta,rfl,h0,h⟩:=h;exact ⟨u,ta,rfl,h0.frz R,h.frz R⟩
def aP (us:List Value):Value:=if h:us.toArray.size=1 then us.toArray[0] else .tuple us.toArray
theorem XW {av:Av}:∀ {xs:List AV} {us:List Value},ZN av w xs us->bE av w (KU xs) (aP us)
 | [],us,h=>by simp only [ZN] at h; subst h; exact ⟨#[],rfl,rfl⟩
 | [x],us,h=>by
  simp only [ZN] at h;obtain ⟨u,ta,rfl,h0,rfl⟩:=h;exact h0
 | x :: y :: r,us,h=>by
  have hl:=NT h;have:¬ us.toArray.size=1:=by simp; simp at hl; omega
  unfold aP;rw [dif_neg this];exact ⟨_,rfl,h⟩
theorem pack_repN {p:Nat} {av:Av}:∀ {xs:List AV} {us:List Value},rM p av w xs us->(∀ v∈xs,(v.free||v.isObj)=true)->E6 p av w (KU xs) (aP us)
 | [],us,h,_=>by simp only [rM] at h; subst h; exact ⟨#[],rfl,rfl⟩
 | [x],us,h,hf=>by
  simp only [rM] at h;obtain ⟨u,ta,rfl,h0,rfl⟩:=h;have:=hf x yk;cases x with
  | tup vs=>cases this
  | _=>exact h0
 | x :: y :: r,us,h,_=>by
  have hl:=pR h;have:¬ us.toArray.size=1:=by simp; simp at hl; omega
  unfold aP;rw [dif_neg this];exact ⟨_,rfl,h⟩
def zO (tmps:Array Value):ResultVar->Sem Value
 | .tmp t=>pure (tmps.getD t undef)
 | .cell b t=>do loadVar t (<- asAddr (tmps.getD b undef))
theorem rV {D:Nat->Prop} {ι:Ix} {Θ:dL} (R:iC P O nt B F0 aa w0 D s a w ι Θ):∀ {rs:List ResultVar} {cs:List ResC} {vs:List AV},SL P rs=some cs->gS s cs=some vs →
  ∃ us,(rs.mapM (zO a.tmps)).run P w=Result.ok us w/\fN ι (SC aa ι Θ) (PC ι Θ) w vs us
 | [],cs,vs,h,hr=>by
  injection h with h;subst h;injection hr with hr;subst hr;exact ⟨[],by simp,rfl⟩
 | .tmp t :: rs,cs,vs,h,hr=>by
  unfold SL at h;obtain ⟨l,hl,rfl⟩:=yh.1 h;simp only [gS] at hr;obtain ⟨aw,hv,rfl⟩:=yh.1 hr;obtain ⟨us,hu,hT⟩:=rV R hl hv;refine ⟨a.tmps.getD t undef :: us,by rw [List.mapM_cons]; simp only [zO,Sem.run_bind,Sem.run_pure,Result.andThen_ok,hu],_,us,rfl,R.env t,hT⟩
 | .cell b t :: rs,cs,vs,h,hr=>by
  unfold SL at h;split at h
  ·rename_i ag z l hA hz hl;injection h with h;subst h;simp only [gS] at hr;split at hr
   ·rename_i t' n off hb;cases hm:s.mem t' n with
    | none=>rw [hm] at hr; cases hr
    | some row =>
     rw [hm,V] at hr;obtain ⟨x,hx,hr⟩:=y8.1 hr;obtain ⟨aw,hv,rfl⟩:=yh.1 hr;obtain ⟨us,hu,hT⟩:=rV R hl hv;have hv:=R.env b;rw [hb,AG] at hv;obtain ⟨bb,hbb,hv⟩:=hv;obtain ⟨zl,b',cur,ty,ua,oa,la,_⟩:=R.rows t' n row hm;rw [hbb] at ua;injection ua with ua;subst ua;have sb:∀ (j:Nat) (u:Value),((cur.toList.take row.length).drop off)[j]?=some u->w.cell? ⟨bb,off + j,none⟩=some u:=fun j u hu=>by
      rw [cell_of_row w bb (off + j) cur ty (0,0) oa];rw [yT,yO] at hu;split at hu
      ·simpa using hu
      ·cases hu
     have ec:=xF off la.rep;have hi:IG ag z ((row.map (·.v)).drop off)=some x.v:=by
      cases ag with
      | true =>
       simp only [MA,if_true] at hx;split at hx
       ·rename_i ab;injection hx with hx;subst hx;simp only [IG,if_true,List.length_drop,yo];rw [if_pos (by omega)];simp [List.map_take,List.map_drop]
       ·cases hx
      | false =>
       simp only [MA,yr,if_false] at hx;simp [IG,yT,hx]
     obtain ⟨u,ia,hS,_⟩:=rP (P:=P) (avb:=PC ι Θ) hA hz ec sb hi;refine ⟨u :: us,by rw [List.mapM_cons]; simp only [zO,Sem.run_bind,hv,asAddr,Sem.run_pure,Result.andThen_ok,ia,hu],_,us,rfl,hS,hT⟩
   ·cases hr
  ·cases h
structure TA (P:Program) (f:FuncId) (c:zB):Prop where
 enter:∀ xs w,(callFunc f xs).run P w=.ok (.enter f xs) w
 fn:∃ fn,P.funcs[f]?=some fn/\rU P c.mu fn=some c
theorem CT {ι:Ix} {av avl:Av}:∀ {xs:List AV} {us:List Value},mL ι av avl w xs us->us.length=xs.length
 | [],_,h=>by simp only [mL] at h; subst h; rfl
 | x :: r,_,h=>by
  simp only [mL] at h;obtain ⟨u,ta,rfl,_,h⟩:=h;simp [CT h]
theorem O2 {ι:Ix} {av avl:Av}:∀ {xs:List AV} {us:List Value} (_:mL ι av avl w xs us) (t:Nat),qB ι av avl w (xs.getD t .undef) (us.getD t undef)
 | [],_,_,_=>by simp [qB]
 | x :: r,_,h,t=>by
  simp only [mL] at h;obtain ⟨u,ta,rfl,h0,h⟩:=h;cases t with
  | zero=>simpa using h0
  | succ t=>simpa using O2 h t
section
variable {vs:List Value} {args:List AV}
include vs args
theorem LS {ι:Ix} {av avl:Av} {np:Nat} (h:mL ι av avl w args vs) (hl:args.length=np) (hn:np<=nt):(vs.toArray++Array.replicate (nt - vs.toArray.size) undef).size=nt:=by
 have:=CT h;simp;omega
theorem XV {ι ι':Ix} {av gb avb avl:Av} {S0:Option AV} (h:mL ι av avl w args vs) (hι:Ix.Le ι ι') (hA:BA av gb w w) (hB:BA avl avb w w) (t:Nat) :
  qB ι' gb avb w ((aA.init args S0).env t).v ((vs.toArray++Array.replicate (nt - vs.toArray.size) undef).getD t undef):=by
 have h1:=qB.held hι hA hB _ _ (O2 h t);have h2:(vs.toArray++Array.replicate (nt - vs.toArray.size) undef).getD t undef=vs.getD t undef:=by
  simp only [yZ,List.getD_eq_getElem?_getD,Array.getElem?_append,List.size_toArray,List.getElem?_toArray];split
  ·rfl
  ·rename_i ne;rw [yW (by omega)];simp only [Array.getElem?_replicate];split <;> rfl
 rw [h2];exact h1
theorem UY {av:Av} {np:Nat} (h:mL Ix.none av (fun _ _=>False) w args vs) (sd:∀ b o,av b o->b<w.heap.size) (hl:args.length=np) (hn:np<=nt) :
  KD P O nt w.heap.size ⟨fun _=>False,none,fun _=>False,0,fun _=>undef⟩ av w (fun _=>False) (aA.init args none) { tmps:=vs.toArray++Array.replicate (nt - vs.toArray.size) undef,defers:=[] } w:=by
 have bv:∀ b o,PC Ix.none (fun _=>none) b o->False:=fun b o h=>by rcases h with (⟨t,n,h⟩ | ⟨t,n,H,h,_⟩) | ⟨k,ow,h,_⟩ <;> cases h
 have hA:BA av (SC av Ix.none (fun _=>none)) w w:=BA.less fun b o h=>h.resolve_right (bv b o)
 have hB:BA (fun _ _=>False) (PC Ix.none (fun _=>none)) w w:=BA.less fun b o h=>bv b o h
 exact ⟨Ix.none,fun _=>none,rfl,LS h hl hn,fun t=>XV h (Ix.Le.refl _) hA hB t,fun t=>trivial,fun t n r h=>(by cases h),fun t n b h=>(by cases h),fun _ _ _ _ _ h=>(by cases h),fun _ _ h=>(by cases h),fun _ _ _ _ h=>(by cases h),fun _ _ _ _ h=>(by cases h),sd,fun _ h=>(by cases h),ID.refl _ _,rfl,fun t n S h=>(by simp [aA.init] at h),fun t n H h=>(by cases h),fun _=>trivial,fun _=>trivial⟩
theorem init_some {av:Av} {np p:Nat} {H:Nat->Prop} {S:AV} (h:mL (Ix.one p) av (fun b _=>H b) w args vs) (sd:∀ b o,av b o->b<w.heap.size) (hH:∀ b o,H b->av b o) (sc:O.at_ S H p w) (hni:J4 S=true) (hl:args.length=np) (hn:np<=nt) :
  KD P O nt w.heap.size ⟨H,some p,fun _=>False,0,fun _=>undef⟩ av w (fun _=>False) (aA.init args (some S)) { tmps:=vs.toArray++Array.replicate (nt - vs.toArray.size) undef,defers:=[] } w:=by
 obtain ⟨ι,hι⟩:∃ ι:Ix,ι=⟨fun t n=>if t=0/\n=0 then some p else none,fun t n=>if t=0/\n=0 then some H else none,fun _=>0⟩:=⟨_,rfl⟩;have hf:∀ t n b,ι t n=some b->t=0/\n=0/\b=p:=fun t n b h=>by
  subst hι;have h':(if t=0/\n=0 then some p else none)=some b:=h;split at h'
  ·rename_i e; injection h' with h'; exact ⟨e.1,e.2,h'.symm⟩
  ·cases h'
 have ho:∀ t n H1,ι.ob t n=some H1->t=0/\n=0/\H1=H:=fun t n b h=>by
  subst hι;simp only at h;split at h
  ·rename_i e; injection h with h'; exact ⟨e.1,e.2,h'.symm⟩
  ·cases h
 have h0:ι 0 0=some p:=by subst hι; rfl
 have h1:ι.ob 0 0=some H:=by subst hι; rfl
 have nc:∀ t n b,Ix.one p t n=some b->ι t n=some b:=fun t n b h=>by subst hι; exact h
 have ab:Ix.Le (Ix.one p) ι:=⟨nc,fun _ _ _ _=>by subst hι; rfl⟩;clear hι;have hpH:=O.main sc;have bv:∀ b o,PC ι (fun _=>none) b o->H b:=fun b o h=>by
  rcases h with (⟨t,n,h⟩ | ⟨t,n,H1,h,hb⟩) | ⟨k,ow,h,_⟩
  ·rw [(hf _ _ _ h).2.2]; exact hpH
  ·rw [(ho _ _ _ h).2.2] at hb; exact hb
  ·cases h
 have hA:BA av (SC av ι (fun _=>none)) w w:=BA.less fun b o h=>h.elim id fun h=>hH b o (bv b o h)
 refine ⟨ι,fun _=>none,rfl,LS h hl hn,fun t=>?_,fun t=>trivial,fun t n r h=>(by cases h),fun t n b h=>?_,fun t n t' n' b h h'=>?_,fun _ _ h=>(by cases h),fun _ _ _ _ h=>(by cases h),fun _ _ _ _ h=>(by cases h),sd,fun q h=>?_,ID.refl _ _,rfl,fun t n S1 h=>?_,fun t n H1 h=>?_,fun _=>trivial,fun _=>trivial⟩
 ·exact XV h ab hA (BA.less fun b o h=>bv b o h) t
 ·obtain ⟨rfl,rfl,rfl⟩:=hf _ _ _ h;exact ⟨.inr hpH,O.lt sc hpH,.inl (by simp [aA.init])⟩
 ·obtain ⟨rfl,rfl,_⟩:=hf _ _ _ h;obtain ⟨rfl,rfl,_⟩:=hf _ _ _ h';exact ⟨rfl,rfl⟩
 ·injection h with h;subst h;exact ⟨h0,.inr ⟨H,h1⟩⟩
 ·simp only [aA.init] at h;split at h
  ·rename_i e;injection h with h;subst h;exact ⟨p,H,by rw [e.1,e.2]; exact h0,by rw [e.1,e.2]; exact h1,sc,N1.no hni⟩
  ·cases h
 ·obtain ⟨rfl,rfl,rfl⟩:=ho _ _ _ h;refine ⟨fun b hb=>⟨.inr hb,O.lt sc hb,fun t' n' h=>?_,fun _ _ h=>(by cases h),fun t' n' H' h _=>?_⟩,.inl (by simp [aA.init])⟩
  ·obtain ⟨rfl,rfl,_⟩:=hf _ _ _ h; exact ⟨rfl,rfl⟩
  ·obtain ⟨rfl,rfl,_⟩:=ho _ _ _ h; exact ⟨rfl,rfl⟩
end
theorem init_row {vs:List Value} {args cs:List AV} {av:Av} {np p:Nat} {cur:Array Value} {ty:TypeId} (h:mL (Ix.row p cur.size) av (fun b _=>b=p) w args vs) (sd:∀ b o,av b o->b<w.heap.size) (ll:∀ o,av p o) (oa:w.heap[p]?=some (.cells cur ty (0,0))) (nk:cs.length<=cur.size) (ec:MC av w cs (cur.toList.take cs.length)) (hl:args.length=np) (hn:np<=nt) :
  KD P O nt w.heap.size ⟨fun b=>b=p,some p,fun b=>b=p,cur.size,fun _=>undef⟩ av w (fun _=>False) (aA.initR args cs) { tmps:=vs.toArray++Array.replicate (nt - vs.toArray.size) undef,defers:=[] } w:=by
 have hf:∀ t n b,(Ix.row p cur.size) t n=some b->t=0/\n=0/\b=p:=fun t n b h=>by
  have h':(if t=0/\n=0 then some p else none)=some b:=h;split at h'
  ·rename_i e; injection h' with h'; exact ⟨e.1,e.2,h'.symm⟩
  ·cases h'
 have bv:∀ b o,PC (Ix.row p cur.size) (fun _=>none) b o->b=p:=fun b o h=>by
  rcases h with (⟨t,n,h⟩ | ⟨t,n,H1,h,hb⟩) | ⟨k,ow,h,_⟩
  ·exact (hf _ _ _ h).2.2
  ·cases h
  ·cases h
 have hA:BA av (SC av (Ix.row p cur.size) (fun _=>none)) w w:=BA.less fun b o h=>h.elim id fun h=>bv b o h ▸ ll o
 refine ⟨Ix.row p cur.size,fun _=>none,rfl,LS h hl hn,fun t=>?_,fun t=>trivial,fun t n r h=>?_,fun t n b h=>?_,fun t n t' n' b h h'=>?_,fun _ _ h=>(by cases h),fun _ _ _ _ h=>(by cases h),fun _ _ _ _ h=>(by cases h),sd,fun q h=>?_,ID.refl _ _,rfl,fun t n S1 h=>(by cases h),fun t n H1 h=>(by cases h),fun _=>trivial,fun _=>trivial⟩
 ·exact XV (S0:=none) h (Ix.Le.refl _) hA (BA.less fun b o h=>bv b o h) t
 ·simp only [aA.initR] at h;split at h
  ·rename_i e;injection h with h;subst h;refine ⟨rfl,p,cur,ty,by rw [e.1,e.2]; rfl,oa,row_ofz (MC.held hA _ _ ec) fun j u hu=>?_,.inr rfl,rfl⟩;have hj:j<cs.length:=by
    have:=(y9.1 hu).1;rw [yC] at this;omega
   rw [List.getElem?_take_of_lt hj] at hu;simpa using hu
  ·cases h
 ·obtain ⟨rfl,rfl,rfl⟩:=hf _ _ _ h;exact ⟨.inr rfl,OA oa,.inl (by simp [aA.initR])⟩
 ·obtain ⟨rfl,rfl,_⟩:=hf _ _ _ h;obtain ⟨rfl,rfl,_⟩:=hf _ _ _ h';exact ⟨rfl,rfl⟩
 ·injection h with h;subst h;exact ⟨rfl,.inl ⟨rfl,rfl⟩⟩
theorem iC.drop0 {D:Nat->Prop} {ι:Ix} {Θ:dL} (R:iC P O nt B F0 aa w0 D s a w ι Θ):iC P O nt B F0 aa w0 D s.drop0 a w ι Θ :=
 ⟨R.defers,R.size,R.env,R.ann,fun t n r h=>by
  simp only [aA.drop0] at h;split at h
  ·cases h
  ·exact R.rows t n r h,R.mine,R.inj,R.tok,R.tinj,R.apart,R.out,R.pin,R.kept,R.base,R.objs,R.obs,R.gen,R.gann⟩
theorem row_sound (hm:P.follows .mixedOrders=true) {call:AB} {lp:LH} {N:Nat} (wa:∀ f args S r,call f args S=some r->xD P O f args S r) (rh:LpOk P O N lp.l) (eh:QZ P O lp.h) {f:FuncId} {fn:Func} {c:zB} (ed:∀ xs w,(callFunc f xs).run P w=.ok (.enter f xs) w) (dr:P.funcs[f]?=some fn) (je:rU P c.mu fn=some c) {rest cs:List AV} {r:RV} (ja:rest.length=c.np)
  (h:c.code.run call lp (aA.initR rest cs) (DL c cs.length)=some r):XU P f rest (some (.agg cs)) r:=by
 unfold rU at je;split at je
 ·cases je
 ·rename_i code ol;split at je
  ·rename_i cc rr xg hrr;split at je
   ·rename_i ba;injection je with je;obtain ⟨mu,xo⟩:∃ mu,mu=c.mu:=⟨_,rfl⟩;rw [<- xo] at je xg;clear xo;subst je;have au:fn.params.size + fn.nfree<=fn.ntmps:=ba;refine ⟨ed,?_⟩;obtain ⟨r1,r2⟩:=r
    match r2,h with
    | some (.agg bw),h =>
     intro av w vs p cur ty sd ll oa ab ec lc;refine calls_of_wp dr ol ?_;refine nF hm wa rh eh code cc _ _ _ _ w _ xg h (init_row lc sd ll oa ab ec ja au) fun e s' a' w' R' he=>?_
     have oi:e=.nrm\/e=.ret:=by
      cases e with
      | nrm=>exact .inl rfl
      | ret=>exact .inr rfl
      | exit id=>cases he
     have zg:∃ xs,gS s' rr=some xs/\JI cs.length s' (xs.map (AV.frz s'.drop0))=some (r1,some (.agg bw)):=by
      rcases oi with rfl | rfl <;> exact y8.1 he
     obtain ⟨xs,be,jd⟩:=zg;obtain ⟨ι,Θ,R'⟩:=R';obtain ⟨us,od,hT'⟩:=rV R' hrr be;have nd:(results fn a'.tmps).run P w'=.ok (aP us) w':=by
      have he:results fn a'.tmps=(do let vs <- fn.results.mapM (zO a'.tmps); pure (if h:vs.size=1 then vs[0] else .tuple vs)):=rfl;rw [he,Array.mapM_eq_mapM_toList];simp only [Sem.run_bind,Sem.run_map,od,Result.andThen_ok,Sem.run_pure];rfl
     have hs:=hT'.frz R'.drop0;unfold JI at jd;split at jd
     ·rename_i sa;obtain ⟨row,ku,jd⟩:=y8.1 jd;split at jd
      ·rename_i ba;injection jd with jd;injection jd with hfv1 hfv2;injection hfv2 with hfv2;injection hfv2 with hfv2;subst hfv1;subst hfv2;obtain ⟨ad,b,nb,lq,hb,so,la,_,hz⟩:=R'.rows 0 0 row ku;obtain ⟨hpp,hpz⟩:=R'.pin p rfl;rw [hpp] at hb;injection hb with hb;subst hb;have hz':ι.z p=cur.size:=by
        rcases hpz with ⟨_,h⟩ | ⟨H,h⟩
        ·exact h
        ·rw [h] at ad; cases ad
       have nc:∀ b o,av b o->avF s'.drop0 (SC av ι Θ) ι b o:=fun b o h=>⟨.inl h,fun ⟨t,n,r,hm,hb⟩=>by
        simp only [aA.drop0] at hm;split at hm
        ·cases hm
        ·rename_i hn;obtain ⟨_,b',_,_,ua,_,_,tj,_⟩:=R'.rows t n r hm;rw [hb] at ua;injection ua with ua;subst ua;rcases tj with tj | tj
         ·have:=sd _ _ h; omega
         ·have:b=p:=tj;subst this;exact hn (R'.inj _ _ _ _ _ hb hpp)⟩
       have post:a'.defers=[]/\∃ v,(results fn a'.tmps).run P w'=.ok v w'/\∃ v' cur'' ty'',Ending.returned v=.returned v'/\bE av w' (KU (xs.map (AV.frz s'.drop0))) v'/\w'.heap[p]?=some (.cells cur'' ty'' (0,0))/\cur''.size=cur.size/\MC av w' (row.map fun x=>AV.frz0 s'.drop0 x.v) (cur''.toList.take (row.map fun x=>AV.frz0 s'.drop0 x.v).length)/\ID (fun b=>b=p) w w':=by
        refine ⟨R'.defers,_,nd,_,nb,lq,rfl,XW (hs.toT nc fun v hv=>y5.1 sa v hv),so,hz.trans hz',?_,R'.kept⟩;have h1:=la.rep.frz R'.drop0;rw [y0] at h1;have h2:=lH h1 fun x hx=>y5.1 ba.1 x hx
        rw [yo];exact MC.held (BA.less nc) _ _ h2
       rcases oi with rfl | rfl <;> exact post
      ·cases jd
     ·cases jd
    | none,h=>trivial
    | some (.int ..),h=>trivial
    | some (.bool _),h=>trivial
    | some (.str _),h=>trivial
    | some .nilP,h=>trivial
    | some (.ptr ..),h=>trivial
    | some (.ip _),h=>trivial
    | some (.bp _),h=>trivial
    | some (.sl ..),h=>trivial
    | some (.bl _),h=>trivial
    | some (.ref ..),h=>trivial
    | some (.mp ..),h=>trivial
    | some (.fn ..),h=>trivial
    | some (.tup _),h=>trivial
    | some .undef,h=>trivial
   ·cases je
  ·cases je
theorem wX {D:Nat->Prop} {ι:Ix} {Θ:dL} (R:iC P O nt B F0 aa w0 D s a w ι Θ):∀ {rs:List ResultVar} {cs:List ResC} {vs:List qA},SL P rs=some cs->kQ s cs=some vs →
  ∃ us,(rs.mapM (zO a.tmps)).run P w=Result.ok us w/\OH ι Θ (SC aa ι Θ) (PC ι Θ) w vs us
 | [],cs,vs,h,hr=>by
  injection h with h;subst h;injection hr with hr;subst hr;exact ⟨[],by simp,rfl⟩
 | .tmp t :: rs,cs,vs,h,hr=>by
  unfold SL at h;obtain ⟨l,hl,rfl⟩:=yh.1 h;simp only [kQ] at hr;obtain ⟨aw,hv,rfl⟩:=yh.1 hr;obtain ⟨us,hu,hT⟩:=wX R hl hv;refine ⟨a.tmps.getD t undef :: us,by rw [List.mapM_cons]; simp only [zO,Sem.run_bind,Sem.run_pure,Result.andThen_ok,hu],_,us,rfl,R.env t,R.ann t,hT⟩
 | .cell b t :: rs,cs,vs,h,hr=>by
  unfold SL at h;split at h
  ·rename_i ag z l hA hz hl;injection h with h;subst h;simp only [kQ] at hr;split at hr
   ·rename_i t' n off hb;cases hm:s.mem t' n with
    | none=>rw [hm] at hr; cases hr
    | some row =>
     rw [hm,V] at hr;obtain ⟨x,hx,hr⟩:=y8.1 hr;obtain ⟨aw,hv,rfl⟩:=yh.1 hr;obtain ⟨us,hu,hT⟩:=wX R hl hv;have hv:=R.env b;rw [hb,AG] at hv;obtain ⟨bb,hbb,hv⟩:=hv;obtain ⟨zl,b',cur,ty,ua,oa,la,_⟩:=R.rows t' n row hm;rw [hbb] at ua;injection ua with ua;subst ua;have sb:∀ (j:Nat) (u:Value),((cur.toList.take row.length).drop off)[j]?=some u->w.cell? ⟨bb,off + j,none⟩=some u:=fun j u hu=>by
      rw [cell_of_row w bb (off + j) cur ty (0,0) oa];rw [yT,yO] at hu;split at hu
      ·simpa using hu
      ·cases hu
     have ec:=xF off la.rep;have hi:IG ag z ((row.map (·.v)).drop off)=some x.v:=by
      cases ag with
      | true =>
       simp only [MA,if_true] at hx;split at hx
       ·rename_i ab;injection hx with hx;subst hx;simp only [IG,if_true,List.length_drop,yo];rw [if_pos (by omega)];simp [List.map_take,List.map_drop]
       ·cases hx
      | false =>
       simp only [MA,yr,if_false] at hx;simp [IG,yT,hx]
     obtain ⟨u,ia,hS,_⟩:=rP (P:=P) (avb:=PC ι Θ) hA hz ec sb hi;refine ⟨u :: us,by rw [List.mapM_cons]; simp only [zO,Sem.run_bind,hv,asAddr,Sem.run_pure,Result.andThen_ok,ia,hu],u,us,rfl,hS,trivial,hT⟩
   ·cases hr
  ·cases h
theorem LN {ι:Ix} {Θ:dL} {av avb:Av}:∀ {xs:List qA} {us:List Value},OH ι Θ av avb w xs us->us.length=xs.length
 | [],_,h=>by simp only [OH] at h; subst h; rfl
 | x :: r,_,h=>by
  simp only [OH] at h;obtain ⟨u,ta,rfl,_,_,h⟩:=h;simp [LN h]
theorem US {ι:Ix} {Θ:dL} {av avb:Av}:∀ {xs:List qA} {us:List Value} (_:OH ι Θ av avb w xs us) (t:Nat),qB ι av avb w (xs.getD t ⟨.undef,.no⟩).v (us.getD t undef)/\qM Θ (xs.getD t ⟨.undef,.no⟩).a (us.getD t undef)
 | [],_,_,_=>by simp [qB,qM]
 | x :: r,_,h,t=>by
  simp only [OH] at h;obtain ⟨u,ta,rfl,h0,h1,h⟩:=h;cases t with
  | zero=>simpa using ⟨h0,h1⟩
  | succ t=>simpa using US h t
theorem RepU_ofS {ι:Ix} {av avb:Av} {x:AV} {v:Value} (h:qB ι av avb w x v) (hx:x.tupOk=true):KO ι av w x v:=by
 cases x <;> first
  | exact h
  | (cases hx; done)
theorem fV {ι:Ix} {Θ:dL} {av avb:Av}:∀ {xs:List qA} {us:List Value},OH ι Θ av avb w xs us->xs.all (fun x=>x.v.tupOk)=true->ZG ι av w (xs.map (·.v)) us
 | [],_,h,_=>h
 | x :: r,_,h,hf=>by
  simp only [OH] at h;obtain ⟨u,ta,rfl,h0,_,h⟩:=h;simp only [List.all_cons,y7] at hf;exact ⟨u,ta,rfl,RepU_ofS h0 hf.1,fV h hf.2⟩
theorem packS_rep {ι:Ix} {Θ:dL} {av avb:Av}:∀ {xs:List qA} {us:List Value} {y:qA},OH ι Θ av avb w xs us->AN xs=some y->qB ι av avb w y.v (aP us)/\qM Θ y.a (aP us)
 | [],us,y,h,hp=>by
  simp only [OH] at h;subst h;injection hp with hp;subst hp;exact ⟨⟨#[],rfl,rfl⟩,trivial⟩
 | [x],us,y,h,hp=>by
  simp only [OH] at h;obtain ⟨u,ta,rfl,h0,h1,rfl⟩:=h;injection hp with hp;subst hp;exact ⟨h0,h1⟩
 | x :: z :: r,us,y,h,hp=>by
  have hl:=LN h;have:¬ us.toArray.size=1:=by simp; simp at hl; omega
  unfold aP;rw [dif_neg this];unfold AN at hp;split at hp
  ·rename_i e; cases e
  ·split at hp
   ·rename_i sa;injection hp with hp;subst hp;exact ⟨⟨_,rfl,fV h sa⟩,trivial⟩
   ·cases hp
theorem initH_rel {B:Nat} {F0:OO} {aa:Av} {w0 w:World} {ι:Ix} {Θ:dL} {xs:List qA} {us:List Value} (R:I2 P O B F0 aa w0 s w ι Θ) (h:OH ι Θ (SC aa ι Θ) (PC ι Θ) w xs us) {np:Nat} (hl:xs.length=np) (hn:np<=nt) :
  iC P O nt B F0 aa w0 (fun _=>False) (s.initH xs) { tmps:=us.toArray++Array.replicate (nt - us.toArray.size) undef,defers:=[] } w ι Θ:=by
 have hg:∀ t,(us.toArray++Array.replicate (nt - us.toArray.size) undef).getD t undef=us.getD t undef:=fun t=>by
  simp only [yZ,List.getD_eq_getElem?_getD,Array.getElem?_append,List.size_toArray,List.getElem?_toArray];split
  ·rfl
  ·rename_i ne;rw [yW (by omega)];simp only [Array.getElem?_replicate];split <;> rfl
 have ac:(us.toArray++Array.replicate (nt - us.toArray.size) undef).size=nt:=by
  have:=LN h;simp;omega
 exact ⟨rfl,ac,fun t=>by simp only [aA.initH]; rw [hg]; exact (US h t).1,fun t=>by simp only [aA.initH]; rw [hg]; exact (US h t).2,R.rows,R.mine,R.inj,R.tok,R.tinj,R.apart,R.out,R.pin,R.kept,R.base,R.objs,R.obs,R.gen,R.gann⟩
theorem iC.bare {D:Nat->Prop} {ι:Ix} {Θ:dL} (R:iC P O nt B F0 aa w0 (fun _=>False) s a w ι Θ):I2 P O B F0 aa w0 s w ι Θ :=
 ⟨rfl,rfl,fun _=>trivial,fun _=>trivial,R.rows,R.mine,R.inj,R.tok,R.tinj,R.apart,R.out,R.pin,R.kept,R.base,R.objs,R.obs,R.gen,R.gann⟩
theorem C6 (hm:P.follows .mixedOrders=true) {call:AB} {lp:LH} {N:Nat} (wa:∀ f args S r,call f args S=some r->xD P O f args S r) (rh:LpOk P O N lp.l) (eh:QZ P O lp.h) {f:FuncId} {fn:Func} {c:zB} (ed:∀ xs w,(callFunc f xs).run P w=.ok (.enter f xs) w) (dr:P.funcs[f]?=some fn) (je:rU P c.mu fn=some c) {xs:List qA} {k:qA->aA->Option RV} {r:RV} (ja:xs.length=c.np)
  (h:c.code.run call lp (s.initH xs) (WM c k)=some r):(∀ vs w,(callFunc f vs).run P w=.ok (.enter f vs) w) ∧
 ∀ (B:Nat) (F0:OO) (aa:Av) (w0 w:World) (ι:Ix) (Θ:dL) (us:List Value) (E:Ending->World->Prop),I2 P O B F0 aa w0 s w ι Θ->OH ι Θ (SC aa ι Θ) (PC ι Θ) w xs us →
  (∀ y s' w' ι' Θ' v,I2 P O B F0 aa w0 s' w' ι' Θ'->qB ι' (SC aa ι' Θ') (PC ι' Θ') w' y.v v->qM Θ' y.a v->k y s'=some r->E (.returned v) w')->Calls P f us.toArray w E:=by
 unfold rU at je;split at je
 ·cases je
 ·rename_i code ol;split at je
  ·rename_i cc rr xg hrr;split at je
   ·rename_i ba;injection je with je;obtain ⟨mu,xo⟩:∃ mu,mu=c.mu:=⟨_,rfl⟩;rw [<- xo] at je xg;clear xo;subst je;have au:fn.params.size + fn.nfree<=fn.ntmps:=ba;refine ⟨ed,fun B F0 aa w0 w ι Θ us E R be hE=>?_⟩;refine calls_of_wp dr ol ?_;refine nF hm wa rh eh code cc _ _ _ _ w _ xg h ⟨ι,Θ,initH_rel R be ja au⟩ fun e s' a' w' R' he=>?_
    have oi:e=.nrm\/e=.ret:=by
     cases e with
     | nrm=>exact .inl rfl
     | ret=>exact .inr rfl
     | exit id=>cases he
    have zg:∃ y,(kQ s' rr).bind AN=some y/\k y s'=some r:=by
     rcases oi with rfl | rfl <;> exact y8.1 he
    obtain ⟨y,hy,hk⟩:=zg;obtain ⟨l,hl,hp⟩:=y8.1 hy;obtain ⟨ι',Θ',R'⟩:=R';obtain ⟨vs,hvs,hT'⟩:=wX R' hrr hl;have nd:(results fn a'.tmps).run P w'=.ok (aP vs) w':=by
     have he:results fn a'.tmps=(do let vs <- fn.results.mapM (zO a'.tmps); pure (if h:vs.size=1 then vs[0] else .tuple vs)):=rfl;rw [he,Array.mapM_eq_mapM_toList];simp only [Sem.run_bind,Sem.run_map,hvs,Result.andThen_ok,Sem.run_pure];rfl
    obtain ⟨mf,sh⟩:=packS_rep hT' hp;have post:a'.defers=[]/\∃ v,(results fn a'.tmps).run P w'=.ok v w'/\E (.returned v) w':=⟨R'.defers,_,nd,hE y s' w' ι' Θ' _ (iC.bare (D:=fun _=>False) R') mf sh hk⟩;rcases oi with rfl | rfl <;> exact post
   ·cases je
  ·cases je
theorem l7 {args rest:List AV} (h:WQ args=some rest):args=.undef :: .undef :: rest:=by
 unfold WQ at h;split at h
 ·injection h with h; subst h; rfl
 ·cases h
theorem cV (hm:P.follows .mixedOrders=true) {T:Nat->Option zB} {ext:AB} (hT:∀ f c,T f=some c->TA P f c) (ss:∀ f args S r,ext f args S=some r->xD P O f args S r) :
  ∀ N,(∀ f args S r,oE T ext N f args S=some r->xD P O f args S r)/\LpOk P O N (fL T ext N)/\QZ P O (mM T ext N)
 | 0=>by
  refine ⟨fun f args S r h=>?_,fun _ _ _ _ _ _ _ _ _ _ _ _ _ _ _ h _ _=>(by cases h),fun _ _ _ _ _ h=>(by cases h)⟩;unfold oE at h;split at h
  ·exact ss f args S r h
  ·cases h
 | N + 1=>by
  obtain ⟨jq,wm,kq⟩:=cV hm hT ss N;refine ⟨fun f args S0 r h=>?_,fun boxes nt B F0 aa w0 code b s k r a w Q hc h R hk=>?_,fun f xs s k r h=>?_⟩
  ·unfold oE at h;split at h
   ·exact ss f args S0 r h
   ·rename_i c hTc;obtain ⟨ed,fn,dr,je⟩:=hT f c hTc;cases hmk:WQ args with
    | some rest =>
     rw [hmk] at h
     match S0,h with
     | some (.agg cs),h =>
      simp only at h;split at h
      ·rename_i hl;rw [l7 hmk];exact row_sound (lp:=⟨fL T ext N,mM T ext N⟩) hm jq wm kq ed dr je hl.1 h
      ·cases h
     | none,h=>cases h
     | some (.int ..),h=>cases h
     | some (.bool _),h=>cases h
     | some (.str _),h=>cases h
     | some .nilP,h=>cases h
     | some (.ptr ..),h=>cases h
     | some (.ip _),h=>cases h
     | some (.bp _),h=>cases h
     | some (.sl ..),h=>cases h
     | some (.bl _),h=>cases h
     | some (.ref ..),h=>cases h
     | some (.mp ..),h=>cases h
     | some (.fn ..),h=>cases h
     | some (.tup _),h=>cases h
     | some .undef,h=>cases h
    | none =>
    rw [hmk] at h;simp only at h;split at h
    ·rename_i hlm;obtain ⟨ja,hmark,hnoit⟩:=hlm;unfold rU at je;split at je
     ·cases je
     ·rename_i code ol;split at je
      ·rename_i cc rr xg hrr;split at je
       ·rename_i ba;injection je with je;obtain ⟨mu,xo⟩:∃ mu,mu=c.mu:=⟨_,rfl⟩;rw [<- xo] at je xg;clear xo;subst je;have au:fn.params.size + fn.nfree<=fn.ntmps:=ba;have ending:∀ {F0:OO} {av:Av} {w:World} {vs:List Value} {E:Ending->World->Prop},
          KD P O fn.ntmps w.heap.size F0 av w (fun _=>False) (aA.init args S0) { tmps:=vs.toArray++Array.replicate (fn.ntmps - vs.toArray.size) undef,defers:=[] } w →
          (∀ (s':aA) (a':Act) (w':World) (ι:Ix) (Θ:dL) (us:List Value) (xs:List AV),iC P O fn.ntmps w.heap.size F0 av w (fun _=>False) s' a' w' ι Θ->fN ι (avF s' (SC av ι Θ) ι) (PC ι Θ) w' xs us->SV S0 s' xs=some r->E (.returned (aP us)) w')->Calls P f vs.toArray w E:=fun {F0 av w vs E} R hE=>by
         refine calls_of_wp dr ol ?_;refine nF (lp:=⟨fL T ext N,mM T ext N⟩) hm jq wm kq code cc _ _ r _ w _ xg h R fun e s' a' w' R' he=>?_
         have oi:e=.nrm\/e=.ret:=by
          cases e with
          | nrm=>exact .inl rfl
          | ret=>exact .inr rfl
          | exit id=>cases he
         have zg:∃ xs,gS s' rr=some xs/\SV S0 s' (xs.map (AV.frz s'))=some r:=by
          rcases oi with rfl | rfl <;> exact y8.1 he
         obtain ⟨xs,be,jd⟩:=zg;obtain ⟨ι,Θ,R'⟩:=R';obtain ⟨us,od,hT'⟩:=rV R' hrr be;have nd:(results fn a'.tmps).run P w'=.ok (aP us) w':=by
          have he:results fn a'.tmps=(do let vs <- fn.results.mapM (zO a'.tmps); pure (if h:vs.size=1 then vs[0] else .tuple vs)):=rfl;rw [he,Array.mapM_eq_mapM_toList];simp only [Sem.run_bind,Sem.run_map,od,Result.andThen_ok,Sem.run_pure];rfl
         have post:a'.defers=[]/\∃ v,(results fn a'.tmps).run P w'=.ok v w'/\E (.returned v) w':=⟨R'.defers,_,nd,hE s' a' w' ι Θ us _ R' (hT'.frz R') jd⟩;rcases oi with rfl | rfl <;> exact post
        refine (xD.of hmark).2 ⟨ed,?_⟩;obtain ⟨r1,r2⟩:=r;cases S0 with
        | none =>
         cases r2 with
         | none =>
          intro av w vs sd lc;refine ending (UY lc sd ja au) fun s' a' w' ι Θ us xs R' hs jd=>?_
          refine ⟨_,rfl,?_,R'.kept.below⟩;simp only [SV] at jd;split at jd
          ·rename_i sa;injection jd with jd;injection jd with jd;subst jd;exact XW (hs.toT (fun b o h=>⟨.inl h,fun ⟨t,n,r,hm,hb⟩=>by
            obtain ⟨_,b',cur,ty,ua,_,_,tj,_⟩:=R'.rows t n r hm;rw [hb] at ua;injection ua with ua;subst ua;have:=sd _ _ h;have:=tj.elim id False.elim;omega⟩) fun v hv=>y5.1 sa v hv)
          ·split at jd
           ·split at jd
            ·split at jd <;> cases jd
            ·cases jd
           ·cases jd
         | some S' =>
          intro av w vs sd lc;refine ending (UY lc sd ja au) fun s' a' w' ι Θ us xs R' hs jd=>?_
          simp only [SV] at jd;split at jd
          ·cases jd
          ·split at jd
           ·rename_i t n _;split at jd
            ·rename_i S hS;split at jd
             ·rename_i sa;injection jd with jd;injection jd with hfv1 hfv2;injection hfv2 with hfv2;subst hfv1;subst hfv2;obtain ⟨p,H,hp,pb,sc,_⟩:=R'.objs t n S hS;refine ⟨_,p,H,rfl,?_,sc,fun b hb=>(((R'.obs t n H pb).1 b hb).1).elim id False.elim,R'.kept.below⟩;have dc:∀ v∈xs,((GJ t n v).free||(GJ t n v).isObj)=true:=fun v hv=>y5.1 sa _ (yN hv)
              refine pack_repN (hs.toO hp (fun b o h=>?_) dc) fun v hv=>y5.1 sa v hv
              refine ⟨?_,fun ⟨t',n',r,hm,hb⟩=>?_⟩
              ·rcases h with h | h
               ·exact .inl h
               ·exact .inr (.inl (.inr ⟨t,n,H,pb,h⟩))
              ·obtain ⟨ad,b',cur,ty,ua,_,_,tj,_⟩:=R'.rows t' n' r hm;rw [hb] at ua;injection ua with ua;subst ua;rcases h with h | h
               ·have:=sd _ _ h;have:=tj.elim id False.elim;omega
               ·have e:=((R'.obs t n H pb).1 b h).2.2.1 t' n' hb;rw [e.1,e.2,pb] at ad;cases ad
             ·cases jd
            ·cases jd
           ·cases jd
        | some S =>
         cases r2 with
         | none =>
          trivial
         | some S' =>
          intro av w vs p H sd hH sc lc;have hni:J4 S=true:=hnoit;refine ending (init_some lc sd hH sc hni ja au) fun s' a' w' ι Θ us xs R' hs jd=>?_
          simp only [SV] at jd;split at jd
          ·rename_i sa;obtain ⟨S1,hS1,jd⟩:=yh.1 jd;injection jd with hfv1 hfv2;injection hfv2 with hfv2;subst hfv1;subst hfv2;obtain ⟨p',H',hp,pb,mi,_⟩:=R'.objs 0 0 S1 hS1;have hpp:=(R'.pin p rfl).1;rw [hpp] at hp;injection hp with hp;subst hp;refine ⟨_,H',rfl,XW (hs.toT (fun b o h=>?_) fun v hv=>y5.1 sa v hv),mi,fun b hb=>(((R'.obs 0 0 H' pb).1 b hb).1).symm,R'.kept⟩;refine ⟨?_,fun ⟨t',n',r,hm,hb⟩=>?_⟩
           ·rcases h with h | h
            ·exact .inl h
            ·exact .inr (.inl (.inr ⟨0,0,H',pb,h⟩))
           ·obtain ⟨ad,b',cur,ty,ua,_,_,tj,_⟩:=R'.rows t' n' r hm;rw [hb] at ua;injection ua with ua;subst ua;rcases h with h | h
            ·have:=sd _ _ h;have:=tj.elim id False.elim;omega
            ·have e:=((R'.obs 0 0 H' pb).1 b h).2.2.1 t' n' hb;rw [e.1,e.2,pb] at ad;cases ad
          ·cases jd
       ·cases je
      ·cases je
    ·cases h
  ·unfold fL at h;rw [rounds_succ];refine nF (lp:=⟨fL T ext N,mM T ext N⟩) hm jq wm kq code b s _ r a w _ hc h R fun e s' a' w' R' he=>?_
   cases e with
   | nrm=>exact wm boxes nt B F0 aa w0 code b s' k r a' w' Q hc he R' hk
   | exit id=>exact hk _ _ _ _ R' he
   | ret=>exact hk _ _ _ _ R' he
  ·unfold mM at h;split at h
   ·cases h
   ·rename_i c hTc;obtain ⟨ed,fn,dr,je⟩:=hT f c hTc;split at h
    ·rename_i ja;exact C6 (lp:=⟨fL T ext N,mM T ext N⟩) hm jq wm kq ed dr je ja h
    ·cases h
end
end
end Go.Proofs.YtbnlmgncbgaepaaGreat
