/- A part of the proof. -/
import Derived.Test.YtbhbeakhognieaaGreatDoorWa
import Derived.Laws.BytesString
import Derived.OrdersHeld
set_option linter.all false
set_option maxRecDepth 100000
set_option maxHeartbeats 8000000
open Option renaming bind_some → J, bind_eq_some_iff → y7, map_eq_some_iff → yf, map_some → yp
open List renaming map_map → y5, all_eq_true → y8, length_map → y9, length_append → yb, getElem?_eq_getElem → yg, getElem?_map → yh, drop_eq_nil_of_le → yj, drop_eq_getElem_cons → yk, append_assoc → yl, length_take → ym, replicate → yo, getElem?_eq_some_iff → yq, length_drop → yr, append_nil → yt, map_cons → yu, mem_cons_self → yv, getElem?_drop → yw, flatten_cons → yy, getElem?_take → yz, mem_cons → yA, length_cons → yD, mem_cons_of_mem → yE, size_toArray → yF, mem_append → yI, getElem?_append_right → yJ, map_congr_left → yK, getElem?_append_left → yL, eq_nil_of_length_eq_zero → yN, take_append_drop → yR
open Bool renaming and_eq_true → yc, false_eq_true → yC
open Nat renaming le_refl → ye, zero_add → yn, succ_mul → yB, eq_zero_or_pos → yH, mul_le_mul_right → yO
open Array renaming length_toList → yG, toArray_toList → yM, getD_eq_getD_getElem? → yP, getElem?_eq_getElem → yQ
namespace Go.Proofs.YtbhbeakhognieaaGreatDoor
open Go
section
open Go Go.RowKit
section
variable {P:Program} {O:JD} {nt B:Nat} {F0:AL} {aa:Av} {w0:World} {D:Nat->Prop} {s:uA} {a:Act} {w w':World} {ι:Ix} {Θ:lH} {o:Oper}
def An.twice (A:An) (d:Nat) (x:An):An:=match A with
 | .own k _=>(x.strip k).strip d
 | _=>x.strip d
theorem twice_eq (A:An) (d:Nat):(s.stripA A).strip d=s.mapAn (A.twice d):=by
 cases A with
 | own k e=>simp [uA.stripA,uA.strip,uA.mapAn,wA.strip,An.twice,Function.comp_def]
 | no=>rfl
 | ex=>rfl
def lH.less (Θ:lH) (A:An) (d:Nat):lH:=fun j=>match A with
 | .own k _=>if j=d\/j=k then none else Θ j
 | _=>if j=d then none else Θ j
theorem JB {A:An} {d j:Nat} {o:Ow} (h:Θ.less A d j=some o):Θ j=some o/\j≠d/\∀ k e,A=.own k e->j≠k:=by
 unfold lH.less at h;cases A with
 | own k e =>
  simp only at h;split at h
  ·cases h
  ·rename_i hn; exact ⟨h,fun e=>hn (.inl e),fun k' e' he=>by injection he with h1; subst h1; exact fun e=>hn (.inr e)⟩
 | no =>
  simp only at h;split at h
  ·cases h
  ·rename_i hn; exact ⟨h,hn,fun k' e' he=>by cases he⟩
 | ex =>
  simp only at h;split at h
  ·cases h
  ·rename_i hn; exact ⟨h,hn,fun k' e' he=>by cases he⟩
theorem less_d {A:An} {d:Nat}:Θ.less A d d=none:=by
 unfold lH.less;cases A <;> simp
theorem X5 {A:An} {d:Nat} {Θ':lH} (hΘ:∀ j o,Θ.less A d j=some o->Θ' j=some o) (x:An) (v:Value) (h:QH Θ x v):QH Θ' (A.twice d x) v:=by
 have h1:∀ k,x.strip k=.no\/(x.strip k=x/\∀ j e,x=.own j e->j≠k):=fun k=>by
  cases x with
  | no=>exact .inl rfl
  | ex=>exact .inr ⟨rfl,fun _ _ h=>by cases h⟩
  | own j e =>
   simp only [An.strip];split
   ·exact .inl rfl
   ·rename_i hn; exact .inr ⟨rfl,fun j' e' h=>by injection h with h; subst h; exact hn⟩
 have key:A.twice d x=.no\/(A.twice d x=x/\(∀ j e,x=.own j e->j≠d)/\∀ k e',A=.own k e'->∀ j e,x=.own j e->j≠k):=by
  cases A with
  | own k e' =>
   simp only [An.twice];rcases h1 k with h2 | ⟨h2,h3⟩
   ·rw [h2]; exact .inl rfl
   ·rw [h2];rcases h1 d with h4 | ⟨h4,h5⟩
    ·exact .inl h4
    ·exact .inr ⟨h4,h5,fun k' e'' he=>by injection he with he; subst he; exact h3⟩
  | no=>rcases h1 d with h4 | ⟨h4,h5⟩; exact .inl h4; exact .inr ⟨h4,h5,fun _ _ he=>by cases he⟩
  | ex=>rcases h1 d with h4 | ⟨h4,h5⟩; exact .inl h4; exact .inr ⟨h4,h5,fun _ _ he=>by cases he⟩
 rcases key with h2 | ⟨h2,h3,h4⟩
 ·rw [h2]; trivial
 ·rw [h2];cases x with
  | no=>trivial
  | ex=>exact h
  | own j e =>
   refine h.imp id fun ⟨ow,h5,h6⟩=>⟨ow,hΘ _ _ ?_,h6⟩
   unfold lH.less;cases A with
   | own k e'=>simp only; rw [if_neg]; exact h5; rintro (e1 | e1); exact h3 _ _ rfl e1; exact h4 _ _ rfl _ _ rfl e1
   | no=>simp only; rw [if_neg (h3 _ _ rfl)]; exact h5
   | ex=>simp only; rw [if_neg (h3 _ _ rfl)]; exact h5
theorem fB.apob (R:fB P O nt B F0 aa w0 D s a w ι Θ) {k:Nat} {o:Ow} {t n:Nat} {H:Nat->Prop} (h:Θ k=some o) (hH:ι.ob t n=some H):¬ H o.g:=fun hb=>((R.obs t n H hH).1 _ hb).2.2.2.1 k o h rfl
theorem fB.less (R:fB P O nt B F0 aa w0 D s a w ι Θ) (A:An) (d:Nat):fB P O nt B F0 aa w0 D (s.mapAn (A.twice d)) a w ι (Θ.less A d) :=
 R.fam _ _ (fun _ _ h=>h.imp id fun ⟨k,ow,h1,h2⟩=>⟨k,ow,(JB h1).1,h2⟩) (X5 fun _ _ h=>h) (fun k o h=>R.tok k o (JB h).1) (fun k k' o o' h h'=>R.tinj k k' o o' (JB h).1 (JB h').1) (fun k o t n h=>R.apart k o t n (JB h).1) (fun _ _ _ _ _ h=>R.apob (JB h).1)
theorem jD {av:Av}:∀ {xs ys:List AV} {us vs:List Value},KA av w xs us->KA av w ys vs->KA av w (xs++ys) (us++vs)
 | [],_,_,_,h,h'=>by simp only [KA] at h; subst h; exact h'
 | x :: r,_,_,_,h,h'=>by
  simp only [KA] at h;obtain ⟨u,wa,rfl,h0,h1,h⟩:=h;exact ⟨u,wa++_,rfl,h0,h1,jD h h'⟩
theorem uK {av:Av}:∀ {xs:List AV} {us:List Value},KA av w xs us->∀ u∈us,u.oneCell'=true
 | [],_,h,u,hu=>by simp only [KA] at h; subst h; cases hu
 | x :: r,_,h,u,hu=>by
  simp only [KA] at h;obtain ⟨v,wa,rfl,h0,h1,h⟩:=h;rcases yA.1 hu with rfl | hu
  ·exact h1
  ·exact uK h u hu
theorem op_app (R:fB P O nt B F0 aa w0 D s a w ι Θ) {t e:TypeId} {i:TypeInfo} {z:List AV} (ht:P.underlying t=some (.slice e)) (hi:P.info? e=some i) (hz:FG P e=some z) (ac:z.length=i.size) (ub:0<i.size) {X Y:Operand} {x y:iB} (hx:opd X=some x) (hy:opd Y=some y)
  (ho:o.op=.call { callee:=.builtin .append,args:=#[X,Y],argTypes:=#[t,t] }) {d:Nat} (ja:o.dst=some d) (hd:d<nt) {cl:Cl} {call} {xe:wA × tC} (hr:(K.app cl e i.size i.bytes x y).run call s=some xe) {g} {s':uA} (he:kA.eff ⟨o.dst,.app cl e i.size i.bytes x y,g⟩ s xe=some s') :
  ∃ v w',(execOp a.eval o).run P w=.ok (.value v) w'/\SC P O nt B F0 aa w0 D s' (a.put o.dst v) w':=by
 obtain ⟨zv,i',xc,sk,pg,hl⟩:=mE hz w;rw [hi] at xc;injection xc with xc;subst xc;have rg:zv.cells.size=i.size:=by
  have:=eE hl;simp only [yG] at this;omega
 have hX:=R.opd hx;have hY:=(R.opd hy).1;have xh:∀ v w',(Builtin.append_ #[t,t] o.type #[a.eval X,a.eval Y]).run P w=.ok v w'->(execOp a.eval o).run P w=.ok (.value v) w':=fun v w' h=>by
  simp only [execOp,ho,resolve,invoke,builtin,Sem.run_bind,Sem.run_pure,Result.andThen_ok,List.map_toArray,yu,List.map_nil,h]
 simp only [K.run] at hr;split at hr
 ·rename_i b l m nc eb;split at hr
  ·rename_i ba;obtain ⟨ga,zb⟩:=ba;obtain ⟨ze,jd⟩:=rA.1 ga;have ic:∀ c∈l++m,c.length=i.size:=fun c hc=>by simpa using y8.1 zb c hc
   have pd:∀ c∈m,c.length=i.size:=fun c hc=>ic c (List.mem_append_right _ hc)
   have wn:∀ c∈l,c.length=i.size:=fun c hc=>ic c (List.mem_append_left _ hc)
   obtain ⟨news,pb,le⟩:=LI R hY eb ub pd;rw [nc] at hX;have kp:=hX.1;rw [NB] at kp;obtain ⟨xs,ec,zo⟩:=LI (cl:=cl) R hX.1 (m:=l) rfl ub wn;simp only [JC] at kp;obtain ⟨A,c,hv,xp,hu,hn,hs⟩:=kp;have zd:xs.length=l.length * i.size:=zo.1;have je:∀ a',A=some a'->∀ j u,xs[j]?=some u->w.cell? (a'.add j)=some u:=fun a' ha j u hj=>by
    obtain ⟨_,A2,c2,xx,_,h2⟩:=zo;rw [hv] at xx;injection xx with e1 e2 e3;subst e1;have hp:0<l.length:=by
     rcases yH l.length with h | h
     ·rw [h] at zd; have:=(yq.1 hj).1; omega
     ·exact h
    obtain ⟨b',off,hA,_,_,md⟩:=h2 hp;rw [ha] at hA;injection hA with hA;subst hA;rw [Addr.add_lit];exact md j u hj
   have mf:news.length=m.length * i.size:=le.1;have dg:∀ u∈news,u.oneCell'=true:=uK pb;have jr:∃ A0,ZA b (x.an s)=A0/\(A0=.ex\/∃ k,A0=.own k e)/\xe=(⟨.sl (b&&m.isEmpty) (l++m),.own 0 e⟩,.app A0 0):=by
    cases ki:ZA b (x.an s) with
    | no=>rw [ki] at hr; cases hr
    | ex=>rw [ki] at hr; injection hr with hr; exact ⟨_,rfl,.inl rfl,hr.symm⟩
    | own k e' =>
     rw [ki] at hr;simp only at hr;split at hr
     ·rename_i hee; subst hee; injection hr with hr; exact ⟨_,rfl,.inr ⟨k,rfl⟩,hr.symm⟩
     ·cases hr
   obtain ⟨A0,ki,hAk,rfl⟩:=jr;simp only [kA.eff,ja] at he;injection he with he;subst he;rw [twice_eq,ja];have jp:QH Θ A0 (a.eval X):=by
    rw [<- ki];cases b with
    | false=>exact hX.2
    | true =>
     obtain ⟨h1,h2,h3⟩:=hn rfl;exact ⟨none,0,by rw [hv,h1,h2,h3]⟩
   -- what is read of the old elements and the new ones behind
   have wb:KA (QB aa ι Θ) w (l++m).flatten (xs++news):=by rw [List.flatten_append]; exact jD ec pb
   have ux:∀ c∈l++m,∀ c'∈l++m,c.length=c'.length:=fun c hc c' xb=>(ic c hc).trans (ic c' xb).symm
   -- a new block
   have grow:c<l.length + m.length->∃ v w',(execOp a.eval o).run P w=.ok (.value v) w'/\SC P O nt B F0 aa w0 D ((s.mapAn (A0.twice d)).put (some d) ⟨.sl (b&&m.isEmpty) (l++m),.own d e⟩) (a.put (some d) v) w':=fun ia=>by
    have ka:=RS (P:=P) (w:=w) ht hi sk o.type zd (fun hA=>by
     cases b with
     | true=>have:=hn rfl; exact ⟨this.2.1,this.2.2⟩
     | false =>
      obtain ⟨h1,h2⟩:=hs rfl;refine ⟨?_,h1 hA⟩;rcases yH l.length with h0 | h0
      ·exact h0
      ·obtain ⟨_,_,ha,_⟩:=h2 h0; rw [hA] at ha; cases ha) je le ia xp jd ze
    rw [<- hv] at ka;have di:=grownCap_ge w (l.length + m.length) c e;have pp:grownCap w (l.length + m.length) c e<=maxLen:=grownCap_le_maxLen w (l.length + m.length) c e (by unfold maxLen; omega);have uo:(xs.toArray++news.toArray++Builtin.zeroCells zv.cells (grownCap w (l.length + m.length) c e - (l.length + m.length))).size=grownCap w (l.length + m.length) c e * i.size:=by
     simp only [Array.size_append,yF,size_zeroCells,rg,zd,mf,<- Nat.add_mul];congr 1;omega
    have R1:=(R.less A0 d).fresh (d:=d) less_d uo ub di pp (e:=e) (by simp [nB,hi]);refine ⟨_,_,xh _ _ ka,ι,_,R1.put hd ?_ (.inr ⟨_,if_pos rfl,rfl,rfl⟩)⟩;have hb:(b&&m.isEmpty)=false:=by
     cases b with
     | false=>rfl
     | true =>
      have:=(hn rfl);have:m≠[]:=fun h=>by subst h; simp at ia; omega
      simpa using this
    show UA _ _ _ _ (.sl (b&&m.isEmpty) (l++m)) _;rw [hb,NB];simp only [JC,yb];refine ⟨_,_,rfl,di,ux,(fun h=>by cases h),fun _=>⟨fun h=>(by cases h),fun _=>⟨w.heap.size,0,rfl,?_⟩⟩⟩;rw [qD];have cn:TA (QB aa ι Θ) (QB aa ι (fun j=>if j=d then some ⟨w.heap.size,l.length + m.length,grownCap w (l.length + m.length) c e,i.size,e⟩ else Θ.less A0 d j)) w (grewW w xs news zv e (l.length + m.length) c):=TA.grown (fun b hb=>Below.heap_alloc w.drew _ b hb) fun b' o' gb h=>h.imp id fun h=>h.imp id fun ⟨k,ow,h1,h2,h3⟩=>by
     by_cases ek:k=d
     ·simp only [if_pos ek] at h1; injection h1 with h1; subst h1; simp only at h2; omega
     ·simp only [if_neg ek] at h1; exact ⟨k,ow,(JB h1).1,h2,h3⟩
    refine EH (KA.held cn _ _ wb) fun j u hj=>⟨?_,fun h=>?_⟩
    ·rw [yn];rw [cell_of_row _ w.heap.size j _ e (0,0) (tP (w:=w.drew) rfl)];have jn:=(yq.1 hj).1;rw [Array.getElem?_append_left (by simp only [Array.size_append,yF]; simpa using jn)];simpa using hj
    ·rw [yn] at h;have jn:=(yq.1 hj).1;rw [yb,zd,mf,<- Nat.add_mul] at jn;rcases h with h | (⟨t',n',h⟩ | ⟨t',n',H,h,gb⟩) | ⟨k,ow,h1,h2,h3⟩
     ·have:=R.out _ _ h; have:=R.lowB; omega
     ·have:=(R.mine _ _ _ h).2.1; omega
     ·have:=((R.obs _ _ _ h).1 _ gb).2.1; omega
     ·by_cases ek:k=d
      ·simp only [if_pos ek] at h1; injection h1 with h1; subst h1; simp only at h3; omega
      ·simp only [if_neg ek] at h1;obtain ⟨_,_,_,_,ra,h5,_⟩:=R.tok _ _ (JB h1).1;have:=dA h5;omega
   -- nothing new
   have same:m=[]->exV (a.eval X)->∃ v w',(execOp a.eval o).run P w=.ok (.value v) w'/\SC P O nt B F0 aa w0 D ((s.mapAn (A0.twice d)).put (some d) ⟨.sl (b&&m.isEmpty) (l++m),.own d e⟩) (a.put (some d) v) w':=fun zq fh=>by
    subst zq;have ka:=TS (P:=P) (w:=w) ht hi o.type (A:=A) xp le;rw [<- hv] at ka;have R1:=R.less A0 d;refine ⟨_,_,xh _ _ ka,ι,_,R1.put hd ?_ (.inl fh)⟩;have hb:(b&&List.isEmpty ([]:List (List AV)))=b:=by simp
    show UA _ _ _ _ (.sl (b&&List.isEmpty []) (l++[])) _;rw [hb,yt];have mw:TA (QB aa ι Θ) (QB aa ι (Θ.less A0 d)) w w:=TA.less fun b o h=>h.imp id fun h=>h.imp id fun ⟨k,ow,h1,h2⟩=>⟨k,ow,(JB h1).1,h2⟩
    have kt:TA (EB ι Θ) (EB ι (Θ.less A0 d)) w w:=TA.less fun b o h=>h.imp id fun ⟨k,ow,h1,h2⟩=>⟨k,ow,(JB h1).1,h2⟩
    exact UA.held (Ix.Le.refl _) mw kt _ _ hX.1
   have exact:exV (a.eval X)->∃ v w',(execOp a.eval o).run P w=.ok (.value v) w'/\SC P O nt B F0 aa w0 D ((s.mapAn (A0.twice d)).put (some d) ⟨.sl (b&&m.isEmpty) (l++m),.own d e⟩) (a.put (some d) v) w':=fun fh=>by
    obtain ⟨A',n',wv⟩:=fh;rw [hv] at wv;injection wv with e1 e2 e3;rcases yH m.length with h0 | h0
    ·exact same (yN h0) ⟨A',n',by rw [hv,e1,e2,e3]⟩
    ·exact grow (by omega)
   rcases hAk with rfl | ⟨k,rfl⟩
   ·exact exact jp
   ·rcases jp with jp | ⟨ow,hk,pu,jp⟩
    ·exact exact jp
    ·rw [hv] at jp;injection jp with e1 e2 e3;obtain ⟨hgB,hosz,honc,hocm,cur,fe,oq⟩:=R.tok k ow hk;rw [pu] at fe;have al:ow.sz=i.size:=by
      have:=oq.2;rw [pu] at this;simp [nB,hi] at this;exact this.symm
     rcases Nat.lt_or_ge c (l.length + m.length) with ia | di
     ·exact grow ia
     ·subst e1;have ka:=AY (P:=P) (w:=w) ht hi o.type fe (by rw [oq.1,al]) sk le dg (n:=l.length) (m:=m.length) (c:=ow.c) (by omega);have eg:l.length * i.size + news.length<=cur.toList.length:=by
       have md:cur.toList.length=ow.c * i.size:=by rw [yG,oq.1,al]
       rw [mf,<- Nat.add_mul,md];exact yO _ (by omega)
      obtain ⟨new,fc⟩:∃ new,new=(cur.toList.take (l.length * i.size)++news++cur.toList.drop (l.length * i.size + news.length)).toArray:=⟨_,rfl⟩;rw [<- fc] at ka;have bz:new.size=cur.size:=by
       rw [fc];simp only [yF,yb,ym,yr];simp only [yG] at eg ⊢;omega
      have io:ow.n * ow.sz=l.length * i.size:=by rw [<- e2,al]
      have rx:(cur.toList.take (l.length * i.size)).length=l.length * i.size:=by rw [ym]; omega
      have jo:∀ j,j<l.length * i.size->new[j]?=cur[j]?:=fun j hj=>by
       rw [fc,List.getElem?_toArray,yl,yL (by omega),yz,if_pos hj];simp
      have hxs':∀ j u,(xs++news)[j]?=some u->new[j]?=some u:=fun j u hj=>by
       rcases Nat.lt_or_ge j (l.length * i.size) with jn | jn
       ·rw [jo j jn];rw [yL (by omega)] at hj;have:=je _ rfl j u hj;rw [Addr.add_lit,yn,cell_of_row w ow.g j cur e (0,0) fe] at this;exact this
       ·rw [yJ (by omega),zd] at hj;have hjn:=(yq.1 hj).1;rw [fc,List.getElem?_toArray,yl,yJ (by omega),rx,yL hjn];exact hj
      have R1:=R.spare (new:=new) hk (by rw [pu]; exact fe) bz (fun j hj=>jo j (by omega));have wm:(w.setRow ow.g new).heap[ow.g]?=some (.cells new e (0,0)):=setRow_heap w ow.g cur new e (0,0) fe;have tc:∀ b o,EB ι (fun j=>if j=d then some ⟨ow.g,l.length + m.length,ow.c,i.size,e⟩ else Θ.less (.own k e) d j) b o->EB ι Θ b o:=fun b o h=>h.imp id fun ⟨k',ow',h1,h2,h3⟩=>by
       by_cases ek:k'=d
       ·simp only [if_pos ek] at h1;injection h1 with h1;subst h1;refine ⟨k,ow,hk,h2,?_⟩;simp only [Nat.add_mul] at h3;omega
       ·simp only [if_neg ek] at h1; exact ⟨k',ow',(JB h1).1,h2,h3⟩
      have R2:=R1.fam (fun j=>if j=d then some ⟨ow.g,l.length + m.length,ow.c,i.size,e⟩ else Θ.less (.own k e) d j) ((An.own k e).twice d) tc
       (X5 fun j o' h=>by have:=(JB h).2.1; simp only [if_neg this]; exact h)
       (fun k' o' h=>by
        by_cases ek:k'=d
        ·simp only [if_pos ek] at h;injection h with h;subst h;exact ⟨hgB,ub,by simp only; omega,hocm,new,wm,by rw [bz,oq.1,al],by simp [nB,hi]⟩
        ·simp only [if_neg ek] at h;exact R1.tok k' o' (JB h).1)
       (fun k' k'' o' o'' h h' hg=>by
        by_cases e1:k'=d <;> by_cases e2:k''=d
        ·rw [e1,e2]
        ·simp only [if_pos e1] at h; simp only [if_neg e2] at h';injection h with h; subst h;exact absurd (R.tinj _ _ _ _ hk (JB h').1 hg).symm ((JB h').2.2 k e rfl)
        ·simp only [if_neg e1] at h; simp only [if_pos e2] at h';injection h' with h'; subst h';exact absurd (R.tinj _ _ _ _ (JB h).1 hk hg) ((JB h).2.2 k e rfl)
        ·simp only [if_neg e1] at h; simp only [if_neg e2] at h';exact R.tinj _ _ _ _ (JB h).1 (JB h').1 hg)
       (fun k' o' t' n' h=>by
        by_cases ek:k'=d
        ·simp only [if_pos ek] at h;injection h with h;subst h;exact R.apart k ow t' n' hk
        ·simp only [if_neg ek] at h;exact R.apart k' o' t' n' (JB h).1)
       (fun k' o' t' n' H h hH=>by
        by_cases ek:k'=d
        ·simp only [if_pos ek] at h;injection h with h;subst h;show ¬ H ow.g;exact R.apob hk hH
        ·simp only [if_neg ek] at h;exact R.apob (JB h).1 hH)
      have wx:a.eval X=.slice (some ⟨ow.g,0,none⟩) l.length ow.c:=by rw [hv,e3]
      rw [<- wx] at ka;refine ⟨_,_,xh _ _ ka,ι,_,R2.put hd ?_ (.inr ⟨_,if_pos rfl,rfl,rfl⟩)⟩;show UA _ _ _ _ (.sl (b&&m.isEmpty) (l++m)) _;have hb:b=false:=by
       cases b with
       | false=>rfl
       | true=>have:=(hn rfl).1; cases this
      rw [hb,Bool.false_and,NB];simp only [JC,yb];refine ⟨_,_,rfl,by omega,ux,(fun h=>by cases h),fun _=>⟨fun h=>(by cases h),fun _=>⟨ow.g,0,rfl,?_⟩⟩⟩;rw [qD];have cn:TA (QB aa ι Θ) (QB aa ι (fun j=>if j=d then some ⟨ow.g,l.length + m.length,ow.c,i.size,e⟩ else Θ.less (.own k e) d j)) w (w.setRow ow.g new):=⟨fun b' o' u hc hna=>by
       refine ⟨?_,fun h=>hna (h.imp id (tc b' o'))⟩;by_cases gb:b'=ow.g
       ·subst gb;rw [cell_of_row _ ow.g o' new e (0,0) wm];have:o'<l.length * i.size:=by
         rcases Nat.lt_or_ge o' (l.length * i.size) with h | h
         ·exact h
         ·exact absurd (.inr (.inr ⟨k,ow,hk,rfl,by omega⟩)) hna
        rw [jo o' this,<- cell_of_row w ow.g o' cur e (0,0) fe];exact hc
       ·exact (World.cell?_of_block (w:=w) (a:=⟨b',o',none⟩) (setRow_other w ow.g b' new gb)).trans hc⟩
      refine EH (KA.held cn _ _ wb) fun j u hj=>⟨?_,fun h=>?_⟩
      ·rw [yn,cell_of_row _ ow.g j new e (0,0) wm];exact hxs' j u hj
      ·rw [yn] at h;have jn:=(yq.1 hj).1;rw [yb,zd,mf,<- Nat.add_mul] at jn;rcases h with h | (⟨t',n',h⟩ | ⟨t',n',H,h,gb⟩) | ⟨k',ow',h1,h2,h3⟩
       ·have:=R.out _ _ h; omega
       ·exact R.apart k ow t' n' hk h
       ·exact R.apob hk h gb
       ·by_cases ek:k'=d
        ·simp only [if_pos ek] at h1; injection h1 with h1; subst h1; simp only at h3; omega
        ·simp only [if_neg ek] at h1;exact absurd (R.tinj _ _ _ _ (JB h1).1 hk h2) ((JB h1).2.2 k e rfl)
  ·cases hr
 ·cases hr
def Ix.del (ι:Ix) (t n:Nat):Ix:=⟨fun t' n'=>if t'=t/\n'=n then .none else ι t' n',ι.ob,ι.z⟩
theorem Ix.del_some {ι:Ix} {t n t' n' b:Nat} (h:(ι.del t n) t' n'=some b):ι t' n'=some b/\¬ (t'=t/\n'=n):=by
 have h':(if t'=t/\n'=n then Option.none else ι t' n')=Option.some b:=h;split at h'
 ·cases h'
 ·rename_i hn; exact ⟨h',hn⟩
theorem Ix.del_lk (ι:Ix) (t n:Nat):Ix.Lk t n ι (ι.del t n):=⟨fun t' n' b hn h=>by
 show (if t'=t/\n'=n then Option.none else ι t' n')=Option.some b;rw [if_neg hn]; exact h,fun _ _ _ _=>rfl⟩
theorem QC.kill {t n:Nat} {ι':Ix} {av ab:Av} {r:List wA} {cur:Array Value} (h:QC ι Θ av w r cur) (hι:Ix.Lk t n ι ι') (hh:TA av ab w w):QC ι' Θ ab w (r.map (wA.kill t n)) cur:=by
 refine ⟨by simpa using h.1,fun j x hx=>?_⟩;rw [yh] at hx;cases hj:r[j]? with
 | none=>rw [hj] at hx; cases hx
 | some y =>
  rw [hj] at hx;injection hx with hx;subst hx;obtain ⟨u,hu,h1,hr,ha⟩:=h.2 j y hj;refine ⟨u,hu,h1,?_,ha⟩;have hk:=IA.kill hι hh y.v u hr;show IA ι' ab w (y.v.kill t n) u;cases hy:y.v with
  | agg cs=>rw [hy] at hr; obtain ⟨us,rfl,_⟩:=hr; simp [Value.oneCell'] at h1
  | tup cs=>rw [hy] at hr; obtain ⟨us,rfl,_⟩:=hr; simp [Value.oneCell'] at h1
  | _=>rw [hy] at hk; exact hk
theorem fB.kill (R:fB P O nt B F0 aa w0 D s a w ι Θ) {t n:Nat} (io:t≠0) {r:List wA} (hm:s.mem t n=some r):fB P O nt B F0 aa w0 D (s.kill t n) a w (ι.del t n) Θ:=by
 have sd:=(R.rows t n r hm).1;have sb:=Ix.del_lk ι t n;have zg:∀ b o,EB (ι.del t n) Θ b o->EB ι Θ b o:=fun b o h=>h.imp (fun h=>h.imp (fun ⟨t',n',h⟩=>⟨t',n',(Ix.del_some h).1⟩) id) id
 have hB:TA (EB ι Θ) (EB (ι.del t n) Θ) w w:=TA.less zg;have hA:TA (QB aa ι Θ) (QB aa (ι.del t n) Θ) w w:=TA.less fun b o h=>h.imp id (zg b o)
 refine ⟨R.defers,R.size,fun j=>UA.kill sb hA hB _ _ (R.env j),R.ann,fun t' n' r' hr=>?_,fun t' n' b h=>R.mine t' n' b (Ix.del_some h).1,fun t1 n1 t2 n2 b h h'=>R.inj t1 n1 t2 n2 b (Ix.del_some h).1 (Ix.del_some h').1,R.tok,R.tinj,fun k o t' n' h h'=>R.apart k o t' n' h (Ix.del_some h').1,R.out,fun p h=>?_,R.kept,R.base,fun t' n' S h=>?_,fun t' n' H h=>?_,fun j=>UA.kill sb hA hB _ _ (R.gen j),R.gann⟩
 ·simp only [uA.kill] at hr;split at hr
  ·cases hr
  ·rename_i hn;cases pd:s.mem t' n' with
   | none=>rw [pd] at hr; cases hr
   | some r0 =>
    rw [pd] at hr;injection hr with hr;subst hr;obtain ⟨h0,b,cur,ty,h1,h2,h3,h4⟩:=R.rows t' n' r0 pd;exact ⟨h0,b,cur,ty,sb.f _ _ _ hn h1,h2,h3.kill sb hA,h4⟩
 ·obtain ⟨h1,h2⟩:=R.pin p h;exact ⟨sb.f _ _ _ (fun e=>io e.1.symm) h1,h2.imp (fun g=>⟨g.1,(sb.z _ _ _ h1).trans g.2⟩) id⟩
 ·obtain ⟨p,H,h1,h2,h3,h4⟩:=R.objs t' n' S h;have kr:∀ t1 n1 b1 H1,ι t1 n1=some b1->ι.ob t1 n1=some H1->(ι.del t n) t1 n1=some b1:=fun t1 n1 b1 H1 g1 g2=>sb.f _ _ _ (fun e=>by rw [<- e.1,<- e.2,g2] at sd; cases sd) g1
  exact ⟨p,H,kr _ _ _ _ h1 h2,h2,h3,h4.keep (fun t1 n1 b1 H1 g1 g2=>⟨kr _ _ _ _ g1 g2,H1,g2⟩) fun x hx=>hx⟩
 ·obtain ⟨h1,h2⟩:=R.obs t' n' H h;refine ⟨fun b hb=>?_,h2⟩;obtain ⟨g1,g2,g3,g4,g5⟩:=h1 b hb;exact ⟨g1,g2,fun t2 n2 h=>g3 t2 n2 (Ix.del_some h).1,g4,g5⟩
theorem fB.ren (R:fB P O nt B F0 aa w0 D s a w ι Θ) {t n:Nat} (io:t≠0) {r:List wA} (hm:s.mem t n=some r) (de:r.map (wA.kill t n)=r) {d:Nat} (hd:d<nt) (hD:¬ D d) {x:AV} {v:Value}
  (hx:∀ ι':Ix,ι' d s.next=ι t n->(∀ b,ι'.z b=ι.z b)->UA ι' (QB aa ι' Θ) (EB ι' Θ) w x v) :
  ∃ ι',fB P O nt B F0 aa w0 (fun j=>D j\/j=d) (((s.kill t n).setRow d s.next r).put (some d) ⟨x,.no⟩) (a.put (some d) v) w ι' Θ:=by
 obtain ⟨sd,b0,cur0,fq,lq,et,mj,dp,ne⟩:=R.rows t n r hm;have dd:ι d s.next=none:=by
  cases h:ι d s.next with
  | none=>rfl
  | some b =>
   rcases (R.mine _ _ _ h).2.2 with h1 | h1
   ·omega
   ·exact absurd h1.2 hD
 have ed:ι.ob d s.next=none:=by
  cases h:ι.ob d s.next with
  | none=>rfl
  | some b =>
   rcases (R.obs _ _ _ h).2 with h1 | h1
   ·omega
   ·exact absurd h1.2 hD
 have jb:¬ (t=d/\n=s.next):=fun e=>by rw [e.1,e.2,dd] at lq; cases lq
 obtain ⟨ι',hι'⟩:∃ ι':Ix,ι'=⟨fun t' n'=>if t'=d/\n'=s.next then some b0 else (ι.del t n) t' n',ι.ob,ι.z⟩:=⟨_,rfl⟩;have fc:ι' d s.next=some b0:=by subst hι'; show (if d=d/\s.next=s.next then some b0 else _)=_; rw [if_pos ⟨rfl,rfl⟩]
 have td:∀ t' n' b,ι' t' n'=some b->(t'=d/\n'=s.next/\b=b0)\/(ι t' n'=some b/\¬ (t'=t/\n'=n)/\¬ (t'=d/\n'=s.next)):=fun t' n' b h=>by
  subst hι';have h':(if t'=d/\n'=s.next then some b0 else (ι.del t n) t' n')=some b:=h;split at h'
  ·rename_i e; injection h' with h'; exact .inl ⟨e.1,e.2,h'.symm⟩
  ·rename_i e; exact .inr ⟨(Ix.del_some h').1,(Ix.del_some h').2,e⟩
 have kb:ι'.ob=ι.ob:=by subst hι'; rfl
 have sb:Ix.Lk t n ι ι':=⟨fun t' n' b hn h=>by
  subst hι';show (if t'=d/\n'=s.next then some b0 else (ι.del t n) t' n')=some b;rw [if_neg (fun e=>by rw [e.1,e.2,dd] at h; cases h)];exact (Ix.del_lk ι t n).f _ _ _ hn h,fun _ _ _ _=>by subst hι'; rfl⟩
 have ui:∀ b,ι'.z b=ι.z b:=fun b=>by subst hι'; rfl
 clear hι';have zg:∀ b o,EB ι' Θ b o->EB ι Θ b o:=fun b o h=>h.imp (fun h=>h.imp (fun ⟨t',n',h⟩=>by
  rcases td _ _ _ h with ⟨_,_,e⟩ | ⟨h,_⟩
  ·exact ⟨t,n,e ▸ lq⟩
  ·exact ⟨t',n',h⟩) (fun ⟨t',n',H,h,hb⟩=>⟨t',n',H,kb ▸ h,hb⟩)) id
 have hB:TA (EB ι Θ) (EB ι' Θ) w w:=TA.less zg;have hA:TA (QB aa ι Θ) (QB aa ι' Θ) w w:=TA.less fun b o h=>h.imp id (zg b o)
 refine ⟨ι',fB.put (s:=(s.kill t n).setRow d s.next r) ⟨R.defers,R.size,fun j=>UA.kill sb hA hB _ _ (R.env j),R.ann,fun t' n' r' hr=>?_,fun t' n' b h=>?_,fun t1 n1 t2 n2 b h h'=>?_,R.tok,R.tinj,fun k o t' n' h h'=>?_,R.out,fun p h=>?_,R.kept,R.base,fun t' n' S h=>?_,fun t' n' H h=>?_,fun j=>UA.kill sb hA hB _ _ (R.gen j),R.gann⟩ hd (hx _ (fc.trans lq.symm) ui) trivial⟩
 ·simp only [uA.setRow] at hr;split at hr
  ·rename_i e;injection hr with hr;subst hr;refine ⟨by rw [kb,e.1,e.2]; exact ed,b0,cur0,fq,by rw [e.1,e.2]; exact fc,et,?_,dp,ne.trans (ui _).symm⟩;have:=mj.kill sb hA;rw [de] at this;exact this
  ·simp only [uA.kill] at hr;split at hr
   ·cases hr
   ·rename_i hn;cases pd:s.mem t' n' with
    | none=>rw [pd] at hr; cases hr
    | some r0 =>
     rw [pd] at hr;injection hr with hr;subst hr;obtain ⟨h0,b,cur,ty,h1,h2,h3,h4,h5⟩:=R.rows t' n' r0 pd;exact ⟨kb ▸ h0,b,cur,ty,sb.f _ _ _ hn h1,h2,h3.kill sb hA,h4,h5.trans (ui _).symm⟩
 ·rcases td _ _ _ h with ⟨e1,e2,e3⟩ | ⟨h,_⟩
  ·subst e1; subst e3;obtain ⟨h1,h2,_⟩:=R.mine t n b lq;exact ⟨h1,h2,.inr ⟨e2,.inr rfl⟩⟩
  ·obtain ⟨h1,h2,h3⟩:=R.mine t' n' b h;exact ⟨h1,h2,h3.imp id fun ⟨e,d⟩=>⟨e,.inl d⟩⟩
 ·rcases td _ _ _ h with ⟨e1,e2,e3⟩ | ⟨h,hn,_⟩ <;> rcases td _ _ _ h' with ⟨f1,f2,f3⟩ | ⟨h',fj,_⟩
  ·exact ⟨e1.trans f1.symm,e2.trans f2.symm⟩
  ·subst e3; exact absurd (R.inj _ _ _ _ _ h' lq) fj
  ·subst f3; exact absurd (R.inj _ _ _ _ _ h lq) hn
  ·exact R.inj _ _ _ _ _ h h'
 ·rcases td _ _ _ h' with ⟨e1,e2,e3⟩ | ⟨h',_⟩
  ·exact R.apart k o t n h (e3 ▸ lq)
  ·exact R.apart k o t' n' h h'
 ·obtain ⟨h1,h2⟩:=R.pin p h;exact ⟨sb.f _ _ _ (fun e=>io e.1.symm) h1,h2.imp (fun g=>⟨g.1,(sb.z _ _ _ h1).trans g.2⟩) fun g=>kb ▸ g⟩
 ·obtain ⟨p,H,h1,h2,h3,h4⟩:=R.objs t' n' S h;have kr:∀ t1 n1 b1 H1,ι t1 n1=some b1->ι.ob t1 n1=some H1->ι' t1 n1=some b1:=fun t1 n1 b1 H1 g1 g2=>sb.f _ _ _ (fun e=>by rw [<- e.1,<- e.2,g2] at sd; cases sd) g1
  exact ⟨p,H,kr _ _ _ _ h1 h2,kb ▸ h2,h3,h4.keep (fun t1 n1 b1 H1 g1 g2=>⟨kr _ _ _ _ g1 g2,H1,kb ▸ g2⟩) fun x hx=>hx⟩
 ·rw [kb] at h;obtain ⟨h1,h2⟩:=R.obs t' n' H h;refine ⟨fun b hb=>?_,h2.imp id fun ⟨e,d⟩=>⟨e,.inl d⟩⟩;obtain ⟨g1,g2,g3,g4,g5⟩:=h1 b hb;refine ⟨g1,g2,fun t2 n2 h'=>?_,g4,kb ▸ g5⟩;rcases td _ _ _ h' with ⟨e1,e2,e3⟩ | ⟨h',_⟩
  ·exfalso;have e:=g3 t n (e3 ▸ lq);rw [<- e.1,<- e.2] at h;rw [sd] at h;cases h
  ·exact g3 t2 n2 h'
theorem row_of {av:Av} {cs:List AV} {us:List Value} (h:KA av w cs us) {cur:Array Value} (hc:∀ (j:Nat) (u:Value),us[j]?=some u->cur[j]?=some u):QC ι Θ av w (cs.map (⟨·,.no⟩)) cur:=by
 have ea:=XB (OC (ι:=ι) h);constructor
 ·rw [y9];rcases yH cs.length with h0 | h0
  ·omega
  ·have:=hc (cs.length - 1) us[cs.length - 1] (yg (by omega));have:=(Array.getElem?_eq_some_iff.1 this).1;omega
 ·intro j x hx;rw [yh] at hx;cases hj:cs[j]? with
  | none=>rw [hj] at hx; cases hx
  | some y =>
   rw [hj] at hx;injection hx with hx;subst hx;obtain ⟨u,hu,h1,hr⟩:=rH (OC (ι:=ι) h) hj;exact ⟨u,hc j u hu,h1,hr,trivial⟩
theorem fB.drew (R:fB P O nt B F0 aa w0 D s a w ι Θ):fB P O nt B F0 aa w0 D s a w.drew ι Θ:=R.grow (w':=w.drew) (fun _ _=>rfl) (ye _) R.kept.drew
theorem DZ (s:uA) (t n:Nat) (r:List wA):(s.setRow t n r).kill t n=s.kill t n:=by
 simp only [uA.setRow,uA.kill];congr 1;funext t' n';by_cases h:t'=t/\n'=n <;> simp [h]
theorem xY {av:Av} {cs:List AV} {us:List Value} (h:QA ι av w cs us) {cur:Array Value} (hc:∀ (j:Nat) (u:Value),us[j]?=some u->cur[j]?=some u):QC ι Θ av w (cs.map (⟨·,.no⟩)) cur:=by
 have ea:=XB h;constructor
 ·rw [y9];rcases yH cs.length with h0 | h0
  ·omega
  ·have:=hc (cs.length - 1) us[cs.length - 1] (yg (by omega));have:=(Array.getElem?_eq_some_iff.1 this).1;omega
 ·intro j x hx;rw [yh] at hx;cases hj:cs[j]? with
  | none=>rw [hj] at hx; cases hx
  | some y =>
   rw [hj] at hx;injection hx with hx;subst hx;obtain ⟨u,hu,h1,hr⟩:=rH h hj;exact ⟨u,hc j u hu,h1,hr,trivial⟩
theorem lQ {t n:Nat} {v:AV} (h:v.noName t n=true):v.kill0 t n=v/\v.kill t n=v:=by
  cases v <;> first
    | exact ⟨rfl,rfl⟩
    | (simp only [AV.noName,Bool.not_eq_true',Bool.and_eq_false_imp,decide_eq_true_eq,decide_eq_false_iff_not] at h
       have h':¬ (_=t/\_=n):=fun e=>h e.1 e.2
       exact ⟨by simp only [AV.kill0,if_neg h'],by simp only [AV.kill,AV.kill0,if_neg h']⟩)
    | cases h
theorem jZ {t n:Nat} {l:List AV} (h:l.all (AV.noName t n)=true):l.map (AV.kill0 t n)=l:=by
 have:l.map (AV.kill0 t n)=l.map id:=yK fun x hx=>(lQ (y8.1 h x hx)).1
 rwa [List.map_id] at this
theorem gZ {t n:Nat} {l:List AV} (h:l.all (AV.noName t n)=true):(l.map (⟨·,.no⟩)).map (wA.kill t n)=l.map (⟨·,.no⟩):=by
 rw [y5];apply yK;intro x hx;show (⟨x.kill t n,.no⟩:wA)=⟨x,.no⟩;rw [(lQ (y8.1 h x hx)).2]
theorem dY (R:fB P O nt B F0 aa w0 D s a w ι Θ) {t e:TypeId} {i:TypeInfo} {z:List AV} (ht:P.underlying t=some (.slice e)) (hi:P.info? e=some i) (hz:FG P e=some z) (ac:z.length=i.size) (ub:0<i.size) {X Y:Operand} {x y:iB} (hx:opd X=some x) (hy:opd Y=some y)
  (ho:o.op=.call { callee:=.builtin .append,args:=#[X,Y],argTypes:=#[t,t] }) {d:Nat} (ja:o.dst=some d) (hd:d<nt) (hD:¬ D d) {cl:Cl} {call} {xe:wA × tC} (hr:(K.appn cl e i.size i.bytes x y).run call s=some xe) {g} {s':uA} (he:kA.eff ⟨o.dst,.appn cl e i.size i.bytes x y,g⟩ s xe=some s') :
  ∃ v w',(execOp a.eval o).run P w=.ok (.value v) w'/\SC P O nt B F0 aa w0 (fun t=>D t\/t=d) s' (a.put o.dst v) w':=by
 obtain ⟨zv,i',xc,sk,pg,hl⟩:=mE hz w;rw [hi] at xc;injection xc with xc;subst xc;have rg:zv.cells.size=i.size:=by
  have:=eE hl;simp only [yG] at this;omega
 have hX:=R.opd hx;have hY:=(R.opd hy).1;have xh:∀ v w',(Builtin.append_ #[t,t] o.type #[a.eval X,a.eval Y]).run P w=.ok v w'->(execOp a.eval o).run P w=.ok (.value v) w':=fun v w' h=>by
  simp only [execOp,ho,resolve,invoke,builtin,Sem.run_bind,Sem.run_pure,Result.andThen_ok,List.map_toArray,yu,List.map_nil,h]
 -- a new block for l++m
 have grow:∀ {s1:uA} {ι1:Ix} {l m:List (List AV)} {xs news:List Value} {A:Option Addr} {ln c:Nat},fB P O nt B F0 aa w0 D s1 a w.drew ι1 Θ->a.eval X=.slice A ln c->xs.length=ln * i.size->(A=none->ln=0/\c=0)->(∀ a',A=some a'->∀ j u,xs[j]?=some u->w.cell? (a'.add j)=some u) →
   l.length=ln->Sl (fun _=>False) w i.size (a.eval Y) m.length news->c<ln + m.length->ln<=c->QA ι1 (QB aa ι1 Θ) w.drew (l++m).flatten (xs++news)->nA i.bytes (ln + m.length)=true →
   ∃ v w',(execOp a.eval o).run P w=.ok (.value v) w'/\SC P O nt B F0 aa w0 (fun t=>D t\/t=d) ((s1.setRow d s1.next ((l++m).flatten.map (⟨·,.no⟩))).put (some d) ⟨.ref d s1.next i.size 0 (ln + m.length) (ln + m.length),.no⟩) (a.put (some d) v) w':=by
  intro s1 ι1 l m xs news A ln c R1 hv ec hA rj nb le ia xp wb ga;obtain ⟨ze,jd⟩:=rA.1 ga;have ka:=RS (P:=P) (w:=w) ht hi sk o.type ec hA rj le ia xp jd ze;rw [<- hv] at ka;have di:=grownCap_ge w (ln + m.length) c e;have bz:news.length=m.length * i.size:=le.1;have oa:QC ι1 Θ (QB aa ι1 Θ) w.drew ((l++m).flatten.map (⟨·,.no⟩)) (xs.toArray++news.toArray++Builtin.zeroCells zv.cells (grownCap w (ln + m.length) c e - (ln + m.length))):=xY wb fun j u hj=>by
   have jn:=(yq.1 hj).1;rw [Array.getElem?_append_left (by simp only [Array.size_append,yF]; simpa using jn)];simpa using hj
  obtain ⟨ι',h⟩:=R1.new hd hD e oa (x:=.ref d s1.next i.size 0 (ln + m.length) (ln + m.length)) (v:=.slice (some ⟨w.heap.size,0,none⟩) (ln + m.length) (grownCap w (ln + m.length) c e)) (fun ι' h hz=>⟨_,h,ye _,_,di,by
   rw [show ι'.z w.drew.heap.size=_ from hz,yn];simp only [Array.size_append,yF,size_zeroCells,rg,ec,bz,<- Nat.add_mul];exact yO _ (by omega),rfl⟩)
  exact ⟨_,_,xh _ _ ka,ι',Θ,h⟩
 have drewHeld:TA (QB aa ι Θ) (QB aa ι Θ) w w.drew:=TA.grown (fun _ _=>rfl) fun _ _ _ h=>h
 simp only [K.run] at hr;split at hr
 ·rename_i b l m nc eb;split at hr
  ·rename_i ba;obtain ⟨ga,zb,zq⟩:=ba;have ic:∀ c∈l++m,c.length=i.size:=fun c hc=>by simpa using y8.1 zb c hc
   have pd:∀ c∈m,c.length=i.size:=fun c hc=>ic c (List.mem_append_right _ hc)
   have wn:∀ c∈l,c.length=i.size:=fun c hc=>ic c (List.mem_append_left _ hc)
   obtain ⟨news,pb,le⟩:=d6 R hY eb ub pd;rw [nc] at hX;have kp:=hX.1;rw [NB] at kp;obtain ⟨xs,ec,zo⟩:=LI (cl:=cl) R hX.1 (m:=l) rfl ub wn;simp only [JC] at kp;obtain ⟨A,c,hv,xp,hu,hn,hs⟩:=kp;have zd:xs.length=l.length * i.size:=zo.1;have je:∀ a',A=some a'->∀ j u,xs[j]?=some u->w.cell? (a'.add j)=some u:=fun a' ha j u hj=>by
    obtain ⟨_,A2,c2,xx,_,h2⟩:=zo;rw [hv] at xx;injection xx with e1 e2 e3;subst e1;have hp:0<l.length:=by
     rcases yH l.length with h | h
     ·rw [h] at zd; have:=(yq.1 hj).1; omega
     ·exact h
    obtain ⟨b',off,hA,_,_,md⟩:=h2 hp;rw [ha] at hA;injection hA with hA;subst hA;rw [Addr.add_lit];exact md j u hj
   split at hr
   ·rename_i ki;have hXe:exV (a.eval X):=by
     cases b with
     | false=>have h2:=hX.2; rw [show x.an s=.ex from ki] at h2; exact h2
     | true =>
      obtain ⟨h1,h2,h3⟩:=hn rfl;exact ⟨none,0,by rw [hv,h1,h2,h3]⟩
    obtain ⟨A',n',fh⟩:=hXe;rw [hv] at fh;injection fh with e1 e2 e3;injection hr with hr;subst hr;simp only [kA.eff,ja] at he;injection he with he;subst he;rw [ja];exact grow R.drew hv zd (fun hA=>by
     cases b with
     | true=>have:=hn rfl; exact ⟨this.2.1,this.2.2⟩
     | false =>
      obtain ⟨h1,h2⟩:=hs rfl;refine ⟨?_,h1 hA⟩;rcases yH l.length with h0 | h0
      ·exact h0
      ·obtain ⟨_,_,ha,_⟩:=h2 h0; rw [hA] at ha; cases ha) je rfl le (by omega) xp (by rw [List.flatten_append]; exact aF (OC (KA.held drewHeld _ _ ec)) (QA.held (Ix.Le.refl _) drewHeld _ _ pb)) ga
   ·cases hr
  ·cases hr
 ·rename_i t' n sz off ln cp m nc eb;split at hr
  ·rename_i l nb;split at hr
   ·rename_i ba;obtain ⟨rfl,rfl,ga,zb,io,ou⟩:=ba;injection hr with hr;subst hr;have pd:∀ c∈m,c.length=i.size:=fun c hc=>by simpa using y8.1 zb c hc
    obtain ⟨news,pb,le⟩:=d6 R hY eb ub pd;rw [nc] at hX;obtain ⟨b,hb,tb,cc,af,hzb,hv⟩:=wF.1 hX.1;simp only [AV.raws] at nb;split at nb
    ·cases hm:s.mem t' n with
     | none=>rw [hm] at nb; cases nb
     | some r =>
      rw [hm,J] at nb;obtain ⟨sd,b',cur,ty,gb,na,oa,xg,rh⟩:=R.rows t' n r hm;rw [hb] at gb;injection gb with gb;subst gb;obtain ⟨pw,wn,xs,ec,je⟩:=bN oa na nb;simp only [yn] at je hzb;have gn:∀ {q:List (List AV)},(∀ c∈q,c.length=i.size)->q.flatten.length=q.length * i.size:=fun {q} hq=>by
       induction q with
       | nil=>simp
       | cons c r ih=>rw [yy,yb,hq c (by simp),ih (fun c hc=>hq c (by simp [hc])),yD,yB]; omega
      have zd:xs.length=ln * i.size:=by
       have:=XB ec;rw [this,gn wn,pw]
      have mf:news.length=m.length * i.size:=le.1;have wb:QA ι (QB aa ι Θ) w (l++m).flatten (xs++news):=by rw [List.flatten_append]; exact aF ec pb
      have iw:(l++m).flatten.map (AV.kill0 t' n)=(l++m).flatten:=jZ ou;simp only [kA.eff,ja,uA.killO] at he;injection he with he;subst he;rw [ja];rcases Nat.lt_or_ge cc (ln + m.length) with ia | di
      ·have sb:TA (QB aa ι Θ) (QB aa (ι.del t' n) Θ) w w.drew:=TA.grown (fun _ _=>rfl) fun b o _ h=>h.imp id fun h=>h.imp (fun h=>h.imp (fun ⟨t',n',h⟩=>⟨t',n',(Ix.del_some h).1⟩) id) id
       exact grow (R.drew.kill io hm) hv zd (fun h=>by cases h) (fun a' ha j u hj=>by
        injection ha with ha;subst ha;rw [Addr.add_lit,yn];exact je j u hj) pw le ia (Nat.le_trans tb af) (by have:=QA.kill (Ix.del_lk ι t' n) sb _ _ wb; rwa [iw] at this) ga
      ·obtain ⟨new,fc⟩:∃ new,new=(cur.toList.take (ln * i.size)++news++cur.toList.drop (ln * i.size + news.length)).toArray:=⟨_,rfl⟩;have eg:ln * i.size + news.length<=cur.size:=by
        rw [mf,<- Nat.add_mul,rh];exact Nat.le_trans (yO _ di) hzb
       have ka:(Builtin.append_ #[t,t] o.type #[a.eval X,a.eval Y]).run P w=.ok (.slice (some ⟨b,0,none⟩) (ln + m.length) cc) (w.setRow b new):=by
        rw [hv,fc];obtain ⟨cf,A,c',hsv,hc,rb⟩:=le;rw [hsv];cases A with
        | none =>
         have zq:m.length=0:=by
          rcases yH m.length with h | h
          ·exact h
          ·obtain ⟨b,off,hA,_⟩:=rb h; cases hA
         have ou:news=[]:=yN (by rw [mf,zq,Nat.zero_mul]);subst ou;rw [zq] at di ⊢;have so:w.setRow b (cur.toList.take (ln * i.size)++[]++cur.toList.drop (ln * i.size + ([]:List Value).length)).toArray=w:=by
          simp only [yt,List.length_nil,Nat.add_zero,yR,yM];exact setRow_self w b cur ty (0,0) na
         rw [so];simp only [Nat.add_zero] at di;simp [Builtin.append_,run_underlying ht,sizeOf,typeInfo,hi,Builtin.lenOf,Builtin.firstCells,di,storeCells]
        | some a' =>
         have pt:∀ (j:Nat) (u:Value),news[j]?=some u->w.cell? (a'.add j)=some u:=fun j u hu=>by
          have zq:0<m.length:=by
           rcases yH m.length with h | h
           ·rw [h] at mf; have:=(yq.1 hu).1; omega
           ·exact h
          obtain ⟨b,off,hA,_,_,md⟩:=rb zq;injection hA with hA;subst hA;rw [Addr.add_lit];exact md j u hu
         have jt:=run_loadCells_list (P:=P) w a' news pt;rw [mf] at jt;have bd:=run_storeCells_at P b (ln * i.size) ty news 0 cur w na (by simpa using eg) (BQ pb);simp only [Nat.add_zero] at bd;simp [Builtin.append_,run_underlying ht,sizeOf,typeInfo,hi,Builtin.lenOf,Builtin.firstCells,di,jt,Addr.add_lit,bd]
       have hns:new.size=cur.size:=by
        rw [fc];simp only [yF,yb,ym,yr,yG];omega
       have lj:QC ι Θ (QB aa ι Θ) w ((l++m).flatten.map (⟨·,.no⟩)) new:=xY wb fun j u hj=>by
        have rx:(cur.toList.take (ln * i.size)).length=ln * i.size:=by rw [ym,yG]; omega
        rw [fc,List.getElem?_toArray,yl];rcases Nat.lt_or_ge j (ln * i.size) with h | h
        ·rw [yL (by omega)] at hj;have:=je j u hj;rw [cell_of_row w b j cur ty (0,0) na] at this;rw [yL (by omega),yz,if_pos h];simpa using this
        ·rw [yJ (by omega),zd] at hj;have hjn:=(yq.1 hj).1;rw [yJ (by omega),rx,yL hjn];exact hj
       have R1:=R.set hb sd na lj xg (hns.trans rh);have R2:=R1.ren (t:=t') (n:=n) io (d:=d) (r:=(l++m).flatten.map (⟨·,.no⟩)) (by simp [uA.setRow]) (gZ ou) hd hD (x:=.ref d s.next i.size 0 (ln + m.length) (ln + m.length)) (v:=.slice (some ⟨b,0,none⟩) (ln + m.length) cc) (fun ι' h1 h2=>⟨b,h1.trans hb,ye _,cc,di,by rw [h2,yn]; exact hzb,rfl⟩);rw [DZ] at R2;obtain ⟨ι',R2⟩:=R2;exact ⟨_,_,xh _ _ ka,ι',Θ,R2⟩
    ·cases nb
   ·cases hr
  ·cases hr
 ·cases hr
theorem gY {v:AV} {cl:Cl} {l:List (List AV)} (h:v.elems s cl=some l):v.raws s cl=some l:=by
 cases v with
 | ref t n sz off len cap =>
  simp only [AV.elems,AV.raws] at h ⊢;split at h
  ·rename_i hc;rw [if_pos hc];cases hm:s.mem t n with
   | none=>rw [hm] at h; cases h
   | some r =>
    rw [hm,J,rG] at h;split at h
    ·rename_i hr;rw [J,cN,if_pos hr.1];exact h
    ·cases h
  ·cases h
 | _=>exact h
theorem WX {av:Av} (t n:Nat):∀ {xs:List AV} {us:List Value},KA av w xs us->xs.all (AV.noName t n)=true
 | [],_,_=>rfl
 | x :: r,_,h=>by
  simp only [KA] at h;obtain ⟨u,wa,rfl,h0,h1,h⟩:=h;rw [List.all_cons,WX t n h,Bool.and_true];cases x <;> first | rfl | (simp [JC] at h0; done) | (simp only [JC] at h0; obtain ⟨us,rfl,_⟩:=h0; simp [Value.oneCell'] at h1; done)
theorem u6 (R:fB P O nt B F0 aa w0 D s a w ι Θ) {t e:TypeId} {i:TypeInfo} {z:List AV} (ht:P.underlying t=some (.slice e)) (hi:P.info? e=some i) (hz:FG P e=some z) (ac:z.length=i.size) (ub:0<i.size) {X Y:Operand} {x y:iB} (hx:opd X=some x) (hy:opd Y=some y)
  (ho:o.op=.call { callee:=.builtin .append,args:=#[X,Y],argTypes:=#[t,t] }) {d:Nat} (ja:o.dst=some d) (hd:d<nt) (hD:¬ D d) {cl:Cl} {call} {xe:wA × tC} (hr:(K.appf cl e i.size i.bytes x y).run call s=some xe) {g} {s':uA} (he:kA.eff ⟨o.dst,.appf cl e i.size i.bytes x y,g⟩ s xe=some s') :
  ∃ v w',(execOp a.eval o).run P w=.ok (.value v) w'/\SC P O nt B F0 aa w0 (fun t=>D t\/t=d) s' (a.put o.dst v) w':=by
 have hX:=R.opd hx;have hY:=(R.opd hy).1;simp only [K.run] at hr;split at hr
 ·rename_i b l m nc eb;split at hr
  ·rename_i ba;split at hr
   ·rename_i ki;split at hr
    ·rename_i bc;cases hr;have zq:m=[]:=by simpa using bc
     subst zq;have ic:∀ c∈l,c.length=i.size:=fun c hc=>by simpa using y8.1 ba.2 c (List.mem_append_left _ hc)
     obtain ⟨news,pb,le⟩:=LI R hY eb ub (fun _ h=>by cases h);rw [nc] at hX;obtain ⟨hX,jp⟩:=hX;obtain ⟨A,c,hv,xp,_,hn,_⟩:=NB.1 hX;cases he;have ka:=TS (P:=P) (w:=w) ht hi o.type (A:=A) xp le;rw [<- hv] at ka;refine ⟨_,_,by simp only [execOp,ho,resolve,invoke,builtin,Sem.run_bind,Sem.run_pure,Result.andThen_ok,List.map_toArray,yu,List.map_nil,ka],ι,Θ,(R.putN (d:=o.dst) (x:=⟨.sl b l,.ex⟩) (fun t h=>by rw [ja] at h; cases h; exact hd) hX ?_).more fun _ h=>.inl h⟩;cases b with
     | false=>rw [show x.an s=.ex from ki] at jp; exact jp
     | true=>obtain ⟨h1,h2,h3⟩:=hn rfl; exact ⟨none,0,by rw [hv,h1,h2,h3]⟩
    ·rename_i bc;exact dY R ht hi hz ac ub hx hy ho ja hd hD (cl:=cl) (call:=call) (xe:=xe) (by simp only [K.run,nc,gY eb]; rw [if_pos ⟨ba.1,ba.2,by cases m <;> simp at bc ⊢⟩,ki]; exact hr) (g:=g) he
   ·cases hr
  ·cases hr
 ·cases hr
theorem op_appm (R:fB P O nt B F0 aa w0 D s a w ι Θ) {t e:TypeId} {i:TypeInfo} {z:List AV} (ht:P.underlying t=some (.slice e)) (hi:P.info? e=some i) (hz:FG P e=some z) (ac:z.length=i.size) (ub:0<i.size) {X Y:Operand} {x y:iB} (hx:opd X=some x) (hy:opd Y=some y)
  (ho:o.op=.call { callee:=.builtin .append,args:=#[X,Y],argTypes:=#[t,t] }) {d:Nat} (ja:o.dst=some d) (hd:d<nt) (hD:¬ D d) {cl:Cl} {call} {xe:wA × tC} (hr:(K.appm cl e i.size i.bytes x y).run call s=some xe) {g} {s':uA} (he:kA.eff ⟨o.dst,.appm cl e i.size i.bytes x y,g⟩ s xe=some s') :
  ∃ v w',(execOp a.eval o).run P w=.ok (.value v) w'/\SC P O nt B F0 aa w0 (fun t=>D t\/t=d) s' (a.put o.dst v) w':=by
 have hX:=R.opd hx;have hY:=(R.opd hy).1;simp only [K.run] at hr;split at hr
 ·rename_i b l m nc eb;exact u6 R ht hi hz ac ub hx hy ho ja hd hD (cl:=cl) (call:=call) (xe:=xe) (by simp only [K.run,nc,eb]; exact hr) (g:=g) he
 ·rename_i t' n sz off ln cp m nc eb;split at hr
  ·rename_i l nb;split at hr
   ·rename_i ba;obtain ⟨h1,h2,ga,zb,io⟩:=ba;obtain ⟨news,pb,le⟩:=LI R hY eb ub fun c hc=>by simpa using y8.1 zb c hc
    rw [nc] at hX;have sd:(l++m).flatten.all (AV.noName t' n)=true:=by
     rw [List.flatten_append,List.all_append,WX t' n pb,Bool.and_true];simp only [AV.elems] at nb;split at nb
     ·cases hm:s.mem t' n with
      | none=>rw [hm] at nb; cases nb
      | some r =>
       rw [hm,J] at nb;obtain ⟨_,b',cur,ty,_,na,oa,_⟩:=R.rows t' n r hm;obtain ⟨_,_,xs,ec,_⟩:=eF oa na nb;exact WX t' n ec
     ·cases nb
    exact dY R ht hi hz ac ub hx hy ho ja hd hD (cl:=cl) (call:=call) (xe:=xe) (by simp only [K.run,nc,gY eb,gY nb]; rw [if_pos ⟨h1,h2,ga,zb,io,sd⟩]; exact hr) (g:=g) he
   ·cases hr
  ·cases hr
 ·cases hr
theorem op_bslr (R:fB P O nt B F0 aa w0 D s a w ι Θ) {t e:TypeId} {n z:Nat} {zero:List AV} (ht:P.underlying t=some (.slice e)) (hz:FG P e=some zero) (hs:nB P e=some z) (ac:zero.length=z) (ub:0<z) (sw:n * z<=16777216) {ps:Array (Nat × Operand)} {ys:List (Nat × iB)} (hy:opds ps.toList=some ys) (ho:o.op=.buildSlice t n ps)
  {d:Nat} (ja:o.dst=some d) (hd:d<nt) (hD:¬ D d) {call} {xe:wA × tC} (hr:(K.bslr z zero n ys).run call s=some xe) {g} {s':uA} (he:kA.eff ⟨o.dst,.bslr z zero n ys,g⟩ s xe=some s') :
  ∃ v w',(execOp a.eval o).run P w=.ok (.value v) w'/\SC P O nt B F0 aa w0 (fun t=>D t\/t=d) s' (a.put o.dst v) w':=by
 obtain ⟨zv,i',xc,sk,pg,hl⟩:=mE hz w;have hisz:i'.size=z:=by simp [nB,xc] at hs; exact hs
 have rg:zv.cells.size=z:=by
  have:=eE hl;simp only [yG] at this;omega
 simp only [K.run] at hr;split at hr
 ·rename_i ba;obtain ⟨bg,zb,_,_⟩:=ba;injection hr with hr; subst hr;simp only [kA.eff,ja] at he;injection he with he;subst he;have ic:∀ p∈ys,(p.2.get s).whole=true/\(p.2.get s).cells.length=zero.length:=fun p hp=>by
   have:=y8.1 zb p hp;simpa using this
  have hn:ys.length=n:=by
   have:=congrArg List.length bg;simpa using this
  have zh:=aR (s:=s) z ys 0 [] (yo n zero).flatten (by rw [bg,List.range_eq_range',hn]) (by simp) (by simp [hn,ac]) (fun p hp=>by rw [(ic p hp).2,ac]);rw [List.nil_append,List.nil_append] at zh;have hp:=lP z ys;have ai:((Array.range (n * z)).map (((if n * z=0 then (#[]:Array Value) else zv.cells)[· % (if n * z=0 then (#[]:Array Value) else zv.cells).size]!))).toList=(yo n zv.cells.toList).flatten:=by
   rcases yH n with h0 | h0
   ·subst h0; simp
   ·have:¬ n * z=0:=by have:=Nat.mul_pos h0 ub; omega
    simp only [if_neg this];rw [<- rg];exact GN zv.cells n
  obtain ⟨wa,h1,h2⟩:=tQ (pl:=fun i=>some (i * z,z)) (ι:=ι) (av:=QB aa ι Θ) (avb:=EB ι Θ) (w:=w) (s:=s) (a:=a) rfl (fun X y h=>(R.opd h).1) hy hp (fun p hp=>by
   obtain ⟨q,hq,rfl⟩:=List.mem_map.1 hp;exact (ic q hq).1) (by rw [y5]; exact zh) (us:=(Array.range (n * z)).map (((if n * z=0 then (#[]:Array Value) else zv.cells)[· % (if n * z=0 then (#[]:Array Value) else zv.cells).size]!))) (by
    rw [ai];exact JN _ _ (uG hl _ _) n)
  have ka:(execOp a.eval o).run P w=.ok (.value (.slice (some ⟨w.heap.size,0,none⟩) n n)) (w.alloc (.cells wa e)):=by
   have h3:Instr.fill (fun i=>some (i * z,z)) ((Array.range (n * z)).map (((if n * z=0 then (#[]:Array Value) else zv.cells)[· % (if n * z=0 then (#[]:Array Value) else zv.cells).size]!))) (ps.map fun (i,x)=>(i,a.eval x)).toList=some wa:=by
    rw [Array.toList_map];exact h1
   have tb:¬ (n * z > 2 ^ 24):=by omega
   by_cases h0:n * z=0
   ·simp only [if_pos h0] at h3;simp only [execOp,ho,Instr.buildSlice,Sem.run_bind,run_underlying ht,Result.andThen_ok,AB hs,if_neg tb,if_pos h0,Sem.run_pure,h3,newRow,run_newObj_alloc]
   ·simp only [if_neg h0] at h3;simp only [execOp,ho,Instr.buildSlice,Sem.run_bind,run_underlying ht,Result.andThen_ok,AB hs,if_neg tb,if_neg h0,Sem.run_pure,pg,h3,newRow,run_newObj_alloc]
  refine ⟨_,_,ka,?_⟩;rw [ja];have ea:=XB h2;have sh:(ys.map fun p=>(p.2.get s).cells).flatten.length=n * z:=by
   rw [<- hn];clear zh h2 ea h1 bg zb hp hy sw ai hn
   induction ys with
   | nil=>simp
   | cons p r ih=>rw [yu,yy,yb,(ic p (by simp)).2,ih (fun q hq=>ic q (by simp [hq])),ac,yD,yB]; omega
  have fd:wa.size=n * z:=by
   rw [sh,yG] at ea;exact ea
  have oa:QC ι Θ (QB aa ι Θ) w (HA (ys.map fun p=>(p.2.get s).cells)) wa:=xY h2 fun j u hj=>by simpa using hj
  obtain ⟨ι',h⟩:=R.new hd hD e oa (x:=.ref d s.next z 0 n n) (v:=.slice (some ⟨w.heap.size,0,none⟩) n n) (fun ι' h hz=>⟨_,h,ye _,_,ye _,by
   rw [show ι'.z w.heap.size=_ from hz,yn,fd];exact ye _,rfl⟩)
  exact ⟨ι',Θ,h⟩
 ·cases hr
end
end
section
open Go Go.RowKit
section
variable {P:Program} {O:JD} {nt B:Nat} {F0:AL} {aa:Av} {w0:World} {D:Nat->Prop} {s:uA} {a:Act} {w w':World} {ι:Ix} {Θ:lH} {o:Oper}
def AE (ι:Ix) (av avl:Av) (w:World):List AV->List Value->Prop
 | [],us=>us=[]
 | x :: r,us=>∃ u wa,us=u :: wa/\UA ι av avl w x u/\AE ι av avl w r wa
def Ix.one (p:Nat):Ix:=⟨fun t n=>if t=0/\n=0 then some p else .none,fun _ _=>.none,fun _=>0⟩
def NQ (p:Nat) (av:Av) (w:World) (x:AV) (v:Value):Prop:=if x.isObj then v=.pointer (some ⟨p,0,none⟩) else JC av w x v
def EI (p:Nat) (av:Av) (w:World):List AV->List Value->Prop
 | [],us=>us=[]
 | x :: r,us=>∃ u wa,us=u :: wa/\NQ p av w x u/\EI p av w r wa
def j0 (p:Nat) (av:Av) (w:World):AV->Value->Prop
 | .tup vs,v=>∃ us,v=.tuple us/\EI p av w vs us.toList
 | x,v=>NQ p av w x v
def OwnV (base:Nat) (H:Nat->Prop) (w:World) (l:List (List AV)) (v:Value):Prop :=
 (l=[]/\∃ A c,v=.slice A 0 c/\(A=none->c=0))\/∃ g c cur ty,v=.slice (some ⟨g,0,none⟩) l.length c/\base<=g/\¬ H g/\w.heap[g]?=some (.cells cur ty (0,0))/\l.length<=c/\(∀ sz,OA sz l=true->0<l.length->c * sz<=cur.size)/\∀ (j:Nat) (x:AV),l.flatten[j]?=some x->cur[j]?=some x.scalV
def QX (w:World) (g0:Nat->Prop) (z:Nat) (av:Av) (w':World) (l:List (List AV)) (v:Value):Prop :=
 ∃ g c cur ty,v=.slice (some ⟨g,0,none⟩) l.length c/\(w.heap.size<=g\/g0 g/\∃ cur0 fq,w.heap[g]?=some (.cells cur0 fq (0,0))/\cur.size=cur0.size)/\w'.heap[g]?=some (.cells cur ty (0,0))/\l.length<=c/\c * z<=cur.size/\KA (fun b o=>av b o\/b=g) w' l.flatten (cur.toList.take l.flatten.length)
def mX (z:Nat) (av:Av) (w:World) (b:Bool) (l:List (List AV)) (v:Value) (g0:Nat->Prop):Prop :=
 (l=[]/\(∃ A,v=.slice A 0 0)/\(b=true->v=.slice none 0 0)/\∀ g,¬ g0 g)\/(b=false/\∃ g c cur ty,v=.slice (some ⟨g,0,none⟩) l.length c/\(∀ g',g0 g' ↔ g'=g)/\w.heap[g]?=some (.cells cur ty (0,0))/\l.length<=c/\c * z<=cur.size/\(∀ o,av g o)/\KA av w l.flatten (cur.toList.take l.flatten.length))
def pF (P:Program) (O:JD) (f:FuncId) (args:List AV) (S0:Option AV) (r:RV):Prop :=
 (∀ xs w,(callFunc f xs).run P w=.ok (.enter f xs) w) ∧
 match r,S0 with
 | (.sl nl l,none),none=>∀ (av:Av) (w:World) (vs:List Value),(∀ b o,av b o->b<w.heap.size)->AE Ix.none av (fun _ _=>False) w args vs →
  Calls P f vs.toArray w fun e w'=>∃ v,e=.returned v/\(if l=[] then JC av w' (.sl nl []) v/\∃ A,v=.slice A 0 0 else ∀ z,OA z l=true->QX w (fun _=>False) z av w' l v)/\Below w.heap.size w w'
 | (.sl false l,none),some (.int _ z)=>match args with
  | .sl nl l0 :: rest=>∀ (av:Av) (w:World) (v0:Value) (vs:List Value) (g0:Nat->Prop),(∀ b o,av b o->b<w.heap.size)->AE Ix.none av (fun _ _=>False) w rest vs->mX z.toNat av w nl l0 v0 g0 →
   Calls P f (v0 :: vs).toArray w fun e w'=>∃ v,e=.returned v/\QX w g0 z.toNat av w' l v/\SA g0 w w'
  | _=>True
 | (.sl false l,some S'),some S=>∀ (av:Av) (w:World) (vs:List Value) (p:Nat) (H:Nat->Prop),(∀ b o,av b o->b<w.heap.size)->(∀ b o,H b->av b o)->O.at_ S H p w->AE (Ix.one p) av (fun b _=>H b) w args vs →
  Calls P f vs.toArray w fun e w'=>∃ v H',e=.returned v/\OwnV w.heap.size H' w' l v/\O.at_ S' H' p w'/\(∀ b,H' b->H b\/w.heap.size<=b)/\SA H w w'
 | _,_=>True
def xX (P:Program) (O:JD) (f:FuncId) (args:List AV) (S0:Option AV) (r:RV):Prop :=
 (∀ xs w,(callFunc f xs).run P w=.ok (.enter f xs) w) ∧
 match S0,r.2 with
 | none,none=>∀ (av:Av) (w:World) (vs:List Value),(∀ b o,av b o->b<w.heap.size)->AE Ix.none av (fun _ _=>False) w args vs →
  Calls P f vs.toArray w fun e w'=>∃ v,e=.returned v/\JC av w' r.1 v/\Below w.heap.size w w'
 | some S,some S'=>∀ (av:Av) (w:World) (vs:List Value) (p:Nat) (H:Nat->Prop),(∀ b o,av b o->b<w.heap.size)->(∀ b o,H b->av b o)->O.at_ S H p w->AE (Ix.one p) av (fun b _=>H b) w args vs →
  Calls P f vs.toArray w fun e w'=>∃ v H',e=.returned v/\JC (fun b o=>av b o\/H' b) w' r.1 v/\O.at_ S' H' p w'/\(∀ b,H' b->H b\/w.heap.size<=b)/\SA H w w'
 | none,some S'=>∀ (av:Av) (w:World) (vs:List Value),(∀ b o,av b o->b<w.heap.size)->AE Ix.none av (fun _ _=>False) w args vs →
  Calls P f vs.toArray w fun e w'=>∃ v p H',e=.returned v/\j0 p (fun b o=>av b o\/H' b) w' r.1 v/\O.at_ S' H' p w'/\(∀ b,H' b->w.heap.size<=b)/\Below w.heap.size w w'
 | some _,none=>True
def Ix.row (p z:Nat):Ix:=⟨fun t n=>if t=0/\n=0 then some p else .none,fun _ _=>.none,fun _=>z⟩
def cX (P:Program) (f:FuncId) (args:List AV) (S0:Option AV) (r:RV):Prop :=
 (∀ xs w,(callFunc f xs).run P w=.ok (.enter f xs) w) ∧
 match S0,r with
 | some (.agg cs),(r1,some (.agg aq))=>∀ (av:Av) (w:World) (vs:List Value) (p:Nat) (cur:Array Value) (ty:TypeId),(∀ b o,av b o->b<w.heap.size)->(∀ o,av p o)->w.heap[p]?=some (.cells cur ty (0,0))->cs.length<=cur.size->KA av w cs (cur.toList.take cs.length)->AE (Ix.row p cur.size) av (fun b _=>b=p) w args vs →
  Calls P f vs.toArray w fun e w'=>∃ v ra uf,e=.returned v/\JC av w' r1 v/\w'.heap[p]?=some (.cells ra uf (0,0))/\ra.size=cur.size/\KA av w' aq (ra.toList.take aq.length)/\SA (fun b=>b=p) w w'
 | _,_=>True
def DA (P:Program) (O:JD) (f:FuncId) (args:List AV) (S0:Option AV) (r:RV):Prop:=match args with
 | .undef :: .undef :: rest=>cX P f rest S0 r
 | .undef :: rest=>pF P O f rest S0 r
 | _=>xX P O f args S0 r
theorem DA.of {P:Program} {O:JD} {f:FuncId} {args:List AV} {S0:Option AV} {r:RV} (hm:sE args=false):DA P O f args S0 r ↔ xX P O f args S0 r:=by
 unfold DA;split
 ·cases hm
 ·cases hm
 ·simp_all
theorem DA.own {P:Program} {O:JD} {f:FuncId} {args:List AV} {S0:Option AV} {r:RV} (hm:sE args=false) (h:DA P O f (.undef :: args) S0 r):pF P O f args S0 r:=by
 cases args with
 | nil=>exact h
 | cons x r=>cases x <;> first | exact h | (simp [sE] at hm; done)
theorem cU {ι':Ix} {av avb avl:Av} {x:AV} {v:Value} (h:UA ι av avb w x v) (hx:x.free=true):UA ι' av avl w x v:=by
  cases x <;> first
    | exact h
    | (simp [AV.free,AV.free0] at hx; done)
    | (obtain ⟨us,hv,hc⟩:=h
       exact ⟨us,hv,OC (sF hc fun y hy=>y8.1 hx y hy)⟩)
theorem CQ {av avb:Av}:∀ {cs:List AV} {us:List Value} {b off:Nat},KA av w cs us->(∀ (j:Nat) (u:Value),us[j]?=some u->w.cell? ⟨b,off + j,none⟩=some u/\¬ avb b (off + j))->OB av avb w cs b off
 | [],_,_,_,_,_=>by simp [OB]
 | x :: r,_,b,off,h,hj=>by
  simp only [KA] at h;obtain ⟨u,wa,rfl,h0,h1,h⟩:=h;simp only [OB];have h2:=hj 0 u rfl;refine ⟨⟨u,h2.1,h0,h1⟩,h2.2,CQ h fun j v hv=>?_⟩;have:=hj (j + 1) v (by simpa using hv);rw [show off + 1 + j=off + (j + 1) from by omega];exact this
section
variable (R:fB P O nt B F0 aa w0 D s a w ι Θ) {avl:Av}
include R avl
theorem QR {cl:Cl} {y x:AV} (hB:∀ b o,avl b o->EB ι Θ b o) (hsep:∀ t n b o,ι t n=some b->ι.ob t n=none->(∃ sz off len cap,y=.ref t n sz off len cap)->¬ avl b o) {v:Value} {ι':Ix} (hY:UA ι (QB aa ι Θ) (EB ι Θ) w y v) (h:dQ s cl y=some x) (kb:∀ t n,y=.ptr t n 0->ι' 0 0=ι t n):UA ι' (QB aa ι Θ) avl w x v:=by
 unfold dQ at h;split at h
 ·rename_i t n sz off len cap;split at h
  ·cases hm:s.mem t n with
   | none=>rw [hm] at h; cases h
   | some r =>
    rw [hm,J] at h;cases hr:rG r sz off len with
    | none=>rw [hr] at h; cases h
    | some m =>
     rw [hr] at h;cases h;obtain ⟨b,hb,tb,cc,af,_,hv⟩:=wF.1 hY;obtain ⟨sd,b',cur,ty,gb,na,oa,_⟩:=R.rows t n r hm;rw [hb] at gb;injection gb with gb
     subst gb;obtain ⟨h1,h2,us,hl,fd⟩:=eF oa na hr;subst h1;exact ⟨_,cc,hv,Nat.le_trans tb af,fun c hc c' xb=>(h2 c hc).trans (h2 c' xb).symm,fun _=>⟨b,off,rfl,tH.2 (CQ hl fun j u hj=>⟨fd j u hj,hsep t n b _ hb sd ⟨_,_,_,_,rfl⟩⟩)⟩⟩
  ·cases h
 ·cases h;obtain ⟨a',c,hv,hc,hu,hs⟩:=hY;refine ⟨a',c,hv,hc,hu,fun h0=>?_⟩;obtain ⟨b,off,ha,hr⟩:=hs h0;exact ⟨b,off,ha,RI.held (TA.refl _ _) (TA.less hB) _ _ _ hr⟩
 ·cases h;obtain ⟨b,off,hv,hc⟩:=hY;exact ⟨b,off,hv,OB.held (TA.refl _ _) (TA.less hB) _ _ _ hc⟩
 ·rename_i t n off;split at h
  ·rename_i hc;cases h;obtain ⟨h0,_,_⟩:=hc;subst h0;obtain ⟨b,hb,hv⟩:=xE.1 hY;exact ⟨b,(kb t n rfl).trans hb,hv⟩
  ·cases h
 ·split at h
  ·rename_i hf;cases h;exact cU hY hf
  ·cases h
theorem lend_rep (jf:∀ b o,avl b o->∃ t n H,ι.ob t n=some H/\H b) {cl:Cl} {y x:AV} {v:Value} {ι':Ix} (hY:UA ι (QB aa ι Θ) (EB ι Θ) w y v) (h:dQ s cl y=some x) (kb:∀ t n,y=.ptr t n 0->ι' 0 0=ι t n):UA ι' (QB aa ι Θ) avl w x v :=
 QR R (fun b o h=>.inl (.inr (jf b o h))) (fun t n b o hb sd _ h=>by
  obtain ⟨t',n',H,ho,hH⟩:=jf _ _ h;obtain ⟨e1,e2⟩:=((R.obs _ _ _ ho).1 _ hH).2.2.1 _ _ hb;rw [e1,e2,ho] at sd;cases sd) hY h kb
theorem n7 (jf:∀ b o,avl b o->∃ t n H,ι.ob t n=some H/\H b) {cl:Cl} {y x:AV} {v:Value} {ι':Ix} (hY:fT ι (QB aa ι Θ) (EB ι Θ) w y v) (h:pN s cl y=some x):fT ι' (QB aa ι Θ) avl w x v:=by
 have hB:∀ b o,avl b o->EB ι Θ b o:=fun b o h=>.inl (.inr (jf b o h))
 unfold pN at h;split at h
 ·rename_i t n off;split at h
  ·split at h
   ·rename_i r hm;split at h
    ·rename_i zb;cases h;obtain ⟨b,hb,hv⟩:=hY;obtain ⟨sd,b',cur,ty,gb,na,oa,_⟩:=R.rows t n r hm;rw [hb] at gb;injection gb with gb
     subst gb;have wb:=PD off oa.rep;rw [<- List.map_drop] at wb;have de:∀ x∈(r.drop off).map (·.v),x.free0=true:=fun x hx=>by
      grind
     refine ⟨b,off,hv,CQ (sF wb de) fun j u hu=>⟨?_,fun h=>?_⟩⟩
     ·rw [yw] at hu;have hj:off + j<r.length:=by
       grind
      rw [List.getElem?_take_of_lt hj] at hu;simp only [World.cell?,na];simp_all
     ·obtain ⟨t',n',H,ho,hH⟩:=jf _ _ h;obtain ⟨e1,e2⟩:=((R.obs _ _ _ ho).1 _ hH).2.2.1 _ _ hb;simp_all
    ·cases h
   ·cases h
  ·cases h
 ·cases h;obtain ⟨b,off,hv,hc⟩:=hY;exact ⟨b,off,hv,OB.held (TA.refl _ _) (TA.less hB) _ _ _ hc⟩
 ·cases h;exact hY
 ·cases h
end
theorem wP (R:fB P O nt B F0 aa w0 D s a w ι Θ) {avl:Av} (jf:∀ b o,avl b o->∃ t n H,ι.ob t n=some H/\H b) {cl:Cl} {ι':Ix}:∀ {ys xs:List AV} {us:List Value},SE ι (QB aa ι Θ) (EB ι Θ) w ys us->UC s cl ys=some xs->SE ι' (QB aa ι Θ) avl w xs us
 | [],xs,us,hY,h=>by
  injection h with h;subst h;exact hY
 | y :: r,xs,us,hY,h=>by
  obtain ⟨u,wa,rfl,h0,hY⟩:=hY;unfold UC at h;split at h
  ·rename_i v vs hv hr;injection h with h;subst h;exact ⟨u,wa,rfl,n7 R jf h0 hv,wP R jf hY hr⟩
  ·cases h
theorem b7 (R:fB P O nt B F0 aa w0 D s a w ι Θ) {avl:Av} (jf:∀ b o,avl b o->∃ t n H,ι.ob t n=some H/\H b) {cl:Cl} {y x:AV} {v:Value} {ι':Ix} (hY:UA ι (QB aa ι Θ) (EB ι Θ) w y v) (h:SD s cl y=some x) (kb:∀ t n,y=.ptr t n 0->ι' 0 0=ι t n):UA ι' (QB aa ι Θ) avl w x v:=by
 unfold SD at h;split at h
 ·rename_i f cs;obtain ⟨ws,hw,h⟩:=yf.1 h;subst h;obtain ⟨us,hv,hc⟩:=hY;exact ⟨us,hv,wP R jf hc hw⟩
 ·exact lend_rep R jf hY h kb
theorem FW {ι':Ix} {av avl:Av}:∀ {xs:List AV} {us:List Value},(∀ x∈xs,x.capOk=true)->SE ι' av avl w xs us->AE ι' av avl w xs us
 | [],_,_,h=>h
 | x :: r,_,hc,h=>by
  obtain ⟨u,wa,rfl,h0,h⟩:=h;refine ⟨u,wa,rfl,?_,FW (fun y hy=>hc y (yE _ hy)) h⟩;have:=hc x (yv);cases x <;> first | (simp [AV.capOk] at this; done) | exact h0
theorem mS {ι':Ix} {av avl:Av}:∀ {xs ys:List AV} {us vs:List Value},AE ι' av avl w xs us->AE ι' av avl w ys vs->AE ι' av avl w (xs++ys) (us++vs)
 | [],_,_,_,h,h'=>by cases h; exact h'
 | x :: r,_,_,_,h,h'=>by
  obtain ⟨u,wa,rfl,h0,h⟩:=h;exact ⟨u,wa++_,rfl,h0,mS h h'⟩
theorem mR {cl:Cl}:∀ {ys xs:List AV},UC s cl ys=some xs->∀ x∈xs,x.capOk=true
 | [],xs,h=>by injection h with h; subst h; intro x hx; cases hx
 | y :: r,xs,h=>by
  unfold UC at h;split at h
  ·rename_i v vs hv hr;injection h with h;subst h;intro x hx;rcases yA.1 hx with rfl | hx
   ·unfold pN at hv;split at hv
    ·split at hv
     ·split at hv
      ·split at hv
       ·injection hv with hv; subst hv; rfl
       ·cases hv
      ·cases hv
     ·cases hv
    ·injection hv with hv; subst hv; rfl
    ·injection hv with hv; subst hv; rfl
    ·cases hv
   ·exact mR hr x hx
  ·cases h
theorem NE (R:fB P O nt B F0 aa w0 D s a w ι Θ) {avl:Av} (jf:∀ b o,avl b o->∃ t n H,ι.ob t n=some H/\H b) {cl:Cl} {ι':Ix}:∀ {Xs:List Operand} {xs:List iB} {vs:List AV},MD Xs=some xs->BC s cl xs=some vs->(∀ x∈xs,∀ t n,x.get s=.ptr t n 0->ι' 0 0=ι t n)->AE ι' (QB aa ι Θ) avl w vs (Xs.map a.eval)
 | [],xs,vs,h,hl,_=>by
  injection h with h;subst h;injection hl with hl;subst hl;rfl
 | X :: Xs,xs,vs,h,hl,kb=>by
  unfold MD at h;split at h
  ·rename_i x l hx hr;injection h with h;subst h;unfold BC at hl;split at hl
   ·rename_i v dq hv tt;injection hl with hl;subst hl;exact ⟨_,_,rfl,b7 R jf (R.opd hx).1 hv (kb x (yv)),NE R jf hr tt fun y hy=>kb y (yE _ hy)⟩
   ·cases hl
  ·cases h
theorem T7 {p d n:Nat} {ι':Ix} {av avb:Av} {x:AV} {v:Value} (h:j0 p av w x v) (hp:ι' d n=some p) (hx:x.backN=true):UA ι' av avb w (x.named d n) v:=by
 have one:∀ {x:AV} {u:Value},NQ p av w x u->IA ι' av w (if x.isObj then .ptr d n 0 else x) u:=fun {x u} h=>by
  unfold NQ at h;split at h
  ·rename_i ho; rw [if_pos ho]; exact ⟨p,hp,h⟩
  ·rename_i ho; rw [if_neg ho]; exact RH h
 have oneU:∀ {x:AV} {u:Value},NQ p av w x u->PM ι' av w (if x.isObj then .ptr d n 0 else x) u:=fun {x u} h=>by
  unfold NQ at h;split at h
  ·rename_i ho; rw [if_pos ho]; exact ⟨p,hp,h⟩
  ·rename_i ho; rw [if_neg ho]; exact DE h
 have all:∀ {xs:List AV} {us:List Value},EI p av w xs us->RE ι' av w (xs.map fun v=>if v.isObj then .ptr d n 0 else v) us:=by
  intro xs
  induction xs with
  | nil=>intro us h; simpa [EI,RE] using h
  | cons x r ih =>
   intro us h;simp only [EI] at h;obtain ⟨u,wa,rfl,h0,h⟩:=h;exact ⟨u,wa,rfl,oneU h0,ih h⟩
 cases x with
 | tup vs =>
  obtain ⟨us,hv,hc⟩:=h;exact ⟨us,hv,all hc⟩
 | ptr t' n' off =>
  have h1:=one (x:=.ptr t' n' off) h;have h2:(AV.ptr t' n' off).isObj=true:=hx;simp only [h2,if_true] at h1;show UA ι' av avb w (if (AV.ptr t' n' off).isObj then .ptr d n 0 else .ptr t' n' off) v;rw [if_pos h2];exact h1
 | _=>simp [AV.backN,AV.isObj] at hx
theorem NQ.held {p:Nat} {av ab:Av} {w w':World} (h:TA av ab w w') {x:AV} {v:Value} (hr:NQ p av w x v):NQ p ab w' x v:=by
 unfold NQ at hr ⊢;split at hr
 ·rename_i ho; rw [if_pos ho]; exact hr
 ·rename_i ho; rw [if_neg ho]; exact JC.held h _ _ hr
theorem j0.held {p:Nat} {av ab:Av} {w w':World} (h:TA av ab w w') {x:AV} {v:Value} (hr:j0 p av w x v):j0 p ab w' x v:=by
 have all:∀ {xs:List AV} {us:List Value},EI p av w xs us->EI p ab w' xs us:=by
  intro xs
  induction xs with
  | nil=>intro us h; exact h
  | cons x r ih =>
   intro us h';simp only [EI] at h' ⊢;obtain ⟨u,wa,rfl,h0,h'⟩:=h';exact ⟨u,wa,rfl,NQ.held h h0,ih h'⟩
 cases x <;> first | exact NQ.held h hr | (obtain ⟨us,hv,hc⟩:=hr; exact ⟨us,hv,all hc⟩)
theorem fB.turnObj (R:fB P O nt B F0 aa w0 D s a w ι Θ) {t n p:Nat} {H H':Nat->Prop} {S':AV} (hp:ι t n=some p) (kb:ι.ob t n=some H) (kc:O.at_ S' H' p w') (si:EY ι S' p w') (hH:∀ b,H' b->H b\/w.heap.size<=b) (hk:SA H w w') :
  ∃ ι':Ix,fB P O nt B F0 aa w0 D (s.setObj t n S') a w' ι' Θ/\TA (fun b o=>QB aa ι Θ b o\/H' b) (QB aa ι' Θ) w' w':=by
 obtain ⟨uk,oo⟩:=R.obs t n H kb;have ch:∀ t' n' H1,(if t'=t/\n'=n then some H' else ι.ob t' n')=some H1->(t'=t/\n'=n/\H1=H')\/(¬ (t'=t/\n'=n)/\ι.ob t' n'=some H1):=fun t' n' H1 h=>by
  grind
 have zg:∀ b o,b<w.heap.size->EB ⟨ι.f,fun t' n'=>if t'=t/\n'=n then some H' else ι.ob t' n',ι.z⟩ Θ b o->EB ι Θ b o:=fun b o hb h=>h.imp (fun h=>h.imp id fun ⟨t',n',H1,h1,h2⟩=>by
  rcases ch _ _ _ h1 with ⟨e1,e2,e3⟩ | ⟨_,h1⟩
  ·subst e3;rcases hH b h2 with h3 | h3
   ·exact ⟨t,n,H,kb,h3⟩
   ·omega
  ·exact ⟨t',n',H1,h1,h2⟩) id
 have og:∀ t1 n1 b1 H1,ι t1 n1=some b1->ι.ob t1 n1=some H1->(⟨ι.f,fun t' n'=>if t'=t/\n'=n then some H' else ι.ob t' n',ι.z⟩:Ix) t1 n1=some b1/\∃ H2,(⟨ι.f,fun t' n'=>if t'=t/\n'=n then some H' else ι.ob t' n',ι.z⟩:Ix).ob t1 n1=some H2:=fun t1 n1 b1 H1 g1 g2=>⟨g1,by
  by_cases e:t1=t/\n1=n
  ·exact ⟨H',by simp only [if_pos e]⟩
  ·exact ⟨H1,by simp only [if_neg e]; exact g2⟩⟩
 have rb:∀ b o u,w.cell? ⟨b,o,none⟩=some u->¬ H b->w'.cell? ⟨b,o,none⟩=some u:=fun b o u hc hn=>(World.cell?_of_block (w:=w) (a:=⟨b,o,none⟩) (hk.block b (ED hc) hn)).trans hc
 have hB:TA (EB ι Θ) (EB ⟨ι.f,fun t' n'=>if t'=t/\n'=n then some H' else ι.ob t' n',ι.z⟩ Θ) w w':=⟨fun b o u hc hn=>⟨rb b o u hc fun h=>hn (.inl (.inr ⟨t,n,H,kb,h⟩)),fun h=>hn (zg b o (ED hc) h)⟩⟩;have hA:TA (QB aa ι Θ) (QB aa ⟨ι.f,fun t' n'=>if t'=t/\n'=n then some H' else ι.ob t' n',ι.z⟩ Θ) w w':=⟨fun b o u hc hn=>⟨rb b o u hc fun h=>hn (.inr (.inl (.inr ⟨t,n,H,kb,h⟩))),fun h=>hn (h.imp id (zg b o (ED hc)))⟩⟩;have rl:=R.lowB;have ac:=hk.size;have pq:∀ t1,UA ⟨ι.f,fun t' n'=>if t'=t/\n'=n then some H' else ι.ob t' n',ι.z⟩ (QB aa ⟨ι.f,fun t' n'=>if t'=t/\n'=n then some H' else ι.ob t' n',ι.z⟩ Θ) (EB ⟨ι.f,fun t' n'=>if t'=t/\n'=n then some H' else ι.ob t' n',ι.z⟩ Θ) w' (s.env t1).v (a.tmps.getD t1 undef):=fun t1=>UA.held (ι:=ι) (ι':=⟨ι.f,fun t' n'=>if t'=t/\n'=n then some H' else ι.ob t' n',ι.z⟩) ⟨fun _ _ _ h=>h,fun _ _ _ _=>rfl⟩ hA hB _ _ (R.env t1)
 have hgen:∀ t1,UA ⟨ι.f,fun t' n'=>if t'=t/\n'=n then some H' else ι.ob t' n',ι.z⟩ (QB aa ⟨ι.f,fun t' n'=>if t'=t/\n'=n then some H' else ι.ob t' n',ι.z⟩ Θ) (EB ⟨ι.f,fun t' n'=>if t'=t/\n'=n then some H' else ι.ob t' n',ι.z⟩ Θ) w' (s.gh t1).v (F0.g t1):=fun t1=>UA.held (ι:=ι) (ι':=⟨ι.f,fun t' n'=>if t'=t/\n'=n then some H' else ι.ob t' n',ι.z⟩) ⟨fun _ _ _ h=>h,fun _ _ _ _=>rfl⟩ hA hB _ _ (R.gen t1)
 refine ⟨⟨ι.f,fun t' n'=>if t'=t/\n'=n then some H' else ι.ob t' n',ι.z⟩,⟨R.defers,R.size,pq,R.ann,fun t' n' r hr=>?_,fun t' n' b h=>?_,R.inj,fun k o h=>?_,R.tinj,R.apart,R.out,(fun p' h=>⟨(R.pin p' h).1,by
  rcases (R.pin p' h).2 with ut | ⟨H1,h1⟩
  ·exact .inl ut
  refine .inr ?_;show ∃ H2,(if 0=t/\0=n then some H' else ι.ob 0 0)=some H2;split
  ·exact ⟨_,rfl⟩
  ·exact ⟨H1,h1⟩⟩),?_,R.base,fun t' n' S1 h=>?_,fun t' n' H1 h=>?_,hgen,R.gann⟩,?_⟩
 ·obtain ⟨h0,b,cur,ty,h1,h2,h3,h8⟩:=R.rows t' n' r hr;have jb:¬ (t'=t/\n'=n):=fun e=>by rw [e.1,e.2,kb] at h0; cases h0
  have hbn:¬ H b:=fun hb=>jb ((uk b hb).2.2.1 t' n' h1)
  exact ⟨by simp only [if_neg jb]; exact h0,b,cur,ty,h1,(hk.block b (dA h2) hbn).trans h2,h3.held ⟨fun _ _ _ h=>h,fun _ _ _ _=>rfl⟩ hA (fun _ _ h=>h),h8⟩
 ·obtain ⟨h1,h2,h3⟩:=R.mine t' n' b h;exact ⟨h1,by omega,h3⟩
 ·obtain ⟨h1,h2,h3,h4,ra,h5,h6⟩:=R.tok k o h;exact ⟨h1,h2,h3,h4,ra,(hk.block _ (dA h5) (R.apob h kb)).trans h5,h6⟩
 ·refine R.kept.trans hk fun i hi h=>?_
  have:=R.base
  grind
 ·simp only [uA.setObj] at h;split at h
  ·rename_i e;injection h with h;subst h;exact ⟨p,H',by rw [e.1,e.2]; exact hp,by simp only [if_pos e],kc,si.keep og fun x hx=>hx⟩
  ·rename_i e;obtain ⟨p1,H1,h1,h2,h3,h4⟩:=R.objs t' n' S1 h;have xj:∀ b,H1 b->¬ H b:=fun b hb gb=>e ((uk b gb).2.2.2.2 t' n' H1 h2 hb)
   exact ⟨p1,H1,h1,by simp only [if_neg e]; exact h2,O.keep h3 (fun b hb=>hk.block b (O.lt h3 hb) (xj b hb)) ac,h4.keep og fun x hx=>(hk.block _ (dA hx) (xj _ (O.main h3))).trans hx⟩
 ·rcases ch _ _ _ h with ⟨e1,e2,e3⟩ | ⟨e,h⟩
  ·subst e1; subst e2; subst e3;refine ⟨fun b hb=>?_,oo⟩;rcases hH b hb with h1 | h1
   ·grind
   ·refine ⟨.inl (by omega),O.lt kc hb,fun t1 n1 h2=>?_,fun k o h2 e=>?_,fun t1 n1 H2 h2 h3=>?_⟩
    ·have:=(R.mine _ _ _ h2).2.1; omega
    ·obtain ⟨_,_,_,_,ra,h5,_⟩:=R.tok k o h2; have:=dA h5; omega
    ·rcases ch _ _ _ h2 with ⟨e1,e2,_⟩ | ⟨_,h2⟩
     ·omega
     ·have:=((R.obs _ _ _ h2).1 b h3).2.1; omega
  ·obtain ⟨h1,h2⟩:=R.obs t' n' H1 h;refine ⟨fun b hb=>?_,h2⟩;obtain ⟨g1,g2,g3,g4,g5⟩:=h1 b hb;refine ⟨g1,by omega,g3,g4,fun t1 n1 H2 h2 h3=>?_⟩;rcases ch _ _ _ h2 with ⟨e1,e2,e3⟩ | ⟨_,h2⟩
   ·subst e3;rcases hH b h3 with h4 | h4
    ·have:=g5 t n H kb h4;omega
    ·omega
   ·exact g5 t1 n1 H2 h2 h3
 ·refine TA.less fun b o h=>?_
  rcases h with h | h | h
  ·exact .inl (.inl h)
  ·rcases h with h | ⟨t1,n1,H2,h2,h3⟩
   ·exact .inl (.inr (.inl (.inl h)))
   ·rcases ch _ _ _ h2 with ⟨_,_,e3⟩ | ⟨_,h2⟩
    ·grind
    ·exact .inl (.inr (.inl (.inr ⟨t1,n1,H2,h2,h3⟩)))
  ·exact .inl (.inr (.inr h))
theorem fB.newObj (R:fB P O nt B F0 aa w0 D s a w ι Θ) {d p:Nat} {H:Nat->Prop} {S:AV} (hb:Below w.heap.size w w') (hD:¬ D d) (kc:O.at_ S H p w') (si:EY ι S p w') (hH:∀ b,H b->w.heap.size<=b) :
  ∃ ι':Ix,fB P O nt B F0 aa w0 (fun t=>D t\/t=d) (s.setObj d s.next S) a w' ι' Θ/\ι' d s.next=some p/\TA (fun b o=>QB aa ι Θ b o\/H b) (QB aa ι' Θ) w' w':=by
 have rl:=R.lowB;have ac:=hb.size;have iz:=hH p (O.main kc);have dd:ι d s.next=none:=by
  cases h:ι d s.next with
  | none=>rfl
  | some b =>
   rcases (R.mine _ _ _ h).2.2 with h1 | h1
   ·omega
   ·simp_all
 have ed:ι.ob d s.next=none:=by
  cases h:ι.ob d s.next with
  | none=>rfl
  | some b =>
   rcases (R.obs _ _ _ h).2 with h1 | h1
   ·omega
   ·simp_all
 have hmemn:s.mem d s.next=none:=by
  cases h:s.mem d s.next with
  | none=>rfl
  | some r=>obtain ⟨_,b,cur,ty,h1,_⟩:=R.rows _ _ _ h; rw [dd] at h1; cases h1
 obtain ⟨ι',hι'⟩:∃ ι':Ix,ι'=⟨fun t' n'=>if t'=d/\n'=s.next then some p else ι t' n',fun t' n'=>if t'=d/\n'=s.next then some H else ι.ob t' n',ι.z⟩:=⟨_,rfl⟩;have hf:∀ t' n' b,ι' t' n'=some b->(t'=d/\n'=s.next/\b=p)\/(¬ (t'=d/\n'=s.next)/\ι t' n'=some b):=fun t' n' b h=>by
  subst hι'
  grind
 have ho:∀ t' n' H1,ι'.ob t' n'=some H1->(t'=d/\n'=s.next/\H1=H)\/(¬ (t'=d/\n'=s.next)/\ι.ob t' n'=some H1):=fun t' n' H1 h=>by
  subst hι'
  grind
 have wc:∀ t n b,ι t n=some b->ι' t n=some b:=fun t n b h=>by
  subst hι'
  grind
 have il:∀ t n H1,¬ (t=d/\n=s.next)->ι.ob t n=H1->ι'.ob t n=H1:=fun t n H1 e h=>by
  simp_all
 have fc:ι' d s.next=some p:=by
  simp_all
 have ko:ι'.ob d s.next=some H:=by subst hι'; simp
 have og:∀ t1 n1 b1 H1,ι t1 n1=some b1->ι.ob t1 n1=some H1->ι' t1 n1=some b1/\∃ H2,ι'.ob t1 n1=some H2:=fun t1 n1 b1 H1 g1 g2=>⟨wc _ _ _ g1,H1,il _ _ _ (fun e=>by rw [e.1,e.2,ed] at g2; cases g2) g2⟩
 have ui:∀ b,ι'.z b=ι.z b:=fun b=>by subst hι'; rfl
 have tb:Ix.Le ι ι':=⟨wc,fun _ _ _ _=>ui _⟩;clear hι';have zg:∀ b o,b<w.heap.size->EB ι' Θ b o->EB ι Θ b o:=fun b o wi h=>h.imp (fun h=>by
  rcases h with ⟨t',n',h⟩ | ⟨t',n',H1,h,h2⟩
  ·rcases hf _ _ _ h with ⟨_,_,e⟩ | ⟨_,h⟩
   ·omega
   ·exact .inl ⟨t',n',h⟩
  ·rcases ho _ _ _ h with ⟨_,_,e⟩ | ⟨_,h⟩
   ·subst e; have:=hH b h2; omega
   ·exact .inr ⟨t',n',H1,h,h2⟩) id
 have hB:TA (EB ι Θ) (EB ι' Θ) w w':=TA.grown (fun b gb=>hb.block b gb) zg;have hA:TA (QB aa ι Θ) (QB aa ι' Θ) w w':=TA.grown (fun b gb=>hb.block b gb) fun b o wi h=>h.imp id (zg b o wi)
 refine ⟨ι',⟨R.defers,R.size,fun t=>UA.held tb hA hB _ _ (R.env t),R.ann,fun t' n' r hr=>?_,fun t' n' b h=>?_,fun t n t' n' b h h'=>?_,fun k o h=>?_,R.tinj,fun k o t n h h'=>?_,R.out,fun p h=>⟨wc _ _ _ (R.pin p h).1,by
  rcases (R.pin p h).2 with ut | ⟨H1,h1⟩
  ·exact .inl ⟨ut.1,(tb.z _ _ _ (R.pin p h).1).trans ut.2⟩
  refine .inr ?_;by_cases e:0=d/\0=s.next
  ·exact ⟨H,by rw [<- e.1,<- e.2] at ko; exact ko⟩
  ·exact ⟨H1,il _ _ _ e h1⟩⟩,R.kept.trans_below hb,R.base,fun t' n' S1 h=>?_,fun t' n' H1 h=>?_,fun t=>UA.held tb hA hB _ _ (R.gen t),R.gann⟩,fc,?_⟩
 ·obtain ⟨h0,b,cur,ty,h1,h2,h3,h8,h9⟩:=R.rows t' n' r hr;have jb:¬ (t'=d/\n'=s.next):=fun e=>by
   simp_all
  exact ⟨il _ _ _ jb h0,b,cur,ty,wc _ _ _ h1,(hb.block b (dA h2)).trans h2,h3.held tb hA (fun _ _ h=>h),h8,h9.trans (ui _).symm⟩
 ·rcases hf _ _ _ h with ⟨e1,e2,e⟩ | ⟨_,h⟩
  ·subst e;exact ⟨.inl (by omega),O.lt kc (O.main kc),.inr ⟨e2,.inr e1⟩⟩
  ·obtain ⟨h1,h2,h3⟩:=R.mine t' n' b h;exact ⟨h1,by omega,h3.imp id fun ⟨e,d⟩=>⟨e,.inl d⟩⟩
 ·rcases hf _ _ _ h with ⟨e1,e2,e⟩ | ⟨_,h⟩ <;> rcases hf _ _ _ h' with ⟨g1,g2,g⟩ | ⟨_,h'⟩
  ·omega
  ·have:=(R.mine _ _ _ h').2.1; omega
  ·have:=(R.mine _ _ _ h).2.1; omega
  ·exact R.inj t n t' n' b h h'
 ·obtain ⟨h1,h2,h3,h4,ra,h5,h6⟩:=R.tok k o h;exact ⟨h1,h2,h3,h4,ra,(hb.block _ (dA h5)).trans h5,h6⟩
 ·obtain ⟨_,_,_,_,ra,h5,_⟩:=R.tok k o h;have ia:=dA h5;rcases hf _ _ _ h' with ⟨_,_,e⟩ | ⟨_,h'⟩
  ·omega
  ·exact R.apart k o t n h h'
 ·simp only [uA.setObj] at h;split at h
  ·rename_i e;injection h with h;subst h;exact ⟨p,H,by rw [e.1,e.2]; exact fc,by rw [e.1,e.2]; exact ko,kc,si.keep og fun x hx=>hx⟩
  ·rename_i e;obtain ⟨p1,H1,h1,h2,h3,h4⟩:=R.objs t' n' S1 h;exact ⟨p1,H1,wc _ _ _ h1,il _ _ _ e h2,O.keep h3 (fun b gb=>hb.block b (O.lt h3 gb)) ac,h4.keep og fun x hx=>(hb.block _ (dA hx)).trans hx⟩
 ·rcases ho _ _ _ h with ⟨e1,e2,e⟩ | ⟨_,h⟩
  ·subst e;refine ⟨fun b gb=>⟨.inl (by have:=hH b gb; omega),O.lt kc gb,fun t1 n1 h2=>?_,fun k o h2 e=>?_,fun t1 n1 H2 h2 h3=>?_⟩,.inr ⟨e2,.inr e1⟩⟩
   ·have:=hH b gb;rcases hf _ _ _ h2 with ⟨g1,g2,_⟩ | ⟨_,h2⟩
    ·omega
    ·have:=(R.mine _ _ _ h2).2.1; omega
   ·have:=hH b gb;obtain ⟨_,_,_,_,ra,h5,_⟩:=R.tok k o h2; have:=dA h5; omega
   ·have:=hH b gb;rcases ho _ _ _ h2 with ⟨g1,g2,_⟩ | ⟨_,h2⟩
    ·omega
    ·have:=((R.obs _ _ _ h2).1 b h3).2.1; omega
  ·obtain ⟨h1,h2⟩:=R.obs t' n' H1 h;refine ⟨fun b gb=>?_,h2.imp id fun ⟨e,d⟩=>⟨e,.inl d⟩⟩;obtain ⟨g1,g2,g3,g4,g5⟩:=h1 b gb;refine ⟨g1,by omega,fun t1 n1 h2=>?_,g4,fun t1 n1 H2 h2 h3=>?_⟩
   ·grind
   ·grind
 ·refine TA.less fun b o h=>?_
  rcases h with h | h | h
  ·exact .inl (.inl h)
  ·rcases h with ⟨t',n',h⟩ | ⟨t',n',H1,h,h2⟩
   ·rcases hf _ _ _ h with ⟨_,_,e⟩ | ⟨_,h⟩
    ·subst e; exact .inr (O.main kc)
    ·exact .inl (.inr (.inl (.inl ⟨t',n',h⟩)))
   ·rcases ho _ _ _ h with ⟨_,_,e⟩ | ⟨_,h⟩
    ·simp_all
    ·exact .inl (.inr (.inl (.inr ⟨t',n',H1,h,h2⟩)))
  ·exact .inl (.inr (.inr h))
theorem AK {s:uA} {cl:Cl}:∀ {xs:List iB} {vs:List AV},BC s cl xs=some vs->sE vs=false
 | [],vs,h=>by injection h with h; subst h; rfl
 | x :: r,vs,h=>by
  unfold BC at h;split at h
  ·rename_i v us hv hr;injection h with h;subst h;cases v with
   | undef =>
    exfalso;unfold SD at hv;split at hv
    ·obtain ⟨_,_,hv⟩:=yf.1 hv; cases hv
    unfold dQ at hv;split at hv
    ·split at hv
     ·obtain ⟨_,_,hv⟩:=yf.1 hv; cases hv
     ·cases hv
    ·injection hv with hv; cases hv
    ·injection hv with hv; cases hv
    ·split at hv
     ·injection hv with hv; cases hv
     ·cases hv
    ·split at hv
     ·rename_i hf; injection hv with hv; rw [hv] at hf; cases hf
     ·cases hv
   | _=>rfl
  ·cases h
section
variable (R:fB P O nt B F0 aa w0 D s a w ι Θ) {call:LA} (za:∀ f args S r,call f args S=some r->DA P O f args S r)
include R call za
theorem op_call {f:FuncId} {Xs:Array Operand} {ts:Array TypeId} {xs:List iB} (hx:MD Xs.toList=some xs) (ho:o.op=.call { callee:=.value (.func f),args:=Xs,argTypes:=ts }) (hd:∀ d,o.dst=some d->d<nt) (hD:∀ d,o.dst=some d->¬ D d) {cl:Cl} {xe:wA × tC} (hr:(K.call cl f xs).run call s=some xe) {g} {s':uA} (he:kA.eff ⟨o.dst,.call cl f xs,g⟩ s xe=some s')
  {Kn:Act->World->Prop} {Q:Exit->Act->World->Prop} (hK:∀ a' w',SC P O nt B F0 aa w0 (fun t=>D t\/o.dst=some t) s' a' w'->Kn a' w'):o.wp P a w Kn Q:=by
 simp only [K.run] at hr;obtain ⟨vs,hl,hr⟩:=y7.1 hr;have wj:(Xs.toList.map a.eval).toArray=Xs.map a.eval:=by rw [<- Array.toList_map,yM]
 have run:∀ {S0:Option AV} {r:RV},xX P O f vs S0 r->(execOp a.eval o).run P w=.ok (.enter f (Xs.map a.eval)) w:=fun h=>by
  simp only [execOp,ho,resolve,Act.eval,Deferred.ofValue,Sem.run_bind,Sem.run_pure,Result.andThen_ok,invoke];have:=h.1 (#[]++Xs.map a.eval++#[]) w;simp_all
 have bh:∀ b o,QB aa ι Θ b o->b<w.heap.size:=fun b o h=>R.low h
 split at hr
 ·rename_i pf;have nob:∀ x∈xs,∀ t n,x.get s=.ptr t n 0->False:=fun x hx t n h=>by
   have:(t,n)∈WE s xs:=List.mem_filterMap.2 ⟨x,hx,by rw [h]⟩;simp_all
  have ua:=NE (ι':=Ix.none) (avl:=fun _ _=>False) R (fun _ _ h=>h.elim) hx hl fun x hx t n h=>(nob x hx t n h).elim
  obtain ⟨r,hc,hr⟩:=y7.1 hr;have sa:=(DA.of (AK hl)).1 (za f vs none r hc);obtain ⟨r1,r2⟩:=r;unfold Oper.wp;rw [run sa,Oper.upon_enter];cases r2 with
  | none =>
   simp only at hr;split at hr
   ·cases hr;simp only [kA.eff] at he;cases he;have hC:=sa.2 (QB aa ι Θ) w _ bh ua;rw [wj] at hC;refine hC.mono ?_;rintro e w' ⟨v,rfl,hv,hb⟩;have R':fB P O nt B F0 aa w0 D s a w' ι Θ:=R.grow (fun b gb=>hb.block b gb) hb.size (R.kept.trans_below hb);exact hK _ _ ⟨ι,Θ,(R'.putN (x:=⟨_,.no⟩) hd (TH hv) trivial).more fun _ h=>.inl h⟩
   ·cases hr
  | some S' =>
   simp only at hr;split at hr
   ·rename_i fl;cases hr;simp only [kA.eff] at he;split at he
    ·cases he
    ·rename_i d ja;cases he;have hC:=sa.2 (QB aa ι Θ) w _ bh ua;rw [wj] at hC;refine hC.mono ?_;rintro e w' ⟨v,p,H',rfl,hv,kc,hH,hb⟩;obtain ⟨ι',R2,hι,tc⟩:=R.newObj (d:=d) hb (hD d ja) kc (EY.no fl.2.2) hH;rw [ja];refine hK _ _ ⟨ι',Θ,(R2.put (x:=⟨_,.no⟩) (hd d ja) (T7 (j0.held tc hv) hι fl.1) trivial).more fun t h=>h.imp id fun e=>by rw [ja,e]⟩
   ·cases hr
 ·rename_i t n dg;obtain ⟨r,hc,hr⟩:=y7.1 hr;obtain ⟨r1,r2⟩:=r;cases r2 with
  | none=>cases hr
  | some S' =>
   simp only at hr;split at hr
   ·rename_i ba;cases hr;simp only [kA.eff] at he;cases he;obtain ⟨S,hS⟩:=Option.isSome_iff_exists.1 ba.2.1;rw [hS] at hc;have sa:=(DA.of (AK hl)).1 (za f vs (some S) _ hc);obtain ⟨p,H,hp,kb,kc,_⟩:=R.objs t n S hS;have ua:=NE (ι':=Ix.one p) (avl:=fun b _=>H b) R (fun b _ h=>⟨t,n,H,kb,h⟩) hx hl fun x hx t' n' h=>by
     have:(t',n')∈WE s xs:=List.mem_filterMap.2 ⟨x,hx,by rw [h]⟩;rw [dg] at this;have:=List.mem_singleton.1 this;injection this with e1 e2;rw [e1,e2,hp];rfl
    unfold Oper.wp;rw [run sa,Oper.upon_enter];have hC:=sa.2 (QB aa ι Θ) w _ p H bh (fun b o h=>.inr (.inl (.inr ⟨t,n,H,kb,h⟩))) kc ua;rw [wj] at hC;refine hC.mono ?_;rintro e w' ⟨v,H',rfl,hv,ph,hH,hk⟩;obtain ⟨ι',R',tc⟩:=R.turnObj hp kb ph (EY.no ba.2.2) hH hk;refine hK _ _ ⟨ι',Θ,(R'.putN (x:=⟨_,.no⟩) hd (TH (JC.held tc _ _ hv)) trivial).more fun _ h=>.inl h⟩
   ·cases hr
 ·cases hr
theorem op_callv {tf:Nat} {Xs:Array Operand} {ts:Array TypeId} {xs:List iB} (hx:MD Xs.toList=some xs) (ho:o.op=.call { callee:=.value (.tmp tf),args:=Xs,argTypes:=ts }) (hd:∀ d,o.dst=some d->d<nt) {cl:Cl} {xe:wA × tC} (hr:(K.callv cl (.t tf) xs).run call s=some xe) {g} {s':uA} (he:kA.eff ⟨o.dst,.callv cl (.t tf) xs,g⟩ s xe=some s')
  {Kn:Act->World->Prop} {Q:Exit->Act->World->Prop} (hK:∀ a' w',SC P O nt B F0 aa w0 (fun t=>D t\/o.dst=some t) s' a' w'->Kn a' w'):o.wp P a w Kn Q:=by
 simp only [K.run,iB.get] at hr;have hF:=R.env tf;split at hr
 ·rename_i f cs ij;rw [ij] at hF;obtain ⟨us,gd,wh⟩:=hF;split at hr
  ·rename_i vs ws hl hw pf;have bh:∀ b o,QB aa ι Θ b o->b<w.heap.size:=fun b o h=>R.low h
   have nob:∀ x∈xs,∀ t n,x.get s=.ptr t n 0->False:=fun x hx t n h=>by
    have:(t,n)∈WE s xs:=List.mem_filterMap.2 ⟨x,hx,by rw [h]⟩;simp_all
   have ua:=NE (ι':=Ix.none) (avl:=fun _ _=>False) R (fun _ _ h=>h.elim) hx hl fun x hx t n h=>(nob x hx t n h).elim
   have ov:=FW (mR hw) (wP (ι':=Ix.none) (avl:=fun _ _=>False) R (fun _ _ h=>h.elim) wh hw);have zb:=mS ua ov;obtain ⟨r,hc,hr⟩:=y7.1 hr;have hm:sE (vs++ws)=false:=by
    cases vs with
    | cons v r=>have:=AK hl; cases v <;> first | rfl | exact this
    | nil =>
     cases ws with
     | nil=>rfl
     | cons v r =>
      have:=mR hw v (yv);cases v <;> first | rfl | (simp [AV.capOk] at this; done)
   have sa:=(DA.of hm).1 (za f (vs++ws) none r hc);obtain ⟨r1,r2⟩:=r;cases r2 with
   | some S'=>cases hr
   | none =>
    simp only at hr;split at hr
    ·cases hr;simp only [kA.eff] at he;cases he;have wj:(Xs.toList.map a.eval++us.toList).toArray=Xs.map a.eval++us:=by
      simp_all
     have run:(execOp a.eval o).run P w=.ok (.enter f (Xs.map a.eval++us)) w:=by
      have uv:a.eval (.tmp tf)=.func (.func f) #[] us:=gd;simp only [execOp,ho,resolve,uv,Deferred.ofValue,Sem.run_bind,Sem.run_pure,Result.andThen_ok,invoke];have:=sa.1 (#[]++Xs.map a.eval++us) w;simp_all
     unfold Oper.wp;rw [run,Oper.upon_enter];have hC:=sa.2 (QB aa ι Θ) w _ bh zb;rw [wj] at hC;refine hC.mono ?_;rintro e w' ⟨v,rfl,hv,hb⟩;have R':fB P O nt B F0 aa w0 D s a w' ι Θ:=R.grow (fun b gb=>hb.block b gb) hb.size (R.kept.trans_below hb);exact hK _ _ ⟨ι,Θ,(R'.putN (x:=⟨_,.no⟩) hd (TH hv) trivial).more fun _ h=>.inl h⟩
    ·cases hr
  ·cases hr
 ·cases hr
end
theorem val_rstr (R:fB P O nt B F0 aa w0 D s a w ι Θ) {t t':TypeId} {k:IntKind} (ht:P.underlying t=some (.int k)) (ru:P.underlying t'=some .string) {X:Operand} {x:iB} (hx:opd X=some x) (ho:o.op=.convert t t' X)
  {call} {y:wA} {e:tC} (hr:(K.rstr x).run call s=some (y,e)):e=.none/\nP P aa a w ι Θ o y:=by
 have hX:=(R.opd hx).1;simp only [K.run] at hr;split at hr
 ·rename_i k' n hy;injection hr with hr; injection hr with h1 h2; subst h1; subst h2;rw [hy,PA] at hX;exact ⟨rfl,.string (Utf8.encode n),by simp [execOp,ho,convert,run_underlying ht,run_underlying ru,hX,Conv.intToString],by rw [cE],trivial⟩
 ·cases hr
theorem WP {av:Av}:∀ {m:List (List AV)} {bs:List UInt8} {us:List Value},bytesOf m=some bs->KA av w m.flatten us->∃ ns:List Int,us=ns.map (Value.int .u8)/\bs=ns.map (fun n=>UInt8.ofNat n.toNat)/\∀ c∈m,c.length=1
 | [],bs,us,hb,h=>by
  injection hb with hb;subst hb;cases h;exact ⟨[],rfl,rfl,by simp⟩
 | c :: r,bs,us,hb,h=>by
  unfold bytesOf at hb;split at hb
  ·rename_i n l hr;injection hb with hb;subst hb;simp only [yy,List.cons_append,List.nil_append,KA] at h;obtain ⟨u,wa,rfl,h0,_,h⟩:=h;obtain ⟨ns,e1,e2,e3⟩:=WP hr h;refine ⟨n :: ns,?_,by rw [e2]; rfl,?_⟩
   ·simp only [JC] at h0;rw [h0,e1]; rfl
   ·intro c hc;rcases yA.1 hc with rfl | hc
    ·rfl
    ·exact e3 c hc
  ·cases hb
theorem aX:∀ (ns:List Int) (acc:ByteArray),ns.foldl (fun r n=>r.push (UInt8.ofNat n.toNat)) acc=⟨acc.data++(ns.map fun n=>UInt8.ofNat n.toNat).toArray⟩
 | [],acc=>by simp
 | n :: r,acc=>by
  rw [List.foldl_cons,aX r];congr 1;apply Array.ext';simp [ByteArray.push]
theorem val_bstr (R:fB P O nt B F0 aa w0 D s a w ι Θ) {t t' e':TypeId} (ht:P.underlying t=some (.slice e')) (kf:P.underlying e'=some (.int .u8)) (ru:P.underlying t'=some .string) {X:Operand} {x:iB} (hx:opd X=some x) (ho:o.op=.convert t t' X)
  {call} {cl:Cl} {y:wA} {e:tC} (hr:(K.bstr cl x).run call s=some (y,e)):e=.none/\nP P aa a w ι Θ o y:=by
 have hX:=(R.opd hx).1;simp only [K.run] at hr;split at hr
 ·rename_i m hm;obtain ⟨bs,hbs,hr⟩:=yf.1 hr;injection hr with h1 h2; subst h1; subst h2;have lw:∀ c∈m,c.length=1:=by
   clear hX hm hr
   induction m generalizing bs with
   | nil=>simp
   | cons c r ih =>
    unfold bytesOf at hbs
    grind
  obtain ⟨us,wb,hl,A,c,hv,hc,rb⟩:=LI R hX hm (sz:=1) (by omega) lw;obtain ⟨ns,e1,e2,_⟩:=WP hbs wb;refine ⟨rfl,.string ⟨bs.toArray⟩,?_,by rw [cE],trivial⟩;have hns:ns.length=m.length:=by rw [e1] at hl; simpa using hl
  simp only [execOp,ho,hv,Sem.run_bind];rw [run_convert_bytes_string w t t' e' A m.length c ht kf ru];cases A with
  | none =>
   rcases yH m.length with h0 | h0
   ·have:ns=[]:=yN (by omega);subst this;subst e2;simp [Conv.bytesToString];rfl
   ·simp_all
  | some a' =>
   have jt:(loadCells a' m.length).run P w=.ok (ns.map (Value.int .u8)).toArray w:=by
    have:=run_loadCells_list (P:=P) w a' (ns.map (Value.int .u8)) (fun j v hj=>by
     have jn:j<m.length:=by
      grind
     obtain ⟨b,off,hA,_,_,md⟩:=rb (by omega);cases hA;rw [Addr.add_lit];rw [<- e1] at hj;exact md j v hj)
    simp_all
   rw [run_bytesToString w a' m.length c ns jt,aX];simp_all
 ·cases hr
theorem DW {t e:TypeId} {z n:Nat} (ht:P.underlying t=some (.array n e)) (hz:nB P e=some z) {b off:Nat} {L H:Option Operand} {l h:Nat} (hl:lU a 0 L (L.map a.eval,l)) (hh:lU a n H (H.map a.eval,h)) (h1:l<=h) (h2:h<=n) :
  (Instr.sliceAt t (.pointer (some ⟨b,off,none⟩)) (L.map a.eval) (H.map a.eval) none).run P w=.ok (.slice (some (if n=l then ⟨b,off,none⟩ else ⟨b,off + l * z,none⟩)) (h - l) (n - l)) w:=by
 cases L with
 | none =>
  obtain ⟨_,rfl⟩:=hl;cases H with
  | none =>
   obtain ⟨_,rfl⟩:=hh;simp [Instr.sliceAt,Instr.sureAddr,Instr.sliceBounds,run_underlying ht,AB hz,Addr.add_lit]
  | some x =>
   obtain ⟨_,k,i,hx,h0,rfl⟩:=hh;have:0<=i/\i<=(n:Int):=⟨h0,by omega⟩;simp [Instr.sliceAt,Instr.sureAddr,Instr.sliceBounds,Instr.sliceBound,run_underlying ht,AB hz,hx,asIntOf,this,Addr.add_lit]
 | some y =>
  obtain ⟨_,k',i',hy,ff,rfl⟩:=hl;cases H with
  | none =>
   obtain ⟨_,rfl⟩:=hh;have:0<=i'/\i'<=(h:Int):=⟨ff,by omega⟩;simp [Instr.sliceAt,Instr.sureAddr,Instr.sliceBounds,Instr.sliceBound,run_underlying ht,AB hz,hy,asIntOf,this,Addr.add_lit]
  | some x =>
   obtain ⟨_,k,i,hx,h0,rfl⟩:=hh;have h3:0<=i/\i<=(n:Int):=⟨h0,by omega⟩;have h4:0<=i'/\i'<=i:=⟨ff,by omega⟩;have h5:((i.toNat:Nat):Int)=i:=by omega
   simp [Instr.sliceAt,Instr.sureAddr,Instr.sliceBounds,Instr.sliceBound,run_underlying ht,AB hz,hy,hx,asIntOf,h3,h4,h5,Addr.add_lit]
section
variable (R:fB P O nt B F0 aa w0 D s a w ι Θ)
include R
theorem val_aslc {t e':TypeId} {n z:Nat} (ht:P.underlying t=some (.array n e')) (hz:nB P e'=some z) {X:Operand} {L H:Option Operand} {x:iB} {l h:Option iB} (hx:opd X=some x) (hl:LT L=some l) (hh:LT H=some h)
  (ho:o.op=.slice t X L H none) {call} {cl:Cl} {y:wA} {e:tC} (hr:(K.aslc cl n z x l h).run call s=some (y,e)):e=.none/\nP P aa a w ι Θ o y:=by
 have hX:=(R.opd hx).1;simp only [K.run] at hr;split at hr
 ·rename_i t' n' off hy;split at hr
  ·rename_i lo hi r mr tq hm;have hL:=gH R hl mr;have hH:=gH R hh tq;rw [hy,xE] at hX;obtain ⟨b,hb,hv⟩:=hX;obtain ⟨_,b',cur,ty,gb,na,oa,_,rh⟩:=R.rows t' n' r hm;rw [hb] at gb;injection gb with gb;subst gb;split at hr
   ·rename_i ba;obtain ⟨h1,h2,ne,h3,_⟩:=ba;have ka:=DW (w:=w) (b:=b) (off:=off) ht hz hL hH h1 h2;split at hr
    ·rename_i heq;injection hr with hr; injection hr with e1 e2; subst e1; subst e2;refine ⟨rfl,.slice (some (if n=lo then ⟨b,off,none⟩ else ⟨b,off + lo * z,none⟩)) (hi - lo) (n - lo),by simp only [execOp,ho,hv,Option.map_none,Sem.run_bind,ka,Result.andThen_ok,Sem.run_pure],?_,trivial⟩;simp only [NB,JC];refine ⟨some (if n=lo then ⟨b,off,none⟩ else ⟨b,off + lo * z,none⟩),n - lo,by rw [heq]; simp,by simp,by simp,by simp,fun _=>⟨by simp,by simp⟩⟩
    ·rename_i jb;injection hr with hr; injection hr with e1 e2; subst e1; subst e2;refine ⟨rfl,.slice (some (if n=lo then ⟨b,off,none⟩ else ⟨b,off + lo * z,none⟩)) (hi - lo) (n - lo),by simp only [execOp,ho,hv,Option.map_none,Sem.run_bind,ka,Result.andThen_ok,Sem.run_pure],?_,trivial⟩;rw [wF];refine ⟨b,hb,by omega,n - lo,ye _,?_,by rw [if_neg (by omega)]⟩;have:(n - lo) * z + lo * z=n * z:=by rw [<- Nat.add_mul]; congr 1; omega
     have:=oa.1;omega
   ·cases hr
  ·cases hr
 ·cases hr
theorem val_mkf {f:FuncId} {fs Xs:Array Operand} (hfs:fs.size=0) {xs:List iB} (hx:MD Xs.toList=some xs) (ho:o.op=.makeFunc (.func f) fs Xs)
  {call} {y:wA} {e:tC} (hr:(K.mkf f xs).run call s=some (y,e)):e=.none/\nP P aa a w ι Θ o y:=by
 simp only [K.run] at hr;split at hr
 ·rename_i zb;injection hr with hr; injection hr with e1 e2; subst e1; subst e2;have key:∀ {Xs:List Operand} {xs:List iB},MD Xs=some xs->xs.all (fun x=>(x.get s).capOk)=true->SE ι (QB aa ι Θ) (EB ι Θ) w (xs.map (·.get s)) (Xs.map a.eval):=by
   intro Xs
   induction Xs with
   | nil=>intro xs h _; injection h with h; subst h; rfl
   | cons X r ih =>
    intro xs h hc;unfold MD at h;split at h
    ·rename_i x l h1 h2;cases h;simp only [List.all_cons,yc] at hc;refine ⟨_,_,rfl,?_,ih h2 hc.2⟩;have hX:=(R.opd h1).1;have hk:=hc.1;show fT ι (QB aa ι Θ) (EB ι Θ) w (x.get s) (a.eval X);cases hg:x.get s <;> rw [hg] at hX hk <;> first | exact hX | (simp [AV.capOk] at hk; done)
    ·cases h
  have hfs0:fs=#[]:=Array.eq_empty_of_size_eq_zero hfs;refine ⟨rfl,.func (.func f) #[] (Xs.map a.eval),by simp [execOp,ho,Instr.makeFunc,hfs0],⟨Xs.map a.eval,rfl,?_⟩,trivial⟩;simp_all
 ·cases hr
theorem fB.turnRow {t n b:Nat} (hb:ι t n=some b) (sd:ι.ob t n=none) {r:List wA} {new:Array Value} {uf:TypeId} (kc:w'.heap[b]?=some (.cells new uf (0,0))) (hk:SA (fun k=>k=b) w w') (oa:QC ι Θ (QB aa ι Θ) w' r new) (xg:B<=b\/F0.r b) (hnz:new.size=ι.z b) :
  fB P O nt B F0 aa w0 D (s.setRow t n r) a w' ι Θ:=by
 have jb:∀ b',b'<w.heap.size->b'≠b->w'.heap[b']?=w.heap[b']?:=fun b' h1 h=>hk.block b' h1 h
 have hB:TA (EB ι Θ) (EB ι Θ) w w':=⟨fun b' o u hc hn=>by
  have:b'≠b:=fun e=>hn (.inl (.inl ⟨t,n,e ▸ hb⟩))
  exact ⟨(World.cell?_of_block (w:=w) (a:=⟨b',o,none⟩) (jb b' (ED hc) this)).trans hc,hn⟩⟩
 have hA:TA (QB aa ι Θ) (QB aa ι Θ) w w':=⟨fun b' o u hc hn=>by
  have:b'≠b:=fun e=>hn (.inr (.inl (.inl ⟨t,n,e ▸ hb⟩)))
  exact ⟨(World.cell?_of_block (w:=w) (a:=⟨b',o,none⟩) (jb b' (ED hc) this)).trans hc,hn⟩⟩
 have co:=R.mine t n b hb;have ac:=hk.size;refine ⟨R.defers,R.size,fun t=>UA.held (Ix.Le.refl _) hA hB _ _ (R.env t),R.ann,fun t' n' r' hr=>?_,fun t n b h=>?_,R.inj,fun k o h=>?_,R.tinj,R.apart,R.out,R.pin,?_,R.base,fun t' n' S h=>?_,fun t n H h=>(R.obs t n H h).grow ac,fun t=>UA.held (Ix.Le.refl _) hA hB _ _ (R.gen t),R.gann⟩
 ·simp only [uA.setRow] at hr;split at hr
  ·rename_i e;simp_all
  ·rename_i e;obtain ⟨h0,b',ra,uf,h1,h2,h3,h4⟩:=R.rows t' n' r' hr;have:b'≠b:=fun e'=>e (R.inj _ _ _ _ _ (e' ▸ h1) hb)
   exact ⟨h0,b',ra,uf,h1,(jb b' (dA h2) this).trans h2,h3.held (Ix.Le.refl _) hA (fun _ _ h=>h),h4⟩
 ·obtain ⟨h1,h2,h3⟩:=R.mine t n b h;exact ⟨h1,by omega,h3⟩
 ·obtain ⟨h1,h2,h3,h4,ra,h5,h6⟩:=R.tok k o h;have:o.g≠b:=fun e=>R.apart k o t n h (e ▸ hb)
  grind
 ·refine R.kept.trans hk fun i hi h=>?_
  subst h;rcases co.1 with h | h
  ·have:=R.base; omega
  ·exact h
 ·obtain ⟨p,H,h1,h2,h3,h4⟩:=R.objs t' n' S h;have xj:∀ b',H b'->b'≠b:=fun b' hH e=>by
   subst e;have:=((R.obs _ _ _ h2).1 _ hH).2.2.1 t n hb;simp_all
  exact ⟨p,H,h1,h2,O.keep h3 (fun b' hH=>jb b' (O.lt h3 hH) (xj b' hH)) ac,h4.keep (fun t n b H h g=>⟨h,H,g⟩) fun x hx=>(jb _ (dA hx) (xj _ (O.main h3))).trans hx⟩
end
theorem SU (R:fB P O nt B F0 aa w0 D s a w ι Θ) {t n p z:Nat} (hp:ι t n=some p) (hz:ι.z p=z) {cl:Cl}:∀ {Xs:List Operand} {xs:List iB} {vs:List AV},MD Xs=some xs->pH s cl t n xs=some vs->AE (Ix.row p z) (QB aa ι Θ) (fun b _=>b=p) w vs (Xs.map a.eval)
 | [],xs,vs,h,hl=>by
  injection h with h;subst h;injection hl with hl;subst hl;rfl
 | X :: Xs,xs,vs,h,hl=>by
  unfold MD at h;split at h
  ·rename_i x l hx hr;injection h with h;subst h;unfold pH at hl;split at hl
   ·rename_i v dq hv tt;injection hl with hl;subst hl;refine ⟨_,_,rfl,?_,SU R hp hz hr tt⟩;have hX:=(R.opd hx).1;have hB:∀ (b o:Nat),b=p->EB ι Θ b o:=fun b o h=>.inl (.inl ⟨t,n,h ▸ hp⟩)
    unfold wT at hv;split at hv
    ·rename_i t' n' off hg;split at hv
     ·rename_i e;injection hv with hv;subst hv;rw [hg,e.1,e.2] at hX;obtain ⟨b,hb,hv⟩:=xE.1 hX;rw [hp] at hb;injection hb with hb;subst hb;exact ⟨p,rfl,hv⟩
     ·cases hv
    ·rename_i t' n' sz off len cap hg;split at hv
     ·rename_i e;injection hv with hv;subst hv;rw [hg,e.1,e.2] at hX;obtain ⟨b,hb,h1,c,h2,h3,hv⟩:=wF.1 hX;rw [hp] at hb;injection hb with hb;subst hb;exact ⟨p,rfl,h1,c,h2,by rw [hz] at h3; exact h3,hv⟩
     ·rename_i e;rw [hg] at hX;refine QR R hB (fun t1 n1 b o hb1 _ ⟨sz1,off1,len1,cap1,hy⟩ h=>e ?_) hX hv fun t n h=>by cases h
      injection hy with e1 e2;subst h;exact R.inj _ _ _ _ _ (by rw [e1,e2]; exact hb1) hp
    ·rename_i f cs hg;split at hv
     ·rename_i hc;injection hv with hv;subst hv;rw [hg,List.isEmpty_iff.1 hc] at hX;exact hX
     ·cases hv
    ·rename_i y h1 h2 h3;exact QR R hB (fun t1 n1 b o _ _ ⟨sz1,off1,len1,cap1,hy⟩=>absurd hy (h2 _ _ _ _ _ _)) hX hv fun t n h=>absurd h (h1 _ _ _)
   ·cases hl
  ·cases h
theorem g6 {av:Av} {cs:List AV} {us:List Value} (h:KA av w cs us) {cur:Array Value} (hc:∀ (j:Nat) (u:Value),us[j]?=some u->cur[j]?=some u):QC ι Θ av w (cs.map fun v=>⟨v,tF v⟩) cur:=by
 have h0:=row_of (ι:=ι) (Θ:=Θ) h hc;refine ⟨by simpa using h0.1,fun j x hx=>?_⟩;rw [yh] at hx;obtain ⟨v,hv,rfl⟩:=yf.1 hx;obtain ⟨u,h1,h2,h3,_⟩:=h0.2 j ⟨v,.no⟩ (by rw [yh,hv]; rfl);refine ⟨u,h1,h2,h3,?_⟩;unfold tF;split
 ·rename_i b l hh;simp only at h3;obtain ⟨A,c,hv,_,_,hn,_⟩:=(by simpa [IA,JC] using h3:JC av w (.sl true _) u);obtain ⟨rfl,e1,rfl⟩:=hn rfl;exact ⟨none,0,by rw [hv,e1]⟩
 ·trivial
theorem op_callr (R:fB P O nt B F0 aa w0 D s a w ι Θ) {call:LA} (za:∀ f args S r,call f args S=some r->DA P O f args S r) {f:FuncId} {Xs:Array Operand} {ts:Array TypeId} {xs:List iB} (hx:MD Xs.toList=some xs) (ho:o.op=.call { callee:=.value (.func f),args:=Xs,argTypes:=ts }) (hd:∀ d,o.dst=some d->d<nt) {cl:Cl} {xe:wA × tC} (hr:(K.callr cl f xs).run call s=some xe) {g} {s':uA} (he:kA.eff ⟨o.dst,.callr cl f xs,g⟩ s xe=some s')
  {Kn:Act->World->Prop} {Q:Exit->Act->World->Prop} (hK:∀ a' w',SC P O nt B F0 aa w0 (fun t=>D t\/o.dst=some t) s' a' w'->Kn a' w'):o.wp P a w Kn Q:=by
 simp only [K.run] at hr;split at hr
 ·rename_i t n _;split at hr
  ·split at hr
   ·rename_i r vs hm hl;split at hr
    ·rename_i zb;obtain ⟨q,hc,hr⟩:=y7.1 hr;split at hr
     ·rename_i cs hq;split at hr
      ·rename_i ba;cases hr;simp only [kA.eff] at he;cases he;obtain ⟨q1,q2⟩:=q;simp only at hq;subst hq;obtain ⟨sd,p,cur,ty,hp,na,oa,xg,rh⟩:=R.rows t n r hm;have sa:cX P f vs (some (.agg (r.map (·.v)))) (q1,some (.agg cs)):=za f (.undef :: .undef :: vs) _ _ hc;have de:∀ x∈r.map (·.v),x.free0=true:=fun x hx=>by
        grind
       have wj:(Xs.toList.map a.eval).toArray=Xs.map a.eval:=by rw [<- Array.toList_map,yM]
       have run:(execOp a.eval o).run P w=.ok (.enter f (Xs.map a.eval)) w:=by
        simp only [execOp,ho,resolve,Act.eval,Deferred.ofValue,Sem.run_bind,Sem.run_pure,Result.andThen_ok,invoke];have:=sa.1 (#[]++Xs.map a.eval++#[]) w;simp_all
       unfold Oper.wp;rw [run,Oper.upon_enter];have hC:=sa.2 (QB aa ι Θ) w _ p cur ty (fun b o h=>R.low h) (fun o=>.inr (.inl (.inl ⟨t,n,hp⟩))) na (by simpa using oa.1) (by simpa using sF oa.rep de) (SU R hp rh.symm hx hl);rw [wj] at hC;refine hC.mono ?_;rintro e w' ⟨v,ra,uf,rfl,hv,rk,ac,wb,hk⟩;have lj:QC ι Θ (QB aa ι Θ) w' (cs.map fun v=>⟨v,tF v⟩) ra:=g6 wb fun j u hu=>by
        grind
       have R':=R.turnRow hp sd rk hk lj xg (ac.trans rh);exact hK _ _ ⟨ι,Θ,(R'.putN (x:=⟨_,.no⟩) hd (TH hv) trivial).more fun _ h=>.inl h⟩
      ·cases hr
     ·cases hr
    ·cases hr
   ·cases hr
  ·cases hr
 ·cases hr
end
end
section
open Go Go.RowKit
section
variable {P:Program} {O:JD} {nt B:Nat} {F0:AL} {aa:Av} {w0:World} {D:Nat->Prop} {s:uA} {a:Act} {w w':World} {ι:Ix} {Θ:lH} {o:Oper}
theorem NK {av:Av} {x:AV} (h:x.scal=true):JC av w x x.scalV/\x.scalV.oneCell'=true:=by
 cases x <;> first | (simp [AV.scal] at h; done) | exact ⟨rfl,rfl⟩
theorem lS {av:Av}:∀ {cs:List AV},cs.all AV.scal=true->KA av w cs (cs.map AV.scalV)
 | [],_=>rfl
 | x :: r,h=>by
  simp only [List.all_cons,yc] at h;exact ⟨_,_,rfl,(NK h.1).1,(NK (av:=av) (w:=w) h.1).2,lS h.2⟩
theorem UK {av:Av} {x:AV} (h:x.flat=true):JC av w x x.flatV:=by
 cases x with
 | agg cs=>exact ⟨_,rfl,by simpa using lS (av:=av) (w:=w) h⟩
 | int k n=>exact (NK (x:=.int k n) rfl).1
 | bool b=>exact (NK (x:=.bool b) rfl).1
 | str b=>exact (NK (x:=.str b) rfl).1
 | _=>simp [AV.flat,AV.scal] at h
theorem flat_S {av avb:Av} {x:AV} (h:x.flat=true):UA ι av avb w x x.flatV:=by
 have h1:=UK (av:=av) (w:=w) h;cases x with
 | agg cs=>obtain ⟨us,hv,hc⟩:=h1; exact ⟨us,hv,OC hc⟩
 | _=>first | exact h1 | (simp [AV.flat,AV.scal] at h; done)
theorem uQ {av avb:Av} {x:AV} {v:Value} (hf:x.flat=true) (h:UA ι av avb w x v):v=x.flatV:=by
 cases x with
 | agg cs =>
  obtain ⟨us,hv,hc⟩:=h;subst hv;have key:∀ {cs:List AV} {us:List Value},cs.all AV.scal=true->QA ι av w cs us->us=cs.map AV.scalV:=by
   intro cs
   induction cs with
   | nil=>intro us _ h; simpa [QA] using h
   | cons x r ih =>
    intro us hf h;simp only [QA] at h;obtain ⟨u,wa,rfl,h0,_,h⟩:=h;simp only [List.all_cons,yc] at hf;rw [yu,ih hf.2 h];congr 1;cases x <;> first | exact h0 | (simp [AV.scal] at hf; done)
  have:=key hf hc;show Value.agg us=.agg (cs.map AV.scalV).toArray;rw [<- this,yM]
 | int k n=>exact h
 | bool b=>exact h
 | str b=>exact h
 | _=>simp [AV.flat,AV.scal] at hf
theorem E8 {v:Value} {x:AV} (h:W8 v=some x) (hf:x.flat=true):v=x.flatV :=
 uQ (ι:=Ix.none) (av:=fun _ _=>False) (avb:=fun _ _=>False) (w:=default) hf (I2 h _ _ _ _)
theorem n0 (a b:ByteArray):(a == b)=decide (a=b):=by
 obtain ⟨a⟩:=a;obtain ⟨b⟩:=b;rw [Bool.eq_iff_iff];simp only [decide_eq_true_eq,ByteArray.mk.injEq];exact beq_iff_eq (α:=Array UInt8)
def kE {κ:Type} [DecidableEq κ] (L:List (κ × Value)) (n:κ) (m:Nat):Option (Nat × Value):=((L.map (·.1)).idxOf? n).bind fun i=>(L[i]?).map fun p=>(m + i,p.2)
theorem CJ {κ:Type} [DecidableEq κ] (p:κ × Value) (L:List (κ × Value)) (n:κ) (m:Nat):kE (p :: L) n m=if n=p.1 then some (m,p.2) else kE L n (m + 1):=by
 unfold kE;simp only [yu,List.idxOf?_cons];by_cases hk:n=p.1
 ·subst hk; simp
 ·have hb:(p.1 == n)=false:=by simpa using fun e:p.1=n=>hk e.symm
  simp only [hb,hk,if_false];cases hi:List.idxOf? n (List.map (fun x=>x.1) L) with
  | none=>simp
  | some i=>simp [Nat.add_assoc,Nat.add_comm 1 i]
theorem BS (k:IntKind) (n:Int):∀ (es:List MapEntry) (L:List (Int × Value)) (m:Nat),es.map (fun e=>(e.key,e.val))=L.map (fun p=>(Value.int k p.1,p.2)) →
   Instr.findNow (.int k) (.int k n) es m=some (kE L n m)
 | [],[],m,_=>by simp [Instr.findNow,kE]
 | [],_ :: _,_,h=>by simp at h
 | _ :: _,[],_,h=>by simp at h
 | e :: es,p :: L,m,h=>by
  simp only [yu,List.cons.injEq,Prod.mk.injEq] at h;obtain ⟨⟨h1,h2⟩,h3⟩:=h;have ih:=BS k n es L (m + 1) h3;have hs:Instr.sameNow (.int k) (.int k n) e.key=some (n == p.1):=by rw [h1]; simp [Instr.sameNow]
  simp only [Instr.findNow,hs,CJ];by_cases hk:n=p.1
  ·subst hk; simp [h2]
  ·have gb:(n == p.1)=false:=by simpa using hk
   simp only [gb,ih,hk,if_false]
theorem NS (n:ByteArray):∀ (es:List MapEntry) (L:List (ByteArray × Value)) (m:Nat),es.map (fun e=>(e.key,e.val))=L.map (fun p=>(Value.string p.1,p.2)) →
   Instr.findNow .string (.string n) es m=some (kE L n m)
 | [],[],m,_=>by simp [Instr.findNow,kE]
 | [],_ :: _,_,h=>by simp at h
 | _ :: _,[],_,h=>by simp at h
 | e :: es,p :: L,m,h=>by
  simp only [yu,List.cons.injEq,Prod.mk.injEq] at h;obtain ⟨⟨h1,h2⟩,h3⟩:=h;have ih:=NS n es L (m + 1) h3;have hs:Instr.sameNow .string (.string n) e.key=some (decide (n=p.1)):=by
   rw [h1];simp only [Instr.sameNow,n0]
  simp only [Instr.findNow,hs,CJ];by_cases hk:n=p.1
  ·subst hk; simp [h2]
  ·simp only [hk,decide_false,ih,if_false]
theorem LX {T:TypeId} {k:IntKind} (u:P.underlying T=some (.int k)):OM P T (fun n:Int=>Value.int k n) where
 check empty n w:=by
  have hq:∀ (d:Nat),(Instr.checkKey empty (d + 1) T (.int k n)).run P w=.ok () w:=fun d=>by simp [Instr.checkKey,run_underlying u]
  exact hq 9999
 find n es L w h:=by
  simp only [Instr.findKey,Sem.run_bind,run_underlying u,Result.andThen_ok,BS k n es L 0 h,kE,yn,Sem.run_pure]
 same n:=by
  have hq:∀ (d:Nat),Instr.sameBits (d + 1) (.int k n) (.int k n)=true:=fun d=>by simp [Instr.sameBits]
  exact hq 9999
theorem ZX {T:TypeId} (u:P.underlying T=some .string):OM P T Value.string where
 check empty n w:=by
  have hq:∀ (d:Nat),(Instr.checkKey empty (d + 1) T (.string n)).run P w=.ok () w:=fun d=>by simp [Instr.checkKey,run_underlying u]
  exact hq 9999
 find n es L w h:=by
  simp only [Instr.findKey,Sem.run_bind,run_underlying u,Result.andThen_ok,NS n es L 0 h,kE,yn,Sem.run_pure]
 same n:=by
  have hq:∀ (d:Nat),Instr.sameBits (d + 1) (.string n) (.string n)=true:=fun d=>by simp [Instr.sameBits,n0]
  exact hq 9999
structure aO (ty:z8) (κ:Type) [DecidableEq κ] (ke:κ->Value) (kx:κ->AV):Prop where
 val:∀ a,(kx a).flatV=ke a
 eq:∀ a b,FO (kx a) (kx b)=decide (a=b)
 of:∀ x,sG ty x=true->∃ a,x=kx a
 flat:∀ a,(kx a).flat=true
section
variable {κ:Type} [DecidableEq κ] {ke:κ->Value} {kx:κ->AV} {ty:z8}
theorem eX (K:aO ty κ ke kx) (n:κ):∀ M:List (κ × AV),aH (M.map fun p=>[kx p.1,p.2]) (kx n)=NH M n
 | []=>rfl
 | p :: r=>by
  simp only [yu,aH,NH,K.eq,decide_eq_true_eq,eX K n r];by_cases h:p.1=n
  ·rw [if_pos h,if_pos h.symm]
  ·rw [if_neg h,if_neg fun e=>h e.symm]
theorem rX (K:aO ty κ ke kx) (n:κ) (v:AV):∀ M:List (κ × AV),eG (M.map fun p=>[kx p.1,p.2]) (kx n) v=(SW M n v).map fun p=>[kx p.1,p.2]
 | []=>rfl
 | p :: r=>by
  simp only [yu,eG,SW,K.eq,decide_eq_true_eq,rX K n v r];by_cases h:p.1=n
  ·rw [if_pos h,if_pos h.symm]; rfl
  ·rw [if_neg h,if_neg fun e=>h e.symm]; rfl
theorem nU (g:AV->Value) (n:κ):∀ M:List (κ × AV),NH (M.map fun p=>(p.1,g p.2)) n=(NH M n).map g
 | []=>rfl
 | p :: r=>by
  simp only [yu,NH,nU g n r];split <;> rfl
theorem AZ (g:AV->Value) (n:κ) (v:AV):∀ M:List (κ × AV),SW (M.map fun p=>(p.1,g p.2)) n (g v)=(SW M n v).map fun p=>(p.1,g p.2)
 | []=>rfl
 | p :: r=>by
  simp only [yu,SW,AZ g n v r];split <;> rfl
theorem qX (K:aO ty κ ke kx):∀ L:List (List AV),BJ ty L=true->∃ M:List (κ × AV),L=M.map (fun p=>[kx p.1,p.2])/\∀ p∈M,p.2.flat=true
 | [],_=>⟨[],rfl,fun _ h=>by cases h⟩
 | e :: r,h=>by
  unfold BJ at h;simp only [List.all_cons,yc] at h;obtain ⟨M,hM,hf⟩:=qX K r h.2;have h1:=h.1;split at h1
  ·rename_i k v;simp only [yc] at h1;obtain ⟨n,rfl⟩:=K.of k h1.1;exact ⟨(n,v) :: M,by rw [hM]; rfl,fun p hp=>by
    rcases yA.1 hp with rfl | hp
    ·exact h1.2
    ·exact hf p hp⟩
  ·cases h1
theorem wX (K:aO ty κ ke kx) (M:List (κ × AV)):(M.map fun p=>[kx p.1,p.2]).map G9=(M.map fun p=>(p.1,p.2.flatV)).map fun p=>(ke p.1,p.2):=by
 rw [y5,y5];apply yK;intro p _;simp [G9,K.val]
end
theorem xR (k:IntKind):aO (.some k) Int (fun n=>Value.int k n) (fun n=>.int k n) where
 val _:=rfl
 eq a b:=by simp [FO]
 of x h:=by
  cases x <;> first | (simp [sG] at h; done) | (simp only [sG,decide_eq_true_eq] at h; subst h; exact ⟨_,rfl⟩)
 flat _:=rfl
theorem cR:aO .none ByteArray Value.string AV.str where
 val _:=rfl
 eq a b:=by simp [FO]
 of x h:=by
  cases x <;> first | (simp [sG] at h; done) | exact ⟨_,rfl⟩
 flat _:=rfl
inductive KV where
 | i (k:IntKind) (n:Int)
 | s (b:ByteArray)
 deriving DecidableEq
def KV.av:KV->AV
 | .i k n=>.int k n
 | .s b=>.str b
def KV.kd:KV->Option IntKind
 | .i k _=>some k
 | .s _=>none
abbrev U6 (l:List (Option IntKind)):={ a:List KV // a.map KV.kd=l }
theorem MW:∀ a b:List KV,OU (a.map KV.av) (b.map KV.av)=decide (a=b)
 | [],[]=>rfl
 | [],b :: r=>by cases b <;> rfl
 | a :: r,[]=>by cases a <;> rfl
 | a :: r,b :: r'=>by
  have ih:=MW r r';cases a <;> cases b <;> simp [KV.av,OU,ih,Bool.decide_and]
theorem lR:∀ (l:List (Option IntKind)) (cs:List AV),iN l cs=true->∃ a:List KV,a.map KV.kd=l/\cs=a.map KV.av
 | [],[],_=>⟨[],rfl,rfl⟩
 | [],_ :: _,h=>by simp [iN] at h
 | k :: r,[],h=>by cases k <;> simp [iN] at h
 | k :: r,c :: cs,h=>by
  cases k with
  | none =>
   cases c <;> simp only [iN] at h <;> first | (cases h; done) | skip
   rename_i b;obtain ⟨a,h1,h2⟩:=lR r cs h;exact ⟨.s b :: a,by simp [KV.kd,h1],by simp [KV.av,h2]⟩
  | some k =>
   cases c <;> simp only [iN] at h <;> first | (cases h; done) | skip
   rename_i k' n;simp only [yc,decide_eq_true_eq] at h;obtain ⟨rfl,h⟩:=h;obtain ⟨a,h1,h2⟩:=lR r cs h;exact ⟨.i k n :: a,by simp [KV.kd,h1],by simp [KV.av,h2]⟩
theorem L5 (a:List KV):(a.map KV.av).all AV.scal=true:=by
 simp only [List.all_map,y8];intro x _;cases x <;> rfl
theorem zR (l:List (Option IntKind)):aO (.agg l) (U6 l) (fun a=>.agg ((a.1.map KV.av).map AV.scalV).toArray) (fun a=>.agg (a.1.map KV.av)) where
 val _:=rfl
 eq a b:=by
  simp only [FO,MW];by_cases h:a.1=b.1
  ·rw [decide_eq_true h,decide_eq_true (Subtype.ext h)]
  ·rw [decide_eq_false h,decide_eq_false fun e=>h (congrArg Subtype.val e)]
 of x h:=by
  cases x <;> first | (simp [sG] at h; done) | skip
  rename_i cs;obtain ⟨a,h1,h2⟩:=lR l cs h;exact ⟨⟨a,h1⟩,by rw [h2]⟩
 flat a:=L5 a.1
theorem H9:∀ a b:List KV,a.map KV.kd=b.map KV.kd->BH ((a.map KV.kd).map nH) (a.map KV.av) (b.map KV.av)=some (decide (a=b))
 | [],[],_=>rfl
 | [],_ :: _,h=>by simp at h
 | _ :: _,[],h=>by simp at h
 | a :: r,b :: r',h=>by
  simp only [yu,List.cons.injEq] at h;have ih:=H9 r r' h.2;cases a <;> cases b <;> simp only [KV.kd,reduceCtorEq,Option.some.injEq,false_and] at h
  ·obtain ⟨rfl,h⟩:=h;rename_i n m;by_cases e:n=m
   ·subst e; simp [KV.kd,KV.av,nH,BH,ih,-y5]
   ·simp [KV.kd,KV.av,nH,BH,e]
  ·rename_i n m;by_cases e:n=m
   ·subst e; simp [KV.kd,KV.av,nH,BH,ih,-y5]
   ·simp [KV.kd,KV.av,nH,BH,e]
theorem WN {t:TypeId} {ks:List Nat} (h:LO P t=some ks):BE P 8 t=some ks/\DG P t=some true:=by
 unfold LO at h;split at h
 ·cases h
 ·split at h
  ·rename_i am; exact ⟨h,by simp [DG,am]⟩
  ·rename_i am; exact ⟨h,by simp [DG,am]⟩
  ·cases h
theorem K9 {T:TypeId} {l:List (Option IntKind)} (ht:LO P T=some (l.map nH)) (a b:U6 l) (w:World) :
  (Op.equal T (.agg ((a.1.map KV.av).map AV.scalV).toArray) (.agg ((b.1.map KV.av).map AV.scalV).toArray)).run P w=.ok (decide (a=b)) w:=by
 obtain ⟨hk,hA⟩:=WN ht;have he:=H9 a.1 b.1 (a.2.trans b.2.symm);rw [a.2] at he;have hd:decide (a.1=b.1)=decide (a=b):=by
  by_cases h:a.1=b.1
  ·rw [decide_eq_true h,decide_eq_true (Subtype.ext h)]
  ·rw [decide_eq_false h,decide_eq_false fun e=>h (congrArg Subtype.val e)]
 rw [hd] at he;have hl:∀ c:U6 l,QA Ix.none (fun _ _=>False) w (c.1.map KV.av) (((c.1.map KV.av).map AV.scalV).toArray.toList.take (l.map nH).length):=fun c=>by
  rw [List.take_of_length_le (by simp [<- c.2])];exact OC (lS (L5 c.1))
 exact (bS (ι:=Ix.none) (av:=fun _ _=>False) (fun t ks h=>nR 7 t ks h) 9992 hk hA (hl a) (hl b) he).2
theorem fL (em:Bool) (w:World):∀ (n:Nat) (t:TypeId) (ks:List Nat),BE P n t=some ks->∀ (d:Nat) (us:Array Value) (off:Nat),off + ks.length<=us.size->(∃ a,(part t us off).run P w=.ok a w/\(Instr.checkKey em (d + n) t a).run P w=.ok () w)/\(DG P t=some true->off=0->(Instr.checkKey em (d + n) t (.agg us)).run P w=.ok () w)
 | 0,_,_,h=>by cases h
 | n + 1,t,ks,hk=>by
  intro d us off tb;have whole:DG P t=some true->∀ vs:Array Value,ks.length<=vs.size->nB P t=some ks.length/\(Instr.checkKey em (d + (n + 1)) t (.agg vs)).run P w=.ok () w:=by
   intro hA vs oz;unfold BE at hk;split at hk
   ·rename_i k od;unfold DG at hA;unfold HV at od;split at od <;> first | (cases od; done) | (rename_i ht _; rw [ht] at hA; injection hA with hA; cases hA) | (rename_i ht; rw [ht] at hA; injection hA with hA; cases hA)
   ·split at hk
    ·rename_i m e ht;obtain ⟨l,hl,hk⟩:=y7.1 hk;split at hk
     ·rename_i hc;injection hk with hk;subst hk;obtain ⟨i,hi⟩:=sQ hc.2.1;refine ⟨hc.2.2,?_⟩;have ac:i.size=l.length:=by
       have:=hc.2.1;simp only [nB,hi,yp,Option.some.injEq] at this;exact this
      have sh:(yo m l).flatten.length=m * l.length:=by simp
      rw [show d + (n + 1)=(d + n) + 1 from rfl,Instr.checkKey];simp only [Sem.run_bind,run_underlying ht,Result.andThen_ok];simp only [Std.Legacy.Range.forIn_eq_forIn_range',Std.Legacy.Range.size,Nat.sub_zero,Nat.add_one_sub_one,Nat.div_one];have each:∀ j∈List.range' 0 m,∃ a,(part e vs (j * P.cellsOf e)).run P w=.ok a w/\(Instr.checkKey em (d + n) e a).run P w=.ok () w:=fun j hj=>by
       have ju:j<m:=by simpa using hj
       refine (fL em w n e l hl d vs (j * P.cellsOf e) ?_).1;rw [hc.1,<- yB];rw [sh] at oz;exact Nat.le_trans (yO _ ju) oz
      generalize List.range' 0 m=is at each
      induction is with
      | nil=>simp
      | cons j is ih =>
       obtain ⟨a,p1,p2⟩:=each j (by simp);simp only [List.forIn_cons,Sem.run_bind,run_sizeOf w hi,Result.andThen_ok,p1,p2,Sem.run_pure];exact ih (fun y hy=>each y (by simp [hy]))
     ·cases hk
    ·rename_i fs ht;split at hk
     ·cases hk
     ·obtain ⟨l,hl,hk⟩:=y7.1 hk;split at hk
      ·rename_i hc;injection hk with hk;subst hk;refine ⟨hc,?_⟩;rw [show d + (n + 1)=(d + n) + 1 from rfl,Instr.checkKey];simp only [Sem.run_bind,run_underlying ht,Result.andThen_ok];rw [<- Array.forIn_toList];have go:∀ (L:List Field) (i:Nat) (l:List Nat),AN (BE P n) i L=some l->i + l.length<=vs.size->∀ f∈L,f.name≠"_"/\∃ a,(part f.type vs f.offset).run P w=.ok a w/\(Instr.checkKey em (d + n) f.type a).run P w=.ok () w:=by
        intro L
        induction L with
        | nil=>intro i l _ _ f hf; cases hf
        | cons g L ih =>
         intro i l hl tb f hf;unfold AN at hl;obtain ⟨l1,h1,hl⟩:=y7.1 hl;split at hl
         ·rename_i hn;obtain ⟨l2,h2,rfl⟩:=yf.1 hl;rw [yb] at tb;rcases yA.1 hf with rfl | hf
          ·exact ⟨hn.1,(fL em w n _ l1 h1 d vs f.offset (by rw [hn.2]; omega)).1⟩
          ·exact ih (i + l1.length) l2 h2 (by omega) f hf
         ·cases hl
       have each:=go fs.toList 0 l hl (by omega);clear go hl;generalize fs.toList=L at each
       induction L with
       | nil=>simp
       | cons f L ih =>
        obtain ⟨hn,a,p1,p2⟩:=each f (by simp);simp only [List.forIn_cons,Sem.run_bind,hn,ne_eq,not_false_eq_true,if_true,Result.andThen_ok,p1,p2,Sem.run_pure];exact ih (fun y hy=>each y (by simp [hy]))
      ·cases hk
    ·cases hk
  refine ⟨?_,fun hA h0=>(whole hA us (by omega)).2⟩;by_cases hA:DG P t=some true
  ·obtain ⟨h1,h2⟩:=whole hA (us.extract off (off + ks.length)) (by simp; omega);exact ⟨_,(kP hA h1 us off).1,h2⟩
  ·have se:=hk;unfold BE at hk;split at hk
   ·rename_i k od;injection hk with hk;subst hk;simp only [yD,List.length_nil] at tb;have hu:us[off]?=some us[off]:=yQ (by omega);have hp:=(HZ (w:=w) 0 od hu hu).1;refine ⟨_,hp,?_⟩;unfold HV at od;rw [show d + (n + 1)=(d + n) + 1 from rfl];split at od
    ·rename_i ht _; simp [Instr.checkKey,run_underlying ht]
    ·rename_i ht _; simp [Instr.checkKey,run_underlying ht]
    ·rename_i ht _; simp [Instr.checkKey,run_underlying ht]
    ·cases od
   ·split at hk
    ·rename_i ht; exact absurd (by simp [DG,ht]) hA
    ·rename_i ht; exact absurd (by simp [DG,ht]) hA
    ·cases hk
theorem S5 {T:TypeId} {l:List (Option IntKind)} (ht:LO P T=some (l.map nH)) (a:U6 l) (w:World):∀ (es:List MapEntry) (L:List (U6 l × Value)) (m:Nat),es.map (fun e=>(e.key,e.val))=L.map (fun p=>(Value.agg ((p.1.1.map KV.av).map AV.scalV).toArray,p.2)) →
  (Instr.findAsking T (.agg ((a.1.map KV.av).map AV.scalV).toArray) es m).run P w=.ok (kE L a m) w
 | [],[],m,_=>by simp [Instr.findAsking,kE]
 | [],_ :: _,_,h=>by simp at h
 | _ :: _,[],_,h=>by simp at h
 | e :: es,p :: L,m,h=>by
  simp only [yu,List.cons.injEq,Prod.mk.injEq] at h;obtain ⟨⟨h1,h2⟩,h3⟩:=h;have ih:=S5 ht a w es L (m + 1) h3;have he:=K9 (P:=P) ht a p.1 w;simp only [Instr.findAsking,Sem.run_bind,h1,he,Result.andThen_ok,CJ,Sem.run_ite];by_cases hk:a=p.1
  ·simp [hk,h2]
  ·simp [hk,ih,-y5]
theorem KX {T:TypeId} {l:List (Option IntKind)} (ht:LO P T=some (l.map nH)):OM P T (fun a:U6 l=>Value.agg ((a.1.map KV.av).map AV.scalV).toArray) where
 check empty a w:=by
  obtain ⟨hk,hA⟩:=WN ht;exact (fL empty w 8 T _ hk 9992 _ 0 (by simp [<- a.2])).2 hA rfl
 find a es L w h:=by
  have hu:∃ desc,P.underlying T=some desc/\∀ x e,Instr.sameNow desc (.agg x) e=none:=by
   obtain ⟨hk,hA⟩:=WN ht;unfold DG at hA;cases hd:P.underlying T with
   | none=>rw [hd] at hA; cases hA
   | some desc =>
    refine ⟨desc,rfl,fun x e=>?_⟩;cases desc <;> rfl
  obtain ⟨desc,hu,hn⟩:=hu;cases es with
  | nil =>
   cases L with
   | nil=>simp [Instr.findKey,run_underlying hu,Instr.findNow]
   | cons=>simp at h
  | cons e es =>
   have:=S5 ht a w (e :: es) L 0 h;simp only [Instr.findKey,Sem.run_bind,run_underlying hu,Result.andThen_ok,Instr.findNow,hn,this,kE,yn]
 same a:=by
  have hq:∀ l:List KV,(((l.map KV.av).map AV.scalV).zip ((l.map KV.av).map AV.scalV)).all (fun (x,y)=>Instr.sameBits 9999 x y)=true:=by
   intro l
   induction l with
   | nil=>rfl
   | cons c r ih =>
    simp only [yu,List.zip_cons_cons,List.all_cons,ih,Bool.and_true];cases c <;> simp [KV.av,AV.scalV,Instr.sameBits,n0]
  show Instr.sameBits (9999 + 1) _ _=true;simp only [Instr.sameBits,beq_self_eq_true,Bool.true_and];exact hq a.1
theorem zero_run {e:TypeId} {z:AV} (h:((P.info? e).bind (·.zero)).bind W8=some z) (w:World):∃ zv,(zeroValue e).run P w=.ok zv w/\W8 zv=some z:=by
 obtain ⟨zv,h1,h2⟩:=y7.1 h;obtain ⟨i,hi,hz⟩:=y7.1 h1;exact ⟨zv,by simp [zeroValue,typeInfo,hi,hz],h2⟩
theorem dZ {κ:Type} [DecidableEq κ] {ke:κ->Value} {kx:κ->AV} {ty:z8} (R:fB P O nt B F0 aa w0 D s a w ι Θ) (K:aO ty κ ke kx) {t n:Nat} {v:Value} (hv:UA ι (QB aa ι Θ) (EB ι Θ) w (.mp t n) v) {L:List (List AV)} (hL:(s.obj t n).bind fG=some L) (hk:BJ ty L=true) :
  ∃ (b:Nat) (H:Nat->Prop) (M:List (κ × AV)),v=.map (some b)/\ι t n=some b/\ι.ob t n=some H/\(∀ x,H x ↔ x=b)/\L=M.map (fun p=>[kx p.1,p.2])/\(∀ p∈M,p.2.flat=true)/\PL ke w b (M.map fun p=>(p.1,p.2.flatV))/\∃ es clock,w.heap[b]?=some (.map es clock)/\EX es clock:=by
 obtain ⟨b,hb,rfl⟩:=hv;obtain ⟨S,hS,hm⟩:=y7.1 hL;obtain ⟨p,H,hp,kb,kc,_⟩:=R.objs t n S hS;rw [hb] at hp;injection hp with hp;subst hp;have bq:S=qF L:=by
  unfold fG at hm;split at hm
  ·injection hm with hm; subst hm; rfl
  ·cases hm
 subst bq;obtain ⟨hH,es,clock,he,lf,bd⟩:=(O.maps L H b w).1 kc;obtain ⟨M,rfl,hf⟩:=qX K L hk;exact ⟨b,H,M,rfl,hb,kb,hH,rfl,hf,⟨es,clock,he,lf.trans (wX K M)⟩,es,clock,he,bd⟩
theorem NW {κ:Type} [DecidableEq κ]:∀ {M:List (κ × AV)} {n:κ} {x:AV},(∀ p∈M,p.2.flat=true)->NH M n=some x->x.flat=true
 | [],_,_,_,h=>by cases h
 | p :: r,n,x,hf,h=>by
  unfold NH at h;split at h
  ·injection h with h; subst h; exact hf p yv
  ·exact NW (fun q hq=>hf q (yE _ hq)) h
theorem DU {κ:Type} [DecidableEq κ] {ke:κ->Value} {kx:κ->AV} {ty:z8} (R:fB P O nt B F0 aa w0 D s a w ι Θ) (K:aO ty κ ke kx) {T kT eT:TypeId} (KL:OM P kT ke) (hT:P.underlying T=some (.map kT eT)) {zero:AV} (hz:((P.info? eT).bind (·.zero)).bind W8=some zero) (hzf:zero.flat=true)
  {X I:Operand} {y i:iB} (hx:opd X=some y) (hi:opd I=some i) {ok:Bool} (ho:o.op=.lookup T X I ok) {t n:Nat} (hy:y.get s=.mp t n) {L:List (List AV)} (hL:(s.obj t n).bind fG=some L) (hk:BJ ty L=true) (tn:sG ty (i.get s)=true) :
  nP P aa a w ι Θ o ⟨if ok then .tup [(aH L (i.get s)).getD zero,.bool (aH L (i.get s)).isSome] else (aH L (i.get s)).getD zero,.no⟩:=by
 have hX:=(R.opd hx).1;have hI:=(R.opd hi).1;rw [hy] at hX;obtain ⟨b,H,M,hv,hb,kb,hH,rfl,hf,kc,_⟩:=dZ R K hX hL hk;obtain ⟨k,hkx⟩:=K.of _ tn;rw [hkx] at hI ⊢;have hkf:(kx k).flat=true:=K.flat k;have oy:a.eval I=ke k:=(uQ hkf hI).trans (K.val k);obtain ⟨zv,hzr,du⟩:=zero_run hz w;have hzv:=E8 du hzf;rw [eX K];have sg:(NH (M.map fun p=>(p.1,p.2.flatV)) k).getD zv=((NH M k).getD zero).flatV:=by
  rw [nU,hzv];cases NH M k <;> rfl
 have fi:((NH M k).getD zero).flat=true:=by
  cases hg:NH M k with
  | none=>exact hzf
  | some x=>exact NW hf hg
 cases ok with
 | false =>
  have ka:=kc.lookup KL hT hzr k;rw [sg] at ka;refine ⟨((NH M k).getD zero).flatV,by simp only [execOp,ho,hv,oy,Sem.run_bind,ka,Result.andThen_ok,Sem.run_pure],?_,trivial⟩;exact flat_S fi
 | true =>
  have ka:=kc.lookup_ok KL hT hzr k;rw [sg] at ka;have oj:(NH (M.map fun p=>(p.1,p.2.flatV)) k).isSome=(NH M k).isSome:=by rw [nU]; cases NH M k <;> rfl
  rw [oj] at ka;refine ⟨.tuple #[((NH M k).getD zero).flatV,.bool (NH M k).isSome],by simp only [execOp,ho,hv,oy,Sem.run_bind,ka,Result.andThen_ok,Sem.run_pure],?_,trivial⟩;refine ⟨_,rfl,_,_,rfl,?_,_,_,rfl,rfl,rfl⟩;exact DE (UK fi)
theorem PL.updateS {κ:Type} [DecidableEq κ] {P:Program} {T kT eT:TypeId} {ke:κ->Value} {w:World} {m:Nat} {L:List (κ × Value)} (h:PL ke w m L) (K:OM P kT ke) (hT:P.underlying T=some (.map kT eT)) {xz:Array MapEntry} {uz:Nat} (h0:w.heap[m]?=some (.map xz uz)) (bd:EX xz uz) (k:κ) (v:Value) :
  ∃ es clock,(Instr.mapUpdate T (.map (some m)) (ke k) v).run P w=.ok () { w with heap:=w.heap.setIfInBounds m (.map es clock) }/\es.toList.map (fun e=>(e.key,e.val))=(SW L k v).map (fun p=>(ke p.1,p.2))/\EX es clock:=by
 obtain ⟨es,clock,h1,h2⟩:=h;rw [h1] at h0;injection h0 with h0;injection h0 with e1 e2;subst e1;subst e2;obtain ⟨s1,s2⟩:=bd;have hg:(getObj m).run P w=.ok (.map es clock) w:=by simp [getObj,Sem.run,h1]
 have hf:=K.find k es.toList L w h2;have hi:=idx_set L k v;have hl:es.toList.length=L.length:=by simpa using congrArg List.length h2
 cases hq:(L.map (·.1)).idxOf? k with
 | none =>
  rw [hq] at hf hi;refine ⟨es.push { key:=ke k,val:=v,born:=clock },clock + 1,?_,by rw [hi]; simp [h2],by simp [s1],fun i h=>?_⟩
  case refine_2 =>
   simp only [Array.size_push] at h;simp only [Array.getElem_push];split
   ·exact s2 _ _
   ·show clock=i;omega
  case refine_1 =>
   simp only [Instr.mapUpdate,Sem.run_bind,run_underlying hT,Result.andThen_ok,hg,K.check,hf,Option.bind_none];simp [setObj,Sem.run,h1]
 | some i =>
  rw [hq] at hf hi;have hil:i<L.length:=by have:=List.idxOf?_eq_some_iff.1 hq; simpa using this.1
  have hk:(L[i]).1=k:=by have:=List.idxOf?_eq_some_iff.1 hq; simpa using this.2.1
  have dw:i<es.size:=by
   have:es.size=L.length:=by simpa using hl
   omega
  have tn:(es[i]).key=ke k:=by
   have:=congrArg (fun l=>(l[i]?).map (·.1)) h2;simp only [yh,Array.getElem?_toList,yQ dw,yp,yg hil,hk,Option.some.injEq] at this;exact this
  refine ⟨es.modify i fun e=>{ e with key:=ke k,val:=v },clock,?_,?_,by simp [s1],fun j h=>?_⟩
  case refine_3 =>
   simp only [Array.getElem_modify];split <;> exact s2 _ _
  case refine_1 =>
   have hL:L[i]?=some L[i]:=yg hil;have he:es[i]?=some es[i]:=yQ dw;simp only [Instr.mapUpdate,Sem.run_bind,run_underlying hT,Result.andThen_ok,hg,K.check,hf,J,hL,yp,he,Option.getD_some,tn];simp [Instr.keyThatStays,K.same,setObj,Sem.run,h1]
  case refine_2 =>
   rw [hi];apply List.ext_getElem?;intro j;have hj:=congrArg (fun l=>l[j]?) h2;simp only [yh,Array.getElem?_toList] at hj;simp only [yh,Array.getElem?_toList,Array.getElem?_modify,List.getElem?_set];by_cases gz:i=j
   ·subst gz;simp [yQ dw,hil]
   ·simp only [if_neg gz];exact hj
theorem SK {κ:Type} [DecidableEq κ] {ke:κ->Value} {kx:κ->AV} {ty:z8} (R:fB P O nt B F0 aa w0 D s a w ι Θ) (K:aO ty κ ke kx) {T kT eT:TypeId} (KL:OM P kT ke) (hT:P.underlying T=some (.map kT eT))
  {X I Y:Operand} {x i y:iB} (hx:opd X=some x) (hi:opd I=some i) (hyo:opd Y=some y) (ho:o.op=.mapUpdate T X I Y\/o.op=.insert T X I Y) (hd:∀ d,o.dst=some d->d<nt) {t n:Nat} (nc:x.get s=.mp t n) {L:List (List AV)} (hL:(s.obj t n).bind fG=some L) (hk:BJ ty L=true) (tn:sG ty (i.get s)=true) (hvf:(y.get s).flat=true) :
  ∃ w',(execOp a.eval o).run P w=.ok .skip w'/\SC P O nt B F0 aa w0 D ((s.setObj t n (qF (eG L (i.get s) (y.get s)))).put o.dst ⟨.undef,.no⟩) (a.put o.dst undef) w':=by
 have hX:=(R.opd hx).1;have hI:=(R.opd hi).1;have hY:=uQ hvf (R.opd hyo).1;rw [nc] at hX;obtain ⟨b,H,M,hv,hb,kb,hH,rfl,hf,kc,xz,uz,hes0,hst0⟩:=dZ R K hX hL hk;obtain ⟨k,hkx⟩:=K.of _ tn;rw [hkx] at hI ⊢;have hkf:(kx k).flat=true:=K.flat k;have oy:a.eval I=ke k:=(uQ hkf hI).trans (K.val k);have ia:=kc.lt;obtain ⟨es,clock,ka,lf,bd⟩:=kc.updateS KL hT hes0 hst0 k (y.get s).flatV;rw [AZ] at lf;have ph:O.at_ (qF (eG (M.map fun p=>[kx p.1,p.2]) (kx k) (y.get s))) H b { w with heap:=w.heap.setIfInBounds b (.map es clock) }:=by
  refine (O.maps _ _ _ _).2 ⟨hH,es,clock,by simp [ia],?_,bd⟩;rw [rX K,wX K];exact lf
 have wd:SA H w { w with heap:=w.heap.setIfInBounds b (.map es clock) }:=⟨rfl,rfl,rfl,by simp,fun j _ hn=>by
  have:j≠b:=fun e=>hn ((hH j).2 e)
  simp only [Array.getElem?_setIfInBounds];rw [if_neg fun e:b=j=>this e.symm]⟩
 obtain ⟨ι',R2,_⟩:=R.turnObj hb kb ph (EY.no rfl) (fun x hx=>.inl hx) wd;refine ⟨_,by rcases ho with ho | ho <;> simp only [execOp,ho,hv,oy,hY,Sem.run_bind,ka,Result.andThen_ok,Sem.run_pure],ι',Θ,R2.putN (x:=⟨.undef,.no⟩) hd trivial trivial⟩
section
variable (R:fB P O nt B F0 aa w0 D s a w ι Θ)
include R
theorem op_mkm {T:TypeId} (ho:o.op=.makeMap T none) {d:Nat} (ja:o.dst=some d) (hd:d<nt) (hD:¬ D d) :
  ∃ v w',(execOp a.eval o).run P w=.ok (.value v) w'/\SC P O nt B F0 aa w0 (fun t=>D t\/t=d) ((s.setObj d s.next (qF [])).put (some d) ⟨.mp d s.next,.no⟩) (a.put o.dst v) w':=by
 have ka:(execOp a.eval o).run P w=.ok (.value (.map (some w.heap.size))) (w.alloc (.map #[] 0)):=by
  simp [execOp,ho,Instr.makeMap]
 have hb:Below w.heap.size w (w.alloc (.map #[] 0)):=Below.alloc (Below.refl _ _) (ye _) _;obtain ⟨ι',R2,hι,_⟩:=R.newObj (d:=d) (p:=w.heap.size) (H:=fun b=>b=w.heap.size) (S:=qF []) hb hD ((O.maps _ _ _ _).2 ⟨fun b=>Iff.rfl,#[],0,tP rfl,rfl,rfl,fun i h=>absurd h (by simp)⟩) (EY.no rfl) (fun b h=>Nat.le_of_eq h.symm);rw [ja];exact ⟨_,_,ka,ι',Θ,R2.put (x:=⟨.mp d s.next,.no⟩) hd ⟨_,hι,rfl⟩ trivial⟩
theorem op_rng {T kT eT:TypeId} (hT:P.underlying T=some (.map kT eT)) {X:Operand} {x:iB} (hx:opd X=some x) (ho:o.op=.range T X) {t n:Nat} (nc:x.get s=.mp t n) {L:List (List AV)} (hL:(s.obj t n).bind fG=some L) {d:Nat} (ja:o.dst=some d) (hd:d<nt) (hD:¬ D d) :
  ∃ v w',(execOp a.eval o).run P w=.ok (.value v) w'/\SC P O nt B F0 aa w0 (fun t=>D t\/t=d) ((s.setObj d s.next (HX t n L.length [])).put (some d) ⟨.ptr d s.next 0,.no⟩) (a.put o.dst v) w':=by
 have hX:=(R.opd hx).1;rw [nc] at hX;obtain ⟨b,hb,hv⟩:=hX;obtain ⟨S,hS,hm⟩:=y7.1 hL;obtain ⟨p,H,hp,kb,kc,_⟩:=R.objs t n S hS;rw [hb] at hp;injection hp with hp;subst hp;have bq:S=qF L:=by
  unfold fG at hm;split at hm
  ·injection hm with hm; subst hm; rfl
  ·cases hm
 subst bq;obtain ⟨hH,es,clock,he,lf,hc,_⟩:=(O.maps L H b w).1 kc;have ea:es.size=L.length:=by simpa using congrArg List.length lf
 have hg:(getObj b).run P w=.ok (.map es clock) w:=by simp [getObj,Sem.run,he]
 have ka:(execOp a.eval o).run P w=.ok (.value (.pointer (some ⟨w.heap.size,0,none⟩))) (w.alloc (.mapIter (some b) clock #[] clock)):=by
  simp only [execOp,ho,hv,Instr.range,Sem.run_bind,run_underlying hT,Result.andThen_ok,hg,Sem.run_pure,run_newObj_alloc]
 have wi:Below w.heap.size w (w.alloc (.mapIter (some b) clock #[] clock)):=Below.alloc (Below.refl _ _) (ye _) _;obtain ⟨ι',R2,hι,_⟩:=R.newObj (d:=d) (p:=w.heap.size) (H:=fun b=>b=w.heap.size) (S:=HX t n L.length []) wi hD ((O.iters _ _ _ _ (by rw [CT]; rfl)).2 ⟨fun b=>Iff.rfl,by simp⟩) (fun tm nm N seen e=>by
  rw [CT] at e;injection e with e;injection e with g1 e;injection e with g2 e;injection e with g3 g4;subst g1; subst g2; subst g3; subst g4;exact ⟨b,H,hb,kb,by rw [<- ea,<- hc]; exact tP rfl⟩) (fun b h=>Nat.le_of_eq h.symm)
 rw [ja];exact ⟨_,_,ka,ι',Θ,R2.put (x:=⟨.ptr d s.next 0,.no⟩) hd ⟨_,hι,rfl⟩ trivial⟩
theorem val_ent {X:Operand} {x:iB} (hx:opd X=some x) (ho:o.op=.entry X) {t n tm nm N:Nat} {seen:List Nat} (nc:x.get s=.ptr t n 0) (hi:(s.obj t n).bind TU=some (tm,nm,N,seen)) {L:List (List AV)} (hL:(s.obj tm nm).bind fG=some L) {i:Nat} (hl:seen.getLast?=some i) (hN:L.length=N) {y v:AV} (bj:L[i]?=some [y,v]) (sh:(y.flat&&v.flat)=true) :
  nP P aa a w ι Θ o ⟨.tup [y,v],.no⟩:=by
 have hX:=(R.opd hx).1;rw [nc] at hX;obtain ⟨q,hq,hv⟩:=hX;obtain ⟨S,hS,ez⟩:=y7.1 hi;obtain ⟨p,H,hp,kb,kc,si⟩:=R.objs t n S hS;rw [hq] at hp;injection hp with hp;subst hp;obtain ⟨m,Hm,hm,zw,na⟩:=si tm nm N seen ez;obtain ⟨S2,hS2,xl⟩:=y7.1 hL;obtain ⟨p2,H2,dj,oo,ms,_⟩:=R.objs tm nm S2 hS2;rw [hm] at dj;injection dj with dj;subst dj;have bq:S2=qF L:=by
  unfold fG at xl;split at xl
  ·injection xl with xl; subst xl; rfl
  ·cases xl
 subst bq;obtain ⟨hH2,es,clock,he,lf,hc,bd⟩:=(O.maps L H2 m w).1 ms;have tv:es.size=N:=by rw [<- hN]; simpa using congrArg List.length lf
 have zy:(getObj q).run P w=.ok (.mapIter (some m) N seen.toArray N) w:=by simp [getObj,Sem.run,na]
 have xy:(getObj m).run P w=.ok (.map es clock) w:=by simp [getObj,Sem.run,he]
 have uq:i<es.size:=by
  have:=(yq.1 bj).1;omega
 have fl:seen.toArray.back?=some i:=by simpa using hl
 have gw:es.find? (fun e=>e.born == i)=some es[i]:=by
  rw [Array.find?_eq_some_iff_getElem];refine ⟨by simp [bd i uq],i,uq,rfl,fun j hj=>?_⟩;simp only [bd j (by omega),Bool.not_eq_true'];simp;omega
 have jw:es[i].key=y.flatV/\es[i].val=v.flatV:=by
  have:=congrArg (fun l=>l[i]?) lf;simp only [yh,bj,Array.getElem?_toList,yQ uq,yp,Option.some.injEq,G9] at this;exact ⟨congrArg Prod.fst this,congrArg Prod.snd this⟩
 rw [yc] at sh;have md:(clock != N)=false:=by simp [hc,tv]
 refine ⟨.tuple #[y.flatV,v.flatV],?_,?_,trivial⟩
 ·simp only [execOp,ho,hv,Instr.entry,Sem.run_bind,zy,xy,fl,Result.andThen_ok,md,yC,if_false,gw,jw.1,jw.2,Sem.run_pure]
 ·exact ⟨_,rfl,_,_,rfl,DE (UK sh.1),_,_,rfl,DE (UK sh.2),rfl⟩
end
theorem F6 {v:Value} (h:XV v=some .nilP):v=.pointer none:=by
 unfold XV at h;split at h <;> first | rfl | (injection h with h; cases h; done) | (cases h; done)
theorem R8 {v:Value} (h:XV v=some (.sl true [])):v=.slice none 0 0:=by
 unfold XV at h;split at h <;> first | rfl | (injection h with h; cases h; done) | (cases h; done)
theorem isBld_eq {l:List AV} (h:G5 l=true):l=[.nilP,.sl true []]:=by
 unfold G5 at h;split at h
 ·rfl
 ·cases h
theorem D6 {vs:List Value} (h:UH vs=some [.nilP,.sl true []]):vs=[.pointer none,.slice none 0 0]:=by
 cases vs with
 | nil=>cases h
 | cons v r =>
  simp only [UH] at h;split at h
  ·rename_i x l hx hl;injection h with h;injection h with h1 h2;subst h1;subst h2;cases r with
   | nil=>cases hl
   | cons v' r' =>
    simp only [UH] at hl;split at hl
    ·rename_i x' l' ti wn;injection hl with hl;injection hl with h1 h2;subst h1;subst h2;cases r' with
     | nil=>rw [F6 hx,R8 ti]
     | cons v'' r'' =>
      simp only [UH] at wn;split at wn <;> cases wn
    ·cases hl
  ·cases h
section
variable (R:fB P O nt B F0 aa w0 D s a w ι Θ)
include R
theorem op_mkb {T e:TypeId} (eb:L8 P T=some e) (ho:o.op=.alloc T) {d:Nat} (ja:o.dst=some d) (hd:d<nt) (hD:¬ D d) :
  ∃ v w',(execOp a.eval o).run P w=.ok (.value v) w'/\SC P O nt B F0 aa w0 (fun t=>D t\/t=d) ((s.setObj d s.next (E5 T e ⟨#[]⟩)).put (some d) ⟨.ptr d s.next 0,.no⟩) (a.put o.dst v) w':=by
 obtain ⟨l,hl,hb⟩:∃ l,FG P T=some l/\G5 l=true:=by
  unfold L8 at eb;split at eb
  ·rename_i h; exact yf.1 h
  ·cases eb
 obtain ⟨z,i,hi,sk,hrz,jy⟩:=mE hl w;rw [isBld_eq hb] at jy;have du:z.cells=#[.pointer none,.slice none 0 0]:=by
  apply Array.ext';exact D6 jy
 have ka:(execOp a.eval o).run P w=.ok (.value (.pointer (some ⟨w.heap.size,0,none⟩))) (w.alloc (.cells #[.pointer none,.slice none 0 0] T)):=by
  simp [execOp,ho,Instr.alloc,newVar,newRow,hrz,du]
 have hb:Below w.heap.size w (w.alloc (.cells #[.pointer none,.slice none 0 0] T)):=Below.alloc (Below.refl _ _) (ye _) _;obtain ⟨ι',R2,hι,_⟩:=R.newObj (d:=d) (p:=w.heap.size) (H:=fun b=>b=w.heap.size) (S:=E5 T e ⟨#[]⟩) hb hD ((O.blds _ _ _ _ _ _).2 ⟨.slice none 0 0,.pointer none,tP rfl,.inl rfl,World.ownsRowF_nil _ _ _ _,by simp [Value.ownBlock],fun b=>by simp [Value.ownBlock]⟩) (EY.no rfl) (fun b h=>Nat.le_of_eq h.symm);rw [ja];exact ⟨_,_,ka,ι',Θ,R2.put (x:=⟨.ptr d s.next 0,.no⟩) hd ⟨_,hι,rfl⟩ trivial⟩
theorem op_mlen {T:TypeId} {kT eT:TypeId} (hT:P.underlying T=some (.map kT eT)) {X:Operand} {x:iB} (hx:opd X=some x) (ho:o.op=.call { callee:=.builtin .len,args:=#[X],argTypes:=#[T] }) {t n:Nat} (nc:x.get s=.mp t n) {L:List (List AV)} (hL:(s.obj t n).bind fG=some L) :
  nP P aa a w ι Θ o ⟨.int .i64 L.length,.no⟩:=by
 have hX:=(R.opd hx).1;rw [nc] at hX;obtain ⟨b,hb,hv⟩:=hX;obtain ⟨S,hS,hm⟩:=y7.1 hL;obtain ⟨p,H,hp,kb,kc,_⟩:=R.objs t n S hS;rw [hb] at hp;injection hp with hp;subst hp;have bq:S=qF L:=by
  unfold fG at hm;split at hm
  ·injection hm with hm; subst hm; rfl
  ·cases hm
 subst bq;obtain ⟨hH,es,clock,he,lf,_⟩:=(O.maps L H b w).1 kc;have ea:es.size=L.length:=by simpa using congrArg List.length lf
 have hg:(getObj b).run P w=.ok (.map es clock) w:=by simp [getObj,Sem.run,he]
 refine ⟨.int .i64 L.length,?_,by rw [PA],trivial⟩;simp [execOp,ho,resolve,invoke,builtin,Builtin.len_,run_underlying hT,hv,hg,goInt,ea]
theorem fB.turnNew {t n p:Nat} {H H':Nat->Prop} {S':AV} (hp:ι t n=some p) (kb:ι.ob t n=some H) (kc:O.at_ S' H' p w') (si:EY ι S' p w') (hH:∀ b,H' b->H b\/w.heap.size<=b) (hk:SA H w w')
  {d g:Nat} (hD:¬ D d) (hg:w.heap.size<=g) (hgH:¬ H' g) {cur:Array Value} {ty:TypeId} (hgw:w'.heap[g]?=some (.cells cur ty (0,0))) {l:List AV} (hl:l.all AV.scal=true) (fe:∀ (j:Nat) (x:AV),l[j]?=some x->cur[j]?=some x.scalV) (wh:l.length<=cur.size) :
  ∃ ι':Ix,fB P O nt B F0 aa w0 (fun j=>D j\/j=d) ((s.setObj t n S').setRow d s.next (l.map (⟨·,.no⟩))) a w' ι' Θ/\ι' d s.next=some g/\ι'.z g=cur.size:=by
 obtain ⟨uk,oo⟩:=R.obs t n H kb;have gt:=dA hgw;have dd:ι d s.next=none:=by
  cases h:ι d s.next with
  | none=>rfl
  | some b =>
   rcases (R.mine _ _ _ h).2.2 with h1 | h1
   ·omega
   ·exact absurd h1.2 hD
 have ed:ι.ob d s.next=none:=by
  cases h:ι.ob d s.next with
  | none=>rfl
  | some b =>
   rcases (R.obs _ _ _ h).2 with h1 | h1
   ·omega
   ·exact absurd h1.2 hD
 have tw:¬ (t=d/\n=s.next):=fun e=>by rw [e.1,e.2,dd] at hp; cases hp
 obtain ⟨ι',hι'⟩:∃ ι':Ix,ι'=⟨fun t' n'=>if t'=d/\n'=s.next then some g else ι t' n',fun t' n'=>if t'=t/\n'=n then some H' else ι.ob t' n',fun b=>if b=g then cur.size else ι.z b⟩:=⟨_,rfl⟩;have hf:∀ t' n' b,ι' t' n'=some b->(t'=d/\n'=s.next/\b=g)\/(¬ (t'=d/\n'=s.next)/\ι t' n'=some b):=fun t' n' b h=>by
  subst hι';have h':(if t'=d/\n'=s.next then some g else ι t' n')=some b:=h;split at h'
  ·rename_i e; injection h' with h'; exact .inl ⟨e.1,e.2,h'.symm⟩
  ·rename_i e; exact .inr ⟨e,h'⟩
 have ch:∀ t' n' H1,ι'.ob t' n'=some H1->(t'=t/\n'=n/\H1=H')\/(¬ (t'=t/\n'=n)/\ι.ob t' n'=some H1):=fun t' n' H1 h=>by
  subst hι';simp only at h;split at h
  ·rename_i e; injection h with h; exact .inl ⟨e.1,e.2,h.symm⟩
  ·rename_i e; exact .inr ⟨e,h⟩
 have wc:∀ t n b,ι t n=some b->ι' t n=some b:=fun t n b h=>by
  subst hι';show (if t=d/\n=s.next then some g else ι t n)=some b;split
  ·rename_i e; rw [e.1,e.2,dd] at h; cases h
  ·exact h
 have fc:ι' d s.next=some g:=by subst hι'; show (if d=d/\s.next=s.next then some g else ι d s.next)=_; rw [if_pos ⟨rfl,rfl⟩]
 have er:ι'.ob t n=some H':=by subst hι'; simp
 have po:∀ t' n',¬ (t'=t/\n'=n)->ι'.ob t' n'=ι.ob t' n':=fun t' n' e=>by subst hι'; simp only [if_neg e]
 have uu:ι'.z g=cur.size:=by subst hι'; simp
 have og:∀ t1 n1 b1 H1,ι t1 n1=some b1->ι.ob t1 n1=some H1->ι' t1 n1=some b1/\∃ H2,ι'.ob t1 n1=some H2:=fun t1 n1 b1 H1 g1 g2=>⟨wc _ _ _ g1,by
  by_cases e:t1=t/\n1=n
  ·exact ⟨H',by rw [e.1,e.2]; exact er⟩
  ·exact ⟨H1,by rw [po _ _ e]; exact g2⟩⟩
 have tb:Ix.Le ι ι':=⟨wc,fun t n b h=>by
  have:=(R.mine t n b h).2.1;subst hι';show (if b=g then cur.size else ι.z b)=ι.z b;rw [if_neg (by omega)]⟩
 clear hι';have ac:=hk.size;have rl:=R.lowB;have zg:∀ b o,b<w.heap.size->EB ι' Θ b o->EB ι Θ b o:=fun b o hb h=>h.imp (fun h=>h.imp (fun ⟨t',n',h⟩=>by
  rcases hf _ _ _ h with ⟨_,_,e⟩ | ⟨_,h⟩
  ·omega
  ·exact ⟨t',n',h⟩) fun ⟨t',n',H1,h1,h2⟩=>by
  rcases ch _ _ _ h1 with ⟨e1,e2,e3⟩ | ⟨_,h1⟩
  ·subst e3;rcases hH b h2 with h3 | h3
   ·exact ⟨t,n,H,kb,h3⟩
   ·omega
  ·exact ⟨t',n',H1,h1,h2⟩) id
 have rb:∀ b o u,w.cell? ⟨b,o,none⟩=some u->¬ H b->w'.cell? ⟨b,o,none⟩=some u:=fun b o u hc hn=>(World.cell?_of_block (w:=w) (a:=⟨b,o,none⟩) (hk.block b (ED hc) hn)).trans hc
 have hB:TA (EB ι Θ) (EB ι' Θ) w w':=⟨fun b o u hc hn=>⟨rb b o u hc fun h=>hn (.inl (.inr ⟨t,n,H,kb,h⟩)),fun h=>hn (zg b o (ED hc) h)⟩⟩;have hA:TA (QB aa ι Θ) (QB aa ι' Θ) w w':=⟨fun b o u hc hn=>⟨rb b o u hc fun h=>hn (.inr (.inl (.inr ⟨t,n,H,kb,h⟩))),fun h=>hn (h.imp id (zg b o (ED hc)))⟩⟩;refine ⟨ι',⟨R.defers,R.size,fun j=>UA.held tb hA hB _ _ (R.env j),R.ann,fun t' n' r hr=>?_,fun t' n' b h=>?_,fun t1 n1 t2 n2 b h h'=>?_,fun k o h=>?_,R.tinj,fun k o t' n' h h'=>?_,R.out,fun p' h=>⟨wc _ _ _ (R.pin p' h).1,?_⟩,?_,R.base,fun t' n' S1 h=>?_,fun t' n' H1 h=>?_,fun j=>UA.held tb hA hB _ _ (R.gen j),R.gann⟩,fc,uu⟩
 ·simp only [uA.setRow] at hr;split at hr
  ·rename_i e;injection hr with hr;subst hr;have hoo:ι'.ob t' n'=none:=by
    rw [po t' n' (fun e'=>tw ⟨e'.1.symm.trans e.1,e'.2.symm.trans e.2⟩),e.1,e.2];exact ed
   refine ⟨hoo,g,cur,ty,by rw [e.1,e.2]; exact fc,hgw,⟨by simpa using wh,fun j x hx=>?_⟩,by omega,uu.symm⟩;rw [yh] at hx;cases hj:l[j]? with
   | none=>rw [hj] at hx; cases hx
   | some y =>
    rw [hj] at hx;injection hx with hx;subst hx;have hy:=y8.1 hl y (List.mem_of_getElem? hj);have hr:=NK (av:=QB aa ι' Θ) (w:=w') hy;exact ⟨_,fe j y hj,hr.2,RH hr.1,trivial⟩
  ·have tt:s.mem t' n'=some r:=hr;obtain ⟨h0,b,ra,uf,h1,h2,h3,h8,h9⟩:=R.rows t' n' r tt;have jb:¬ (t'=t/\n'=n):=fun e=>by rw [e.1,e.2,kb] at h0; cases h0
   have hbn:¬ H b:=fun hb=>jb ((uk b hb).2.2.1 t' n' h1)
   exact ⟨by rw [po _ _ jb]; exact h0,b,ra,uf,wc _ _ _ h1,(hk.block b (dA h2) hbn).trans h2,h3.held tb hA (fun _ _ h=>h),h8,h9.trans (tb.z _ _ _ h1).symm⟩
 ·rcases hf _ _ _ h with ⟨e1,e2,e3⟩ | ⟨_,h⟩
  ·subst e3;exact ⟨.inl (by omega),gt,.inr ⟨e2,.inr e1⟩⟩
  ·obtain ⟨h1,h2,h3⟩:=R.mine t' n' b h;exact ⟨h1,by omega,h3.imp id fun ⟨e,d⟩=>⟨e,.inl d⟩⟩
 ·rcases hf _ _ _ h with ⟨e1,e2,e3⟩ | ⟨_,h⟩ <;> rcases hf _ _ _ h' with ⟨f1,f2,f3⟩ | ⟨_,h'⟩
  ·exact ⟨e1.trans f1.symm,e2.trans f2.symm⟩
  ·have:=(R.mine _ _ _ h').2.1; omega
  ·have:=(R.mine _ _ _ h).2.1; omega
  ·exact R.inj _ _ _ _ _ h h'
 ·obtain ⟨h1,h2,h3,h4,ra,h5,h6⟩:=R.tok k o h;exact ⟨h1,h2,h3,h4,ra,(hk.block _ (dA h5) (R.apob h kb)).trans h5,h6⟩
 ·obtain ⟨_,_,_,_,ra,h5,_⟩:=R.tok k o h;have ia:=dA h5;rcases hf _ _ _ h' with ⟨_,_,e⟩ | ⟨_,h'⟩
  ·omega
  ·exact R.apart k o t' n' h h'
 ·rcases (R.pin p' h).2 with ut | ⟨H1,h1⟩
  ·exact .inl ⟨ut.1,(tb.z _ _ _ (R.pin p' h).1).trans ut.2⟩
  refine .inr ?_;by_cases e:0=t/\0=n
  ·exact ⟨H',by rw [<- e.1,<- e.2] at er; exact er⟩
  ·exact ⟨H1,by rw [po _ _ e]; exact h1⟩
 ·refine R.kept.trans hk fun i hi h=>?_
  have:=R.base;rcases (uk i h).1 with h1 | h1
  ·omega
  ·exact h1
 ·simp only [uA.setRow,uA.setObj] at h;split at h
  ·rename_i e;injection h with h;subst h;exact ⟨p,H',by rw [e.1,e.2]; exact wc _ _ _ hp,by rw [e.1,e.2]; exact er,kc,si.keep og fun x hx=>hx⟩
  ·rename_i e;obtain ⟨p1,H1,h1,h2,h3,h4⟩:=R.objs t' n' S1 h;have xj:∀ b,H1 b->¬ H b:=fun b hb gb=>e ((uk b gb).2.2.2.2 t' n' H1 h2 hb)
   exact ⟨p1,H1,wc _ _ _ h1,by rw [po _ _ e]; exact h2,O.keep h3 (fun b hb=>hk.block b (O.lt h3 hb) (xj b hb)) ac,h4.keep og fun x hx=>(hk.block _ (dA hx) (xj _ (O.main h3))).trans hx⟩
 ·rcases ch _ _ _ h with ⟨e1,e2,e3⟩ | ⟨e,h⟩
  ·subst e1; subst e2; subst e3;refine ⟨fun b hb=>?_,oo.imp id fun ⟨e,d⟩=>⟨e,.inl d⟩⟩;have ry:b≠g:=fun e=>hgH (e ▸ hb)
   rcases hH b hb with h1 | h1
   ·obtain ⟨g1,g2,g3,g4,g5⟩:=uk b h1;refine ⟨g1,by omega,fun t1 n1 h2=>?_,g4,fun t1 n1 H2 h2 h3=>?_⟩
    ·rcases hf _ _ _ h2 with ⟨_,_,e⟩ | ⟨_,h2⟩
     ·exact absurd e ry
     ·exact g3 t1 n1 h2
    ·rcases ch _ _ _ h2 with ⟨e1,e2,_⟩ | ⟨_,h2⟩
     ·exact ⟨e1,e2⟩
     ·exact g5 t1 n1 H2 h2 h3
   ·refine ⟨.inl (by omega),O.lt kc hb,fun t1 n1 h2=>?_,fun k o h2 e=>?_,fun t1 n1 H2 h2 h3=>?_⟩
    ·rcases hf _ _ _ h2 with ⟨_,_,e⟩ | ⟨_,h2⟩
     ·exact absurd e ry
     ·have:=(R.mine _ _ _ h2).2.1; omega
    ·obtain ⟨_,_,_,_,ra,h5,_⟩:=R.tok k o h2; have:=dA h5; omega
    ·rcases ch _ _ _ h2 with ⟨e1,e2,_⟩ | ⟨_,h2⟩
     ·exact ⟨e1,e2⟩
     ·have:=((R.obs _ _ _ h2).1 b h3).2.1; omega
  ·obtain ⟨h1,h2⟩:=R.obs t' n' H1 h;refine ⟨fun b hb=>?_,h2.imp id fun ⟨e,d⟩=>⟨e,.inl d⟩⟩;obtain ⟨g1,g2,g3,g4,g5⟩:=h1 b hb;refine ⟨g1,by omega,fun t1 n1 h2=>?_,g4,fun t1 n1 H2 h2 h3=>?_⟩
   ·rcases hf _ _ _ h2 with ⟨_,_,e'⟩ | ⟨_,h2⟩
    ·omega
    ·exact g3 t1 n1 h2
   ·rcases ch _ _ _ h2 with ⟨e1,e2,e3⟩ | ⟨_,h2⟩
    ·subst e3;rcases hH b h3 with h4 | h4
     ·have:=g5 t n H kb h4;exact absurd ⟨this.1.symm,this.2.symm⟩ e
     ·omega
    ·exact g5 t1 n1 H2 h2 h3
theorem op_callf {call:LA} (za:∀ f args S r,call f args S=some r->DA P O f args S r) {f:FuncId} {Xs:Array Operand} {ts:Array TypeId} {xs:List iB} (hx:MD Xs.toList=some xs) (ho:o.op=.call { callee:=.value (.func f),args:=Xs,argTypes:=ts }) (hd:∀ d,o.dst=some d->d<nt) (hD:∀ d,o.dst=some d->¬ D d) {cl:Cl} {sz:Nat} (ac:0<sz) {xe:wA × tC} (hr:(K.callf cl f sz xs).run call s=some xe) {g} {s':uA} (he:kA.eff ⟨o.dst,.callf cl f sz xs,g⟩ s xe=some s')
  {Kn:Act->World->Prop} {Q:Exit->Act->World->Prop} (hK:∀ a' w',SC P O nt B F0 aa w0 (fun t=>D t\/o.dst=some t) s' a' w'->Kn a' w'):o.wp P a w Kn Q:=by
 simp only [K.run] at hr;obtain ⟨vs,hl,hr⟩:=y7.1 hr;have wj:(Xs.toList.map a.eval).toArray=Xs.map a.eval:=by rw [<- Array.toList_map,yM]
 have bh:∀ b o,QB aa ι Θ b o->b<w.heap.size:=fun b o h=>R.low h
 split at hr
 ·rename_i t n dg;obtain ⟨r,hc,hr⟩:=y7.1 hr;split at hr
  ·rename_i l S';split at hr
   ·rename_i ba;obtain ⟨oj,jk,ax,nu⟩:=ba;obtain ⟨S,hS⟩:=Option.isSome_iff_exists.1 oj;rw [hS] at hc;have sa:pF P O f vs (some S) (.sl false l,some S'):=DA.own (AK hl) (za f (.undef :: vs) (some S) _ hc);obtain ⟨p,H,hp,kb,kc,_⟩:=R.objs t n S hS;have ua:=NE (ι':=Ix.one p) (avl:=fun b _=>H b) R (fun b _ h=>⟨t,n,H,kb,h⟩) hx hl fun x hx t' n' h=>by
     have:(t',n')∈WE s xs:=List.mem_filterMap.2 ⟨x,hx,by rw [h]⟩;rw [dg] at this;have:=List.mem_singleton.1 this;injection this with e1 e2;rw [e1,e2,hp];rfl
    have ka:(execOp a.eval o).run P w=.ok (.enter f (Xs.map a.eval)) w:=by
     simp only [execOp,ho,resolve,Act.eval,Deferred.ofValue,Sem.run_bind,Sem.run_pure,Result.andThen_ok,invoke];have:=sa.1 (#[]++Xs.map a.eval++#[]) w;simp only [Array.empty_append,Array.append_empty] at this ⊢;exact this
    unfold Oper.wp;rw [ka,Oper.upon_enter];have hC:=sa.2 (QB aa ι Θ) w _ p H bh (fun b o h=>.inr (.inl (.inr ⟨t,n,H,kb,h⟩))) kc ua;rw [wj] at hC;refine hC.mono ?_;rintro e w' ⟨v,H',rfl,hv,ph,hH,hk⟩;split at hr
    ·rename_i mi;injection hr with hr;subst hr;simp only [kA.eff] at he;injection he with he;subst he;have cf:l=[]:=by simpa using mi
     subst cf;obtain ⟨ι',R',tc⟩:=R.turnObj hp kb ph (EY.no nu) hH hk;have wx:∃ A c,v=.slice A 0 c/\(A=none->c=0):=by
      rcases hv with ⟨_,A,c,h1,h2⟩ | ⟨g,c,cur,ty,h1,_⟩
      ·exact ⟨A,c,h1,h2⟩
      ·exact ⟨_,c,h1,fun h=>by cases h⟩
     obtain ⟨A,c,rfl,hA⟩:=wx;refine hK _ _ ⟨ι',Θ,(R'.putN (x:=⟨.sl false [],.no⟩) hd ?_ trivial).more fun _ h=>.inl h⟩;rw [NB];simp only [JC,List.length_nil];exact ⟨A,c,rfl,Nat.zero_le _,(fun x hx=>by cases hx),(fun h=>by cases h),fun _=>⟨hA,fun h=>absurd h (Nat.lt_irrefl 0)⟩⟩
    ·rename_i mi;injection hr with hr;subst hr;cases ja:o.dst with
     | none=>simp [kA.eff,ja] at he
     | some d =>
      simp only [kA.eff,ja] at he;injection he with he;subst he;have jb:l≠[]:=fun h=>mi (by simp [h])
      have ub:0<l.length:=List.length_pos_iff.2 jb;rcases hv with ⟨h0,_⟩ | ⟨g,c,cur,ty,rfl,h2,h3,h4,h5,h6,h7⟩
      ·exact absurd h0 jb
      ·have rh:=h6 sz jk ub;have sh:l.flatten.length=l.length * sz:=by
        have hind:∀ q:List (List AV),OA sz q=true->q.flatten.length=q.length * sz:=fun q=>by
         induction q with
         | nil=>simp
         | cons c r ih =>
          intro h;rw [XC] at h;simp only [yc,decide_eq_true_eq] at h;rw [yy,yb,ih h.2,h.1,yD,yB];omega
        exact hind l jk
       have hsc:l.flatten.all AV.scal=true:=by
        rw [List.all_flatten];exact ax
       obtain ⟨ι',R',hι,hz⟩:=R.turnNew (d:=d) (g:=g) hp kb ph (EY.no nu) hH hk (hD d ja) h2 h3 h4 hsc h7 (by rw [sh]; exact Nat.le_trans (yO _ h5) rh);refine hK _ _ ⟨ι',Θ,?_⟩;rw [ja];exact (R'.put (x:=⟨.ref d s.next sz 0 l.length l.length,.no⟩) (hd d ja) ⟨g,hι,ye _,c,h5,by rw [hz,yn]; exact rh,rfl⟩ trivial).more fun t h=>h.imp id fun e=>by rw [e]
   ·cases hr
  ·cases hr
 ·cases hr
end
end
end
section
open Go Go.RowKit
section
variable {P:Program} {O:JD} {nt B:Nat} {F0:AL} {aa:Av} {w0:World} {D:Nat->Prop} {s:uA} {a:Act} {w w':World} {ι:Ix} {Θ:lH} {o:Oper}
def O2 (s:uA) (av:Av) (ι:Ix):Av:=fun b o=>av b o/\¬ ∃ t n r,s.mem t n=some r/\ι t n=some b
theorem IA.frz1 {D:Nat->Prop} {ι:Ix} {Θ:lH} (R:fB P O nt B F0 aa w0 D s a w ι Θ) {x:AV} {u:Value} (h:IA ι (QB aa ι Θ) w x u):IA ι (O2 s (QB aa ι Θ) ι) w (x.frz1 s) u:=by
 have less:TA (QB aa ι Θ) (O2 s (QB aa ι Θ) ι) w w:=TA.less fun b o h=>h.1
 have same:=IA.held (Ix.Le.refl ι) less x u h;cases x with
 | ref t n sz off len c =>
  simp only [AV.frz1];split
  ·rename_i l hl;obtain ⟨r,hm,hl⟩:=y7.1 hl;obtain ⟨b,hb,tb,cc,af,hz,hv⟩:=h;obtain ⟨sd,b',cur,ty,gb,na,oa,_⟩:=R.rows t n r hm;rw [hb] at gb;injection gb with gb;subst gb;obtain ⟨h1,h2,us,hL,fd⟩:=eF oa na hl;subst h1;show JC _ w (.sl false l) u;simp only [JC];refine ⟨_,cc,hv,Nat.le_trans tb af,fun x hx y hy=>(h2 x hx).trans (h2 y hy).symm,(fun h=>by cases h),fun _=>⟨fun h=>(by cases h),fun _=>⟨b,off,rfl,?_⟩⟩⟩;rw [qD];exact EH (KA.held less _ _ hL) fun j u hj=>⟨fd j u hj,fun h=>h.2 ⟨t,n,r,hm,hb⟩⟩
  ·exact same
 | _=>exact same
theorem QA.frz1 {D:Nat->Prop} {ι:Ix} {Θ:lH} (R:fB P O nt B F0 aa w0 D s a w ι Θ):∀ {xs:List AV} {us:List Value},QA ι (QB aa ι Θ) w xs us->QA ι (O2 s (QB aa ι Θ) ι) w (xs.map (AV.frz1 s)) us
 | [],_,h=>h
 | x :: r,_,h=>by
  simp only [QA] at h;obtain ⟨u,wa,rfl,h0,h1,h⟩:=h;exact ⟨u,wa,rfl,h0.frz1 R,h1,h.frz1 R⟩
theorem IA.frz {D:Nat->Prop} {ι:Ix} {Θ:lH} (R:fB P O nt B F0 aa w0 D s a w ι Θ) {x:AV} {u:Value} (h:IA ι (QB aa ι Θ) w x u):IA ι (O2 s (QB aa ι Θ) ι) w (x.frz0 s) u:=by
 have less:TA (QB aa ι Θ) (O2 s (QB aa ι Θ) ι) w w:=TA.less fun b o h=>h.1
 have same:=IA.held (Ix.Le.refl ι) less x u h;cases x with
 | ref t n sz off len c =>
  simp only [AV.frz0];split
  ·rename_i l hl;obtain ⟨r,hm,hl⟩:=y7.1 hl;obtain ⟨b,hb,tb,cc,af,hz,hv⟩:=h;obtain ⟨sd,b',cur,ty,gb,na,oa,_⟩:=R.rows t n r hm;rw [hb] at gb;injection gb with gb;subst gb;obtain ⟨h1,h2,us,hL,fd⟩:=eF oa na hl;subst h1;show JC _ w (.sl false l) u;simp only [JC];refine ⟨_,cc,hv,Nat.le_trans tb af,fun x hx y hy=>(h2 x hx).trans (h2 y hy).symm,(fun h=>by cases h),fun _=>⟨fun h=>(by cases h),fun _=>⟨b,off,rfl,?_⟩⟩⟩;rw [qD];exact EH (KA.held less _ _ hL) fun j u hj=>⟨fd j u hj,fun h=>h.2 ⟨t,n,r,hm,hb⟩⟩
  ·split
   ·rename_i l hl;obtain ⟨r,hm,hl⟩:=y7.1 hl;obtain ⟨l0,cf,hl⟩:=y7.1 hl;split at hl
    ·rename_i de;injection hl with hl;subst hl;obtain ⟨b,hb,tb,cc,af,hz,hv⟩:=h;obtain ⟨sd,b',cur,ty,gb,na,oa,_⟩:=R.rows t n r hm;rw [hb] at gb;injection gb with gb;subst gb;obtain ⟨h1,h2,us,hL,fd⟩:=bN oa na cf;subst h1;have gl:=QA.frz1 R hL;rw [List.map_flatten] at gl;have js:=sF gl fun x hx=>y8.1 de x hx
     show JC _ w (.sl false _) u;simp only [JC];refine ⟨_,cc,by rw [y9]; exact hv,by rw [y9]; exact Nat.le_trans tb af,fun x hx y hy=>?_,(fun h=>by cases h),fun _=>⟨fun h=>(by cases h),fun _=>⟨b,off,rfl,?_⟩⟩⟩
     ·obtain ⟨x',ti,rfl⟩:=List.mem_map.1 hx;obtain ⟨y',br,rfl⟩:=List.mem_map.1 hy;rw [y9,y9,h2 x' ti,h2 y' br]
     ·rw [qD];exact EH js fun j u hj=>⟨fd j u hj,fun h=>h.2 ⟨t,n,r,hm,hb⟩⟩
    ·cases hl
   ·exact same
 | _=>exact same
theorem QA.frz {D:Nat->Prop} {ι:Ix} {Θ:lH} (R:fB P O nt B F0 aa w0 D s a w ι Θ):∀ {xs:List AV} {us:List Value},QA ι (QB aa ι Θ) w xs us->QA ι (O2 s (QB aa ι Θ) ι) w (xs.map (AV.frz0 s)) us
 | [],_,h=>h
 | x :: r,_,h=>by
  simp only [QA] at h;obtain ⟨u,wa,rfl,h0,h1,h⟩:=h;exact ⟨u,wa,rfl,h0.frz R,h1,h.frz R⟩
theorem UA.frz {D:Nat->Prop} {ι:Ix} {Θ:lH} (R:fB P O nt B F0 aa w0 D s a w ι Θ) {x:AV} {u:Value} (h:UA ι (QB aa ι Θ) (EB ι Θ) w x u):UA ι (O2 s (QB aa ι Θ) ι) (EB ι Θ) w (x.frz s) u:=by
 have less:TA (QB aa ι Θ) (O2 s (QB aa ι Θ) ι) w w:=TA.less fun b o h=>h.1
 have same:=UA.held (Ix.Le.refl ι) less (TA.refl _ _) x u h;cases x with
 | agg cs=>obtain ⟨us,hv,hc⟩:=h; exact ⟨us,hv,hc.frz R⟩
 | ref t n sz off len c =>
  have:=IA.frz R (x:=.ref t n sz off len c) h;show UA _ _ _ w (AV.frz0 s (.ref t n sz off len c)) u;generalize hy:AV.frz0 s (.ref t n sz off len c)=y at this ⊢;simp only [AV.frz0] at hy;split at hy
  ·subst hy; exact this
  ·split at hy <;> (subst hy; exact this)
 | _=>exact same
def AV.killO (q:Option (Nat × Nat)) (x:AV):AV:=match q with
 | none=>x
 | some p=>x.kill p.1 p.2
def Ix.delO (ι:Ix):Option (Nat × Nat)->Ix
 | .none=>ι
 | .some p=>ι.del p.1 p.2
theorem QC.killW {t n:Nat} {ι':Ix} {av ab:Av} {r:List wA} {cur:Array Value} (h:QC ι Θ av w r cur) (hι:Ix.Lk t n ι ι') (hh:TA av ab w w'):QC ι' Θ ab w' (r.map (wA.kill t n)) cur:=by
 refine ⟨by simpa using h.1,fun j x hx=>?_⟩;rw [yh] at hx;cases hj:r[j]? with
 | none=>rw [hj] at hx; cases hx
 | some y =>
  rw [hj] at hx;injection hx with hx;subst hx;obtain ⟨u,hu,h1,hr,ha⟩:=h.2 j y hj;refine ⟨u,hu,h1,?_,ha⟩;have hk:=IA.kill hι hh y.v u hr;show IA ι' ab w' (y.v.kill t n) u;cases hy:y.v with
  | agg cs=>rw [hy] at hr; obtain ⟨us,rfl,_⟩:=hr; simp [Value.oneCell'] at h1
  | tup cs=>rw [hy] at hr; obtain ⟨us,rfl,_⟩:=hr; simp [Value.oneCell'] at h1
  | _=>rw [hy] at hk; exact hk
theorem fB.swap (R:fB P O nt B F0 aa w0 D s a w ι Θ) {q:Option (Nat × Nat)} {g0:Nat->Prop}
  (hq:match q with
   | none=>∀ b,¬ g0 b
   | some p=>p.1≠0/\∃ r b,s.mem p.1 p.2=some r/\ι p.1 p.2=some b/\∀ b',g0 b' ↔ b'=b)
  (hk:SA g0 w w') {d:Nat} (hd:d<nt) (hD:¬ D d) {l:List AV} {g:Nat} {cur:Array Value} {ty:TypeId}
  (hg:w.heap.size<=g\/g0 g/\∃ cur0 fq,w.heap[g]?=some (.cells cur0 fq (0,0))/\cur.size=cur0.size) (na:w'.heap[g]?=some (.cells cur ty (0,0)))
  (wb:KA (fun b o=>QB aa ι Θ b o\/b=g) w' l (cur.toList.take l.length)) {x:AV} {v:Value}
  (hx:∀ ι':Ix,ι' d s.next=some g->ι'.z g=cur.size->UA ι' (QB aa ι' Θ) (EB ι' Θ) w' x v) :
  ∃ ι',fB P O nt B F0 aa w0 (fun j=>D j\/j=d) (((s.killO q).setRow d s.next (l.map (⟨·,.no⟩))).put (some d) ⟨x,.no⟩) (a.put (some d) v) w' ι' Θ:=by
 have dd:ι d s.next=none:=by
  cases h:ι d s.next with
  | none=>rfl
  | some b =>
   rcases (R.mine _ _ _ h).2.2 with h1 | h1
   ·omega
   ·exact absurd h1.2 hD
 have ed:ι.ob d s.next=none:=by
  cases h:ι.ob d s.next with
  | none=>rfl
  | some b =>
   rcases (R.obs _ _ _ h).2 with h1 | h1
   ·omega
   ·exact absurd h1.2 hD
 -- the given block's name
 have gi:∀ b,g0 b->∃ p,q=some p/\ι p.1 p.2=some b/\ι.ob p.1 p.2=none/\(B<=b\/F0.r b)/\p.1≠0:=fun b hb=>by
  cases q with
  | none=>exact absurd hb (hq b)
  | some p =>
   obtain ⟨h0,r,b',h1,h2,h3⟩:=hq;have e:=(h3 b).1 hb;subst e;obtain ⟨g1,b2,_,_,g2,_,_,g3,_⟩:=R.rows _ _ _ h1;rw [h2] at g2;injection g2 with g2;subst g2;exact ⟨p,rfl,h2,g1,g3,h0⟩
 have ac:=hk.size;have rl:=R.lowB;have gt:g<w'.heap.size:=dA na
 -- blocks that are known stay
 have del:∀ t n b,(ι.delO q) t n=some b->ι t n=some b/\¬ g0 b/\b≠g:=fun t n b h=>by
  have h1:ι t n=some b/\¬ g0 b:=by
   cases q with
   | none=>exact ⟨h,hq b⟩
   | some p =>
    obtain ⟨h1,h2⟩:=Ix.del_some h;exact ⟨h1,fun hb=>by
     obtain ⟨p',e,h3,_⟩:=gi b hb;injection e with e;subst e;have:=R.inj _ _ _ _ _ h1 h3;exact h2 ⟨this.1,this.2⟩⟩
  refine ⟨h1.1,h1.2,fun e=>?_⟩;rcases hg with hg | hg
  ·have:=(R.mine _ _ _ h1.1).2.1; omega
  ·exact h1.2 (e ▸ hg.1)
 obtain ⟨ι',hι'⟩:∃ ι':Ix,ι'=⟨fun t n=>if t=d/\n=s.next then some g else (ι.delO q) t n,ι.ob,fun b=>if b=g then cur.size else ι.z b⟩:=⟨_,rfl⟩;have fc:ι' d s.next=some g:=by subst hι'; show (if d=d/\s.next=s.next then some g else _)=_; rw [if_pos ⟨rfl,rfl⟩]
 have td:∀ t n b,ι' t n=some b->(t=d/\n=s.next/\b=g)\/((ι.delO q) t n=some b/\¬ (t=d/\n=s.next)):=fun t n b h=>by
  subst hι';have h':(if t=d/\n=s.next then some g else (ι.delO q) t n)=some b:=h;split at h'
  ·rename_i e; injection h' with h'; exact .inl ⟨e.1,e.2,h'.symm⟩
  ·rename_i e; exact .inr ⟨h',e⟩
 have wd:∀ t n b,(ι.delO q) t n=some b->ι' t n=some b:=fun t n b h=>by
  subst hι';show (if t=d/\n=s.next then some g else (ι.delO q) t n)=some b;rw [if_neg (fun e=>by have:=(del _ _ _ h).1; rw [e.1,e.2,dd] at this; cases this)];exact h
 have kb:ι'.ob=ι.ob:=by subst hι'; rfl
 have uu:ι'.z g=cur.size:=by subst hι'; exact if_pos rfl
 have hzo:∀ b,b≠g->ι'.z b=ι.z b:=fun b h=>by subst hι'; exact if_neg h
 have ui:∀ t n b,ι t n=some b->ι'.z b=ι.z b:=fun t n b h=>by
  by_cases e:b=g
  ·subst e;rcases hg with hg | ⟨hg,cur0,fq,h1,h2⟩
   ·have:=(R.mine _ _ _ h).2.1; omega
   ·obtain ⟨p,e,h3,h4,_⟩:=gi b hg;cases q with
    | none=>cases e
    | some p' =>
     injection e with e;subst e;obtain ⟨_,r,b',g1,g2,_⟩:=hq;obtain ⟨_,b2,cur2,ty2,g3,g4,_,_,g5⟩:=R.rows _ _ _ g1;rw [h3] at g3;injection g3 with g3;subst g3;rw [h1] at g4;injection g4 with g4;injection g4 with g4;subst g4;rw [uu,h2,g5]
  ·exact hzo b e
 clear hι';have blk:∀ b,b<w.heap.size->¬ g0 b->w'.heap[b]?=w.heap[b]?:=fun b h1 h2=>hk.block b h1 h2
 have zg:∀ b o,b<w.heap.size->b≠g->EB ι' Θ b o->EB ι Θ b o:=fun b o _ jb h=>h.imp (fun h=>h.imp (fun ⟨t,n,h⟩=>by
  rcases td _ _ _ h with ⟨_,_,e⟩ | ⟨h,_⟩
  ·exact absurd e jb
  ·exact ⟨t,n,(del _ _ _ h).1⟩) (fun ⟨t,n,H,h,hb⟩=>⟨t,n,H,kb ▸ h,hb⟩)) id
 have away:∀ b o,¬ EB ι Θ b o->¬ g0 b:=fun b o h hb=>by
  obtain ⟨p,_,h1,_⟩:=gi b hb;exact h (.inl (.inl ⟨p.1,p.2,h1⟩))
 have ng:∀ b o,b<w.heap.size->¬ EB ι Θ b o->b≠g:=fun b o h1 h2 e=>by
  rcases hg with hg | hg
  ·omega
  ·exact away b o h2 (e ▸ hg.1)
 have hB:TA (EB ι Θ) (EB ι' Θ) w w':=⟨fun b o u hc hn=>⟨(World.cell?_of_block (w:=w) (a:=⟨b,o,none⟩) (blk b (ED hc) (away b o hn))).trans hc,fun h=>hn (zg b o (ED hc) (ng b o (ED hc) hn) h)⟩⟩;have hA:TA (QB aa ι Θ) (QB aa ι' Θ) w w':=⟨fun b o u hc hn=>by
  have fj:¬ EB ι Θ b o:=fun h=>hn (.inr h)
  exact ⟨(World.cell?_of_block (w:=w) (a:=⟨b,o,none⟩) (blk b (ED hc) (away b o fj))).trans hc,fun h=>hn (h.imp id (zg b o (ED hc) (ng b o (ED hc) fj)))⟩⟩
 have tb:q=none->Ix.Le ι ι':=fun e=>⟨fun t n b h=>wd t n b (by rw [e]; exact h),ui⟩
 have sb:∀ p,q=some p->Ix.Lk p.1 p.2 ι ι':=fun p e=>⟨fun t n b hn h=>wd t n b (by rw [e]; exact (Ix.del_lk ι p.1 p.2).f _ _ _ hn h),ui⟩
 have hS:∀ X V,UA ι (QB aa ι Θ) (EB ι Θ) w X V->UA ι' (QB aa ι' Θ) (EB ι' Θ) w' (X.killO q) V:=fun X V h=>by
  cases bi:q with
  | none=>exact UA.held (tb bi) hA hB _ _ h
  | some p=>exact UA.kill (sb p bi) hA hB _ _ h
 have pq:∀ j,(s.killO q).env j=⟨(s.env j).v.killO q,(s.env j).a⟩:=fun j=>by cases q <;> rfl
 have hgh:∀ j,(s.killO q).gh j=⟨(s.gh j).v.killO q,(s.gh j).a⟩:=fun j=>by cases q <;> rfl
 have hnx:(s.killO q).next=s.next:=by cases q <;> rfl
 have hobj:(s.killO q).obj=s.obj:=by cases q <;> rfl
 have hRe:KA (QB aa ι' Θ) w' l (cur.toList.take l.length):=KA.held (TA.less fun b o h=>by
  by_cases e:b=g
  ·exact .inr e
  ·refine .inl (h.imp id fun h=>h.imp (fun h=>h.imp (fun ⟨t,n,h⟩=>?_) (fun ⟨t,n,H,h,hb⟩=>⟨t,n,H,kb ▸ h,hb⟩)) id);rcases td _ _ _ h with ⟨_,_,e'⟩ | ⟨h,_⟩
   ·exact absurd e' e
   ·exact ⟨t,n,(del _ _ _ h).1⟩) _ _ wb
 refine ⟨ι',fB.put (s:=(s.killO q).setRow d s.next (l.map (⟨·,.no⟩))) ⟨R.defers,R.size,fun j=>?_,fun j=>?_,fun t' n' r' hr=>?_,fun t' n' b h=>?_,fun t1 n1 t2 n2 b h h'=>?_,fun k o h=>?_,R.tinj,fun k o t' n' h h'=>?_,R.out,fun p h=>?_,?_,R.base,fun t' n' S h=>?_,fun t' n' H h=>?_,fun j=>?_,fun j=>?_⟩ hd (hx _ fc uu) trivial⟩
 ·show UA ι' _ _ w' ((s.killO q).env j).v _;rw [pq];exact hS _ _ (R.env j)
 ·show QH Θ ((s.killO q).env j).a _;rw [pq];exact R.ann j
 ·simp only [uA.setRow] at hr;split at hr
  ·rename_i e;injection hr with hr;subst hr;refine ⟨by rw [kb,e.1,e.2]; exact ed,g,cur,ty,by rw [e.1,e.2]; exact fc,na,row_of hRe (fun j u hj=>?_),?_,uu.symm⟩
   ·rw [yz] at hj;split at hj
    ·simpa using hj
    ·cases hj
   ·rcases hg with hg | hg
    ·exact .inl (by omega)
    ·obtain ⟨p,_,_,_,h4,_⟩:=gi g hg.1;exact h4
  ·have key:∃ r0,s.mem t' n'=some r0/\(ι.delO q) t' n'=ι t' n'/\r'=r0.map (fun x=>⟨x.v.killO q,x.a⟩):=by
    cases q with
    | none=>exact ⟨r',hr,rfl,by simp [AV.killO]⟩
    | some p =>
     simp only [uA.killO,uA.kill] at hr;split at hr
     ·cases hr
     ·rename_i hn;cases pd:s.mem t' n' with
      | none=>rw [pd] at hr; cases hr
      | some r0 =>
       rw [pd] at hr;injection hr with hr;exact ⟨r0,rfl,if_neg hn,hr.symm⟩
   obtain ⟨r0,pd,ak,rfl⟩:=key;obtain ⟨h0,b,ra,uf,h1,h2,h3,h4,h5⟩:=R.rows t' n' r0 pd;have re:(ι.delO q) t' n'=some b:=ak.trans h1;obtain ⟨_,az,_⟩:=del _ _ _ re;refine ⟨kb ▸ h0,b,ra,uf,wd _ _ _ re,(blk b (dA h2) az).trans h2,?_,h4,h5.trans (ui _ _ _ h1).symm⟩;cases bi:q with
   | none =>
    have:r0.map (fun x:wA=>(⟨x.v.killO none,x.a⟩:wA))=r0:=by simp [AV.killO]
    rw [this];exact h3.held (tb bi) hA (fun _ _ h=>h)
   | some p=>exact h3.killW (sb p bi) hA
 ·rcases td _ _ _ h with ⟨e1,e2,e3⟩ | ⟨h,_⟩
  ·subst e3;refine ⟨?_,gt,.inr ⟨by rw [e2]; exact hnx.symm,.inr e1⟩⟩;rcases hg with hg | hg
   ·exact .inl (by omega)
   ·obtain ⟨p,_,h3,_⟩:=gi b hg.1;exact (R.mine _ _ _ h3).1
  ·obtain ⟨h1,h2,h3⟩:=R.mine t' n' b (del _ _ _ h).1;refine ⟨h1,by omega,?_⟩;show n'<(s.killO q).next\/n'=(s.killO q).next/\_;rw [hnx];exact h3.imp id fun ⟨e,d⟩=>⟨e,.inl d⟩
 ·rcases td _ _ _ h with ⟨e1,e2,e3⟩ | ⟨h,hn⟩ <;> rcases td _ _ _ h' with ⟨f1,f2,f3⟩ | ⟨h',fj⟩
  ·exact ⟨e1.trans f1.symm,e2.trans f2.symm⟩
  ·exact absurd e3 (del _ _ _ h').2.2
  ·exact absurd f3 (del _ _ _ h).2.2
  ·exact R.inj _ _ _ _ _ (del _ _ _ h).1 (del _ _ _ h').1
 ·obtain ⟨h1,h2,h3,h4,ra,h5,h6⟩:=R.tok k o h;exact ⟨h1,h2,h3,h4,ra,(blk _ (dA h5) fun hb=>by
   obtain ⟨p,_,h7,_⟩:=gi _ hb;exact R.apart k o _ _ h h7).trans h5,h6⟩
 ·rcases td _ _ _ h' with ⟨e1,e2,e3⟩ | ⟨h',_⟩
  ·obtain ⟨_,_,_,_,ra,h5,_⟩:=R.tok k o h;rcases hg with hg | hg
   ·have:=dA h5; omega
   ·obtain ⟨p,_,h7,_⟩:=gi _ hg.1;exact R.apart k o _ _ h (e3 ▸ h7)
  ·exact R.apart k o t' n' h (del _ _ _ h').1
 ·obtain ⟨h1,h2⟩:=R.pin p h;have re:(ι.delO q) 0 0=some p:=by
   cases bi:q with
   | none=>exact h1
   | some p' =>
    subst bi;exact (Ix.del_lk ι p'.1 p'.2).f _ _ _ (fun e=>hq.1 e.1.symm) h1
  exact ⟨wd _ _ _ re,h2.imp (fun g=>⟨g.1,(ui _ _ _ h1).trans g.2⟩) fun g=>kb ▸ g⟩
 ·exact R.kept.trans hk fun i hi hb=>by
   obtain ⟨p,_,h3,_⟩:=gi i hb;rcases (R.mine _ _ _ h3).1 with h | h
   ·have:=R.base; omega
   ·exact h
 ·have h:s.obj t' n'=some S:=by
   have:((s.killO q).setRow d s.next (l.map (⟨·,.no⟩))).obj=s.obj:=hobj;rw [this] at h;exact h
  obtain ⟨p,H,h1,h2,h3,h4⟩:=R.objs t' n' S h;have kr:∀ t1 n1 b1 H1,ι t1 n1=some b1->ι.ob t1 n1=some H1->ι' t1 n1=some b1:=fun t1 n1 b1 H1 g1 g2=>by
   refine wd _ _ _ ?_;cases bi:q with
   | none=>exact g1
   | some p' =>
    refine (Ix.del_lk ι p'.1 p'.2).f _ _ _ (fun e=>?_) g1;subst bi;obtain ⟨_,r,b,m1,m2,m3⟩:=hq;have:=(R.rows _ _ _ m1).1;rw [e.1,e.2,this] at g2;cases g2
  have hHb:∀ b,H b->¬ g0 b:=fun b hb h=>by
   obtain ⟨p',e,h5,h6,_⟩:=gi b h;have e2:=((R.obs _ _ _ h2).1 b hb).2.2.1 _ _ h5;rw [e2.1,e2.2,h2] at h6;cases h6
  exact ⟨p,H,kr _ _ _ _ h1 h2,kb ▸ h2,O.keep h3 (fun b hb=>blk b (O.lt h3 hb) (hHb b hb)) ac,h4.keep (fun t1 n1 b1 H1 g1 g2=>⟨kr _ _ _ _ g1 g2,H1,kb ▸ g2⟩) fun x hx=>(blk _ (dA hx) (hHb _ (O.main h3))).trans hx⟩
 ·rw [kb] at h;obtain ⟨h1,h2⟩:=R.obs t' n' H h;refine ⟨fun b hb=>?_,?_⟩
  ·obtain ⟨g1,g2,g3,g4,g5⟩:=h1 b hb;refine ⟨g1,by omega,fun t2 n2 h'=>?_,g4,kb ▸ g5⟩;rcases td _ _ _ h' with ⟨e1,e2,e3⟩ | ⟨h',_⟩
   ·exfalso;rcases hg with hg | hg
    ·omega
    ·obtain ⟨p',e,h5,h6,_⟩:=gi g hg.1;have e4:=g3 _ _ (e3 ▸ h5);rw [e4.1,e4.2,h] at h6;cases h6
   ·exact g3 t2 n2 (del _ _ _ h').1
  ·show n'<(s.killO q).next\/n'=(s.killO q).next/\_;rw [hnx];exact h2.imp id fun ⟨e,d⟩=>⟨e,.inl d⟩
 ·show UA ι' _ _ w' ((s.killO q).gh j).v _;rw [hgh];exact hS _ _ (R.gen j)
 ·show QH Θ ((s.killO q).gh j).a _;rw [hgh];exact R.gann j
theorem compN_H {cl:Cl} {hs:Nat->Bool} {L:List Nat} {op:Go.Op} {k:K} (h:LS P cl hs L op=some k):d7 k=false:=by
 unfold LS at h;split at h
 ·split at h
  ·obtain ⟨_,_,rfl⟩:=yf.1 h; rfl
  ·split at h
   ·split at h
    ·split at h
     ·split at h
      ·split at h
       ·split at h
        ·split at h
         ·injection h with h; subst h; rfl
         ·split at h
          ·injection h with h; subst h; rfl
          ·cases h
        ·cases h
       ·cases h
      ·cases h
     ·cases h
    ·cases h
   ·cases h
 ·cases h
theorem Q6 {av:Av} {cs:List AV} {us:List Value} (h:KA av w cs us) {cur:Array Value} (hc:∀ (j:Nat) (u:Value),us[j]?=some u->cur[j]?=some u):us=cur.toList.take cs.length:=by
 have hl:=XB (OC (ι:=Ix.none) h);refine List.ext_getElem? fun j=>?_
 rw [yz];split
 ·rename_i hj;have hu:us[j]?=some us[j]:=yg (by omega);rw [hu,Array.getElem?_toList,hc j _ hu]
 ·exact List.getElem?_eq_none (by omega)
theorem op_own (R:fB P O nt B F0 aa w0 D s a w ι Θ) {call:LA} (za:∀ f args S r,call f args S=some r->DA P O f args S r) {cl:Cl} {hs:Nat->Bool} {L:List Nat} {k:K} (hk:LS P cl hs L o.op=some k) (hd:∀ d,o.dst=some d->d<nt) (hD:∀ d,o.dst=some d->(MZ k||XQ k)=true->¬ D d)
  {xe:wA × tC} (hr:k.run call s=some xe) {g} {s':uA} (he:kA.eff ⟨o.dst,k,g⟩ s xe=some s')
  {Kn:Act->World->Prop} {Q:Exit->Act->World->Prop} (hK:∀ a' w',SC P O nt B F0 aa w0 (fun t=>D t\/o.dst=some t) s' a' w'->Kn a' w'):o.wp P a w Kn Q:=by
 unfold LS at hk;split at hk
 case h_2=>cases hk
 rename_i f Xs ts ho;have wj:(Xs.toList.map a.eval).toArray=Xs.map a.eval:=by rw [<- Array.toList_map,yM]
 have run:(∀ xs w,(callFunc f xs).run P w=.ok (.enter f xs) w)->(execOp a.eval o).run P w=.ok (.enter f (Xs.map a.eval)) w:=fun h=>by
  simp only [execOp,ho,resolve,Act.eval,Deferred.ofValue,Sem.run_bind,Sem.run_pure,Result.andThen_ok,invoke];have:=h (#[]++Xs.map a.eval++#[]) w;simp_all
 have bh:∀ b o,QB aa ι Θ b o->b<w.heap.size:=fun b o h=>R.low h
 obtain ⟨x,e⟩:=xe;split at hk
 ·-- numbers and letters,by what the memory of the arguments ro
  obtain ⟨xs,ec,rfl⟩:=yf.1 hk;simp only [K.run] at hr;split at hr
  case isFalse=>cases hr
  rename_i ba;obtain ⟨r,hc,hr⟩:=y7.1 hr;split at hr
  case h_2=>cases hr
  rename_i v;split at hr
  case isFalse=>cases hr
  rename_i jz;injection hr with hr;injection hr with h1 h2;subst h1; subst h2;have hm:sE (xs.map fun x=>(x.get s).frz s)=false:=by
   cases hv:xs.map fun x=>(x.get s).frz s with
   | nil=>rfl
   | cons y ys =>
    have:=y8.1 ba.2 y (by rw [hv]; exact yv);cases y <;> first | rfl | (simp [AV.free,AV.free0] at this; done)
  have sa:=(DA.of hm).1 (za f _ none _ hc);have ua:∀ {Xs:List Operand} {xs:List iB},MD Xs=some xs->(xs.map fun x=>(x.get s).frz s).all AV.free=true->AE Ix.none (O2 s (QB aa ι Θ) ι) (fun _ _=>False) w (xs.map fun x=>(x.get s).frz s) (Xs.map a.eval):=by
   intro Xs
   induction Xs with
   | nil=>intro xs h _; injection h with h; subst h; rfl
   | cons X Xr ih =>
    intro xs h hf;unfold MD at h;split at h
    ·rename_i y ys hy hys;injection h with h;subst h;simp only [yu,List.all_cons,yc] at hf ⊢;exact ⟨_,_,rfl,cU ((R.opd hy).1.frz R) hf.1,ih hys hf.2⟩
    ·cases h
  simp only [kA.eff] at he;injection he with he;subst he;have hC:=sa.2 (O2 s (QB aa ι Θ) ι) w _ (fun b o h=>bh b o h.1) (ua ec ba.2);rw [wj] at hC;unfold Oper.wp;rw [run sa.1,Oper.upon_enter];refine hC.mono ?_;rintro e w' ⟨u,rfl,hv,hb⟩;have R':fB P O nt B F0 aa w0 D s a w' ι Θ:=R.grow (fun b gb=>hb.block b gb) hb.size (R.kept.trans_below hb);refine hK _ _ ⟨ι,Θ,(R'.putN (x:=⟨v,.no⟩) hd ?_ trivial).more fun _ h=>.inl h⟩;refine TH ?_;cases v with
  | tup vs =>
   obtain ⟨us,hu,ht⟩:=hv;refine ⟨us,hu,?_⟩;have key:∀ {vs:List AV} {us:List Value},vs.all AV.scal=true->kJ (O2 s (QB aa ι Θ) ι) w' vs us->kJ (QB aa ι Θ) w' vs us:=by
    intro vs
    induction vs with
    | nil=>intro us _ h; exact h
    | cons y r ih =>
     intro us hs h;simp only [List.all_cons,yc] at hs;simp only [kJ] at h ⊢;obtain ⟨u,wa,rfl,h0,h⟩:=h;refine ⟨u,wa,rfl,?_,ih hs.2 h⟩;cases y <;> first | exact h0 | (simp [AV.scal] at hs; done)
   exact key jz ht
  | _=>first | exact hv | (simp [AV.plain,AV.scal] at jz; done)
 ·split at hk
  case isFalse=>cases hk
  split at hk
  case h_2=>cases hk
  split at hk
  case h_2=>cases hk
  split at hk
  case h_2=>cases hk
  split at hk
  case h_2=>cases hk
  rename_i z ys hz ec;split at hk
  case isFalse=>cases hk
  split at hk
  ·-- a new slice
   injection hk with hk;subst hk;simp only [K.run] at hr;split at hr
   case h_2=>cases hr
   rename_i vs hl pf;obtain ⟨r,hc,hr⟩:=y7.1 hr;split at hr
   case h_2=>cases hr
   rename_i b l;split at hr
   case isFalse=>cases hr
   rename_i ba;have sa:pF P O f vs none (.sl b l,none):=DA.own (AK hl) (za f (.undef :: vs) none _ hc);have nob:∀ x∈ys,∀ t n,x.get s=.ptr t n 0->False:=fun x hx t n h=>by
    have:(t,n)∈WE s ys:=List.mem_filterMap.2 ⟨x,hx,by rw [h]⟩;rw [pf] at this;cases this
   have ua:=NE (ι':=Ix.none) (avl:=fun _ _=>False) R (fun _ _ h=>h.elim) ec hl fun x hx t n h=>(nob x hx t n h).elim
   have hC:=sa.2 (QB aa ι Θ) w _ bh ua;rw [wj] at hC;unfold Oper.wp;rw [run sa.1,Oper.upon_enter];refine hC.mono ?_;rintro e' w' ⟨u,rfl,hv,hb⟩;split at hr
   ·rename_i mi;have cf:l=[]:=by simpa using mi
    subst cf;injection hr with hr;injection hr with h1 h2;subst h1; subst h2;simp only [kA.eff] at he;injection he with he;subst he;rw [if_pos rfl] at hv;have R':fB P O nt B F0 aa w0 D s a w' ι Θ:=R.grow (fun b gb=>hb.block b gb) hb.size (R.kept.trans_below hb);exact hK _ _ ⟨ι,Θ,(R'.putN (x:=⟨.sl b [],.ex⟩) hd (TH hv.1) (hv.2.imp fun A h=>⟨0,h⟩)).more fun _ h=>.inl h⟩
   ·rename_i mi;have jb:l≠[]:=fun h=>mi (by simp [h])
    split at hr
    case isTrue=>cases hr
    injection hr with hr;injection hr with h1 h2;subst h1; subst h2;cases ja:o.dst with
    | none=>simp [kA.eff,ja] at he
    | some d =>
     simp only [kA.eff,ja] at he;injection he with he;subst he;rw [if_neg jb] at hv;obtain ⟨g',c,cur,ty,rfl,hg,na,tb,rh,wb⟩:=hv z ba.1;obtain ⟨ι',R'⟩:=R.swap (q:=none) (g0:=fun _=>False) (fun _ h=>h) (SA.of_below hb _) (hd d ja) (hD d ja rfl) (l:=l.flatten) (hg.imp id fun h=>h.1.elim) na wb (x:=.ref d s.next z 0 l.length l.length) (v:=.slice (some ⟨g',0,none⟩) l.length c) fun ι' h1 h2=>⟨g',h1,ye _,c,tb,by rw [h2,yn]; exact rh,rfl⟩
     refine hK _ _ ⟨ι',Θ,?_⟩;rw [ja];exact R'.more fun t h=>h.imp id fun e=>by rw [e]
  ·split at hk
   case h_2=>cases hk
   rename_i y rest;injection hk with hk;subst hk
   -- the first argument is the row
   cases kp:Xs.toList with
   | nil=>rw [kp] at ec; cases ec
   | cons X Xr =>
    rw [kp] at ec wj;unfold MD at ec;split at ec
    case h_2=>cases ec
    rename_i y' rest' hy dx;injection ec with ec;injection ec with e1 e2;subst e1; subst e2;simp only [K.run] at hr;split at hr
    case h_2=>cases hr
    rename_i vs hl pf;split at hr
    case isFalse=>cases hr
    have nob:∀ x∈rest',∀ t n,x.get s=.ptr t n 0->False:=fun x hx t n h=>by
     have:(t,n)∈WE s rest':=List.mem_filterMap.2 ⟨x,hx,by rw [h]⟩;rw [pf] at this;cases this
    have ua:=NE (ι':=Ix.none) (avl:=fun _ _=>False) R (fun _ _ h=>h.elim) dx hl fun x hx t n h=>(nob x hx t n h).elim
    have hY:=(R.opd hy).1;have xU:∀ {q:Option (Nat × Nat)} {g0:Nat->Prop} {l':List (List AV)} {nl:Bool} {l0:List (List AV)},(match q with
      | none=>∀ b,¬ g0 b
      | some p=>p.1≠0/\∃ r b,s.mem p.1 p.2=some r/\ι p.1 p.2=some b/\∀ b',g0 b' ↔ b'=b)->pF P O f (.sl nl l0 :: vs) (some (.int .i64 z)) (.sl false l',none)->mX z (QB aa ι Θ) w nl l0 (a.eval X) g0 →
      (∀ d,o.dst=some d->s'=(((s.killO q).setRow d s.next (HA l')).put (some d) ⟨.ref d s.next z 0 l'.length l'.length,.no⟩))->(o.dst=none->False)->o.wp P a w Kn Q:=fun {q g0 l' nl l0} hq sa hgi dr sd=>by
     have hC:=sa.2 (QB aa ι Θ) w (a.eval X) _ g0 bh ua (by simpa using hgi);have he1:(a.eval X :: Xr.map a.eval).toArray=Xs.map a.eval:=by rw [<- wj]; rfl
     rw [he1] at hC;unfold Oper.wp;rw [run sa.1,Oper.upon_enter];refine hC.mono ?_;rintro e' w' ⟨u,rfl,⟨g',c,cur,ty,rfl,hg,na,tb,rh,wb⟩,hkp⟩;cases ja:o.dst with
     | none=>exact (sd ja).elim
     | some d =>
      obtain ⟨ι',R'⟩:=R.swap (q:=q) hq hkp (hd d ja) (hD d ja rfl) (l:=l'.flatten) hg na wb (x:=.ref d s.next z 0 l'.length l'.length) (v:=.slice (some ⟨g',0,none⟩) l'.length c) fun ι' h1 h2=>⟨g',h1,ye _,c,tb,by rw [h2,yn]; simpa using rh,rfl⟩
      refine hK _ _ ⟨ι',Θ,?_⟩;rw [dr d ja,ja];exact R'.more fun t h=>h.imp id fun e=>by rw [e]
    split at hr
    ·rename_i t n z' off ln cap bj;split at hr
     case h_2=>cases hr
     rename_i l0 eb;split at hr
     case isFalse=>cases hr
     rename_i ba;obtain ⟨rfl,rfl,ht0,hLt⟩:=ba;obtain ⟨r,hc,hr⟩:=y7.1 hr;split at hr
     case h_2=>cases hr
     rename_i l';split at hr
     case isFalse=>cases hr
     injection hr with hr;injection hr with h1 h2;subst h1; subst h2;have sa:pF P O f (.sl false l0 :: vs) (some (.int .i64 z')) (.sl false l',none):=DA.own rfl (za f (.undef :: .sl false l0 :: vs) _ _ hc);rw [bj] at hY;obtain ⟨b,hb,tb,cc,af,ui,hv⟩:=hY;simp only [AV.elems] at eb;split at eb
     case isFalse=>cases eb
     obtain ⟨row,hm,eb⟩:=y7.1 eb;obtain ⟨sd,b',cur,ty,gb,na,oa,_,rh⟩:=R.rows t n row hm;rw [hb] at gb;injection gb with gb;subst gb;obtain ⟨q1,q2,us,q3,q4⟩:=eF oa na eb;have fd:us=cur.toList.take l0.flatten.length:=Q6 q3 fun j u hj=>by
      have:=q4 j u hj;simpa [World.cell?,na] using this
     rw [fd] at q3;subst q1;refine xU (q:=some (t,n)) (g0:=fun x=>x=b) ⟨ht0,row,b,hm,hb,fun _=>Iff.rfl⟩ sa (.inr ⟨rfl,b,cc,cur,ty,hv,fun _=>Iff.rfl,na,Nat.le_trans tb af,by rw [rh]; simpa using ui,fun o=>.inr (.inl (.inl ⟨t,n,hb⟩)),q3⟩) (fun d ja=>?_) fun ja=>by simp [kA.eff,ja] at he
     simp only [kA.eff,ja] at he;injection he with he;exact he.symm
    ·rename_i b bj;split at hr
     case isFalse=>cases hr
     rename_i fh;obtain ⟨r,hc,hr⟩:=y7.1 hr;split at hr
     case h_2=>cases hr
     rename_i l';split at hr
     case isFalse=>cases hr
     injection hr with hr;injection hr with h1 h2;subst h1; subst h2;have sa:pF P O f (.sl b [] :: vs) (some (.int .i64 z)) (.sl false l',none):=DA.own rfl (za f (.undef :: .sl b [] :: vs) _ _ hc);have hYa:=(R.opd hy).2;rw [bj] at hY;obtain ⟨A,c,hv,_,_,h3,_⟩:=hY;obtain ⟨uy,hnil⟩:c=0/\(b=true->A=none):=by
      cases b with
      | true =>
       obtain ⟨rfl,_,rfl⟩:=h3 rfl;exact ⟨rfl,fun _=>rfl⟩
      | false =>
       refine ⟨?_,fun h=>by cases h⟩;unfold SX ZA at fh;cases ha:y'.an s with
       | ex =>
        rw [ha,hv] at hYa;obtain ⟨A',n',h⟩:=hYa;injection h with _ h1 h2;rw [h2,<- h1]; rfl
       | no=>rw [ha] at fh; cases fh
       | own k e=>rw [ha] at fh; cases fh
     refine xU (q:=none) (g0:=fun _=>False) (fun _ h=>h) sa (.inl ⟨rfl,⟨A,by rw [hv,uy]; rfl⟩,fun h=>by rw [hv,uy,hnil h]; rfl,fun _ h=>h⟩) (fun d ja=>?_) fun ja=>by simp [kA.eff,ja] at he
     simp only [kA.eff,ja] at he;injection he with he;exact he.symm
    ·cases hr
end
end
section
open Go Go.RowKit
section
variable {P:Program} {O:JD} {nt B:Nat} {F0:AL} {aa:Av} {w0:World} {D:Nat->Prop} {s:uA} {a:Act} {w w':World} {ι:Ix} {Θ:lH} {o:Oper}
theorem bB (R:fB P O nt B F0 aa w0 D s a w ι Θ) {x:wA} {e:tC} (hv:e=.none/\nP P aa a w ι Θ o x) (hd:∀ d,o.dst=some d->d<nt) {k:K} {g} {s':uA} (he:kA.eff ⟨o.dst,k,g⟩ s (x,e)=some s')
  {Kn:Act->World->Prop} {Q:Exit->Act->World->Prop} (hK:∀ a' w',SC P O nt B F0 aa w0 D s' a' w'->Kn a' w'):o.wp P a w Kn Q:=by
 obtain ⟨rfl,v,ka,hS,hA⟩:=hv;simp only [kA.eff] at he;cases he;unfold Oper.wp;rw [ka,Oper.upon_value];exact hK _ _ ⟨ι,Θ,R.putN hd hS hA⟩
theorem F1 {s':uA} (h:∃ v w',(execOp a.eval o).run P w=.ok (.value v) w'/\SC P O nt B F0 aa w0 D s' (a.put o.dst v) w')
  {Kn:Act->World->Prop} {Q:Exit->Act->World->Prop} (hK:∀ a' w',SC P O nt B F0 aa w0 D s' a' w'->Kn a' w'):o.wp P a w Kn Q:=by
 obtain ⟨v,w',ka,hR⟩:=h;unfold Oper.wp;rw [ka,Oper.upon_value];simp_all
theorem pC {α β:Type} {x:Option α} {f:α->β} {z:β} (h:x.map f=some z):∃ a,x=some a/\f a=z:=by
 simp_all
theorem p6 {xs:Array Operand} {x':iB} (hx:MD xs.toList=some [x']):∃ X,xs=#[X]/\opd X=some x':=by
 obtain ⟨l⟩:=xs
 match l,hx with
 | [X],hx =>
  unfold MD at hx
  grind
 | [],hx=>simp [MD] at hx
 | X :: Y :: r,hx =>
  unfold MD at hx;split at hx
  ·rename_i y l hy hl;injection hx with hx;injection hx with h1 h2;subst h2;unfold MD at hl
   grind
  ·cases hx
theorem op_sound (R:fB P O nt B F0 aa w0 D s a w ι Θ) {call:LA} (za:∀ f args S r,call f args S=some r->DA P O f args S r) {cl:Cl} {mu:Option Bool} {nest:Bool} {k:K} (hk:U0 P cl mu o.op nest=some k) (ej:mu≠none->o.dst≠none) (hd:∀ d,o.dst=some d->d<nt) (hD:∀ d,o.dst=some d->(MZ k||XQ k)=true->¬ D d)
  {xe:wA × tC} (hr:k.run call s=some xe) {g} {s':uA} (he:kA.eff ⟨o.dst,k,g⟩ s xe=some s')
  {Kn:Act->World->Prop} {Q:Exit->Act->World->Prop} (hK:∀ a' w',SC P O nt B F0 aa w0 (fun t=>D t\/o.dst=some t) s' a' w'->Kn a' w'):o.wp P a w Kn Q:=by
 have oc:∀ a' w',SC P O nt B F0 aa w0 D s' a' w'->Kn a' w':=fun a' w' ⟨ι',Θ',h⟩=>hK a' w' ⟨ι',Θ',h.more fun _ h=>.inl h⟩
 have fc:∀ d,o.dst=some d->(∃ v w',(execOp a.eval o).run P w=.ok (.value v) w'/\SC P O nt B F0 aa w0 (fun t=>D t\/t=d) s' (a.put o.dst v) w')->o.wp P a w Kn Q:=fun d ja h =>
  F1 h fun a' w' ⟨ι',Θ',h⟩=>hK a' w' ⟨ι',Θ',h.more fun t h=>h.imp id fun e=>by rw [ja,e]⟩
 obtain ⟨x,e⟩:=xe;cases ib:o.op <;> rw [ib] at hk <;> simp only [U0] at hk
 case move X=>obtain ⟨y,hy,rfl⟩:=pC hk; simp only [K.run] at hr; injection hr with hr; injection hr with h1 h2; subst h1; subst h2; exact bB R ⟨rfl,val_mv R hy (.inl ib)⟩ hd he oc
 case assign X=>obtain ⟨y,hy,rfl⟩:=pC hk; simp only [K.run] at hr; injection hr with hr; injection hr with h1 h2; subst h1; subst h2; exact bB R ⟨rfl,val_mv R hy (.inr ib)⟩ hd he oc
 case pick C X Y =>
  split at hk
  ·rename_i c x' y' hc hx hy;cases hk;simp only [K.run] at hr;split at hr
   ·rename_i t ht;injection hr with hr; injection hr with h1 h2; subst h1; subst h2;exact bB R ⟨rfl,val_pick R hc hx hy ib ht⟩ hd he oc
   ·cases hr
  ·cases hk
 case alloc t =>
  split at hk
  case h_2 =>
   obtain ⟨el,eb,rfl⟩:=pC hk;simp only [K.run] at hr;injection hr with hr; injection hr with h1 h2; subst h1; subst h2;cases ja:o.dst with
   | none=>simp [kA.eff,ja] at he
   | some d =>
    simp only [kA.eff,ja] at he;cases he;exact fc d ja (op_mkb R eb ib ja (hd d ja) (hD d ja rfl))
  obtain ⟨z,hz,rfl⟩:=pC hk;cases ja:o.dst with
  | none=>simp [K.run] at hr; obtain ⟨rfl,rfl⟩:=hr; simp [kA.eff,ja] at he
  | some d=>exact fc d ja (op_alloc R hz ib ja (hd d ja) (hD d ja rfl) hr he)
 case box t X =>
  split at hk
  ·rename_i z x' hz hx;cases hk;cases ja:o.dst with
   | none =>
    simp only [K.run] at hr;split at hr
    ·split at hr
     ·injection hr with hr; injection hr with h1 h2; subst h1; subst h2; simp [kA.eff,ja] at he
     ·cases hr
    ·split at hr
     ·injection hr with hr; injection hr with h1 h2; subst h1; subst h2; simp [kA.eff,ja] at he
     ·cases hr
   | some d=>exact fc d ja (op_boxE R hx ib ja (hd d ja) (hD d ja rfl) hr he)
  ·cases hk
 case build t ps =>
  split at hk
  ·rename_i fs z ys ht hz hy;split at hk
   ·rename_i pl jz;obtain ⟨zs,rg,rfl⟩:=pC hk;obtain ⟨zv,i,hi,sk,_,hl⟩:=mE hz w;refine bB R (lX R hl (pl:=(pl.toArray[·]?)) ?_ hy rg ib hr) hd he oc;simp [Program.built,hi,ht,sk,jz]
   ·cases hk
  ·rename_i n el z ys ht hz hy;split at hk
   ·rename_i ie dw;obtain ⟨zs,rg,rfl⟩:=pC hk;obtain ⟨zv,i,hi,sk,_,hl⟩:=mE hz w;refine bB R (lX R hl (pl:=fun i=>some (i * ie.size,ie.size)) ?_ hy rg ib hr) hd he oc;simp [Program.built,hi,ht,sk,dw]
   ·cases hk
  ·cases hk
 case buildSlice t n ps =>
  split at hk
  ·rename_i el ys ht hy;split at hk
   ·rename_i z kk hz hs;split at hk
    ·rename_i hc;cases mu with
     | none =>
      simp only at hk;cases hk;obtain ⟨rfl,v,w',ka,R',hS,hA⟩:=op_bsl R ht hz hs hc.1 hc.2.1 hc.2.2 hy ib hr;simp only [kA.eff] at he;cases he;unfold Oper.wp;rw [ka,Oper.upon_value];exact oc _ _ ⟨ι,Θ,R'.putN hd hS hA⟩
     | some m =>
      simp only at hk;cases hk;cases ja:o.dst with
      | none=>exact absurd ja (ej (by simp))
      | some d=>exact fc d ja (op_bslr R ht hz hs hc.1 hc.2.1 hc.2.2 hy ib ja (hd d ja) (hD d ja rfl) hr he)
    ·cases hk
   ·cases hk
  ·cases hk
 case load t X =>
  split at hk
  ·rename_i ag z y hA hz hx;cases hk;exact bB R (val_load R hA hz hx ib hr) hd he oc
  ·cases hk
 case store t X Y =>
  split at hk
  ·rename_i ag z x' y' hA hz hx hy;split at hk
   ·rename_i hag;cases hk;obtain ⟨w',ka,hR⟩:=op_store R hz (by simpa using hag) hx hy ib hd hr he;unfold Oper.wp;rw [ka,Oper.upon_skip];simp_all
   ·cases hk
  ·cases hk
 case nilCheck X=>obtain ⟨y,hy,rfl⟩:=pC hk; exact bB R (i2 R hy ib hr) hd he oc
 case binOp op t X Y t' =>
  split at hk
  ·rename_i x' y' hx hy;split at hk
   ·cases hk;simp only [K.run] at hr;obtain ⟨v,hv,hr⟩:=pC hr;injection hr with h1 h2; subst h1; subst h2
    refine bB R ⟨rfl,val_bin R (fun hb=>?_) hx hy ib hv⟩ hd he oc
    grind
   ·split at hk
    ·split at hk
     ·rename_i el ht; injection hk with hk; subst hk; exact bB R (qU R (neg:=false) (ptr:=false) ⟨el,ht⟩ hx hy ib hr) hd he oc
     ·rename_i el ht; injection hk with hk; subst hk; exact bB R (qU R (neg:=false) (ptr:=true) ⟨el,ht⟩ hx hy ib hr) hd he oc
     ·obtain ⟨ks,ht,rfl⟩:=pC hk; exact bB R (E6 R (neg:=false) ht hx hy ib hr) hd he oc
    ·split at hk
     ·rename_i el ht; injection hk with hk; subst hk; exact bB R (qU R (neg:=true) (ptr:=false) ⟨el,ht⟩ hx hy ib hr) hd he oc
     ·rename_i el ht; injection hk with hk; subst hk; exact bB R (qU R (neg:=true) (ptr:=true) ⟨el,ht⟩ hx hy ib hr) hd he oc
     ·obtain ⟨ks,ht,rfl⟩:=pC hk; exact bB R (E6 R (neg:=true) ht hx hy ib hr) hd he oc
    ·cases hk
  ·cases hk
 case unOp op t X =>
  split at hk
  ·obtain ⟨y,hy,rfl⟩:=pC hk; exact bB R (val_un R hy ib hr) hd he oc
  ·cases hk
 case convert t t' X =>
  split at hk
  ·rename_i j kk x' h1 h2 hx; injection hk with hk; subst hk; exact bB R (XZ R (k:=some kk) ⟨⟨j,h1⟩,h2⟩ hx ib hr) hd he oc
  ·rename_i x' h1 h2 hx; injection hk with hk; subst hk; exact bB R (XZ R (k:=none) ⟨h1,h2⟩ hx ib hr) hd he oc
  ·rename_i j x' h1 h2 hx; injection hk with hk; subst hk; exact bB R (val_rstr R h1 h2 hx ib hr) hd he oc
  ·rename_i el x' h1 h2 hx;split at hk
   ·rename_i h3;split at hk
    ·injection hk with hk; subst hk; exact bB R (val_bstr R h1 h3 h2 hx ib hr) hd he oc
    ·cases hk
   ·cases hk
  ·cases hk
 case makeSlice t L C =>
  split at hk
  ·rename_i el l c ht hl hc;split at hk
   ·rename_i z i hz hi;split at hk
    ·rename_i ba;cases hk;cases ja:o.dst with
     | none =>
      simp only [K.run] at hr;split at hr
      ·split at hr
       ·injection hr with hr; injection hr with h1 h2; subst h1; subst h2; simp [kA.eff,ja] at he
       ·cases hr
      ·cases hr
     | some d=>exact fc d ja (op_mks R ht hi hz ba.1 hl hc ib ja (hd d ja) (hD d ja rfl) hr he)
    ·cases hk
   ·cases hk
  ·cases hk
 case slice t X L H M =>
  split at hk
  ·rename_i x' l h m hx hl hh hm;split at hk
   ·rename_i ht;cases hk;cases M with
    | none=>injection hm with hm; subst hm; exact bB R (T6 R (str:=true) ht hx hl hh ib hr) hd he oc
    | some M=>simp only [LT] at hm; obtain ⟨m',_,rfl⟩:=pC hm; simp [K.run] at hr
   ·rename_i el ht;split at hk
    ·rename_i ui;obtain ⟨z,hz,rfl⟩:=pC hk;rw [yc] at ui;exact bB R (val_slz R ht hz ui.1 ui.2 hx ib hr) hd he oc
    ·obtain ⟨z,hz,rfl⟩:=pC hk;cases M with
     | none=>injection hm with hm; subst hm; exact bB R (T6 R (str:=false) ⟨el,ht,hz⟩ hx hl hh ib hr) hd he oc
     | some M=>simp only [LT] at hm; obtain ⟨m',_,rfl⟩:=pC hm; simp [K.run] at hr
   ·rename_i n' el ht;cases M with
    | none =>
     injection hm with hm; subst hm;obtain ⟨z,hz,rfl⟩:=pC hk;exact bB R (val_aslc R ht hz hx hl hh ib hr) hd he oc
    | some M=>simp only [LT] at hm; obtain ⟨m',_,rfl⟩:=pC hm; cases hk
   ·cases hk
  ·cases hk
 case fieldAddr t X i =>
  split at hk
  ·rename_i fs x' ht hx;split at hk
   ·rename_i f hf;split at hk
    ·rename_i n hn; injection hk with hk; subst hk; exact bB R (q8 R ht hf hn hx ib hr) hd he oc
    ·cases hk
   ·cases hk
  ·cases hk
 case field t X i =>
  split at hk
  ·rename_i fs x' ht hx;split at hk
   ·rename_i f hf;split at hk
    ·rename_i ag z hA hz; injection hk with hk; subst hk; exact bB R (w8 R ht hf hA hz hx ib hr) hd he oc
    ·cases hk
   ·cases hk
  ·cases hk
 case indexAddr t X I =>
  split at hk
  ·rename_i el x' i' ht hx hi;obtain ⟨z,hz,rfl⟩:=pC hk;exact bB R (r8 R ht hz hx hi ib hr) hd he oc
  ·rename_i n' e x' i' ht hx hi;obtain ⟨z,hz,rfl⟩:=pC hk;exact bB R (M7 R ht hz hx hi ib hr) hd he oc
  ·cases hk
 case index t X I =>
  split at hk
  ·rename_i x' i' ht hx hi;cases hk;exact bB R (t8 R ht hx hi ib hr) hd he oc
  ·cases hk
 case makeMap t r =>
  split at hk
  ·rename_i kT eT ht;obtain ⟨ty,oe,rfl⟩:=pC hk;simp only [K.run] at hr;injection hr with hr; injection hr with h1 h2; subst h1; subst h2;cases ja:o.dst with
   | none=>simp [kA.eff,ja] at he
   | some d =>
    simp only [kA.eff,ja] at he;cases he;have h:=op_mkm R ib ja (hd d ja) (hD d ja rfl);exact fc d ja h
  ·cases hk
 case entry X =>
  obtain ⟨x',hx,rfl⟩:=pC hk;simp only [K.run] at hr;split at hr
  ·rename_i t' n nc;split at hr
   ·rename_i tm nm N seen hi;split at hr
    ·rename_i L i hL hl;split at hr
     ·rename_i hN;split at hr
      ·rename_i y v bj;split at hr
       ·rename_i sh;injection hr with hr; injection hr with h1 h2; subst h1; subst h2;exact bB R ⟨rfl,val_ent R hx ib nc hi hL hl hN bj sh⟩ hd he oc
       ·cases hr
      ·cases hr
     ·cases hr
    ·cases hr
   ·cases hr
  ·cases hr
 case range t X =>
  split at hk
  ·rename_i kT eT ht;obtain ⟨x',hx,rfl⟩:=pC hk;simp only [K.run] at hr;split at hr
   ·rename_i t' n nc;split at hr
    ·rename_i L hL;injection hr with hr; injection hr with h1 h2; subst h1; subst h2;cases ja:o.dst with
     | none=>simp [kA.eff,ja] at he
     | some d =>
      simp only [kA.eff,ja] at he;cases he;have h:=op_rng R ht hx ib nc hL ja (hd d ja) (hD d ja rfl);exact fc d ja h
    ·cases hr
   ·cases hr
  ·cases hk
 case lookup t X I ok =>
  split at hk
  ·rename_i kT eT x' i' ht hx hi;split at hk
   ·rename_i ty z oe hz;cases hk;simp only [K.run] at hr;split at hr
    ·rename_i t' n nc;split at hr
     ·rename_i L hL;split at hr
      ·rename_i ba;injection hr with hr; injection hr with h1 h2; subst h1; subst h2;unfold PU at oe;split at oe
       ·rename_i kk th;cases oe;exact bB R ⟨rfl,DU R (xR kk) (LX th) ht hz ba.2.2 hx hi ib nc hL ba.1 ba.2.1⟩ hd he oc
       ·rename_i th;cases oe;exact bB R ⟨rfl,DU R cR (ZX th) ht hz ba.2.2 hx hi ib nc hL ba.1 ba.2.1⟩ hd he oc
       ·obtain ⟨l,_,oe⟩:=y7.1 oe;split at oe
        ·rename_i sh;cases oe;exact bB R ⟨rfl,DU R (zR l) (KX sh.1) ht hz ba.2.2 hx hi ib nc hL ba.1 ba.2.1⟩ hd he oc
        ·cases oe
      ·cases hr
     ·cases hr
    ·cases hr
   ·cases hk
  ·cases hk
 case mapUpdate t X I Y =>
  split at hk
  ·rename_i kT eT x' i' y' ht hx hi hy;obtain ⟨ty,oe,rfl⟩:=pC hk;simp only [K.run] at hr;split at hr
   ·rename_i t' n nc;split at hr
    ·rename_i L hL;split at hr
     ·rename_i ba;injection hr with hr; injection hr with h1 h2; subst h1; subst h2;simp only [kA.eff] at he;cases he;have key:∃ w',(execOp a.eval o).run P w=.ok .skip w'/\SC P O nt B F0 aa w0 D ((s.setObj t' n (qF (eG L (i'.get s) (y'.get s)))).put o.dst ⟨.undef,.no⟩) (a.put o.dst undef) w':=by
       unfold PU at oe;split at oe
       ·rename_i kk th;cases oe;exact SK R (xR kk) (LX th) ht hx hi hy (.inl ib) hd nc hL ba.1 ba.2.1 ba.2.2
       ·rename_i th;cases oe;exact SK R cR (ZX th) ht hx hi hy (.inl ib) hd nc hL ba.1 ba.2.1 ba.2.2
       ·obtain ⟨l,_,oe⟩:=y7.1 oe;split at oe
        ·rename_i sh;cases oe;exact SK R (zR l) (KX sh.1) ht hx hi hy (.inl ib) hd nc hL ba.1 ba.2.1 ba.2.2
        ·cases oe
      obtain ⟨w',ka,hR⟩:=key;unfold Oper.wp;rw [ka,Oper.upon_skip];simp_all
     ·cases hr
    ·cases hr
   ·cases hr
  ·cases hk
 case insert t X I Y =>
  split at hk
  ·rename_i kT eT x' i' y' ht hx hi hy;obtain ⟨ty,oe,rfl⟩:=pC hk;simp only [K.run] at hr;split at hr
   ·rename_i t' n nc;split at hr
    ·rename_i L hL;split at hr
     ·rename_i ba;injection hr with hr; injection hr with h1 h2; subst h1; subst h2;simp only [kA.eff] at he;cases he;have key:∃ w',(execOp a.eval o).run P w=.ok .skip w'/\SC P O nt B F0 aa w0 D ((s.setObj t' n (qF (eG L (i'.get s) (y'.get s)))).put o.dst ⟨.undef,.no⟩) (a.put o.dst undef) w':=by
       unfold PU at oe;split at oe
       ·rename_i kk th;cases oe;exact SK R (xR kk) (LX th) ht hx hi hy (.inr ib) hd nc hL ba.1 ba.2.1 ba.2.2
       ·rename_i th;cases oe;exact SK R cR (ZX th) ht hx hi hy (.inr ib) hd nc hL ba.1 ba.2.1 ba.2.2
       ·obtain ⟨l,_,oe⟩:=y7.1 oe;split at oe
        ·rename_i sh;cases oe;exact SK R (zR l) (KX sh.1) ht hx hi hy (.inr ib) hd nc hL ba.1 ba.2.1 ba.2.2
        ·cases oe
      obtain ⟨w',ka,hR⟩:=key;unfold Oper.wp;rw [ka,Oper.upon_skip];simp_all
     ·cases hr
    ·cases hr
   ·cases hr
  ·cases hk
 case extract X i=>obtain ⟨y,hy,rfl⟩:=pC hk; exact bB R (val_ext R hy ib hr) hd he oc
 case call c =>
  obtain ⟨callee,xs,ts⟩:=c;cases callee with
  | invoke r m=>cases hk
  | value f =>
   cases f with
   | func f =>
    have plain:(MD xs.toList).map (.call cl f)=some k->o.wp P a w Kn Q:=fun hk=>by
     obtain ⟨ys,hy,rfl⟩:=pC hk;exact op_call R za hy ib hd (fun d h=>hD d h rfl) hr he hK
    cases mu with
    | none=>exact plain hk
    | some b =>
     cases b with
     | true =>
      obtain ⟨ys,hy,rfl⟩:=pC (show (MD xs.toList).map (.callr cl f)=some k from hk);exact op_callr R za hy ib hd hr he hK
     | false =>
      have se:(match P.funcs[f]? with
       | some fn=>(match fn.resultTypes.toList with
        | [t]=>(match P.underlying t with
         | some (.slice e)=>(match nB P e,MD xs.toList with
          | some z,some xs=>if 0<z then some (K.callf cl f z xs) else none
          | _,_=>none)
         | _=>none)
        | _=>none)
       | none=>none)=some k:=hk
      clear hk;split at se
      ·split at se
       ·split at se
        ·split at se
         ·rename_i z ys hz hy;split at se
          ·rename_i ub;injection se with se;subst se;exact op_callf R za hy ib hd (fun d h=>hD d h rfl) ub hr he hK
          ·cases se
         ·cases se
        ·cases se
       ·cases se
      ·cases se
   | tmp tf =>
    obtain ⟨ys,hy,rfl⟩:=pC hk;exact op_callv R za hy ib hd hr he hK
   | _=>cases hk
  | builtin b =>
  cases b
  case len =>
   simp only at hk;split at hk
   ·rename_i x' t hx am;have sx:ts=#[t]:=by have h0:=congrArg List.toArray am; rwa [yM] at h0
    subst sx;obtain ⟨X,hX,ti⟩:=p6 hx;subst hX;split at hk
    ·rename_i ht; injection hk with hk; subst hk; exact bB R (R6 R (str:=true) ht ti ib hr) hd he oc
    ·rename_i el ht; injection hk with hk; subst hk; exact bB R (R6 R (str:=false) ⟨el,ht⟩ ti ib hr) hd he oc
    ·rename_i kT eT ht;cases hk;simp only [K.run] at hr;split at hr
     ·rename_i t n nc;split at hr
      ·rename_i L hL;injection hr with hr; injection hr with h1 h2; subst h1; subst h2;exact bB R ⟨rfl,op_mlen R ht ti ib nc hL⟩ hd he oc
      ·cases hr
     ·cases hr
    ·cases hk
   ·cases hk
  case clear =>
   simp only at hk;split at hk
   ·rename_i x' t hx am;have sx:ts=#[t]:=by have h0:=congrArg List.toArray am; rwa [yM] at h0
    subst sx;obtain ⟨X,hX,ti⟩:=p6 hx;subst hX;split at hk
    ·rename_i el ht;obtain ⟨z,hz,rfl⟩:=pC hk;exact F1 (op_clr R ht hz ti ib hd hr he) oc
    ·cases hk
   ·cases hk
  case max =>
   simp only at hk;split at hk
   ·rename_i X Y ec;have hX:xs=#[X,Y]:=by rw [<- yM (xs:=xs),ec]
    subst hX;split at hk
    ·rename_i x' y' hx hy;injection hk with hk; subst hk;simp only [K.run] at hr;obtain ⟨v,hv,hr⟩:=pC hr;injection hr with h1 h2; subst h1; subst h2;exact bB R ⟨rfl,val_mm R (mx:=true) hx hy ib hv⟩ hd he oc
    ·cases hk
   ·cases hk
  case min =>
   simp only at hk;split at hk
   ·rename_i X Y ec;have hX:xs=#[X,Y]:=by rw [<- yM (xs:=xs),ec]
    subst hX;split at hk
    ·rename_i x' y' hx hy;injection hk with hk; subst hk;simp only [K.run] at hr;obtain ⟨v,hv,hr⟩:=pC hr;injection hr with h1 h2; subst h1; subst h2;exact bB R ⟨rfl,val_mm R (mx:=false) hx hy ib hv⟩ hd he oc
    ·cases hk
   ·cases hk
  case append =>
   simp only at hk;split at hk
   ·rename_i x' y' t t' hx am;split at hk
    ·rename_i htt';subst htt';have sx:ts=#[t,t]:=by have h0:=congrArg List.toArray am; rwa [yM] at h0
     subst sx;obtain ⟨X,Y,hX,ti,br⟩:∃ X Y,xs=#[X,Y]/\opd X=some x'/\opd Y=some y':=by
      obtain ⟨l⟩:=xs;have key:∀ {r:List Operand} {ys:List iB},MD r=some ys->r.length=ys.length/\∀ j (h:j<r.length),opd r[j]=ys[j]?:=by
       intro r
       induction r with
       | nil=>intro ys h; injection h with h; subst h; exact ⟨rfl,fun j h=>by simp at h⟩
       | cons X r ih =>
        intro ys h;unfold MD at h
        grind
      obtain ⟨h1,h2⟩:=key hx
      match l,h1,h2 with
      | [X,Y],_,h2=>exact ⟨X,Y,rfl,h2 0 (by simp),h2 1 (by simp)⟩
     subst hX;split at hk
     ·rename_i el ht;split at hk
      ·rename_i i z hi hz;split at hk
       ·rename_i ba;injection hk with hk;cases mu with
        | some m =>
         cases ja:o.dst with
         | none=>exact absurd ja (ej (by simp))
         | some d =>
          cases m with
          | true =>
           cases nest with
           | true=>simp only [if_true] at hk; subst hk; exact fc d ja (dY R ht hi hz ba.1 ba.2 ti br ib ja (hd d ja) (hD d ja rfl) hr he)
           | false=>simp only [yC,if_false] at hk; subst hk; exact fc d ja (op_appm R ht hi hz ba.1 ba.2 ti br ib ja (hd d ja) (hD d ja rfl) hr he)
          | false=>simp only at hk; subst hk; exact fc d ja (u6 R ht hi hz ba.1 ba.2 ti br ib ja (hd d ja) (hD d ja rfl) hr he)
        | none =>
        simp only at hk;subst hk;cases ja:o.dst with
        | none =>
         have:∃ A,e=.app A 0:=by
          simp only [K.run] at hr
          grind
         obtain ⟨A,rfl⟩:=this;simp [kA.eff,ja] at he
        | some d=>exact F1 (op_app R ht hi hz ba.1 ba.2 ti br ib ja (hd d ja) hr he) oc
       ·cases hk
      ·cases hk
     ·cases hk
    ·cases hk
   ·cases hk
  all_goals cases hk
 case makeFunc fn fs Xs =>
  cases fn with
  | func f =>
   simp only at hk;split at hk
   ·rename_i h0;obtain ⟨ys,hy,rfl⟩:=pC hk;exact bB R (val_mkf R h0 hy ib hr) hd he oc
   ·cases hk
  | _=>cases hk
 all_goals cases hk
end
end
section
section
variable {call:LA} {s s' s1 s2:uA}
inductive Tr where
 | id
 | row (t n:Nat) (r:List wA)
 | an (A:An) (d:Nat)
 | obj (t n:Nat) (S:AV)
 | rn (k:Option (Nat × Nat)) (t n:Nat) (r:List wA)
 | ob2 (t n:Nat) (S:AV) (d m:Nat) (r:List wA)
def Tr.ap:Tr->uA->uA
 | .id,s=>s
 | .row t n r,s=>s.setRow t n r
 | .an A d,s=>(s.stripA A).strip d
 | .obj t n S,s=>s.setObj t n S
 | .rn k t n r,s=>(s.killO k).setRow t n r
 | .ob2 t n S d m r,s=>(s.setObj t n S).setRow d m r
def Tr.f:Tr->An->An
 | .an A d,x=>match A with
  | .own k _=>(x.strip k).strip d
  | _=>x.strip d
 | _,x=>x
theorem Tr.ends (T:Tr):bX T.f:=by
 cases T with
 | an A d =>
  have h:∀ k j e,(An.own j e).strip k≠.ex:=fun k j e=>by simp only [An.strip]; split <;> simp
  have h':∀ k k' j e,((An.own j e).strip k).strip k'≠.ex:=fun k k' j e=>by
   by_cases hj:j=k
   ·simp [An.strip,hj]
   ·rw [show (An.own j e).strip k=An.own j e from if_neg hj];exact h k' j e
  cases A with
  | own k e=>exact ⟨rfl,rfl,fun j e=>h' k d j e⟩
  | no=>exact ⟨rfl,rfl,fun j e=>h d j e⟩
  | ex=>exact ⟨rfl,rfl,fun j e=>h d j e⟩
 | _=>exact ⟨rfl,rfl,fun _ _ h=>by cases h⟩
theorem Tr.ap_an (A:An) (d:Nat) (s:uA):(Tr.an A d).ap s=s.mapAn (Tr.an A d).f:=by
 cases A with
 | own k e=>simp [Tr.ap,uA.stripA,uA.strip,uA.mapAn,wA.strip,Tr.f,Function.comp_def]
 | no=>rfl
 | ex=>rfl
def kA.runG (call:LA) (o:kA) (s:uA):Option (wA × tC) :=
 match o.guard with
 | none=>o.op.run call s
 | some (t,want)=>match (s.env t).v with
  | .bool b=>if b=want then o.op.run call s else some (⟨.tup [],.no⟩,.none)
  | .tup []=>some (⟨.tup [],.no⟩,.none)
  | _=>none
def kA.effT (o:kA) (next:Nat):wA × tC->Option (Tr × wA)
 | (x,.none)=>some (.id,x)
 | (x,.new r)=>match o.dst with
  | none=>none
  | some d=>some (.row d next r,⟨match x.v with | .ref _ _ sz off l c=>.ref d next sz off l c | _=>.ptr d next 0,.no⟩)
 | (x,.set t n r)=>some (.row t n r,x)
 | (x,.app a _)=>match o.dst with
  | none=>none
  | some d=>some (.an a d,⟨x.v,match x.a with | .own _ e=>.own d e | a=>a⟩)
 | (x,.obj t n S)=>some (.obj t n S,x)
 | (x,.mk S)=>match o.dst with
  | none=>none
  | some d=>some (.obj d next S,⟨x.v.named d next,.no⟩)
 | (x,.ob2 t n S r)=>match o.dst with
  | none=>none
  | some d=>some (.ob2 t n S d next r,⟨match x.v with | .ref _ _ sz off l c=>.ref d next sz off l c | _=>.ptr d next 0,.no⟩)
 | (x,.rn k r)=>match o.dst with
  | none=>none
  | some d=>some (.rn k d next r,⟨match x.v with | .ref _ _ sz off l c=>.ref d next sz off l c | _=>.ptr d next 0,.no⟩)
theorem SG (o:kA) (s:uA):o.step call s=(o.runG call s).bind fun p=>(o.effT s.next p).map fun q=>(q.1.ap s).put o.dst q.2:=by
 have h:∀ p,o.eff s p=(o.effT s.next p).map fun q=>(q.1.ap s).put o.dst q.2:=by
  rintro ⟨x,e⟩;cases e with
  | none=>rfl
  | new r=>simp only [kA.eff,kA.effT]; cases o.dst <;> rfl
  | set t n r=>rfl
  | app a k=>simp only [kA.eff,kA.effT]; cases o.dst <;> rfl
  | obj t n S=>rfl
  | mk S=>simp only [kA.eff,kA.effT]; cases o.dst <;> rfl
  | rn k r=>simp only [kA.eff,kA.effT]; cases o.dst <;> rfl
  | ob2 t n S r=>simp only [kA.eff,kA.effT]; cases o.dst <;> rfl
 have hf:o.eff s=fun p=>(o.effT s.next p).map fun q=>(q.1.ap s).put o.dst q.2:=funext h
 unfold kA.step kA.runG;rw [<- hf];cases o.guard with
 | none=>rfl
 | some p =>
  obtain ⟨t,want⟩:=p;simp only;generalize (s.env t).v=y;cases y with
  | bool b=>simp only; split <;> rfl
  | tup l=>cases l <;> rfl
  | _=>rfl
theorem OL (k:K) {x:wA} {e:tC} (h:k.run call s=some (x,e)):match e with
    | .none=>True
    | .new _=>MZ k=true
    | .set t _ _=>isS k=true/\∃ c,k.cl=some c/\c.okPtr t=true
    | .app _ _=>d8 k=true
    | .obj _ _ _=>XQ k=true/\isR k=false
    | .mk _=>XQ k=true/\isR k=false
    | .rn _ _=>isM k=true
    | .ob2 _ _ _ _=>XQ k=true/\isR k=false/\MZ k=true:=by
  have hn:e=.none->(match e with
    | .none=>True
    | .new _=>MZ k=true
    | .set t _ _=>isS k=true/\∃ c,k.cl=some c/\c.okPtr t=true
    | .app _ _=>d8 k=true
    | .obj _ _ _=>XQ k=true/\isR k=false
    | .mk _=>XQ k=true/\isR k=false
    | .rn _ _=>isM k=true
    | .ob2 _ _ _ _=>XQ k=true/\isR k=false/\MZ k=true):=fun h=>by subst h; trivial
  cases k with
  | callh nt x xs=>cases h
  | nxt x=>cases h
  | ent x =>
    simp only [K.run] at h;split at h
    · split at h
      · split at h
        · split at h
          · split at h
            · split at h
              · injection h with h; injection h with _ h; exact hn h.symm
              · cases h
            · cases h
          · cases h
        · cases h
      · cases h
    · cases h
  | slz x =>
    simp only [K.run] at h;split at h <;> first | (cases h; done) | (injection h with h; injection h with _ h; exact hn h.symm)
  | rng x =>
    simp only [K.run] at h;split at h
    · split at h
      · injection h with h; injection h with _ h; subst h; exact ⟨rfl,rfl⟩
      · cases h
    · cases h
  | alloc z=>simp only [K.run] at h; injection h with h; injection h with _ h; subst h; rfl
  | box z x =>
    simp only [K.run] at h;split at h <;> split at h <;> first | (cases h; done) | (injection h with h; injection h with _ h; subst h; rfl)
  | mks z b zs l c =>
    simp only [K.run] at h;split at h
    · split at h
      · injection h with h; injection h with _ h; subst h; rfl
      · cases h
    · cases h
  | clr cl z x =>
    simp only [K.run] at h;split at h
    · injection h with h; injection h with _ h; subst h; trivial
    · rename_i t n sz off ln _ _
      split at h
      · rename_i sa
        obtain ⟨r,_,h⟩:=yf.1 h;injection h with _ h;subst h;exact ⟨rfl,cl,rfl,sa.1⟩
      · cases h
    · cases h
  | store cl g z x y =>
    simp only [K.run] at h;split at h
    · split at h
      · rename_i t n off _ sa
        obtain ⟨r,_,h⟩:=yf.1 h;injection h with _ h;subst h;exact ⟨rfl,cl,rfl,sa⟩
      · cases h
    · cases h
  | app cl e z b x y =>
    simp only [K.run] at h;split at h
    · split at h
      · split at h
        · cases h
        · split at h
          · injection h with h; injection h with _ h; subst h; rfl
          · cases h
        · injection h with h; injection h with _ h; subst h; rfl
      · cases h
    · cases h
  | appf cl e z b x y =>
    simp only [K.run] at h;split at h
    · split at h
      · split at h
        · split at h
          · injection h with h; injection h with _ h; exact hn h.symm
          · injection h with h; injection h with _ h; subst h; rfl
        · cases h
      · cases h
    · cases h
  | appm cl e z b x y =>
    simp only [K.run] at h;split at h
    · split at h
      · split at h
        · split at h
          · injection h with h; injection h with _ h; exact hn h.symm
          · injection h with h; injection h with _ h; subst h; rfl
        · cases h
      · cases h
    · split at h
      · split at h
        · injection h with h; injection h with _ h; subst h; rfl
        · cases h
      · cases h
    · cases h
  | appn cl e z b x y =>
    simp only [K.run] at h;split at h
    · split at h
      · split at h
        · injection h with h; injection h with _ h; subst h; rfl
        · cases h
      · cases h
    · split at h
      · split at h
        · injection h with h; injection h with _ h; subst h; rfl
        · cases h
      · cases h
    · cases h
  | bslr sz z n ps =>
    simp only [K.run] at h;split at h
    · injection h with h; injection h with _ h; subst h; rfl
    · cases h
  | bad=>simp only [K.run] at h; cases h
  | mkm=>simp only [K.run] at h; injection h with h; injection h with _ h; subst h; exact ⟨rfl,rfl⟩
  | mkb T e=>simp only [K.run] at h; injection h with h; injection h with _ h; subst h; exact ⟨rfl,rfl⟩
  | mget ok ty z x k =>
    simp only [K.run] at h;split at h
    · split at h
      · split at h
        · injection h with h; injection h with _ h; exact hn h.symm
        · cases h
      · cases h
    · cases h
  | mset ty x k v =>
    simp only [K.run] at h;split at h
    · split at h
      · split at h
        · injection h with h; injection h with _ h; subst h; exact ⟨rfl,rfl⟩
        · cases h
      · cases h
    · cases h
  | mlen x =>
    simp only [K.run] at h;split at h
    · split at h
      · injection h with h; injection h with _ h; exact hn h.symm
      · cases h
    · cases h
  | mv x=>simp only [K.run] at h; injection h with h; injection h with _ h; exact hn h.symm
  | pick c a b =>
    simp only [K.run] at h;split at h
    · injection h with h; injection h with _ h; exact hn h.symm
    · cases h
  | build z ps =>
    simp only [K.run] at h;split at h
    · obtain ⟨r,_,h⟩:=yf.1 h; injection h with _ h; exact hn h.symm
    · cases h
  | bsl z n ps =>
    simp only [K.run] at h;split at h
    · injection h with h; injection h with _ h; exact hn h.symm
    · cases h
  | load cl g z x =>
    simp only [K.run] at h;split at h
    · split at h
      · obtain ⟨r,_,h⟩:=yf.1 h; injection h with _ h; exact hn h.symm
      · cases h
    · split at h
      · cases h
      · obtain ⟨r,_,h⟩:=yf.1 h; injection h with _ h; exact hn h.symm
    · split at h
      · cases h
      · obtain ⟨r,_,h⟩:=yf.1 h; injection h with _ h; exact hn h.symm
    · cases h
  | mm b x y=>simp only [K.run] at h; obtain ⟨r,_,h⟩:=yf.1 h; injection h with _ h; exact hn h.symm
  | bin op b x y=>simp only [K.run] at h; obtain ⟨r,_,h⟩:=yf.1 h; injection h with _ h; exact hn h.symm
  | eqa n ks x y =>
    simp only [K.run] at h;split at h
    · obtain ⟨r,_,h⟩:=yf.1 h; injection h with _ h; exact hn h.symm
    · cases h
  | eqn n p x y =>
    simp only [K.run] at h;split at h <;> first | (cases h; done) | (obtain ⟨r,_,h⟩:=yf.1 h; injection h with _ h; exact hn h.symm)
  | un op x =>
    simp only [K.run] at h;split at h <;> first | (cases h; done) | (injection h with h; injection h with _ h; exact hn h.symm)
  | conv o x =>
    simp only [K.run] at h;split at h <;> first | (cases h; done) | (injection h with h; injection h with _ h; exact hn h.symm)
  | slc st z x lo hi mx =>
    cases mx with
    | some m=>simp [K.run] at h
    | none =>
      simp only [K.run] at h;split at h
      · cases h
      · split at h <;> first
          | (cases h; done)
          | (split at h
             · split at h
               · (try split at h) <;> (injection h with h; injection h with _ h; exact hn h.symm)
               · cases h
             · cases h)
  | faddr o x =>
    simp only [K.run] at h;split at h <;> first | (cases h; done) | (injection h with h; injection h with _ h; exact hn h.symm)
  | field g o z x =>
    simp only [K.run] at h;split at h
    · obtain ⟨r,_,h⟩:=yf.1 h; injection h with _ h; exact hn h.symm
    · cases h
  | aaddr l z x i =>
    simp only [K.run] at h;split at h
    · split at h
      · split at h <;> first | (cases h; done) | (injection h with h; injection h with _ h; exact hn h.symm)
      · cases h
    · cases h
  | iaddr z x i =>
    simp only [K.run] at h;split at h
    · split at h
      · obtain ⟨r,_,h⟩:=y7.1 h; split at h <;> first | (cases h; done) | (injection h with h; injection h with _ h; exact hn h.symm)
      · obtain ⟨r,_,h⟩:=y7.1 h; split at h <;> first | (cases h; done) | (injection h with h; injection h with _ h; exact hn h.symm)
      · split at h <;> first | (cases h; done) | (injection h with h; injection h with _ h; exact hn h.symm)
      · cases h
    · cases h
  | index x i =>
    simp only [K.run] at h;split at h
    · obtain ⟨r,_,h⟩:=yf.1 h; injection h with _ h; exact hn h.symm
    · cases h
  | ext x i =>
    simp only [K.run] at h;split at h
    · obtain ⟨r,_,h⟩:=yf.1 h; injection h with _ h; exact hn h.symm
    · cases h
  | call cl f xs =>
    simp only [K.run] at h;obtain ⟨vs,_,h⟩:=y7.1 h;split at h
    · obtain ⟨r,_,h⟩:=y7.1 h
      split at h
      · split at h <;> first | (cases h; done) | (injection h with h; injection h with _ h; exact hn h.symm)
      · split at h <;> first | (cases h; done) | (injection h with h; injection h with _ h; subst h; exact ⟨rfl,rfl⟩)
    · obtain ⟨r,_,h⟩:=y7.1 h
      split at h
      · cases h
      · split at h <;> first | (cases h; done) | (injection h with h; injection h with _ h; subst h; exact ⟨rfl,rfl⟩)
    · cases h
  | callf cl f z xs =>
    simp only [K.run] at h;obtain ⟨vs,_,h⟩:=y7.1 h;split at h
    · obtain ⟨r,_,h⟩:=y7.1 h
      split at h
      · split at h
        · split at h
          · injection h with h; injection h with _ h; subst h; exact ⟨rfl,rfl⟩
          · injection h with h; injection h with _ h; subst h; exact ⟨rfl,rfl,rfl⟩
        · cases h
      · cases h
    · cases h
  | callo cl f z xs =>
    simp only [K.run] at h;split at h
    · obtain ⟨r,_,h⟩:=y7.1 h
      split at h
      · split at h
        · split at h
          · injection h with h; injection h with _ h; exact hn h.symm
          · split at h
            · cases h
            · injection h with h; injection h with _ h; subst h; rfl
        · cases h
      · cases h
    · cases h
  | calln cl f z L x xs =>
    simp only [K.run] at h;split at h
    · split at h
      · split at h
        · split at h
          · split at h
            · obtain ⟨r,_,h⟩:=y7.1 h
              split at h
              · split at h
                · injection h with h; injection h with _ h; subst h; rfl
                · cases h
              · cases h
            · cases h
          · cases h
        · split at h
          · obtain ⟨r,_,h⟩:=y7.1 h
            split at h
            · split at h
              · injection h with h; injection h with _ h; subst h; rfl
              · cases h
            · cases h
          · cases h
        · cases h
      · cases h
    · cases h
  | callq cl f xs =>
    simp only [K.run] at h;split at h
    · obtain ⟨r,_,h⟩:=y7.1 h
      split at h
      · split at h
        · injection h with h; injection h with _ h; exact hn h.symm
        · cases h
      · cases h
    · cases h
  | callr cl f xs =>
    simp only [K.run] at h;split at h
    · split at h
      · rename_i sa
        split at h
        · split at h
          · obtain ⟨q,_,h⟩:=y7.1 h
            split at h
            · split at h
              · injection h with h; injection h with _ h; subst h
                exact ⟨rfl,cl,rfl,sa⟩
              · cases h
            · cases h
          · cases h
        · cases h
      · cases h
    · cases h
  | rstr x =>
    simp only [K.run] at h;split at h <;> first | (cases h; done) | (injection h with h; injection h with _ h; exact hn h.symm)
  | bstr cl x =>
    simp only [K.run] at h;split at h
    · obtain ⟨r,_,h⟩:=yf.1 h; injection h with _ h; exact hn h.symm
    · cases h
  | aslc cl l z x lo hi =>
    simp only [K.run] at h;split at h
    · split at h
      · split at h
        · split at h <;> (injection h with h; injection h with _ h; exact hn h.symm)
        · cases h
      · cases h
    · cases h
  | mkf f xs =>
    simp only [K.run] at h;split at h
    · injection h with h; injection h with _ h; exact hn h.symm
    · cases h
  | callv cl x xs =>
    simp only [K.run] at h;split at h
    · split at h
      · obtain ⟨r,_,h⟩:=y7.1 h
        split at h
        · split at h <;> first | (cases h; done) | (injection h with h; injection h with _ h; exact hn h.symm)
        · cases h
      · cases h
    · cases h
  | len st x =>
    simp only [K.run] at h;split at h <;> first
      | (cases h; done)
      | (split at h <;> first | (cases h; done) | (injection h with h; injection h with _ h; exact hn h.symm))
  | nilchk x =>
    simp only [K.run] at h;split at h <;> first | (cases h; done) | (injection h with h; injection h with _ h; exact hn h.symm)
def Tr.of (T:Tr) (o:kA):Prop:=match T with
 | .id=>True
 | .row t _ _=>(MZ o.op=true/\o.dst=some t)\/(isS o.op=true/\∃ c,o.op.cl=some c/\c.okPtr t=true)
 | .an _ d=>d8 o.op=true/\o.dst=some d
 | .obj _ _ _=>XQ o.op=true/\isR o.op=false
 | .rn ..=>isM o.op=true
 | .ob2 _ _ _ d _ _=>(XQ o.op=true/\isR o.op=false/\MZ o.op=true)/\o.dst=some d
theorem OZ (o:kA) {x:wA} {e:tC} (h:o.runG call s=some (x,e)) {n:Nat} {T:Tr} {v:wA} (ht:o.effT n (x,e)=some (T,v)):T.of o:=by
 have key:o.op.run call s=some (x,e)\/e=.none:=by
  unfold kA.runG at h;split at h
  ·exact .inl h
  ·split at h
   ·split at h
    ·exact .inl h
    ·injection h with h; injection h with _ h; exact .inr h.symm
   ·injection h with h; injection h with _ h; exact .inr h.symm
   ·cases h
 cases e with
 | none=>simp only [kA.effT] at ht; injection ht with ht; injection ht with h1 _; subst h1; trivial
 | new r =>
  have:=OL o.op (key.resolve_right (by simp));simp only [kA.effT] at ht;split at ht
  ·cases ht
  ·rename_i d hd; injection ht with ht; injection ht with h1 _; subst h1; exact .inl ⟨this,hd⟩
 | set t n r =>
  have:=OL o.op (key.resolve_right (by simp));simp only [kA.effT] at ht;injection ht with ht; injection ht with h1 _; subst h1;exact .inr this
 | app a k =>
  have:=OL o.op (key.resolve_right (by simp));simp only [kA.effT] at ht;split at ht
  ·cases ht
  ·rename_i d hd; injection ht with ht; injection ht with h1 _; subst h1; exact ⟨this,hd⟩
 | obj t n S =>
  have:=OL o.op (key.resolve_right (by simp));simp only [kA.effT] at ht;injection ht with ht; injection ht with h1 _; subst h1;exact this
 | mk S =>
  have:=OL o.op (key.resolve_right (by simp));simp only [kA.effT] at ht;split at ht
  ·cases ht
  ·injection ht with ht; injection ht with h1 _; subst h1; exact this
 | rn k r =>
  have:=OL o.op (key.resolve_right (by simp));simp only [kA.effT] at ht;split at ht
  ·cases ht
  ·injection ht with ht; injection ht with h1 _; subst h1; exact this
 | ob2 t n S r =>
  have:=OL o.op (key.resolve_right (by simp));simp only [kA.effT] at ht;split at ht
  ·cases ht
  ·rename_i d hd; injection ht with ht; injection ht with h1 _; subst h1; exact ⟨this,hd⟩
theorem get_put {o:iB} {d:Option Nat} {x:wA} (h:∀ n,o=.t n->d≠some n):o.get (s.put d x)=o.get s/\o.an (s.put d x)=o.an s:=by
 cases d with
 | none=>exact ⟨rfl,rfl⟩
 | some d =>
  cases o with
  | c v=>exact ⟨rfl,by cases v <;> first | rfl | (rename_i b l; cases b <;> rfl)⟩
  | t n =>
   have:n≠d:=fun e=>h n rfl (by rw [e])
   simp [iB.get,iB.an,uA.put,this]
theorem N0 {o:kA} {n:Nat} {x:iB} (h:x∈o.op.opds) (hx:x=.t n):n∈o.looks:=by
 unfold kA.looks;refine List.mem_append_left _ (List.mem_filterMap.2 ⟨x,h,?_⟩);rw [hx]
theorem XE {x y:kA} (h:x.clear y=true):(∀ n,x.dst=some n->n ∉ y.looks)/\(∀ n,x.dst=some n->y.dst≠some n):=by
 unfold kA.clear at h;constructor
 ·intro n hn;rw [hn] at h;simp at h;exact h.1
 ·intro n hn;rw [hn] at h;simp at h;exact h.2
theorem BK {y:kA} {d:Option Nat} {v:wA} (h:∀ n,d=some n->n ∉ y.looks):y.runG call (s.put d v)=y.runG call s:=by
 have h1:y.op.run call (s.put d v)=y.op.run call s:=KN _ (fun o ho=>get_put fun n hn hd=>h n hd (N0 ho hn)) (fun t n _=>by cases d <;> rfl) (fun _=>by cases d <;> rfl);unfold kA.runG;rw [h1];cases hg:y.guard with
 | none=>rfl
 | some p =>
  obtain ⟨t,want⟩:=p;have:t∈y.looks:=by unfold kA.looks; rw [hg]; simp
  have he:((s.put d v).env t)=s.env t:=by
   cases d with
   | none=>rfl
   | some d =>
    have:t≠d:=fun e=>h d rfl (e ▸ this)
    simp [uA.put,this]
  simp only [he]
def Tr.off (T:Tr) (o:kA):Prop:=match T with
 | .id=>True
 | .row t _ _=>¬ o.op.reads t
 | .an _ _=>d8 o.op=false
 | .obj _ _ _=>XQ o.op=false
 | .rn ..=>False
 | .ob2 _ _ _ d _ _=>XQ o.op=false/\¬ o.op.reads d
def Tr.act (T:Tr) (p:wA × tC):wA × tC:=match T with
 | .an _ _=>(p.1.mapAn T.f,p.2.mapAn T.f)
 | _=>p
theorem j6 {y:kA} {T:Tr} (h:T.off y):y.runG call (T.ap s)=(y.runG call s).map T.act:=by
 cases T with
 | rn=>exact absurd h id
 | ob2 t n S d m r =>
  have h1:y.op.run call ((s.setObj t n S).setRow d m r)=y.op.run call s:=KN _ (fun o ho=>by
   cases o with
   | t n=>exact ⟨rfl,rfl⟩
   | c v=>exact ⟨rfl,by cases v <;> first | rfl | (rename_i b l; cases b <;> rfl)⟩) (fun t' n' hr=>by
   simp only [uA.setRow,uA.setObj];rw [if_neg];rintro ⟨e,_⟩;exact h.2 (e ▸ hr)) (fun ho=>by
    have h':XQ y.op=false:=h.1;rw [h'] at ho; cases ho)
  have:y.runG call ((Tr.ob2 t n S d m r).ap s)=y.runG call s:=by
   unfold kA.runG Tr.ap;rw [h1];rfl
  have h2:(Tr.act (.ob2 t n S d m r):wA × tC->wA × tC)=id:=rfl;rw [this,h2,Option.map_id];rfl
 | id =>
  have:(Tr.act .id:wA × tC->wA × tC)=id:=rfl;rw [this,Option.map_id];rfl
 | row t n r =>
  have h1:y.op.run call (s.setRow t n r)=y.op.run call s:=KN _ (fun o ho=>by
   cases o with
   | t n=>exact ⟨rfl,rfl⟩
   | c v=>exact ⟨rfl,by cases v <;> first | rfl | (rename_i b l; cases b <;> rfl)⟩) (fun t' n' hr=>by
   simp only [uA.setRow];rw [if_neg];rintro ⟨e,_⟩;exact h (e ▸ hr)) (fun _=>rfl)
  have:y.runG call ((Tr.row t n r).ap s)=y.runG call s:=by
   unfold kA.runG Tr.ap;rw [h1];rfl
  have h2:(Tr.act (.row t n r):wA × tC->wA × tC)=id:=rfl;rw [this,h2,Option.map_id];rfl
 | obj t n S =>
  have h1:y.op.run call (s.setObj t n S)=y.op.run call s:=KN _ (fun o ho=>by
   cases o with
   | t n=>exact ⟨rfl,rfl⟩
   | c v=>exact ⟨rfl,by cases v <;> first | rfl | (rename_i b l; cases b <;> rfl)⟩) (fun t' n' hr=>rfl) (fun ho=>by
    have h':XQ y.op=false:=h;rw [h'] at ho; cases ho)
  have:y.runG call ((Tr.obj t n S).ap s)=y.runG call s:=by
   unfold kA.runG Tr.ap;rw [h1];rfl
  have h2:(Tr.act (.obj t n S):wA × tC->wA × tC)=id:=rfl;rw [this,h2,Option.map_id];rfl
 | an A d =>
  rw [Tr.ap_an];have h1:=H7 (call:=call) (s:=s) (Tr.ends (.an A d)) y.op h;unfold kA.runG;rw [h1];cases y.guard with
  | none=>rfl
  | some p =>
   obtain ⟨t,want⟩:=p;simp only [uA.mapAn];generalize (s.env t).v=y;cases y with
   | bool b =>
    simp only;split
    ·rfl
    ·simp [Tr.act,wA.mapAn,tC.mapAn,(Tr.ends (.an A d)).no]
   | tup l=>cases l <;> simp [Tr.act,wA.mapAn,tC.mapAn,(Tr.ends (.an A d)).no]
   | _=>rfl
theorem kZ {x y:kA} (h:NF x y=true):NF y x=true:=by
 unfold NF at h ⊢;simp only [yc] at h ⊢;obtain ⟨⟨⟨⟨⟨⟨⟨m1,m2⟩,h1⟩,h0⟩,h2⟩,h3⟩,h4⟩,h5⟩:=h;refine ⟨⟨⟨⟨⟨⟨⟨m2,m1⟩,by rw [Bool.or_comm]; exact h1⟩,by rw [Bool.or_comm (!XQ y.op),Bool.and_comm]; exact h0⟩,?_⟩,h4⟩,h3⟩,?_⟩
 ·cases hc:x.op.cl with
  | none=>cases y.op.cl <;> rfl
  | some c =>
   cases hd:y.op.cl with
   | none=>rfl
   | some d =>
    rw [hc,hd] at h2;simp only [Bool.or_eq_true] at h2 ⊢;refine h2.imp (fun h=>by rw [Bool.or_comm]; exact h) fun h=>?_
    cases c <;> cases d <;> first | rfl | exact h | (simp at h ⊢; exact fun e=>h e.symm) | (simp at h)
 ·simp only [Bool.or_eq_true] at h5 ⊢;rcases h5 with (h | h) | h
  ·exact .inl (.inr h)
  ·exact .inl (.inl h)
  ·exact .inr (by simp at h ⊢; exact fun e=>h e.symm)
theorem off_of {T:Tr} {x y:kA} (h:T.of x) (sa:NF x y=true):T.off y:=by
 unfold NF at sa;simp only [yc] at sa;obtain ⟨⟨⟨⟨⟨⟨⟨m1,m2⟩,h1⟩,h0⟩,h2⟩,h3⟩,h4⟩,h5⟩:=sa;cases T with
 | id=>trivial
 | rn k t n r =>
  have h':isM x.op=true:=h;rw [h'] at m1;cases m1
 | ob2 t n S d m r =>
  obtain ⟨⟨g1,g2,ha⟩,hd⟩:=h;rw [g1,g2] at h0;refine ⟨by simpa using h0,fun hr=>?_⟩;unfold K.reads at hr;rw [ha,hd] at h3;cases md:y.op.cl with
  | none=>rw [md] at hr; exact hr
  | some c =>
   rw [md] at hr h3;cases c with
   | any=>simp at h3
   | imm=>exact hr
   | root r=>simp at h3; exact h3 hr
   | out L=>simp only [Bool.not_true,Bool.false_or] at h3 hr; rw [h3] at hr; cases hr
 | an A d =>
  have:=h.1;rw [this] at h1;show d8 y.op=false;simpa using h1
 | obj t n S =>
  obtain ⟨g1,g2⟩:XQ x.op=true/\isR x.op=false:=h;rw [g1,g2] at h0;show XQ y.op=false;simpa using h0
 | row t n r =>
  intro hr;unfold K.reads at hr;rcases h with ⟨ha,hd⟩ | ⟨hs,hc⟩
  ·rw [ha,hd] at h3;cases md:y.op.cl with
   | none=>rw [md] at hr; exact hr
   | some c =>
    rw [md] at hr h3;cases c with
    | any=>simp at h3
    | imm=>exact hr
    | root r=>simp at h3; exact h3 hr
    | out L=>simp only [Bool.not_true,Bool.false_or] at h3 hr; rw [h3] at hr; cases hr
  ·cases md:y.op.cl with
   | none=>rw [md] at hr; exact hr
   | some c =>
    rw [md] at hr;obtain ⟨c0,hc,hp⟩:=hc;rw [hc,md,hs] at h2;cases c0 with
    | imm=>simp [Cl.okPtr] at hp
    | any=>cases c <;> first | exact hr | (simp at h2)
    | root r0 =>
     simp [Cl.okPtr] at hp;subst hp;cases c with
     | imm=>exact hr
     | any=>simp at h2
     | root r=>simp at h2; exact h2 hr
     | out L=>simp at h2 hr; exact hr h2
    | out L0 =>
     simp [Cl.okPtr] at hp;cases c with
     | imm=>exact hr
     | any=>simp at h2
     | root r=>simp at h2 hr; subst hr; exact hp h2
     | out L=>simp at h2
theorem D1 {t n t' n':Nat} {r r':List wA} {x y:kA} (h:(Tr.row t n r).of x) (h':(Tr.row t' n' r').of y) (sa:NF x y=true):t≠t':=by
 unfold NF at sa;simp only [yc] at sa;obtain ⟨⟨⟨⟨⟨⟨⟨m1,m2⟩,h1⟩,h0⟩,h2⟩,h3⟩,h4⟩,h5⟩:=sa;rintro rfl;rcases h with ⟨ha,hd⟩ | ⟨hs,hc⟩ <;> rcases h' with ⟨cu,ak⟩ | ⟨dr,xb⟩
 ·rw [ha,cu,hd,ak] at h5; simp at h5
 ·rw [ha,hd] at h3;obtain ⟨c,xb,hp⟩:=xb;rw [xb] at h3;cases c <;> simp [Cl.okPtr] at h3 hp <;> first | exact h3 hp.symm | exact hp h3
 ·rw [cu,ak] at h4;obtain ⟨c,hc,hp⟩:=hc;rw [hc] at h4;cases c <;> simp [Cl.okPtr] at h4 hp <;> first | exact h4 hp.symm | exact hp h4
 ·obtain ⟨c,hc,hp⟩:=hc;obtain ⟨c',xb,cz⟩:=xb;rw [hc,xb,hs] at h2;cases c <;> cases c' <;> simp [Cl.okPtr] at h2 hp cz
  ·subst hp; subst cz; exact h2 rfl
  ·subst hp; exact cz h2
  ·subst cz; exact hp h2
def Tr.conj (T:Tr):Tr->Tr
 | .row t n r=>match T with
  | .an A d=>.row t n (r.map (wA.mapAn (Tr.an A d).f))
  | _=>.row t n r
 | .ob2 t n S d m r=>match T with
  | .an A d'=>.ob2 t n S d m (r.map (wA.mapAn (Tr.an A d').f))
  | _=>.ob2 t n S d m r
 | T'=>T'
def Tr.actS (T:Tr) (v:wA):wA:=match T with
 | .an A d=>v.mapAn (Tr.an A d).f
 | _=>v
theorem XY {T:Tr} {o:kA} {n:Nat} {p:wA × tC} {T':Tr} {v:wA} (h:o.effT n p=some (T',v)) (hT:(∃ A d,T=.an A d)->∀ A d,T'≠.an A d) (hR:∀ k t m r,T'≠.rn k t m r):o.effT n (T.act p)=some (T.conj T',T.actS v):=by
 obtain ⟨x,e⟩:=p;cases T with
 | id=>rw [show Tr.id.act (x,e)=(x,e) from rfl,h]; cases T' <;> rfl
 | row t m r=>rw [show (Tr.row t m r).act (x,e)=(x,e) from rfl,h]; cases T' <;> rfl
 | obj t m S=>rw [show (Tr.obj t m S).act (x,e)=(x,e) from rfl,h]; cases T' <;> rfl
 | rn k t m r=>rw [show (Tr.rn k t m r).act (x,e)=(x,e) from rfl,h]; cases T' <;> rfl
 | ob2 t n S d m r=>rw [show (Tr.ob2 t n S d m r).act (x,e)=(x,e) from rfl,h]; cases T' <;> rfl
 | an A d =>
  cases e with
  | none=>simp only [kA.effT] at h; injection h with h; injection h with h1 h2; subst h1; subst h2; rfl
  | new r =>
   simp only [kA.effT] at h;split at h
   ·cases h
   ·rename_i d' hd;injection h with h; injection h with h1 h2; subst h1; subst h2;simp only [Tr.act,kA.effT,tC.mapAn,hd,Tr.conj,Tr.actS,wA.mapAn,(Tr.ends (.an A d)).no]
  | set t m r =>
   simp only [kA.effT] at h;injection h with h; injection h with h1 h2; subst h1; subst h2;simp only [Tr.act,kA.effT,tC.mapAn,Tr.conj,Tr.actS,wA.mapAn,(Tr.ends (.an A d)).no]
  | app a k =>
   simp only [kA.effT] at h;split at h
   ·cases h
   ·injection h with h; injection h with h1 h2; subst h1; exact absurd rfl (hT ⟨A,d,rfl⟩ _ _)
  | obj t m S =>
   simp only [kA.effT] at h;injection h with h; injection h with h1 h2; subst h1; subst h2;rfl
  | mk S =>
   simp only [kA.effT] at h;split at h
   ·cases h
   ·rename_i d' hd;injection h with h; injection h with h1 h2; subst h1; subst h2;simp only [Tr.act,kA.effT,tC.mapAn,hd,Tr.conj,Tr.actS,wA.mapAn,(Tr.ends (.an A d)).no]
  | rn k r =>
   simp only [kA.effT] at h;split at h
   ·cases h
   ·injection h with h; injection h with h1 h2; exact absurd h1.symm (hR _ _ _ _)
  | ob2 t n S r =>
   simp only [kA.effT] at h;split at h
   ·cases h
   ·rename_i d' hd;injection h with h; injection h with h1 h2; subst h1; subst h2;simp only [Tr.act,kA.effT,tC.mapAn,hd,Tr.conj,Tr.actS,wA.mapAn,(Tr.ends (.an A d)).no]
theorem qC {d d':Option Nat} (h:∀ n,d=some n->d'≠some n) (v v':wA):(s.put d v).put d' v'=(s.put d' v').put d v:=by
 cases d with
 | none=>rfl
 | some d =>
  cases d' with
  | none=>rfl
  | some d' =>
   have:d≠d':=fun e=>h d rfl (by rw [e])
   simp only [uA.put];congr 1;funext t;by_cases h1:t=d'
   ·by_cases h2:t=d
    ·exact absurd (h2.symm.trans h1) this
    ·rw [h1]; simp only [if_true]; rw [if_neg (fun e=>this e.symm)]
   ·simp [h1]
theorem dG (f:An->An) (d:Option Nat) (v:wA):(s.put d v).mapAn f=(s.mapAn f).put d (v.mapAn f):=by
 cases d with
 | none=>rfl
 | some d =>
  simp only [uA.put,uA.mapAn];congr 1;funext t;by_cases h:t=d <;> simp [h,wA.mapAn]
theorem cI (f:An->An) (t n:Nat) (r:List wA):(s.setRow t n r).mapAn f=(s.mapAn f).setRow t n (r.map (wA.mapAn f)):=by
 simp only [uA.setRow,uA.mapAn];congr 1;funext t' n';by_cases h:t'=t/\n'=n
 ·simp only [h,and_self,if_true,yp]; rfl
 ·simp [h]
theorem wC (d:Option Nat) (v:wA) (t n:Nat) (r:List wA):(s.put d v).setRow t n r=(s.setRow t n r).put d v:=by cases d <;> rfl
theorem nN {t n t' n':Nat} (h:t≠t') (r r':List wA):(s.setRow t n r).setRow t' n' r'=(s.setRow t' n' r').setRow t n r:=by
 simp only [uA.setRow];congr 1;funext a b;by_cases h1:a=t'
 ·have:¬ (a=t/\b=n):=fun e=>h (e.1.symm.trans h1)
  simp [this]
 ·have:¬ (a=t'/\b=n'):=fun e=>h1 e.1
  simp [this]
theorem iD (d:Option Nat) (v:wA) (t n:Nat) (S:AV):(s.put d v).setObj t n S=(s.setObj t n S).put d v:=by cases d <;> rfl
theorem xI (f:An->An) (t n:Nat) (S:AV):(s.setObj t n S).mapAn f=(s.mapAn f).setObj t n S:=rfl
theorem KO (t n:Nat) (r:List wA) (t' n':Nat) (S:AV):(s.setRow t n r).setObj t' n' S=(s.setObj t' n' S).setRow t n r:=rfl
theorem OY {t n:Nat} {S:AV} {d m:Nat} {r:List wA} {o:kA} (h:(Tr.ob2 t n S d m r).of o):(Tr.row d m r).of o:=.inl ⟨h.1.2.2,h.2⟩
theorem w6 (T:Tr) (s:uA) (d:Option Nat) (v:wA):((T.ap s).put d v).next=s.next:=by
 have:(T.ap s).next=s.next:=by
  cases T with
  | an A d=>rw [Tr.ap_an]; rfl
  | rn k t n r=>cases k <;> rfl
  | _=>rfl
 cases d <;> exact this
theorem f9 {x y:kA} (pe:KD x y=true) (sa:NF x y=true) (h1:x.step call s=some s1) (h2:y.step call s1=some s2):∃ ug,y.step call s=some ug/\x.step call ug=some s2:=by
 unfold KD at pe;simp only [yc] at pe;obtain ⟨a1,a2⟩:=XE pe.1;obtain ⟨a3,a4⟩:=XE pe.2;rw [SG] at h1 h2;obtain ⟨p,hp,h1⟩:=y7.1 h1;obtain ⟨⟨Tx,vx⟩,hx,h1⟩:=yf.1 h1;obtain ⟨q,hq,h2⟩:=y7.1 h2;obtain ⟨⟨Ty,vy⟩,hy,h2⟩:=yf.1 h2;simp only at h1 h2;subst h1;have ofx:Tx.of x:=OZ x (x:=p.1) (e:=p.2) hp hx;have offy:=off_of ofx sa;rw [BK a1,j6 offy] at hq;obtain ⟨q0,hq0,rfl⟩:=yf.1 hq;rw [w6] at hy
 -- y in the first state
 have jl:∃ Ty0 vy0,y.effT s.next q0=some (Ty0,vy0):=by
  obtain ⟨u,e⟩:=q0;cases e with
  | none=>exact ⟨_,_,rfl⟩
  | new r =>
   cases hd:y.dst with
   | none =>
    exfalso;cases Tx <;> simp [Tr.act,kA.effT,tC.mapAn,hd] at hy
   | some d=>exact ⟨.row d s.next r,_,by simp only [kA.effT,hd]; rfl⟩
  | set t n r=>exact ⟨_,_,rfl⟩
  | obj t n S=>exact ⟨_,_,rfl⟩
  | mk S =>
   cases hd:y.dst with
   | none =>
    exfalso;cases Tx <;> simp [Tr.act,kA.effT,tC.mapAn,hd] at hy
   | some d=>exact ⟨.obj d s.next S,_,by simp only [kA.effT,hd]; rfl⟩
  | app a k =>
   cases hd:y.dst with
   | none =>
    exfalso;cases Tx <;> simp [Tr.act,kA.effT,tC.mapAn,hd] at hy
   | some d=>exact ⟨.an a d,_,by simp only [kA.effT,hd]; rfl⟩
  | rn k r =>
   cases hd:y.dst with
   | none =>
    exfalso;cases Tx <;> simp [Tr.act,kA.effT,tC.mapAn,hd] at hy
   | some d=>exact ⟨.rn k d s.next r,_,by simp only [kA.effT,hd]; rfl⟩
  | ob2 t n S r =>
   cases hd:y.dst with
   | none =>
    exfalso;cases Tx <;> simp [Tr.act,kA.effT,tC.mapAn,hd] at hy
   | some d=>exact ⟨.ob2 t n S d s.next r,_,by simp only [kA.effT,hd]; rfl⟩
 obtain ⟨Ty0,vy0,jl⟩:=jl;have ofy:Ty0.of y:=OZ y (x:=q0.1) (e:=q0.2) hq0 jl;have offx:=off_of ofy (kZ sa);have notT:∀ A d A' d',Tx=.an A d->Ty0=.an A' d'->False:=fun A d A' d' e e'=>by
  subst e; subst e';have:=ofy.1;rw [show d8 y.op=false from offy] at this;cases this
 have noM:∀ {T:Tr} {o:kA},T.of o->isM o.op=false->∀ k t m r,T≠.rn k t m r:=fun h hm k t m r e=>by
  subst e;have h':isM _=true:=h;rw [hm] at h';cases h'
 have hMx:isM x.op=false:=by unfold NF at sa; simp only [yc] at sa; simpa using sa.1.1.1.1.1.1.1
 have hMy:isM y.op=false:=by unfold NF at sa; simp only [yc] at sa; simpa using sa.1.1.1.1.1.1.2
 have nx:=noM ofx hMx;have ny:=noM ofy hMy;have hyc:=XY (T:=Tx) jl (hR:=ny) (fun ⟨A,d,e⟩ A' d' e'=>notT A d A' d' e e');rw [hyc] at hy;injection hy with hy;injection hy with e1 e2;subst e1; subst e2;have rj:=XY (T:=Ty0) hx (hR:=nx) (fun ⟨A,d,e⟩ A' d' e'=>notT A' d' A d e' e);refine ⟨(Ty0.ap s).put y.dst vy0,by rw [SG,hq0,J,jl]; rfl,?_⟩;rw [SG,BK a3,j6 offx,hp];simp only [yp,J,w6,rj];rw [<- h2];congr 1;have notO:∀ t n S t' n' S',Tx=.obj t n S->Ty0=.obj t' n' S'->False:=fun t n S t' n' S' e e'=>by
  subst e; subst e';have h1:XQ y.op=true:=ofy.1;rw [show XQ y.op=false from offy] at h1;cases h1
 cases Tx with
 | rn=>exact absurd rfl (nx _ _ _ _)
 | id =>
  cases Ty0 with
  | rn=>exact absurd rfl (ny _ _ _ _)
  | ob2 t n S d m r=>simp only [Tr.ap,Tr.conj,Tr.actS]; rw [iD,wC]; exact (qC a2 _ _).symm
  | id=>exact (qC a2 _ _).symm
  | row t n r=>simp only [Tr.ap,Tr.conj,Tr.actS]; rw [wC]; exact (qC a2 _ _).symm
  | an A d =>
   simp only [Tr.conj,Tr.actS,Tr.ap_an,dG];exact (qC a2 _ _).symm
  | obj t n S=>simp only [Tr.ap,Tr.conj,Tr.actS]; rw [iD]; exact (qC a2 _ _).symm
 | row t n r =>
  cases Ty0 with
  | rn=>exact absurd rfl (ny _ _ _ _)
  | ob2 t' n' S d m r' =>
   have jb:=D1 (x:=x) (y:=y) ofx (OY ofy) sa;simp only [Tr.ap,Tr.conj,Tr.actS];rw [wC,iD,wC,KO,nN jb];exact (qC a2 _ _).symm
  | id=>simp only [Tr.ap,Tr.conj,Tr.actS]; rw [wC]; exact (qC a2 _ _).symm
  | row t' n' r' =>
   simp only [Tr.ap,Tr.conj,Tr.actS];rw [wC,wC,nN (D1 ofx ofy sa)];exact (qC a2 _ _).symm
  | an A d =>
   simp only [Tr.conj,Tr.actS,Tr.ap_an,dG];simp only [Tr.ap,cI,wC];exact (qC a2 _ _).symm
  | obj t' n' S =>
   simp only [Tr.ap,Tr.conj,Tr.actS];rw [iD,wC];exact (qC a2 _ _).symm
 | an A d =>
  cases Ty0 with
  | rn=>exact absurd rfl (ny _ _ _ _)
  | ob2 t' n' S d' m r' =>
   simp only [Tr.conj,Tr.actS,Tr.ap_an,dG];simp only [Tr.ap,cI,xI,iD,wC];exact (qC a2 _ _).symm
  | id =>
   simp only [Tr.conj,Tr.actS,Tr.ap_an,dG];exact (qC a2 _ _).symm
  | row t' n' r' =>
   simp only [Tr.conj,Tr.actS,Tr.ap_an,dG];simp only [Tr.ap,cI,wC];exact (qC a2 _ _).symm
  | an A' d'=>exact (notT A d A' d' rfl rfl).elim
  | obj t' n' S =>
   simp only [Tr.conj,Tr.actS,Tr.ap_an,dG];simp only [Tr.ap,xI,iD];exact (qC a2 _ _).symm
 | obj t n S =>
  cases Ty0 with
  | rn=>exact absurd rfl (ny _ _ _ _)
  | ob2 t' n' S' d m r'=>exact absurd ofy.1.1 (by rw [show XQ y.op=false from offy]; decide)
  | id=>simp only [Tr.ap,Tr.conj,Tr.actS]; rw [iD]; exact (qC a2 _ _).symm
  | row t' n' r' =>
   simp only [Tr.ap,Tr.conj,Tr.actS];rw [wC,iD];exact (qC a2 _ _).symm
  | an A d =>
   simp only [Tr.conj,Tr.actS,Tr.ap_an,dG];simp only [Tr.ap,xI,iD];exact (qC a2 _ _).symm
  | obj t' n' S'=>exact (notO t n S t' n' S' rfl rfl).elim
 | ob2 t n S d m r =>
  have hyO:XQ y.op=false:=offy.1;cases Ty0 with
  | rn=>exact absurd rfl (ny _ _ _ _)
  | id=>simp only [Tr.ap,Tr.conj,Tr.actS]; rw [iD,wC]; exact (qC a2 _ _).symm
  | row t' n' r' =>
   have jb:=D1 (x:=x) (y:=y) (OY ofx) ofy sa;simp only [Tr.ap,Tr.conj,Tr.actS];rw [wC,iD,wC,<- KO,nN jb];exact (qC a2 _ _).symm
  | an A d' =>
   simp only [Tr.conj,Tr.actS,Tr.ap_an,dG];simp only [Tr.ap,cI,xI,iD,wC];exact (qC a2 _ _).symm
  | obj t' n' S'=>exact absurd ofy.1 (by rw [hyO]; decide)
  | ob2 t' n' S' d' m' r'=>exact absurd ofy.1.1 (by rw [hyO]; decide)
def Tr.kl (T:Tr) (w:wA):wA:=match T with
 | .rn (some p) _ _ _=>w.kill p.1 p.2
 | _=>w
theorem J5 {k:K} (hk:isN k=true) {v:wA} {e:tC} (h:k.run call s=some (v,e)):e=.none\/(∃ r,e=.new r)\/∃ q r,e=.rn q r:=by
 cases k with
 | appm cl e' z b x y =>
  simp only [K.run] at h;split at h
  ·split at h
   ·split at h
    ·split at h
     ·injection h with h; injection h with _ h; exact .inl h.symm
     ·injection h with h; injection h with _ h; exact .inr (.inl ⟨_,h.symm⟩)
    ·cases h
   ·cases h
  ·split at h
   ·split at h
    ·injection h with h; injection h with _ h; exact .inr (.inr ⟨_,_,h.symm⟩)
    ·cases h
   ·cases h
  ·cases h
 | appn cl e' z b x y =>
  simp only [K.run] at h;split at h
  ·split at h
   ·split at h
    ·injection h with h; injection h with _ h; exact .inr (.inl ⟨_,h.symm⟩)
    ·cases h
   ·cases h
  ·split at h
   ·split at h
    ·injection h with h; injection h with _ h; exact .inr (.inr ⟨_,_,h.symm⟩)
    ·cases h
   ·cases h
  ·cases h
 | calln cl f z L x xs =>
  simp only [K.run] at h;split at h
  ·split at h
   ·split at h
    ·split at h
     ·split at h
      ·obtain ⟨r,_,h⟩:=y7.1 h;split at h
       ·split at h
        ·injection h with h; injection h with _ h; exact .inr (.inr ⟨_,_,h.symm⟩)
        ·cases h
       ·cases h
      ·cases h
     ·cases h
    ·split at h
     ·obtain ⟨r,_,h⟩:=y7.1 h;split at h
      ·split at h
       ·injection h with h; injection h with _ h; exact .inr (.inl ⟨_,h.symm⟩)
       ·cases h
      ·cases h
     ·cases h
    ·cases h
   ·cases h
  ·cases h
 | _=>cases hk
theorem GX {x:kA} (hk:isN x.op=true) {p:wA × tC} (hp:x.runG call s=some p) {n:Nat} {T:Tr} {v:wA} (ht:x.effT n p=some (T,v)):T=.id\/(∃ t m r,T=.row t m r)\/∃ q t m r,T=.rn q t m r:=by
 have he:p.2=.none\/(∃ r,p.2=.new r)\/∃ q r,p.2=.rn q r:=by
  unfold kA.runG at hp;split at hp
  ·exact J5 hk (v:=p.1) (e:=p.2) hp
  ·split at hp
   ·split at hp
    ·exact J5 hk (v:=p.1) (e:=p.2) hp
    ·injection hp with hp; subst hp; exact .inl rfl
   ·injection hp with hp; subst hp; exact .inl rfl
   ·cases hp
 obtain ⟨v0,e⟩:=p;rcases he with he | ⟨r,he⟩ | ⟨q,r,he⟩
 ·simp only at he; subst he; injection ht with ht; injection ht with h1 _; exact .inl h1.symm
 ·simp only at he;subst he;simp only [kA.effT] at ht;split at ht
  ·cases ht
  ·injection ht with ht; injection ht with h1 _; exact .inr (.inl ⟨_,_,_,h1.symm⟩)
 ·simp only at he;subst he;simp only [kA.effT] at ht;split at ht
  ·cases ht
  ·injection ht with ht; injection ht with h1 _; exact .inr (.inr ⟨_,_,_,_,h1.symm⟩)
theorem GJ {T:Tr} (h:T=.id\/(∃ t m r,T=.row t m r)\/∃ q t m r,T=.rn q t m r) (s:uA) (d:Nat) (w:wA):T.ap (s.put (some d) w)=(T.ap s).put (some d) (T.kl w)/\∀ z,(T.ap s).env z=T.kl (s.env z):=by
 rcases h with rfl | ⟨t,m,r,rfl⟩ | ⟨q,t,m,r,rfl⟩
 ·exact ⟨rfl,fun _=>rfl⟩
 ·exact ⟨rfl,fun _=>rfl⟩
 ·cases q with
  | none=>exact ⟨rfl,fun _=>rfl⟩
  | some p =>
   refine ⟨?_,fun _=>rfl⟩;simp only [Tr.ap,uA.killO,uA.kill,uA.put,uA.setRow,Tr.kl];congr 1;funext j;by_cases hj:j=d <;> simp [hj]
theorem H5 {y:kA} (h:g7 y=true):∃ d z,y=⟨d,.mv (.t z),none⟩:=by
 obtain ⟨d,k,g⟩:=y;unfold g7 at h;simp only at h;split at h
 ·exact ⟨_,_,rfl⟩
 ·cases h
theorem GY {x y:kA} (pe:KD x y=true) (hx:isN x.op=true) (hy:g7 y=true):(∀ s s1 s2,x.step call s=some s1->y.step call s1=some s2->∃ ug,y.step call s=some ug/\x.step call ug=some s2)/\∀ s s1 s2,y.step call s=some s1->x.step call s1=some s2->∃ ug,x.step call s=some ug/\y.step call ug=some s2:=by
 obtain ⟨d,z,rfl⟩:=H5 hy;unfold KD at pe;simp only [yc] at pe;obtain ⟨a1,a2⟩:=XE pe.1;obtain ⟨a3,a4⟩:=XE pe.2;have hz:∀ n,x.dst=some n->n≠z:=fun n hn e=>a1 n hn (by subst e; simp [kA.looks,K.opds])
 have tu:∀ s:uA,(⟨d,.mv (.t z),none⟩:kA).step call s=some (s.put d ⟨(s.env z).v,(s.env z).a⟩):=fun _=>rfl
 have key:∀ (s:uA) (p:wA × tC) (T:Tr) (v:wA),x.runG call s=some p->x.effT s.next p=some (T,v)->(T.ap (s.put d (s.env z))).put x.dst v=((T.ap s).put x.dst v).put d ((((T.ap s).put x.dst v).env z))/\x.step call (s.put d (s.env z))=some ((T.ap (s.put d (s.env z))).put x.dst v):=fun s p T v hp hT=>by
  have hk:=GX hx hp hT;constructor
  ·have he:((T.ap s).put x.dst v).env z=T.kl (s.env z):=by
    cases hd:x.dst with
    | none=>exact (GJ hk s 0 v).2 z
    | some n =>
     simp only [uA.put];rw [if_neg (fun e=>hz n hd e.symm)];exact (GJ hk s 0 v).2 z
   rw [he];cases d with
   | none=>rfl
   | some d =>
    rw [(GJ hk s d _).1];exact (qC (fun n hn e=>a4 n hn e) _ _)
  ·rw [SG,BK (fun n hn=>a3 n hn),hp];have hn:(s.put d (s.env z)).next=s.next:=by cases d <;> rfl
   simp only [J,hn,hT,yp]
 refine ⟨fun s s1 s2 h1 h2=>?_,fun s s1 s2 h1 h2=>?_⟩
 ·rw [SG] at h1;obtain ⟨p,hp,h1⟩:=y7.1 h1;obtain ⟨⟨T,v⟩,hT,h1⟩:=yf.1 h1;simp only at h1;rw [tu] at h2;injection h2 with h2;refine ⟨_,tu s,?_⟩;obtain ⟨k1,k2⟩:=key s p T v hp hT;have k2':x.step call (s.put d ⟨(s.env z).v,(s.env z).a⟩)=some ((T.ap (s.put d (s.env z))).put x.dst v):=k2;rw [k2',k1,<- h2,<- h1]
 ·rw [tu] at h1;injection h1 with h1;subst h1;have rf:x.step call (s.put d (s.env z))=some s2:=h2;rw [SG,BK (fun n hn=>a3 n hn)] at rf;obtain ⟨p,hp,rf⟩:=y7.1 rf;obtain ⟨⟨T,v⟩,hT,rf⟩:=yf.1 rf;have hn:(s.put d (s.env z)).next=s.next:=by cases d <;> rfl
  rw [hn] at hT;obtain ⟨k1,_⟩:=key s p T v hp hT;refine ⟨(T.ap s).put x.dst v,by rw [SG,hp]; simp only [J,hT,yp],?_⟩;rw [tu,<- rf];simp only;rw [k1]
theorem FY {x y:kA} (pe:KD x y=true) (hx:isN x.op=true) (fy:uA->Option wA) (hy:∀ s,y.step call s=(fy s).map fun w=>s.put y.dst w) :
  ((∀ s p T v,x.runG call s=some p->x.effT s.next p=some (T,v)->∀ w',fy ((T.ap s).put x.dst v)=some w'->∃ w,fy s=some w/\T.kl w=w')->∀ s s1 s2,x.step call s=some s1->y.step call s1=some s2->∃ ug,y.step call s=some ug/\x.step call ug=some s2) ∧
  ((∀ s p T v,x.runG call s=some p->x.effT s.next p=some (T,v)->∀ w,fy s=some w->fy ((T.ap s).put x.dst v)=some (T.kl w))->∀ s s1 s2,y.step call s=some s1->x.step call s1=some s2->∃ ug,x.step call s=some ug/\y.step call ug=some s2):=by
 unfold KD at pe;simp only [yc] at pe;obtain ⟨a1,a2⟩:=XE pe.1;obtain ⟨a3,a4⟩:=XE pe.2;have key:∀ (s:uA) (p:wA × tC) (T:Tr) (v w:wA),x.runG call s=some p->x.effT s.next p=some (T,v)->x.step call (s.put y.dst w)=some (((T.ap s).put x.dst v).put y.dst (T.kl w)):=fun s p T v w hp hT=>by
  have hk:=GX hx hp hT;have hn:(s.put y.dst w).next=s.next:=by cases y.dst <;> rfl
  rw [SG,BK (fun n hn=>a3 n hn),hp];simp only [J,hn,hT,yp];congr 1;cases hd:y.dst with
  | none=>rfl
  | some d =>
   rw [(GJ hk s d w).1];exact qC (fun n hn e=>by
    injection hn with hn;exact a4 n (by rw [hd,hn]) e) _ _
 refine ⟨fun H s s1 s2 h1 h2=>?_,fun H s s1 s2 h1 h2=>?_⟩
 ·rw [SG] at h1;obtain ⟨p,hp,h1⟩:=y7.1 h1;obtain ⟨⟨T,v⟩,hT,h1⟩:=yf.1 h1;simp only at h1;subst h1;rw [hy] at h2;obtain ⟨w',aj,h2⟩:=yf.1 h2;obtain ⟨w,hw,e⟩:=H s p T v hp hT w' aj;refine ⟨s.put y.dst w,by rw [hy,hw]; rfl,?_⟩;rw [key s p T v w hp hT,e,<- h2]
 ·rw [hy] at h1;obtain ⟨w,hw,h1⟩:=yf.1 h1;subst h1;have xf:=h2;rw [SG,BK (fun n hn=>a3 n hn)] at xf;obtain ⟨p,hp,xf⟩:=y7.1 xf;obtain ⟨⟨T,v⟩,hT,_⟩:=yf.1 xf;have hn:(s.put y.dst w).next=s.next:=by cases y.dst <;> rfl
  rw [hn] at hT;have h3:=key s p T v w hp hT;rw [h2] at h3;injection h3 with h3;refine ⟨(T.ap s).put x.dst v,by rw [SG,hp]; simp only [J,hT,yp],?_⟩;rw [hy,H s p T v hp hT w hw,h3];rfl
def ptF (off:Option Nat) (v:AV):Option wA:=match off,v with
 | none,.ptr t n o=>some ⟨.ptr t n o,.no⟩
 | none,.ip cs=>some ⟨.ip cs,.no⟩
 | none,.bp cs=>some ⟨.bp cs,.no⟩
 | some k,.ptr t n o=>some ⟨.ptr t n (o + k),.no⟩
 | some k,.ip cs=>some ⟨.ip (cs.drop k),.no⟩
 | some k,.bp cs=>some ⟨.bp (cs.drop k),.no⟩
 | _,_=>none
theorem isPt_eq {y:kA} (h:isPt y=true):∃ off z,(∀ s,y.step call s=(ptF off (s.env z).v).map fun w=>s.put y.dst w)/\z∈y.looks:=by
 obtain ⟨d,k,g⟩:=y;unfold isPt at h;simp only at h;split at h
 ·rename_i z;refine ⟨none,z,fun s=>?_,by simp [kA.looks,K.opds]⟩;simp only [kA.step,K.run,iB.get,ptF];cases (s.env z).v <;> rfl
 ·rename_i k z;refine ⟨some k,z,fun s=>?_,by simp [kA.looks,K.opds]⟩;simp only [kA.step,K.run,iB.get,ptF];cases (s.env z).v <;> rfl
 ·cases h
theorem ptF_kill {off:Option Nat} {v:AV} {t n:Nat} {w':wA} (h:ptF off (v.kill t n)=some w'):∃ w,ptF off v=some w/\w.kill t n=w':=by
 cases v with
 | ptr t' n' o =>
  simp only [AV.kill,AV.kill0] at h;by_cases hn:t'=t/\n'=n
  ·rw [if_pos hn] at h; cases off <;> cases h
  ·rw [if_neg hn] at h;cases off <;> (simp only [ptF] at h; injection h with h; subst h; exact ⟨_,rfl,by simp only [wA.kill,AV.kill,AV.kill0,if_neg hn]⟩)
 | ip cs=>cases off <;> (simp only [AV.kill,AV.kill0,ptF] at h; injection h with h; subst h; exact ⟨_,rfl,rfl⟩)
 | bp cs=>cases off <;> (simp only [AV.kill,AV.kill0,ptF] at h; injection h with h; subst h; exact ⟨_,rfl,rfl⟩)
 | ref t' n' sz o l c =>
  simp only [AV.kill,AV.kill0] at h;split at h <;> cases off <;> cases h
 | mp t' n' =>
  simp only [AV.kill,AV.kill0] at h;split at h <;> cases off <;> cases h
 | _=>cases off <;> cases h
theorem j9 {x y:kA} (pe:KD x y=true) (hx:isN x.op=true) (hy:isPt y=true) {s1 s2:uA} (h1:x.step call s=some s1) (h2:y.step call s1=some s2):∃ ug,y.step call s=some ug/\x.step call ug=some s2:=by
 obtain ⟨off,z,tu,hz⟩:=isPt_eq (call:=call) hy;refine (FY pe hx (fun s=>ptF off (s.env z).v) tu).1 (fun s p T v hp hT w' aj=>?_) s s1 s2 h1 h2;have ls:=pe;unfold KD at ls;simp only [yc] at ls;obtain ⟨a1,a2⟩:=XE ls.1;have hk:=GX hx hp hT;have he:(((T.ap s).put x.dst v).env z)=T.kl (s.env z):=by
  cases hd:x.dst with
  | none=>exact (GJ hk s 0 v).2 z
  | some n =>
   simp only [uA.put];rw [if_neg (show ¬ z=n from fun e=>a1 n hd (e ▸ hz))];exact (GJ hk s 0 v).2 z
 rw [he] at aj;rcases hk with rfl | ⟨t,m,r,rfl⟩ | ⟨q,t,m,r,rfl⟩
 ·exact ⟨w',aj,rfl⟩
 ·exact ⟨w',aj,rfl⟩
 ·cases q with
  | none=>exact ⟨w',aj,rfl⟩
  | some p=>exact ptF_kill aj
def ldF (r size:Nat) (s:uA) (v:AV):Option wA:=match v with
 | .ptr t n o=>if r == t then (s.mem t n).bind (EA false size o) else none
 | _=>none
theorem isLd_eq {y x:kA} (h:isLd y x=true):∃ r size z,(∀ s,y.step call s=(ldF r size s (s.env z).v).map fun w=>s.put y.dst w)/\z∈y.looks/\x.dst≠some r/\∃ cl f sz L a ws,x.op=.calln cl f sz L a ws/\L.contains r=true:=by
 obtain ⟨d,k,g⟩:=y;unfold isLd at h;simp only at h;split at h
 ·rename_i r size z cl f sz L a ws hxo;simp only [yc,bne_iff_ne,ne_eq] at h;refine ⟨r,size,z,fun s=>?_,by simp [kA.looks,K.opds],h.2,cl,f,sz,L,a,ws,hxo,h.1⟩;simp only [kA.step,K.run,iB.get,ldF,Cl.okPtr];cases (s.env z).v <;> try rfl
  rename_i t n o;simp only;by_cases xt:(r == t)=true
  ·simp only [xt,if_true];cases (s.mem t n).bind (EA false size o) <;> rfl
  ·simp [xt]
 ·cases h
theorem ZW {cl:Cl} {f sz:Nat} {L:List Nat} {a:iB} {ws:List iB} {v:wA} {e:tC} (h:(K.calln cl f sz L a ws).run call s=some (v,e)):(∃ r,e=.new r)\/∃ t n r,e=.rn (some (t,n)) r/\L.contains t=false:=by
 simp only [K.run] at h;split at h
 ·split at h
  ·split at h
   ·split at h
    ·split at h
     ·rename_i hc;obtain ⟨r,_,h⟩:=y7.1 h;split at h
      ·split at h
       ·injection h with h; injection h with _ h; exact .inr ⟨_,_,_,h.symm,hc.2.2.2⟩
       ·cases h
      ·cases h
     ·cases h
    ·cases h
   ·split at h
    ·obtain ⟨r,_,h⟩:=y7.1 h;split at h
     ·split at h
      ·injection h with h; injection h with _ h; exact .inl ⟨_,h.symm⟩
      ·cases h
     ·cases h
    ·cases h
   ·cases h
  ·cases h
 ·cases h
theorem g9 {x y:kA} (pe:KD x y=true) (hx:isLd x y=true) (hy:isN y.op=true) {s1 s2:uA} (h1:x.step call s=some s1) (h2:y.step call s1=some s2):∃ ug,y.step call s=some ug/\x.step call ug=some s2:=by
 obtain ⟨r,size,z,hxr,hz,zi,cl,f,sz,L,a,ws,ib,hL⟩:=isLd_eq (call:=call) hx;have hap0:=pe;unfold KD at pe;simp only [yc] at pe;obtain ⟨a3,a4⟩:=XE pe.2;refine (FY (x:=y) (y:=x) (by unfold KD; rw [Bool.and_comm]; exact hap0) hy (fun s=>ldF r size s (s.env z).v) hxr).2 (fun s p T v hp hT w hw=>?_) s s1 s2 h1 h2;have hk:=GX hy hp hT;have he:(((T.ap s).put y.dst v).env z)=T.kl (s.env z):=by
  cases hd:y.dst with
  | none=>exact (GJ hk s 0 v).2 z
  | some n =>
   simp only [uA.put];rw [if_neg (show ¬ z=n from fun e=>a3 n hd (e ▸ hz))];exact (GJ hk s 0 v).2 z
 have hm:∀ t n,((T.ap s).put y.dst v).mem t n=(T.ap s).mem t n:=fun t n=>by cases y.dst <;> rfl
 rw [he]
 -- what the call does to memory
 have cq:T=.id\/(∃ d m row,T=.row d m row/\y.dst=some d)\/∃ t n d m row,T=.rn (some (t,n)) d m row/\y.dst=some d/\L.contains t=false:=by
  obtain ⟨v0,e⟩:=p;have hpe:(e=.none)\/(∃ row,e=.new row)\/∃ t n row,e=.rn (some (t,n)) row/\L.contains t=false:=by
   unfold kA.runG at hp;rw [ib] at hp;split at hp
   ·exact .inr (ZW hp)
   ·split at hp
    ·split at hp
     ·exact .inr (ZW hp)
     ·injection hp with hp; injection hp with _ hp; exact .inl hp.symm
    ·injection hp with hp; injection hp with _ hp; exact .inl hp.symm
    ·cases hp
  rcases hpe with rfl | ⟨row,rfl⟩ | ⟨t,n,row,rfl,ht⟩
  ·injection hT with hT; injection hT with h1 _; exact .inl h1.symm
  ·simp only [kA.effT] at hT;split at hT
   ·cases hT
   ·rename_i d hd;injection hT with hT; injection hT with h1 _; exact .inr (.inl ⟨_,_,_,h1.symm,hd⟩)
  ·simp only [kA.effT] at hT;split at hT
   ·cases hT
   ·rename_i d hd;injection hT with hT; injection hT with h1 _; exact .inr (.inr ⟨_,_,_,_,_,h1.symm,hd,ht⟩)
 have aj:=hw;simp only [ldF] at aj ⊢;cases hv:(s.env z).v with
 | ptr t n o =>
  rw [hv] at aj;simp only at aj;split at aj
  case isFalse=>cases aj
  rename_i xt;have hrt':r=t:=by simpa using xt
  subst hrt';obtain ⟨row,oa,hl⟩:=y7.1 aj;simp only [EA,yC,if_false] at hl;rcases cq with rfl | ⟨d,m,gp,rfl,hd⟩ | ⟨t',n',d,m,gp,rfl,hd,ht⟩
  ·simp only [Tr.kl,hv,xt,if_true,hm];show ((Tr.id.ap s).mem r n).bind _=_;rw [show (Tr.id.ap s).mem r n=some row from oa];simp [EA,hl]
  ·simp only [Tr.kl,hv,xt,if_true,hm];have:((Tr.row d m gp).ap s).mem r n=some row:=by
    show (if r=d/\n=m then some gp else s.mem r n)=some row;rw [if_neg (fun e=>zi (by rw [hd,e.1]))];exact oa
   rw [this];simp [EA,hl]
  ·have jb:¬ (r=t'/\n=n'):=fun e=>by rw [<- e.1] at ht; rw [hL] at ht; cases ht
   have hvk:(wA.kill t' n' (s.env z)).v=.ptr r n o:=by
    show (s.env z).v.kill t' n'=_;rw [hv];simp only [AV.kill,AV.kill0,if_neg jb]
   simp only [Tr.kl,hvk,xt,if_true,hm];have:((Tr.rn (some (t',n')) d m gp).ap s).mem r n=some (row.map (wA.kill t' n')):=by
    show (if r=d/\n=m then some gp else (s.kill t' n').mem r n)=_;rw [if_neg (fun e=>zi (by rw [hd,e.1]))];show (if r=t'/\n=n' then none else (s.mem r n).map (·.map (wA.kill t' n')))=_;rw [if_neg jb,oa];rfl
   rw [this];simp [EA,hl]
 | _=>rw [hv] at aj; cases aj
theorem PY {x y:kA} (h:KD x y=true):KD y x=true:=by
 unfold KD at h ⊢;rw [Bool.and_comm];exact h
theorem commute {x y:kA} (pe:KD x y=true) (sa:cL x y=true) (h1:x.step call s=some s1) (h2:y.step call s1=some s2):∃ ug,y.step call s=some ug/\x.step call ug=some s2:=by
 unfold cL at sa;simp only [Bool.or_eq_true,yc] at sa;rcases sa with h | ((⟨h,h'⟩ | ⟨h,h'⟩) | ⟨h,h'⟩) | ⟨h,h'⟩
 ·exact f9 pe h h1 h2
 ·exact (GY (PY pe) h' h).2 s s1 s2 h1 h2
 ·exact (GY pe h' h).1 s s1 s2 h1 h2
 ·exact g9 pe h h' h1 h2
 ·exact j9 pe h h' h1 h2
end
end
section
open Go Go.RowKit
section
variable {P:Program} {O:JD} {nt B:Nat} {F0:AL} {aa:Av} {w0:World} {s s':uA} {a:Act} {w w':World} {ι:Ix} {Θ:lH} {call:LA} {lh:LH} {Q:Exit->Act->World->Prop}
def gsh (nt:Nat) (a:Act) (g:Nat->Value):Nat->Value:=fun t=>if t<nt then a.tmps.getD t undef else g (t - nt)
def AL.wait (F0:AL) (nt:Nat) (a:Act):AL:=⟨F0.b,F0.p,F0.r,F0.z,gsh nt a F0.g⟩
def uA.bare (s:uA):uA:={ s with env:=fun _=>⟨.undef,.no⟩ }
def UY (P:Program) (O:JD) (B:Nat) (F0:AL) (aa:Av) (w0:World) (s:uA) (w:World) (ι:Ix) (Θ:lH):Prop:=fB P O 0 B F0 aa w0 (fun _=>False) s.bare ⟨#[],[]⟩ w ι Θ
def dE (ι:Ix) (Θ:lH) (av avb:Av) (w:World):List wA->List Value->Prop
 | [],us=>us=[]
 | x :: r,us=>∃ u wa,us=u :: wa/\UA ι av avb w x.v u/\QH Θ x.a u/\dE ι Θ av avb w r wa
theorem bP {av avb:Av}:∀ {xs ys:List wA} {us vs:List Value},dE ι Θ av avb w xs us->dE ι Θ av avb w ys vs->dE ι Θ av avb w (xs++ys) (us++vs)
 | [],_,_,_,h,h'=>by simp only [dE] at h; subst h; exact h'
 | x :: r,_,_,_,h,h'=>by
  simp only [dE] at h;obtain ⟨u,wa,rfl,h0,h1,h⟩:=h;exact ⟨u,wa++_,rfl,h0,h1,bP h h'⟩
def LV (P:Program) (O:JD) (hp:HpT):Prop:=∀ f xs s k r,hp f xs s k=some r->(∀ vs w,(callFunc f vs).run P w=.ok (.enter f vs) w) ∧
 ∀ (B:Nat) (F0:AL) (aa:Av) (w0 w:World) (ι:Ix) (Θ:lH) (us:List Value) (E:Ending->World->Prop),UY P O B F0 aa w0 s w ι Θ->dE ι Θ (QB aa ι Θ) (EB ι Θ) w xs us →
  (∀ y s' w' ι' Θ' v,UY P O B F0 aa w0 s' w' ι' Θ'->UA ι' (QB aa ι' Θ') (EB ι' Θ') w' y.v v->QH Θ' y.a v->k y s'=some r->E (.returned v) w')->Calls P f us.toArray w E
theorem fB.wait {D:Nat->Prop} (R:fB P O nt B F0 aa w0 D s a w ι Θ):UY P O B (F0.wait nt a) aa w0 (s.enter nt) w ι Θ :=
 ⟨rfl,rfl,fun _=>trivial,fun _=>trivial,R.rows,fun t n b h=>let ⟨h1,h2,h3⟩:=R.mine t n b h; ⟨h1,h2,.inl (by simp only [uA.bare,uA.enter]; rcases h3 with h | h <;> omega)⟩,R.inj,R.tok,R.tinj,R.apart,R.out,R.pin,R.kept,R.base,R.objs,fun t n H h=>let ⟨h1,h2⟩:=R.obs t n H h; ⟨h1,.inl (by simp only [uA.bare,uA.enter]; rcases h2 with h | h <;> omega)⟩,fun t=>by
  simp only [uA.bare,uA.enter,AL.wait,gsh];split
  ·exact R.env t
  ·exact R.gen _,fun t=>by
  simp only [uA.bare,uA.enter,AL.wait,gsh];split
  ·exact R.ann t
  ·exact R.gann _⟩
theorem fB.resume {D D':Nat->Prop} {s':uA} {ι':Ix} {Θ':lH} (R:fB P O nt B F0 aa w0 D s a w ι Θ) (R':UY P O B (F0.wait nt a) aa w0 s' w' ι' Θ'):fB P O nt B F0 aa w0 D' (s'.leave nt) a w' ι' Θ' :=
 ⟨R.defers,R.size,fun t=>by
  have:=R'.gen t;simp only [uA.bare,AL.wait,gsh] at this;simp only [uA.leave];split
  ·rename_i h; rw [if_pos h] at this; exact this
  ·trivial,fun t=>by
  have:=R'.gann t;simp only [uA.bare,AL.wait,gsh] at this;simp only [uA.leave];split
  ·rename_i h; rw [if_pos h] at this; exact this
  ·trivial,R'.rows,fun t n b h=>let ⟨h1,h2,h3⟩:=R'.mine t n b h; ⟨h1,h2,h3.imp id fun h=>h.2.elim⟩,R'.inj,R'.tok,R'.tinj,R'.apart,R'.out,R'.pin,R'.kept,R'.base,R'.objs,fun t n H h=>let ⟨h1,h2⟩:=R'.obs t n H h; ⟨h1,h2.imp id fun h=>h.2.elim⟩,fun t=>by
  have:=R'.gen (t + nt);simp only [uA.bare,AL.wait,gsh] at this;rw [if_neg (by omega),Nat.add_sub_cancel] at this;exact this,fun t=>by
  have:=R'.gann (t + nt);simp only [uA.bare,AL.wait,gsh] at this;rw [if_neg (by omega),Nat.add_sub_cancel] at this;exact this⟩
theorem QP {D:Nat->Prop} (R:fB P O nt B F0 aa w0 D s a w ι Θ):∀ {Xs:List Operand} {xs:List iB},MD Xs=some xs->dE ι Θ (QB aa ι Θ) (EB ι Θ) w (mP s xs) (Xs.map a.eval)
 | [],xs,h=>by injection h with h; subst h; rfl
 | X :: Xs,xs,h=>by
  unfold MD at h;split at h
  ·rename_i x l hx hl;injection h with h;subst h;exact ⟨_,_,rfl,(R.opd hx).1,(R.opd hx).2,QP R hl⟩
  ·cases h
theorem SY {av avb:Av}:∀ {cs:List AV} {us:List Value},SE ι av avb w cs us->dE ι Θ av avb w (cs.map (⟨·,.no⟩)) us
 | [],_,h=>h
 | x :: r,_,h=>by
  simp only [SE] at h;obtain ⟨u,wa,rfl,h0,h⟩:=h;refine ⟨u,wa,rfl,?_,trivial,SY h⟩;cases x with
  | bp cs=>exact h0
  | int k n=>exact KC (x:=.int k n) h0
  | bool b=>exact KC (x:=.bool b) h0
  | str b=>exact KC (x:=.str b) h0
  | nilP=>exact KC (x:=.nilP) h0
  | ptr t n o=>exact KC (x:=.ptr t n o) h0
  | ip cs=>exact KC (x:=.ip cs) h0
  | sl n l=>exact KC (x:=.sl n l) h0
  | bl l=>exact KC (x:=.bl l) h0
  | ref a b c d e f=>exact KC (x:=.ref a b c d e f) h0
  | mp t n=>exact KC (x:=.mp t n) h0
  | fn f cs=>exact KC (x:=.fn f cs) h0
  | agg cs=>exact KC (x:=.agg cs) h0
  | tup cs=>exact KC (x:=.tup cs) h0
  | undef=>trivial
theorem nZ {D:Nat->Prop} (R:fB P O nt B F0 aa w0 D s a w ι Θ) {lh:LH} (fg:LV P O lh.h) {o:Oper} {hs:Nat->Bool} {nt':Nat} {x:iB} {xs:List iB} (hk:CW nt hs o.op=some (.callh nt' x xs)) (hd:∀ d,o.dst=some d->d<nt) {k:uA->Option RV} {r:RV} (hr:rD lh o.dst nt' x xs s k=some r)
  {Kn:Act->World->Prop} {Q:Exit->Act->World->Prop} (hK:∀ s' a' w',SC P O nt B F0 aa w0 (fun t=>D t\/o.dst=some t) s' a' w'->k s'=some r->Kn a' w'):o.wp P a w Kn Q:=by
 have go:∀ {f:FuncId} {Xs:Array Operand} {cs:List AV} {us:List Value},nt'=nt->MD Xs.toList=some xs->SE ι (QB aa ι Θ) (EB ι Θ) w cs us->lh.h f (mP s xs++cs.map (⟨·,.no⟩)) (s.enter nt) (fun y s'=>k ((s'.leave nt).put o.dst y))=some r->((∀ vs w,(callFunc f vs).run P w=.ok (.enter f vs) w)->(execOp a.eval o).run P w=.ok (.enter f (Xs.map a.eval++us.toArray)) w)->o.wp P a w Kn Q:=fun {f Xs cs us} hn hx wh hh run=>by
  obtain ⟨h1,h2⟩:=fg _ _ _ _ _ hh;unfold Oper.wp;rw [run h1,Oper.upon_enter];have wj:(Xs.toList.map a.eval++us).toArray=Xs.map a.eval++us.toArray:=by
   apply Array.ext';simp
  rw [<- wj];refine h2 B (F0.wait nt a) aa w0 w ι Θ _ _ R.wait (bP (QP R hx) (SY wh)) fun y s' w' ι' Θ' v R' hv ha oi=>?_
  exact hK _ _ _ ⟨ι',Θ',((R.resume (D':=D) R').putN hd hv ha).more fun _ h=>.inl h⟩ oi
 unfold CW at hk;split at hk
 ·rename_i f Xs ts ho;split at hk
  ·obtain ⟨l,hl,hk⟩:=yf.1 hk;injection hk with hn hx ec;subst hx;subst ec;simp only [rD,iB.get] at hr;refine go (cs:=[]) (us:=[]) hn.symm hl rfl (by rw [hn]; exact hr) fun jc=>?_
   simp only [execOp,ho,resolve,Act.eval,Deferred.ofValue,Sem.run_bind,Sem.run_pure,Result.andThen_ok,invoke];have:=jc (#[]++Xs.map a.eval++#[]) w;simp only [Array.empty_append,Array.append_empty] at this ⊢;exact this
  ·cases hk
 ·rename_i tf Xs ts ho;split at hk
  ·obtain ⟨l,hl,hk⟩:=yf.1 hk;injection hk with hn hx ec;subst hx;subst ec;simp only [rD,iB.get] at hr;split at hr
   ·rename_i f cs ij;have hF:=R.env tf;rw [ij] at hF;obtain ⟨us,gd,wh⟩:=hF;refine go (cs:=cs) (us:=us.toList) hn.symm hl wh (by rw [hn]; exact hr) fun jc=>?_
    have uv:a.eval (.tmp tf)=.func (.func f) #[] us:=gd;simp only [execOp,ho,resolve,uv,Deferred.ofValue,Sem.run_bind,Sem.run_pure,Result.andThen_ok,invoke];have:=jc (#[]++Xs.map a.eval++us) w;simp only [Array.empty_append] at this ⊢;exact this
   ·cases hr
  ·cases hk
 ·obtain ⟨_,_,h⟩:=yf.1 hk; cases h
 ·cases hk
theorem GQ {f:Nat->Option RV} {z:Option RV} {r:RV} (l:List Nat) (h:fY f z l=some r):(l=[]->z=some r)/\∀ i∈l,f i=some r:=by
 match l,h with
 | [],h=>exact ⟨fun _=>h,fun i hi=>absurd hi (by simp)⟩
 | [a],h=>exact ⟨fun e=>(by cases e),fun i hi=>(by rw [List.mem_singleton.1 hi]; exact h)⟩
 | a :: b :: l,h =>
  have h':(open Classical in if ∀ x∈b :: l,f x=f a then f a else none)=some r:=h;split at h'
  ·rename_i hc;refine ⟨fun e=>(by cases e),fun i hi=>?_⟩;rcases yA.1 hi with hi | hi
   ·rw [hi]; exact h'
   ·exact (hc i hi).trans h'
  ·cases h'
theorem bV {f:Nat->Option RV} {z:Option RV} {r:RV} (l:List Nat) (h0:l=[]->z=some r) (h:∀ i∈l,f i=some r):fY f z l=some r:=by
 match l,h0,h with
 | [],h0,_=>exact h0 rfl
 | [a],_,h=>exact h a yv
 | a :: b :: l,_,h =>
  show (open Classical in if ∀ x∈b :: l,f x=f a then f a else none)=some r;rw [if_pos fun x hx=>(h x (yE _ hx)).trans (h a yv).symm];exact h a yv
theorem op_nxt {D:Nat->Prop} (R:fB P O nt B F0 aa w0 D s a w ι Θ) {o:Oper} {X:Operand} {x:iB} (hx:opd X=some x) (ho:o.op=.next X false) (hd:∀ d,o.dst=some d->d<nt) {k:uA->Option RV} {r:RV} (hr:FU o.dst x s k=some r)
  {Kn:Act->World->Prop} {Q:Exit->Act->World->Prop} (hK:∀ s' a' w',SC P O nt B F0 aa w0 (fun t=>D t\/o.dst=some t) s' a' w'->k s'=some r->Kn a' w'):o.wp P a w Kn Q:=by
 unfold FU at hr;split at hr
 case h_2=>cases hr
 rename_i t n nc;split at hr
 case h_2=>cases hr
 rename_i tm nm N seen hi;split at hr
 case h_2=>cases hr
 rename_i L hL;split at hr
 case isFalse=>cases hr
 rename_i hN;have hX:=(R.opd hx).1;rw [nc] at hX;obtain ⟨q,hq,hv⟩:=hX;obtain ⟨S,hS,ez⟩:=y7.1 hi;obtain ⟨p,H,hp,kb,kc,si⟩:=R.objs t n S hS;rw [hq] at hp;injection hp with hp;subst hp;obtain ⟨m,Hm,hm,zw,na⟩:=si tm nm N seen ez;obtain ⟨hH,ia⟩:=(O.iters S H q w (by rw [ez]; rfl)).1 kc;obtain ⟨S2,hS2,xl⟩:=y7.1 hL;obtain ⟨p2,H2,dj,oo,ms,_⟩:=R.objs tm nm S2 hS2;rw [hm] at dj;injection dj with dj;subst dj;have bq:S2=qF L:=by
  unfold fG at xl;split at xl
  ·injection xl with xl; subst xl; rfl
  ·cases xl
 subst bq;obtain ⟨hH2,es,clock,he,lf,hc,bd⟩:=(O.maps L H2 m w).1 ms;have tv:es.size=N:=by rw [<- hN]; simpa using congrArg List.length lf
 obtain ⟨h1,h2⟩:=GQ _ hr;have zy:(getObj q).run P w=.ok (.mapIter (some m) N seen.toArray N) w:=by simp [getObj,Sem.run,na]
 have xy:(getObj m).run P w=.ok (.map es clock) w:=by simp [getObj,Sem.run,he]
 have eo:∀ i (hi:i<es.size),(es[i]∈es.filter (fun e=>!seen.toArray.contains e.born) ↔ (!seen.contains i)=true):=fun i hi=>by
  rw [Array.mem_filter,bd i hi];simp
 have pr:(!seen.toArray.isEmpty&&!es.isEmpty&&es.all (fun x=>decide (x.born>=N)))=false:=by
  cases mi:es.isEmpty with
  | true=>simp
  | false =>
   have h0:0<es.size:=by
    rcases yH es.size with h0 | h0
    ·simp [Array.isEmpty,h0] at mi
    ·exact h0
   have:es.all (fun x=>decide (x.born>=N))=false:=by
    rw [Bool.eq_false_iff];intro zb;rw [Array.all_eq_true] at zb;have:=zb 0 h0;rw [bd 0 h0] at this;simp at this;omega
   simp [this]
 have ge:∀ x∈es.filter (fun e=>!seen.toArray.contains e.born),x.born<N:=fun x hx=>by
  have ti:x∈es:=(Array.mem_filter.1 hx).1;obtain ⟨i,xc,rfl⟩:=Array.mem_iff_getElem.1 ti;rw [bd i xc];omega
 generalize hLf:es.filter (fun e=>!seen.toArray.contains e.born)=Lf at ge eo;have e1:Lf.filter (fun x=>decide (x.born<N))=Lf:=Array.filter_eq_self.2 fun x hx=>by simpa using ge x hx
 have e2:Lf.filter (fun x=>decide (x.born>=N))=#[]:=by
  rw [Array.filter_eq_empty_iff];intro x hx;have:=ge x hx;simp;omega
 unfold Oper.wp;by_cases h0:Lf.size=0
 ·have hz:Lf=#[]:=Array.eq_empty_of_size_eq_zero h0;have mo:(List.range N).filter (fun i=>!seen.contains i)=[]:=by
   refine List.eq_nil_iff_forall_not_mem.2 fun i xc=>?_
   have da:i<es.size:=by have:=(List.mem_filter.1 xc).1; rw [tv]; exact List.mem_range.1 this
   have:=(eo i da).2 (List.mem_filter.1 xc).2;rw [hz] at this;simp at this
  have ka:(execOp a.eval o).run P w=.ok (.value (.tuple #[.bool false])) w:=by
   simp only [execOp,ho,hv,Instr.next,Sem.run_bind,zy,xy,Result.andThen_ok,pr,yC,if_false,hLf,e1,e2,hz,Array.append_empty];simp [choose,Sem.run,Question.forced]
  rw [ka,Oper.upon_value];exact hK _ _ _ ⟨ι,Θ,(R.putN hd (x:=⟨.tup [.bool false],.no⟩) ⟨_,rfl,_,_,rfl,rfl,rfl⟩ trivial).more fun _ h=>.inl h⟩ (h1 mo)
 ·have jb:Lf.isEmpty=false:=by simp [Array.isEmpty,h0]
  obtain ⟨j,w1,hj,ii,hch⟩:∃ (j:Nat) (w1:World),j<Lf.size/\(w1=w\/w1=w.drew)/\(choose (Question.mapNext Lf.size)).run P w=.ok j w1:=by
   by_cases hf:Lf.size<=1
   ·exact ⟨0,w,by omega,.inl rfl,by simp [choose,Sem.run,Question.forced,hf]⟩
   ·exact ⟨_,w.drew,Nat.mod_lt _ (by omega),.inr rfl,by
     simp only [choose,Sem.run,Question.forced,decide_eq_true_eq,hf,if_false,Question.cut];rfl⟩
  have ju:Lf[j]∈Lf:=by simp
  have hje:Lf[j]∈es:=by
   have:∀ x,x∈Lf->x∈es:=fun x hx=>by rw [<- hLf] at hx; exact (Array.mem_filter.1 hx).1
   exact this _ ju
  obtain ⟨i,uq,dt⟩:=Array.mem_iff_getElem.1 hje;have xc:i∈(List.range N).filter fun i=>!seen.contains i:=List.mem_filter.2 ⟨List.mem_range.2 (by rw [<- tv]; exact uq),(eo i uq).1 (by rw [dt]; exact ju)⟩
  have lv:Lf[j].born=i:=by rw [<- dt]; exact bd i uq
  have hk:=h2 i xc;split at hk
  case h_2=>cases hk
  rename_i y v bj;split at hk
  case isFalse=>cases hk
  rename_i sh;rw [yc] at sh;have jw:Lf[j].key=y.flatV/\Lf[j].val=v.flatV:=by
   have:=congrArg (fun l=>l[i]?) lf;simp only [yh,bj,Array.getElem?_toList,yQ uq,yp,Option.some.injEq,G9] at this;rw [<- dt];exact ⟨congrArg Prod.fst this,congrArg Prod.snd this⟩
  have xo:w1.heap=w.heap:=by rcases ii with rfl | rfl <;> rfl
  have hq1:w1.heap[q]?=some (.mapIter (some m) N seen.toArray N):=by rw [xo]; exact na
  have hset:(setObj q (.mapIter (some m) N (seen.toArray.push i) clock)).run P w1=.ok () { w1 with heap:=w1.heap.setIfInBounds q (.mapIter (some m) N (seen.toArray.push i) clock) }:=by
   simp [setObj,Sem.run,hq1]
  have ka:(execOp a.eval o).run P w=.ok (.value (.tuple #[.bool true,y.flatV,v.flatV])) { w1 with heap:=w1.heap.setIfInBounds q (.mapIter (some m) N (seen.toArray.push i) clock) }:=by
   simp only [execOp,ho,hv,Instr.next,Sem.run_bind,zy,xy,Result.andThen_ok,pr,yC,if_false,hLf,e1,e2,jb,Array.append_empty,Array.empty_append,Array.size_map,hch,Array.getElem?_map,yQ hj,yp,lv,hset,Sem.run_pure,jw.1,jw.2]
  rw [ka,Oper.upon_value];have R1:fB P O nt B F0 aa w0 D s a w1 ι Θ:=R.grow (fun b _=>by rw [xo]) (by rw [xo]; exact ye _) (by rcases ii with rfl | rfl; exact R.kept; exact R.kept.drew);have ph:O.at_ (HX tm nm N (seen++[i])) H q { w1 with heap:=w1.heap.setIfInBounds q (.mapIter (some m) N (seen.toArray.push i) clock) }:=(O.iters _ _ _ _ (by rw [CT]; rfl)).2 ⟨hH,by simp; rw [xo]; exact ia⟩;have wd:SA H w1 { w1 with heap:=w1.heap.setIfInBounds q (.mapIter (some m) N (seen.toArray.push i) clock) }:=⟨rfl,rfl,rfl,by simp,fun j' _ hn=>by
   have:j'≠q:=fun e=>hn ((hH j').2 e)
   simp only [Array.getElem?_setIfInBounds];rw [if_neg fun e:q=j'=>this e.symm]⟩
  have px:EY ι (HX tm nm N (seen++[i])) q { w1 with heap:=w1.heap.setIfInBounds q (.mapIter (some m) N (seen.toArray.push i) clock) }:=fun tm' nm' N' seen' e=>by
   rw [CT] at e;injection e with e;injection e with g1 e;injection e with g2 e;injection e with g3 g4;subst g1; subst g2; subst g3; subst g4;refine ⟨m,Hm,hm,zw,?_⟩;have hlt1:q<w1.heap.size:=by rw [xo]; exact ia
   simp [hlt1,hc,tv]
  obtain ⟨ι',R2,_⟩:=R1.turnObj hq kb ph px (fun b hb=>.inl hb) wd;refine hK _ _ _ ⟨ι',Θ,(R2.putN hd (x:=⟨.tup [.bool true,y,v],.no⟩) ?_ trivial).more fun _ h=>.inl h⟩ hk;exact ⟨_,rfl,_,_,rfl,rfl,_,_,rfl,DE (UK sh.1),_,_,rfl,DE (UK sh.2),rfl⟩
structure TY (P:Program) (nt:Nat) (ops:Array Oper) (o:Oper) (c:kA):Prop where
 dst:c.dst=o.dst
 op:(d7 c.op=false/\((∃ cl mu b q,HY P cl mu b q o.op=some c.op/\(mu≠none->o.dst≠none))\/∃ cl hs L,LS P cl hs L o.op=some c.op))\/∃ hs,CW nt hs o.op=some c.op
 lt:∀ d,o.dst=some d->d<nt
 guard:match o.guard with
  | none=>c.guard=none
  | some (g,want)=>∃ t,(ops[g]?).bind (·.dst)=some t/\c.guard=some (t,want)
theorem ZS {boxes:List Nat} {all:List Oper} {draw:Bool}:∀ {ops:List Oper} {cs:List kA},MP P boxes nt all draw ops=some cs->cs.length=ops.length/\∀ (i:Nat) (o:Oper),ops[i]?=some o->∃ c,cs[i]?=some c/\TY P nt all.toArray o c
 | [],cs,h=>by injection h with h; subst h; exact ⟨rfl,fun i o ho=>by simp at ho⟩
 | o :: r,cs,h=>by
  unfold MP at h;split at h
  ·rename_i k l hk hl;split at h
   ·rename_i ia;have da:∀ d,o.dst=some d->d<nt:=fun d hd=>by rw [hd] at ia; simpa [dstOk] using ia
    obtain ⟨h1,h2⟩:=ZS hl;have xU:∀ c,cs=c :: l->TY P nt all.toArray o c->cs.length=(o :: r).length/\∀ (i:Nat) (o':Oper),(o :: r)[i]?=some o'->∃ c,cs[i]?=some c/\TY P nt all.toArray o' c:=fun c e hc=>by
     subst e;refine ⟨by simp [h1],fun i o' ho=>?_⟩;cases i with
     | zero=>simp at ho; subst ho; exact ⟨c,rfl,hc⟩
     | succ i=>simpa using h2 i o' (by simpa using ho)
    have ej:(match o.dst with | some d=>if boxes.contains (nt + 1 + (2 * d + 1)) then some true else if boxes.contains (nt + 1 + 2 * d) then some false else none | none=>none)≠none->o.dst≠none:=fun h e=>by rw [e] at h; exact h rfl
    have ib:(d7 k=false/\((∃ cl mu b q,HY P cl mu b q o.op=some k/\(mu≠none->o.dst≠none))\/∃ cl hs L,LS P cl hs L o.op=some k))\/∃ hs,CW nt hs o.op=some k:=by
     split at hk
     ·rename_i k' se;injection hk with hk;exact .inr ⟨_,hk ▸ se⟩
     ·split at hk
      ·rename_i k' se;injection hk with hk;subst hk;exact .inl ⟨compN_H se,.inr ⟨_,_,_,se⟩⟩
      ·obtain ⟨h1,h2⟩:=Option.filter_eq_some_iff.1 hk;exact .inl ⟨by simpa using h2,.inl ⟨_,_,_,_,h1,ej⟩⟩
    cases hg:o.guard with
    | none =>
     simp only [hg] at h;injection h with h;exact xU _ h.symm ⟨rfl,ib,da,by rw [hg]⟩
    | some p =>
     obtain ⟨g,want⟩:=p;simp only [hg] at h;split at h
     ·rename_i t ht;injection h with h;exact xU _ h.symm ⟨rfl,ib,da,by rw [hg]; exact ⟨t,by simpa using ht,rfl⟩⟩
     ·cases h
   ·cases h
  ·cases h
section
variable {D:Nat->Prop} (R:SC P O nt B F0 aa w0 D s a w) (za:∀ f args S r,call f args S=some r->DA P O f args S r)
include D R za
theorem K1 {ops:Array Oper} {i:Nat} {o:Oper} {c:kA} (ho:ops[i]?=some o) (ok:TY P nt ops o c) (hD:∀ d,o.dst=some d->(MZ c.op||XQ c.op)=true->¬ D d) (ib:(∃ cl mu b q,HY P cl mu b q o.op=some c.op/\(mu≠none->o.dst≠none))\/∃ cl hs L,LS P cl hs L o.op=some c.op) (hs:c.step call s=some s')
  {Kn:Act->World->Prop} (hK:∀ a' w',SC P O nt B F0 aa w0 (fun t=>D t\/o.dst=some t) s' a' w'->Kn a' w'):wpOp P ops Q i Kn a w:=by
 obtain ⟨ι,Θ,R⟩:=R;obtain ⟨cd,cop,cg⟩:=c;have ja:cd=o.dst:=ok.dst;subst ja;have main:cop.run call s≠none->(cop.run call s).bind (kA.eff ⟨o.dst,cop,cg⟩ s)=some s'->o.wp P a w Kn Q:=fun _ h=>by
  obtain ⟨xe,hx,he⟩:=y7.1 h;rcases ib with ⟨cl,mu,b,q,ib,ej⟩ | ⟨cl,hs0,L,ib⟩
  case inr=>exact op_own R za ib ok.lt hD hx he hK
  unfold HY at ib;split at ib
  ·rename_i k hk;injection ib with ib;subst ib;exact op_sound R za hk ej ok.lt hD hx he hK
  ·split at ib
   ·injection ib with ib;subst ib;cases hx
   ·cases ib
 have main':(cop.run call s).bind (kA.eff ⟨o.dst,cop,cg⟩ s)=some s'->o.wp P a w Kn Q:=fun h=>main (fun e=>by rw [e] at h; cases h) h
 unfold wpOp;simp only [ho];have ar:UA ι (QB aa ι Θ) (EB ι Θ) w (.tup []) undef:=⟨#[],rfl,rfl⟩;have hg:=ok.guard;cases en:o.guard with
 | none =>
  rw [en] at hg;simp only at hg;subst hg;have:Region.wanted o (yielded ops a.tmps)=true:=by simp [Region.wanted,en]
  rw [if_pos this];exact .inl (main' hs)
 | some p =>
  obtain ⟨g,want⟩:=p;rw [en] at hg;obtain ⟨t,ht,hg⟩:=hg;simp only at hg;subst hg;unfold kA.step at hs;simp only at hs;split at hs
  ·rename_i b hb;have hr:=R.env t;rw [hb,rB] at hr;have hy:yielded ops a.tmps g=some b:=by
    unfold yielded;rw [ht];simp only [J];rw [yP] at hr;cases hh:a.tmps[t]? with
    | none=>rw [hh] at hr; simp [undef] at hr
    | some v=>rw [hh] at hr; simp only [Option.getD_some] at hr; subst hr; rfl
   have hw:Region.wanted o (yielded ops a.tmps)=(b == want):=by
    simp only [Region.wanted,en,hy];cases b <;> cases want <;> rfl
   rw [hw];split at hs
   ·rename_i e;subst e;rw [if_pos (by simp)];exact .inl (main' hs)
   ·rename_i e;injection hs with hs;subst hs;rw [if_neg (by simpa using e)];exact hK _ _ ⟨ι,Θ,(R.putN ok.lt (x:=⟨.tup [],.no⟩) ar trivial).more fun _ h=>.inl h⟩
  ·rename_i hb;have hr:=R.env t;rw [hb] at hr;obtain ⟨us,hv,fd⟩:=hr;have hy:yielded ops a.tmps g=none:=by
    unfold yielded;rw [ht];simp only [J];rw [yP] at hv;cases hh:a.tmps[t]? with
    | none=>rfl
    | some v=>rw [hh] at hv; simp only [Option.getD_some] at hv; subst hv; rfl
   have hw:Region.wanted o (yielded ops a.tmps)=false:=by
    simp only [Region.wanted,en,hy];cases want <;> rfl
   rw [hw];injection hs with hs;subst hs;rw [if_neg (by decide)];exact hK _ _ ⟨ι,Θ,(R.putN ok.lt (x:=⟨.tup [],.no⟩) ar trivial).more fun _ h=>.inl h⟩
  ·cases hs
theorem oT (fg:LV P O lh.h) {ops:Array Oper} {i:Nat} {o:Oper} {c:kA} (ho:ops[i]?=some o) (ok:TY P nt ops o c) (hD:∀ d,o.dst=some d->(MZ c.op||XQ c.op)=true->¬ D d) {k:uA->Option RV} {r:RV} (hs:c.stepK call lh s k=some r)
  {Kn:Act->World->Prop} (hK:∀ s' a' w',SC P O nt B F0 aa w0 (fun t=>D t\/o.dst=some t) s' a' w'->k s'=some r->Kn a' w'):wpOp P ops Q i Kn a w:=by
 rcases ok.op with ⟨hH,ib⟩ | ⟨dr,ib⟩
 ·have hb:(c.step call s).bind k=some r:=by
   unfold kA.stepK at hs;split at hs
   ·rename_i h; rw [h] at hH; cases hH
   ·rename_i h; rw [h] at hH; cases hH
   ·exact hs
  obtain ⟨s1,h1,h2⟩:=y7.1 hb;exact K1 R za ho ok hD ib h1 fun a' w' R'=>hK s1 a' w' R' h2
 ·obtain ⟨cd,cop,cg⟩:=c;have ja:cd=o.dst:=ok.dst;subst ja;simp only at ib;obtain ⟨ι,Θ,R⟩:=R;obtain ⟨st,bd,main'⟩:∃ st,kA.stepK call lh ⟨o.dst,cop,cg⟩ s k=NI s o.dst cg st k/\(st=some r->o.wp P a w Kn Q):=by
   have uh:=ib;unfold CW at uh;split at uh
   ·split at uh
    ·obtain ⟨_,_,h⟩:=yf.1 uh; subst h; exact ⟨_,rfl,fun h=>nZ R fg ib ok.lt h hK⟩
    ·cases uh
   ·split at uh
    ·obtain ⟨_,_,h⟩:=yf.1 uh; subst h; exact ⟨_,rfl,fun h=>nZ R fg ib ok.lt h hK⟩
    ·cases uh
   ·rename_i X hox;obtain ⟨x,hx,h⟩:=yf.1 uh;subst h;exact ⟨_,rfl,fun h=>op_nxt R hx hox ok.lt h hK⟩
   ·cases uh
  rw [bd] at hs;unfold wpOp;simp only [ho];have ar:UA ι (QB aa ι Θ) (EB ι Θ) w (.tup []) undef:=⟨#[],rfl,rfl⟩;have hg:=ok.guard;cases en:o.guard with
  | none =>
   rw [en] at hg;simp only at hg;subst hg;have:Region.wanted o (yielded ops a.tmps)=true:=by simp [Region.wanted,en]
   rw [if_pos this];exact .inl (main' hs)
  | some p =>
   obtain ⟨g,want⟩:=p;rw [en] at hg;obtain ⟨t,ht,hg⟩:=hg;simp only at hg;subst hg;unfold NI at hs;simp only at hs;split at hs
   ·rename_i b hb;have hr:=R.env t;rw [hb,rB] at hr;have hy:yielded ops a.tmps g=some b:=by
     unfold yielded;rw [ht];simp only [J];rw [yP] at hr;cases hh:a.tmps[t]? with
     | none=>rw [hh] at hr; simp [undef] at hr
     | some v=>rw [hh] at hr; simp only [Option.getD_some] at hr; subst hr; rfl
    have hw:Region.wanted o (yielded ops a.tmps)=(b == want):=by
     simp only [Region.wanted,en,hy];cases b <;> cases want <;> rfl
    rw [hw];split at hs
    ·rename_i e;subst e;rw [if_pos (by simp)];exact .inl (main' hs)
    ·rename_i e;rw [if_neg (by simpa using e)];exact hK _ _ _ ⟨ι,Θ,(R.putN ok.lt (x:=⟨.tup [],.no⟩) ar trivial).more fun _ h=>.inl h⟩ hs
   ·rename_i hb;have hr:=R.env t;rw [hb] at hr;obtain ⟨us,hv,fd⟩:=hr;have hy:yielded ops a.tmps g=none:=by
     unfold yielded;rw [ht];simp only [J];rw [yP] at hv;cases hh:a.tmps[t]? with
     | none=>rfl
     | some v=>rw [hh] at hv; simp only [Option.getD_some] at hv; subst hv; rfl
    have hw:Region.wanted o (yielded ops a.tmps)=false:=by
     simp only [Region.wanted,en,hy];cases want <;> rfl
    rw [hw];rw [if_neg (by decide)];exact hK _ _ _ ⟨ι,Θ,(R.putN ok.lt (x:=⟨.tup [],.no⟩) ar trivial).more fun _ h=>.inl h⟩ hs
   ·cases hs
end
theorem SC.next {D:Nat->Prop} (R:SC P O nt B F0 aa w0 D s a w):SC P O nt B F0 aa w0 (fun _=>False) { s with next:=s.next + 1 } a w:=by
 obtain ⟨ι,Θ,R⟩:=R;exact ⟨ι,Θ,R.defers,R.size,R.env,R.ann,R.rows,fun t n b h=>let ⟨h1,h2,h3⟩:=R.mine t n b h; ⟨h1,h2,.inl (by rcases h3 with h | h <;> simp only <;> omega)⟩,R.inj,R.tok,R.tinj,R.apart,R.out,R.pin,R.kept,R.base,R.objs,fun t n H h=>let ⟨h1,h2⟩:=R.obs t n H h; ⟨h1,.inl (by rcases h2 with h | h <;> simp only <;> omega)⟩,R.gen,R.gann⟩
theorem bU {cs:List kA} (h:pQ cs=true) {i j:Nat} {x y:kA} (hx:cs[i]?=some x) (hy:cs[j]?=some y) (jb:i≠j) (hA:(MZ y.op||XQ y.op)=true) (oj:y.dst.isSome=true):x.dst≠y.dst:=by
 have hj:=(yq.1 hy).1;have hi:=(yq.1 hx).1;have h1:=y8.1 h j (List.mem_range.2 hj);rw [hy] at h1;simp only [hA,oj,Bool.true_and,Bool.not_true,Bool.false_or] at h1;have h2:=y8.1 h1 i (List.mem_range.2 hi);rw [hx] at h2;simp only [Bool.or_eq_true] at h2;rcases h2 with h2 | h2
 ·exact absurd (by simpa using h2) jb
 ·simpa using h2
theorem pX {ops:Array Oper} {cs:List kA} (za:∀ f args S r,call f args S=some r->DA P O f args S r) (fg:LV P O lh.h) (sa:∀ (i:Nat) (o:Oper),ops[i]?=some o->∃ c,cs[i]?=some c/\TY P nt ops o c) (ea:cs.length=ops.size) (hf:pQ cs=true) {k:uA->Option RV} {r:RV} :
  ∀ (n i:Nat) (s:uA) (a:Act) (w:World),i + n=ops.size->SC P O nt B F0 aa w0 (fun t=>∃ j c,j<i/\cs[j]?=some c/\c.dst=some t) s a w->rF call lh (cs.drop i) s k=some r →
   (∀ s' a' w',SC P O nt B F0 aa w0 (fun _=>True) s' a' w'->k s'=some r->Q .normal a' w')->wpOps P ops Q (List.range' i n) a w
 | 0,i,s,a,w,hi,R,hr,hQ=>by
  have:cs.drop i=[]:=yj (by omega);rw [this] at hr;obtain ⟨ι,Θ,R⟩:=R;exact hQ s a w ⟨ι,Θ,R.more fun _ _=>trivial⟩ hr
 | n + 1,i,s,a,w,hi,R,hr,hQ=>by
  have ia:i<ops.size:=by omega
  obtain ⟨c,hc,ok⟩:=sa i ops[i] (yQ ia);have md:i<cs.length:=by omega
  have hci:cs[i]=c:=(yq.1 hc).2;rw [yk md,hci] at hr;unfold rF at hr;rw [List.range'_succ,wpOps_cons];refine oT R za fg (yQ ia) ok (fun d hd hA ⟨j,c',hj,xb,ak⟩=>?_) hr fun s' a' w' R' hk=>?_
  ·exact bU hf xb hc (by omega) hA (by rw [ok.dst,hd]; rfl) (by rw [ak,ok.dst,hd])
  ·refine pX za fg sa ea hf n (i + 1) s' a' w' (by omega) ?_ hk hQ;obtain ⟨ι,Θ,R'⟩:=R';refine ⟨ι,Θ,R'.more fun t ht=>?_⟩;rcases ht with ⟨j,c',hj,xb,ak⟩ | ht
   ·exact ⟨j,c',by omega,xb,ak⟩
   ·exact ⟨i,c,by omega,hc,by rw [ok.dst,ht]⟩
end
end
section
open Go Go.RowKit
section
variable {P:Program} {O:JD} {nt B:Nat} {F0:AL} {aa:Av} {w0:World} {s s':uA} {a:Act} {w w':World} {call:LA} {lh:LH} {Q:Exit->Act->World->Prop}
noncomputable def jH (call:LA) (lh:LH) (cs:List kA):List Nat->uA->(uA->Option RV)->Option RV
 | [],s,k=>k s
 | i :: r,s,k=>match cs[i]? with
  | some c=>c.stepK call lh s fun s=>jH call lh cs r s k
  | none=>none
theorem IV (cs:List kA) (k:uA->Option RV):∀ (n i:Nat) (s:uA),i + n=cs.length->rF call lh (cs.drop i) s k=jH call lh cs (List.range' i n) s k
 | 0,i,s,h=>by rw [yj (by omega)]; rfl
 | n + 1,i,s,h=>by
  have ia:i<cs.length:=by omega
  rw [yk ia,List.range'_succ];unfold rF jH;rw [yg ia];simp only;congr 1;funext s1;exact IV cs k n (i + 1) s1 (by omega)
theorem lG {c:kA} (h:d7 c.op=false) (s:uA) (k:uA->Option RV):c.stepK call lh s k=(c.step call s).bind k:=by
 unfold kA.stepK;split
 ·rename_i e; rw [e] at h; cases h
 ·rename_i e; rw [e] at h; cases h
 ·rfl
theorem isM_H {k:K} (h:isM k=false):d7 k=false:=by
 cases k <;> first | rfl | cases h
theorem U1 {x y:kA} (h:cL x y=true):d7 x.op=false/\d7 y.op=false:=by
 have hN:∀ {k:K},isN k=true->d7 k=false:=fun {k} h=>by cases k <;> first | rfl | cases h
 have hV:∀ {o:kA},g7 o=true->d7 o.op=false:=fun h=>by obtain ⟨d,z,rfl⟩:=H5 h; rfl
 unfold cL at h;simp only [Bool.or_eq_true,yc] at h;rcases h with h | ((⟨h,h'⟩ | ⟨h,h'⟩) | ⟨h,h'⟩) | ⟨h,h'⟩
 ·unfold NF at h;simp only [yc] at h;exact ⟨isM_H (by simpa using h.1.1.1.1.1.1.1),isM_H (by simpa using h.1.1.1.1.1.1.2)⟩
 ·exact ⟨hV h,hN h'⟩
 ·exact ⟨hN h',hV h⟩
 ·refine ⟨?_,hN h'⟩;unfold isLd at h;split at h
  ·rename_i e _ _; rw [e]; rfl
  ·cases h
 ·refine ⟨hN h,?_⟩;unfold isPt at h';split at h'
  ·rename_i e _; rw [e]; rfl
  ·rename_i e _; rw [e]; rfl
  ·cases h'
theorem R5 {cs:List kA} {i:Nat} {c:kA} (hc:cs[i]?=some c) (hH:d7 c.op=false) {L2:List Nat} {k:uA->Option RV} {r:RV}:∀ {L1:List Nat} {s:uA},(∀ r∈L1,∃ cr,cs[r]?=some cr/\KD cr c=true/\cL cr c=true)->jH call lh cs (L1++i :: L2) s k=some r →
  ∃ s1,c.step call s=some s1/\jH call lh cs (L1++L2) s1 k=some r
 | [],s,_,h=>by
  simp only [List.nil_append,jH,hc,lG hH] at h;obtain ⟨s1,h1,h2⟩:=y7.1 h;exact ⟨s1,h1,h2⟩
 | q :: L1,s,hL,h=>by
  obtain ⟨cr,hr,ha,ho⟩:=hL q (yv);simp only [List.cons_append,jH,hr,lG (U1 ho).1] at h;obtain ⟨s1,h1,h2⟩:=y7.1 h;obtain ⟨s2,h3,h4⟩:=R5 hc hH (fun q hq=>hL q (yE _ hq)) h2;obtain ⟨ug,h5,h6⟩:=commute ha ho h1 h3;refine ⟨ug,h5,?_⟩;simp only [List.cons_append,jH,hr,lG (U1 ho).1,h6,J];exact h4
theorem bubble {cs:List kA} {i:Nat} {c:kA} (hc:cs[i]?=some c) {L2:List Nat} {k:uA->Option RV} {r:RV} {L1:List Nat} {s:uA} (hL:∀ r∈L1,∃ cr,cs[r]?=some cr/\KD cr c=true/\cL cr c=true) (h:jH call lh cs (L1++i :: L2) s k=some r) :
  c.stepK call lh s (fun s1=>jH call lh cs (L1++L2) s1 k)=some r:=by
 cases L1 with
 | nil=>simpa only [List.nil_append,jH,hc] using h
 | cons q L1 =>
  obtain ⟨cr,hr,ha,ho⟩:=hL q (yv);have hH:=(U1 ho).2;obtain ⟨s1,h1,h2⟩:=R5 hc hH hL h;rw [lG hH,h1,J];exact h2
theorem iX {o:Oper} {e:Nat}:e∈bH o ↔ ∃ d∈o.after,Region.binds .any d=true/\d.on=e:=by
 unfold bH;rw [List.mem_filterMap];constructor
 ·rintro ⟨d,hd,h⟩;split at h
  ·rename_i hb; injection h with h; exact ⟨d,by simpa using hd,hb,h⟩
  ·cases h
 ·rintro ⟨d,hd,hb,rfl⟩;exact ⟨d,by simpa using hd,by rw [if_pos hb]⟩
theorem W5 {ops:List Oper} {bf:List Nat} (h:bfOk ops bf=true) {i:Nat} {o:Oper} (ho:ops[i]?=some o):(∀ e∈bH o,e<i)/\∀ r,r<i->(bf.getD i 0).testBit r=true->∃ e∈bH o,e=r\/(r<e/\(bf.getD e 0).testBit r=true):=by
 have hi:=(yq.1 ho).1;have h1:=y8.1 h i (List.mem_range.2 hi);rw [ho] at h1;simp only [yc] at h1;refine ⟨fun e he=>by simpa using y8.1 h1.1 e he,fun r hr hb=>?_⟩;have h2:=y8.1 h1.2 r (List.mem_range.2 hr);simp only [hb,Bool.not_true,Bool.false_or,List.any_eq_true,Bool.or_eq_true,beq_iff_eq,yc,decide_eq_true_eq] at h2;exact h2
theorem LW {ops:List Oper} {bf:List Nat} (h:bfOk ops bf=true) {L:List Nat} (md:∀ (j:Nat) (o:Oper),ops[j]?=some o->j ∉ L->∀ e∈bH o,e ∉ L):∀ (n i:Nat) (o:Oper),i<n->ops[i]?=some o->(∀ e∈bH o,e ∉ L)->∀ r,r<i->(bf.getD i 0).testBit r=true->r ∉ L
 | 0,i,o,hn,_,_,_,_,_=>by omega
 | n + 1,i,o,hn,ho,wy,r,hr,hb=>by
  obtain ⟨h1,h2⟩:=W5 h ho;obtain ⟨e,he,hor⟩:=h2 r hr hb;rcases hor with rfl | ⟨hre,hbe⟩
  ·exact wy _ he
  ·have hei:=h1 e he;have ia:i<ops.length:=(yq.1 ho).1;have pu:ops[e]?=some ops[e]:=yg (by omega);exact LW h md n e _ (by omega) pu (md e _ pu (wy e he)) r hre hbe
theorem Z6 {ops:List Oper} {cs:List kA} (h:wR ops cs=true) {i j:Nat} (hj:j<ops.length) (gz:i<j) (hb:((TN ops).getD j 0).testBit i=false):∃ x y,cs[i]?=some x/\cs[j]?=some y/\KD x y=true/\cL x y=true:=by
 unfold wR at h;simp only [yc] at h;have h1:=y8.1 h.2 j (List.mem_range.2 hj);have h2:=y8.1 h1 i (List.mem_range.2 gz);rw [hb,Bool.false_or] at h2;split at h2
 ·rename_i x y hx hy;simp only [yc] at h2;exact ⟨x,y,hx,hy,h2.1,h2.2⟩
 ·cases h2
theorem JW {ops:Array Oper} {cs:List kA} (za:∀ f args S r,call f args S=some r->DA P O f args S r) (fg:LV P O lh.h) (sa:∀ (i:Nat) (o:Oper),ops[i]?=some o->∃ c,cs[i]?=some c/\TY P nt ops o c) (ea:cs.length=ops.size) (hf:pQ cs=true) (zi:wR ops.toList cs=true) {k:uA->Option RV} {r:RV}
  (hQ:∀ s' a' w',SC P O nt B F0 aa w0 (fun _=>True) s' a' w'->k s'=some r->Q .normal a' w') :
  ∀ (fuel:Nat) (L:List Nat) (listed:Array Bool) (s:uA) (a:Act) (w:World),L.length=fuel->(∀ i,i<ops.size->(listed.getD i true=false ↔ i∈L))->listed.size=ops.size->L.Pairwise (·<·)->(∀ i∈L,i<ops.size) →
   (∀ (j:Nat) (o:Oper),ops.toList[j]?=some o->j ∉ L->∀ e∈bH o,e ∉ L)->SC P O nt B F0 aa w0 (fun t=>∃ j c,j ∉ L/\cs[j]?=some c/\c.dst=some t) s a w->jH call lh cs L s k=some r->wpAny P .any ops Q fuel listed a w
 | 0,L,listed,s,a,w,hl,hlist,ac,_,_,_,R,hr=>by
  have:L=[]:=yN hl;subst this;refine ⟨?_,?_⟩
  ·refine List.eq_nil_iff_forall_not_mem.2 fun i hi=>?_
   obtain ⟨ar,o,ho,_⟩:=mem_ready.1 hi;have xc:=(Array.getElem?_eq_some_iff.1 ho).1;have:=(hlist i xc).1 ar;cases this
  ·obtain ⟨ι,Θ,R⟩:=R;exact hQ s a w ⟨ι,Θ,R.more fun _ _=>trivial⟩ hr
 | fuel + 1,L,listed,s,a,w,hl,hlist,ac,hsort,tp,md,R,hr=>by
  have hbf:bfOk ops.toList (TN ops.toList)=true:=by
   unfold wR at zi;simp only [yc] at zi;exact zi.1
  refine ⟨fun mo=>?_,fun i hi=>?_⟩
  ·exfalso;cases L with
   | nil=>simp at hl
   | cons i0 L0 =>
    have ft:=tp i0 (yv);have ho:ops.toList[i0]?=some ops[i0]:=by simp [ft]
    have ge:i0∈Region.ready .any ops listed:=by
     refine mem_ready.2 ⟨(hlist i0 ft).2 (yv),ops[i0],yQ ft,fun e he hb=>?_⟩;have ia:=(W5 hbf ho).1 e.on (iX.2 ⟨e,he,hb,rfl⟩);have hnot:e.on ∉ i0 :: L0:=fun hm=>by
      rcases yA.1 hm with h | h
      ·omega
      ·have:=(List.pairwise_cons.1 hsort).1 _ h; omega
     have h1:listed.getD e.on true≠false:=fun h=>hnot ((hlist e.on (by omega)).1 h)
     have hs:e.on<listed.size:=by omega
     simp only [yP,yQ hs,Option.getD_some] at h1 ⊢;simpa using h1
    rw [mo] at ge;cases ge
  ·obtain ⟨ar,o,ho,wy⟩:=mem_ready.1 hi;have xc:=(Array.getElem?_eq_some_iff.1 ho).1;have hiL:=(hlist i xc).1 ar;have hol:ops.toList[i]?=some o:=by simpa using ho
   have sv:∀ e∈bH o,e ∉ L:=fun e he=>by
    obtain ⟨d,hd,hb,rfl⟩:=iX.1 he;have h1:=wy d hd hb;intro hm;have ia:=tp _ hm;have h2:=(hlist _ ia).2 hm;have hs:d.on<listed.size:=by omega
    simp only [yP,yQ hs,Option.getD_some] at h1 h2;rw [h1] at h2;cases h2
   obtain ⟨L1,L2,rfl⟩:=List.append_of_mem hiL;obtain ⟨c,hc,ok⟩:=sa i o ho;have jg:=List.pairwise_append.1 hsort;have gl:∀ r∈L1,∃ cr,cs[r]?=some cr/\KD cr c=true/\cL cr c=true:=fun r hr=>by
    have hri:r<i:=jg.2.2 r hr i (yv);have hbit:((TN ops.toList).getD i 0).testBit r=false:=by
     cases hb:((TN ops.toList).getD i 0).testBit r with
     | false=>rfl
     | true=>exact absurd (List.mem_append_left _ hr) (LW hbf md (i + 1) i o (by omega) hol sv r hri hb)
    obtain ⟨x,y,hx,hy,h1,h2⟩:=Z6 zi (by simpa using xc) hri hbit;rw [hc] at hy;injection hy with hy;subst hy;exact ⟨x,hx,h1,h2⟩
   have h1:=bubble hc gl hr;have tw:i ∉ L1++L2:=fun hm=>by
    rcases yI.1 hm with h | h
    ·have:=jg.2.2 i h i (yv); omega
    ·have:=(List.pairwise_cons.1 jg.2.1).1 i h; omega
   have wc:∀ j,j ∉ L1++i :: L2 ↔ (j ∉ L1++L2/\j≠i):=fun j=>by
    simp only [yI,yA,not_or];exact ⟨fun ⟨h1,h2,h3⟩=>⟨⟨h1,h3⟩,h2⟩,fun ⟨⟨h1,h3⟩,h2⟩=>⟨h1,h2,h3⟩⟩
   refine oT R za fg ho ok (fun d hd hA ⟨j,c',hj,xb,ak⟩=>?_) h1 fun s1 a' w' R' h2=>?_
   ·have:j≠i:=((wc j).1 hj).2;exact bU hf xb hc this hA (by rw [ok.dst,hd]; rfl) (by rw [ak,ok.dst,hd])
   ·refine JW za fg sa ea hf zi hQ fuel (L1++L2) (listed.setIfInBounds i true) s1 a' w' (by simp at hl ⊢; omega) (fun j hj=>?_) (by simpa using ac) ?_ (fun j hj=>tp j ?_) (fun j o' ww hj e he hm=>?_) ?_ h2
    ·have hjs:j<listed.size:=by omega
     by_cases e:i=j
     ·subst e;simp only [yP,Array.getElem?_setIfInBounds,if_true,hjs,Option.getD_some];exact ⟨fun h=>by simp at h,fun h=>absurd h tw⟩
     ·simp only [yP,Array.getElem?_setIfInBounds,if_neg e];have:=hlist j hj;simp only [yP] at this;rw [this];simp only [yI,yA];exact ⟨fun h=>by rcases h with h | h | h; exact .inl h; exact absurd h.symm e; exact .inr h,fun h=>by rcases h with h | h; exact .inl h; exact .inr (.inr h)⟩
    ·exact List.pairwise_append.2 ⟨jg.1,(List.pairwise_cons.1 jg.2.1).2,fun x hx y hy=>jg.2.2 x hx y (yE _ hy)⟩
    ·rcases yI.1 hj with h | h
     ·exact List.mem_append_left _ h
     ·exact List.mem_append_right _ (yE _ h)
    ·have pd:e∈L1++i :: L2:=by
      rcases yI.1 hm with h | h
      ·exact List.mem_append_left _ h
      ·exact List.mem_append_right _ (yE _ h)
     by_cases e':j=i
     ·subst e';rw [hol] at ww;injection ww with ww;subst ww;exact sv e he pd
     ·exact md j o' ww ((wc j).2 ⟨hj,e'⟩) e he pd
    ·obtain ⟨ι,Θ,R'⟩:=R';refine ⟨ι,Θ,R'.more fun t ht=>?_⟩;rcases ht with ⟨j,c',hj,xb,ak⟩ | ht
     ·exact ⟨j,c',((wc j).1 hj).1,xb,ak⟩
     ·exact ⟨i,c,tw,hc,by rw [ok.dst,ht]⟩
theorem jY (hm:P.follows .mixedOrders=true) (za:∀ f args S r,call f args S=some r->DA P O f args S r) (fg:LV P O lh.h) {boxes:List Nat} {id:Nat} {ops:Array Oper} {draw:Bool} {cs:List kA} (hc:MP P boxes nt ops.toList draw ops.toList=some cs) (hf:pQ cs=true) (hd:draw=true->wR ops.toList cs=true)
  (R:SC P O nt B F0 aa w0 (fun _=>False) s a w) {k:uA->Option RV} {r:RV} (hr:rF call lh cs s k=some r) (hQ:∀ s' a' w',SC P O nt B F0 aa w0 (fun _=>False) { s' with next:=s'.next + 1 } a' w'->k s'=some r->Q .normal a' w'):(Code.region id ops draw).wp P Q a w:=by
 obtain ⟨ea,sq⟩:=ZS hc;have ao:cs.length=ops.size:=by simpa using ea
 have sa:∀ (i:Nat) (o:Oper),ops[i]?=some o->∃ c,cs[i]?=some c/\TY P nt ops o c:=fun i o ho=>by
  have:=sq i o (by simpa using ho);rw [yM] at this;exact this
 have hQ':∀ s' a' w',SC P O nt B F0 aa w0 (fun _=>True) s' a' w'->k s'=some r->Q .normal a' w':=fun s' a' w' h hk=>hQ s' a' w' h.next hk
 cases draw with
 | false =>
  refine wp_region ?_;rw [List.range_eq_range'];refine pX za fg sa ao hf ops.size 0 s a w (by omega) ?_ (by simpa using hr) hQ';obtain ⟨ι,Θ,R⟩:=R;exact ⟨ι,Θ,R.more fun _ h=>h.elim⟩
 | true =>
  refine wp_region_any hm ?_;have ka:jH call lh cs (List.range' 0 ops.size) s k=some r:=by
   rw [<- ao,<- IV cs k cs.length 0 s (by omega)];simpa using hr
  refine JW za fg sa ao hf (hd rfl) hQ' ops.size (List.range' 0 ops.size) _ s a _ (by simp) (fun i hi=>?_) (by simp) List.pairwise_lt_range' (fun i hi=>?_) (fun j o ho hj=>?_) ?_ ka
  ·simp [hi]
  ·simpa using hi
  ·have:=(yq.1 ho).1;exact absurd (by simpa using this) (by simpa using hj)
  ·obtain ⟨ι,Θ,R⟩:=R;exact ⟨ι,Θ,(R.grow (w':=w.drew) (fun _ _=>rfl) (ye _) R.kept.drew).more fun _ h=>h.elim⟩
end
end
end Go.Proofs.YtbhbeakhognieaaGreatDoor
