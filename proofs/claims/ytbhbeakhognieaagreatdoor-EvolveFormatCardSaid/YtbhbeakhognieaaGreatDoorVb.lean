/- A part of the proof. -/
import Derived.Test.YtbhbeakhognieaaGreatDoorVa
import Derived.Laws.BytesString
import Derived.OrdersHeld
set_option linter.all false
set_option maxRecDepth 100000
set_option maxHeartbeats 8000000
open Option renaming bind_some → U, bind_eq_some_iff → y0, map_eq_some_iff → y8, map_some → yd
open List renaming map_map → J, all_eq_true → y5, length_append → y9, length_take → yc, replicate → ye, map_cons → yf, length_drop → yg, mem_cons_self → yh, flatten_cons → yi, getElem?_drop → yj, getElem?_eq_some_iff → yk, getElem?_map → yl, getElem?_take → ym, getElem?_eq_getElem → yn, map_congr_left → yo, mem_cons_of_mem → yr, size_toArray → yu, length_map → yv, getElem?_append_right → yy, length_cons → yz, append_assoc → yA, getElem?_append_left → yB, drop_eq_nil_of_le → yD, eq_nil_of_length_eq_zero → yF, drop_eq_getElem_cons → yI
open Nat renaming le_refl → y6, zero_add → yb, le_trans → yp, succ_mul → yt, eq_zero_or_pos → yx
open Bool renaming and_eq_true → y7, false_eq_true → yq
open Array renaming length_toList → yw, toArray_toList → yE, getD_eq_getD_getElem? → yG, getElem?_eq_getElem → yH
namespace Go.Proofs.YtbhbeakhognieaaGreatDoor
open Go
section
open Go Go.RowKit
section
variable {P:Program} {O:OB} {nt B:Nat} {F0:DH} {ga:Av} {w0:World} {D:Nat->Prop} {s:tA} {a:Act} {w w':World} {ι:Ix} {Θ:tE} {o:Oper}
def An.twice (A:An) (d:Nat) (x:An):An:=match A with
 | .own k _=>(x.strip k).strip d
 | _=>x.strip d
theorem D0 (A:An) (d:Nat):(s.stripA A).strip d=s.mapAn (A.twice d):=by
 cases A with
 | own k e=>simp [tA.stripA,tA.strip,tA.mapAn,qA.strip,An.twice,Function.comp_def]
 | no=>rfl
 | ex=>rfl
def tE.less (Θ:tE) (A:An) (d:Nat):tE:=fun j=>match A with
 | .own k _=>if j=d\/j=k then none else Θ j
 | _=>if j=d then none else Θ j
theorem BA {A:An} {d j:Nat} {o:Ow} (h:Θ.less A d j=some o):Θ j=some o/\j≠d/\∀ k e,A=.own k e->j≠k:=by
 unfold tE.less at h;cases A with
 | own k e =>
  simp only at h;split at h
  ·cases h
  ·rename_i hn; exact ⟨h,fun e=>hn (.inl e),fun k' e' he=>by injection he with h1; subst h1; exact fun e=>hn (.inr e)⟩
 | no =>
  simp only at h;split at h
  ·cases h
  ·rename_i hn; exact ⟨h,hn,fun k' e' he=>by cases he⟩
 | ex =>
  simp only at h;split at h
  ·cases h
  ·rename_i hn; exact ⟨h,hn,fun k' e' he=>by cases he⟩
theorem R8 {A:An} {d:Nat}:Θ.less A d d=none:=by
 unfold tE.less;cases A <;> simp
theorem NV {A:An} {d:Nat} {Θ':tE} (hΘ:∀ j o,Θ.less A d j=some o->Θ' j=some o) (x:An) (v:Value) (h:pE Θ x v):pE Θ' (A.twice d x) v:=by
 have h1:∀ k,x.strip k=.no\/(x.strip k=x/\∀ j e,x=.own j e->j≠k):=fun k=>by
  cases x with
  | no=>exact .inl rfl
  | ex=>exact .inr ⟨rfl,fun _ _ h=>by cases h⟩
  | own j e =>
   simp only [An.strip];split
   ·exact .inl rfl
   ·rename_i hn; exact .inr ⟨rfl,fun j' e' h=>by injection h with h; subst h; exact hn⟩
 have key:A.twice d x=.no\/(A.twice d x=x/\(∀ j e,x=.own j e->j≠d)/\∀ k e',A=.own k e'->∀ j e,x=.own j e->j≠k):=by
  cases A with
  | own k e' =>
   simp only [An.twice];rcases h1 k with h2 | ⟨h2,h3⟩
   ·rw [h2]; exact .inl rfl
   ·rw [h2];rcases h1 d with h4 | ⟨h4,h5⟩
    ·exact .inl h4
    ·exact .inr ⟨h4,h5,fun k' e'' he=>by injection he with he; subst he; exact h3⟩
  | no=>rcases h1 d with h4 | ⟨h4,h5⟩; exact .inl h4; exact .inr ⟨h4,h5,fun _ _ he=>by cases he⟩
  | ex=>rcases h1 d with h4 | ⟨h4,h5⟩; exact .inl h4; exact .inr ⟨h4,h5,fun _ _ he=>by cases he⟩
 rcases key with h2 | ⟨h2,h3,h4⟩
 ·rw [h2]; trivial
 ·rw [h2];cases x with
  | no=>trivial
  | ex=>exact h
  | own j e =>
   refine h.imp id fun ⟨ow,h5,h6⟩=>⟨ow,hΘ _ _ ?_,h6⟩
   unfold tE.less;cases A with
   | own k e'=>simp only; rw [if_neg]; exact h5; rintro (e1 | e1); exact h3 _ _ rfl e1; exact h4 _ _ rfl _ _ rfl e1
   | no=>simp only; rw [if_neg (h3 _ _ rfl)]; exact h5
   | ex=>simp only; rw [if_neg (h3 _ _ rfl)]; exact h5
theorem DA.apob (R:DA P O nt B F0 ga w0 D s a w ι Θ) {k:Nat} {o:Ow} {t n:Nat} {H:Nat->Prop} (h:Θ k=some o) (hH:ι.ob t n=some H):¬ H o.g:=fun hb=>((R.obs t n H hH).1 _ hb).2.2.2.1 k o h rfl
theorem DA.less (R:DA P O nt B F0 ga w0 D s a w ι Θ) (A:An) (d:Nat):DA P O nt B F0 ga w0 D (s.mapAn (A.twice d)) a w ι (Θ.less A d) :=
 R.fam _ _ (fun _ _ h=>h.imp id fun ⟨k,ow,h1,h2⟩=>⟨k,ow,(BA h1).1,h2⟩) (NV fun _ _ h=>h) (fun k o h=>R.tok k o (BA h).1) (fun k k' o o' h h'=>R.tinj k k' o o' (BA h).1 (BA h').1) (fun k o t n h=>R.apart k o t n (BA h).1) (fun _ _ _ _ _ h=>R.apob (BA h).1)
theorem EB {av:Av}:∀ {xs ys:List AV} {us vs:List Value},IA av w xs us->IA av w ys vs->IA av w (xs++ys) (us++vs)
 | [],_,_,_,h,h'=>by simp only [IA] at h; subst h; exact h'
 | x :: r,_,_,_,h,h'=>by
  simp only [IA] at h;obtain ⟨u,na,rfl,h0,h1,h⟩:=h;exact ⟨u,na++_,rfl,h0,h1,EB h h'⟩
theorem WG {av:Av}:∀ {xs:List AV} {us:List Value},IA av w xs us->∀ u∈us,u.oneCell'=true
 | [],_,h,u,hu=>by simp only [IA] at h; subst h; cases hu
 | x :: r,_,h,u,hu=>by
  simp only [IA] at h;obtain ⟨v,na,rfl,h0,h1,h⟩:=h;rcases List.mem_cons.1 hu with rfl | hu
  ·exact h1
  ·exact WG h u hu
theorem C8 (R:DA P O nt B F0 ga w0 D s a w ι Θ) {t e:TypeId} {i:TypeInfo} {z:List AV} (ht:P.underlying t=some (.slice e)) (hi:P.info? e=some i) (hz:UD P e=some z) (rb:z.length=i.size) (kb:0<i.size) {X Y:Operand} {x y:GA} (hx:opd X=some x) (hy:opd Y=some y)
  (ho:o.op=.call { callee:=.builtin .append,args:=#[X,Y],argTypes:=#[t,t] }) {d:Nat} (fa:o.dst=some d) (hd:d<nt) {cl:Cl} {call} {xe:qA × wB} (hr:(K.app cl e i.size i.bytes x y).run call s=some xe) {g} {s':tA} (he:sA.eff ⟨o.dst,.app cl e i.size i.bytes x y,g⟩ s xe=some s') :
  ∃ v w',(execOp a.eval o).run P w=.ok (.value v) w'/\fB P O nt B F0 ga w0 D s' (a.put o.dst v) w':=by
 obtain ⟨zv,i',bc,bi,ze,hl⟩:=gC hz w;rw [hi] at bc;injection bc with bc;subst bc;have gf:zv.cells.size=i.size:=by
  have:=wC hl;simp only [yw] at this;omega
 have hX:=R.opd hx;have hY:=(R.opd hy).1;have jg:∀ v w',(Builtin.append_ #[t,t] o.type #[a.eval X,a.eval Y]).run P w=.ok v w'->(execOp a.eval o).run P w=.ok (.value v) w':=fun v w' h=>by
  simp only [execOp,ho,resolve,invoke,builtin,Sem.run_bind,Sem.run_pure,Result.andThen_ok,List.map_toArray,yf,List.map_nil,h]
 simp only [K.run] at hr;split at hr
 ·rename_i b l m gc ib;split at hr
  ·rename_i ea;obtain ⟨ua,nb⟩:=ea;obtain ⟨pd,zd⟩:=gP.1 ua;have tb:∀ c∈l++m,c.length=i.size:=fun c hc=>by simpa using y5.1 nb c hc
   have pc:∀ c∈m,c.length=i.size:=fun c hc=>tb c (List.mem_append_right _ hc)
   have zj:∀ c∈l,c.length=i.size:=fun c hc=>tb c (List.mem_append_left _ hc)
   obtain ⟨news,fb,ud⟩:=zF R hY ib kb pc;rw [gc] at hX;have ll:=hX.1;rw [rB] at ll;obtain ⟨xs,sb,dl⟩:=zF (cl:=cl) R hX.1 (m:=l) rfl kb zj;simp only [xB] at ll;obtain ⟨A,c,hv,rl,hu,hn,hs⟩:=ll;have fd:xs.length=l.length * i.size:=dl.1;have jd:∀ a',A=some a'->∀ j u,xs[j]?=some u->w.cell? (a'.add j)=some u:=fun a' ha j u hj=>by
    obtain ⟨_,A2,c2,ut,_,h2⟩:=dl;rw [hv] at ut;injection ut with e1 e2 e3;subst e1;have hp:0<l.length:=by
     rcases yx l.length with h | h
     ·rw [h] at fd; have:=(yk.1 hj).1; omega
     ·exact h
    obtain ⟨b',off,hA,_,_,uc⟩:=h2 hp;rw [ha] at hA;injection hA with hA;subst hA;rw [Addr.add_lit];exact uc j u hj
   have fe:news.length=m.length * i.size:=ud.1;have pe:∀ u∈news,u.oneCell'=true:=WG fb;have jn:∃ A0,SS b (x.an s)=A0/\(A0=.ex\/∃ k,A0=.own k e)/\xe=(⟨.sl (b&&m.isEmpty) (l++m),.own 0 e⟩,.app A0 0):=by
    cases pg:SS b (x.an s) with
    | no=>rw [pg] at hr; cases hr
    | ex=>rw [pg] at hr; injection hr with hr; exact ⟨_,rfl,.inl rfl,hr.symm⟩
    | own k e' =>
     rw [pg] at hr;simp only at hr;split at hr
     ·rename_i hee; subst hee; injection hr with hr; exact ⟨_,rfl,.inr ⟨k,rfl⟩,hr.symm⟩
     ·cases hr
   obtain ⟨A0,pg,hAk,rfl⟩:=jn;simp only [sA.eff,fa] at he;injection he with he;subst he;rw [D0,fa];have jl:pE Θ A0 (a.eval X):=by
    rw [<- pg];cases b with
    | false=>exact hX.2
    | true =>
     obtain ⟨h1,h2,h3⟩:=hn rfl;exact ⟨none,0,by rw [hv,h1,h2,h3]⟩
   -- what is read of the old elements and the new ones behind
   have mb:IA (JA ga ι Θ) w (l++m).flatten (xs++news):=by rw [List.flatten_append]; exact EB sb fb
   have pt:∀ c∈l++m,∀ c'∈l++m,c.length=c'.length:=fun c hc c' xf=>(tb c hc).trans (tb c' xf).symm
   -- a new block
   have grow:c<l.length + m.length->∃ v w',(execOp a.eval o).run P w=.ok (.value v) w'/\fB P O nt B F0 ga w0 D ((s.mapAn (A0.twice d)).put (some d) ⟨.sl (b&&m.isEmpty) (l++m),.own d e⟩) (a.put (some d) v) w':=fun eb=>by
    have aa:=fN (P:=P) (w:=w) ht hi bi o.type fd (fun hA=>by
     cases b with
     | true=>have:=hn rfl; exact ⟨this.2.1,this.2.2⟩
     | false =>
      obtain ⟨h1,h2⟩:=hs rfl;refine ⟨?_,h1 hA⟩;rcases yx l.length with h0 | h0
      ·exact h0
      ·obtain ⟨_,_,ha,_⟩:=h2 h0; rw [hA] at ha; cases ha) jd ud eb rl zd pd
    rw [<- hv] at aa;have wi:=grownCap_ge w (l.length + m.length) c e;have ml:grownCap w (l.length + m.length) c e<=maxLen:=grownCap_le_maxLen w (l.length + m.length) c e (by unfold maxLen; omega);have zk:(xs.toArray++news.toArray++Builtin.zeroCells zv.cells (grownCap w (l.length + m.length) c e - (l.length + m.length))).size=grownCap w (l.length + m.length) c e * i.size:=by
     simp only [Array.size_append,yu,size_zeroCells,gf,fd,fe,<- Nat.add_mul];congr 1;omega
    have R1:=(R.less A0 d).fresh (d:=d) R8 zk kb wi ml (e:=e) (by simp [LA,hi]);refine ⟨_,_,jg _ _ aa,ι,_,R1.put hd ?_ (.inr ⟨_,if_pos rfl,rfl,rfl⟩)⟩;have hb:(b&&m.isEmpty)=false:=by
     cases b with
     | false=>rfl
     | true =>
      have:=(hn rfl);have:m≠[]:=fun h=>by subst h; simp at eb; omega
      simpa using this
    show nA _ _ _ _ (.sl (b&&m.isEmpty) (l++m)) _;rw [hb,rB];simp only [xB,y9];refine ⟨_,_,rfl,wi,pt,(fun h=>by cases h),fun _=>⟨fun h=>(by cases h),fun _=>⟨w.heap.size,0,rfl,?_⟩⟩⟩;rw [bB];have uj:xA (JA ga ι Θ) (JA ga ι (fun j=>if j=d then some ⟨w.heap.size,l.length + m.length,grownCap w (l.length + m.length) c e,i.size,e⟩ else Θ.less A0 d j)) w (BY w xs news zv e (l.length + m.length) c):=xA.grown (fun b hb=>Below.heap_alloc w.drew _ b hb) fun b' o' ra h=>h.imp id fun h=>h.imp id fun ⟨k,ow,h1,h2,h3⟩=>by
     by_cases ek:k=d
     ·simp only [if_pos ek] at h1; injection h1 with h1; subst h1; simp only at h2; omega
     ·simp only [if_neg ek] at h1; exact ⟨k,ow,(BA h1).1,h2,h3⟩
    refine sE (IA.held uj _ _ mb) fun j u hj=>⟨?_,fun h=>?_⟩
    ·rw [yb];rw [cell_of_row _ w.heap.size j _ e (0,0) (mK (w:=w.drew) rfl)];have wj:=(yk.1 hj).1;rw [Array.getElem?_append_left (by simp only [Array.size_append,yu]; simpa using wj)];simpa using hj
    ·rw [yb] at h;have wj:=(yk.1 hj).1;rw [y9,fd,fe,<- Nat.add_mul] at wj;rcases h with h | (⟨t',n',h⟩ | ⟨t',n',H,h,ra⟩) | ⟨k,ow,h1,h2,h3⟩
     ·have:=R.out _ _ h; have:=R.lowB; omega
     ·have:=(R.mine _ _ _ h).2.1; omega
     ·have:=((R.obs _ _ _ h).1 _ ra).2.1; omega
     ·by_cases ek:k=d
      ·simp only [if_pos ek] at h1; injection h1 with h1; subst h1; simp only at h3; omega
      ·simp only [if_neg ek] at h1;obtain ⟨_,_,_,_,ia,h5,_⟩:=R.tok _ _ (BA h1).1;have:=uA h5;omega
   -- nothing new
   have same:m=[]->exV (a.eval X)->∃ v w',(execOp a.eval o).run P w=.ok (.value v) w'/\fB P O nt B F0 ga w0 D ((s.mapAn (A0.twice d)).put (some d) ⟨.sl (b&&m.isEmpty) (l++m),.own d e⟩) (a.put (some d) v) w':=fun wm fg=>by
    subst wm;have aa:=gN (P:=P) (w:=w) ht hi o.type (A:=A) rl ud;rw [<- hv] at aa;have R1:=R.less A0 d;refine ⟨_,_,jg _ _ aa,ι,_,R1.put hd ?_ (.inl fg)⟩;have hb:(b&&List.isEmpty ([]:List (List AV)))=b:=by simp
    show nA _ _ _ _ (.sl (b&&List.isEmpty []) (l++[])) _;rw [hb,List.append_nil];have sr:xA (JA ga ι Θ) (JA ga ι (Θ.less A0 d)) w w:=xA.less fun b o h=>h.imp id fun h=>h.imp id fun ⟨k,ow,h1,h2⟩=>⟨k,ow,(BA h1).1,h2⟩
    have ep:xA (ZA ι Θ) (ZA ι (Θ.less A0 d)) w w:=xA.less fun b o h=>h.imp id fun ⟨k,ow,h1,h2⟩=>⟨k,ow,(BA h1).1,h2⟩
    exact nA.held (Ix.Le.refl _) sr ep _ _ hX.1
   have exact:exV (a.eval X)->∃ v w',(execOp a.eval o).run P w=.ok (.value v) w'/\fB P O nt B F0 ga w0 D ((s.mapAn (A0.twice d)).put (some d) ⟨.sl (b&&m.isEmpty) (l++m),.own d e⟩) (a.put (some d) v) w':=fun fg=>by
    obtain ⟨A',n',dr⟩:=fg;rw [hv] at dr;injection dr with e1 e2 e3;rcases yx m.length with h0 | h0
    ·exact same (yF h0) ⟨A',n',by rw [hv,e1,e2,e3]⟩
    ·exact grow (by omega)
   rcases hAk with rfl | ⟨k,rfl⟩
   ·exact exact jl
   ·rcases jl with jl | ⟨ow,hk,mq,jl⟩
    ·exact exact jl
    ·rw [hv] at jl;injection jl with e1 e2 e3;obtain ⟨hgB,hosz,honc,ux,cur,bd,lm⟩:=R.tok k ow hk;rw [mq] at bd;have zi:ow.sz=i.size:=by
      have:=lm.2;rw [mq] at this;simp [LA,hi] at this;exact this.symm
     rcases Nat.lt_or_ge c (l.length + m.length) with eb | wi
     ·exact grow eb
     ·subst e1;have aa:=RR (P:=P) (w:=w) ht hi o.type bd (by rw [lm.1,zi]) bi ud pe (n:=l.length) (m:=m.length) (c:=ow.c) (by omega);have ne:l.length * i.size + news.length<=cur.toList.length:=by
       have uc:cur.toList.length=ow.c * i.size:=by rw [yw,lm.1,zi]
       rw [fe,<- Nat.add_mul,uc];exact Nat.mul_le_mul_right _ (by omega)
      obtain ⟨new,pb⟩:∃ new,new=(cur.toList.take (l.length * i.size)++news++cur.toList.drop (l.length * i.size + news.length)).toArray:=⟨_,rfl⟩;rw [<- pb] at aa;have uu:new.size=cur.size:=by
       rw [pb];simp only [yu,y9,yc,yg];simp only [yw] at ne ⊢;omega
      have ik:ow.n * ow.sz=l.length * i.size:=by rw [<- e2,zi]
      have ay:(cur.toList.take (l.length * i.size)).length=l.length * i.size:=by rw [yc]; omega
      have jk:∀ j,j<l.length * i.size->new[j]?=cur[j]?:=fun j hj=>by
       rw [pb,List.getElem?_toArray,yA,yB (by omega),ym,if_pos hj];simp
      have sy:∀ j u,(xs++news)[j]?=some u->new[j]?=some u:=fun j u hj=>by
       rcases Nat.lt_or_ge j (l.length * i.size) with wj | wj
       ·rw [jk j wj];rw [yB (by omega)] at hj;have:=jd _ rfl j u hj;rw [Addr.add_lit,yb,cell_of_row w ow.g j cur e (0,0) bd] at this;exact this
       ·rw [yy (by omega),fd] at hj;have xw:=(yk.1 hj).1;rw [pb,List.getElem?_toArray,yA,yy (by omega),ay,yB xw];exact hj
      have R1:=R.spare (new:=new) hk (by rw [mq]; exact bd) uu (fun j hj=>jk j (by omega));have oj:(w.setRow ow.g new).heap[ow.g]?=some (.cells new e (0,0)):=setRow_heap w ow.g cur new e (0,0) bd;have ub:∀ b o,ZA ι (fun j=>if j=d then some ⟨ow.g,l.length + m.length,ow.c,i.size,e⟩ else Θ.less (.own k e) d j) b o->ZA ι Θ b o:=fun b o h=>h.imp id fun ⟨k',ow',h1,h2,h3⟩=>by
       by_cases ek:k'=d
       ·simp only [if_pos ek] at h1;injection h1 with h1;subst h1;refine ⟨k,ow,hk,h2,?_⟩;simp only [Nat.add_mul] at h3;omega
       ·simp only [if_neg ek] at h1; exact ⟨k',ow',(BA h1).1,h2,h3⟩
      have R2:=R1.fam (fun j=>if j=d then some ⟨ow.g,l.length + m.length,ow.c,i.size,e⟩ else Θ.less (.own k e) d j) ((An.own k e).twice d) ub
       (NV fun j o' h=>by have:=(BA h).2.1; simp only [if_neg this]; exact h)
       (fun k' o' h=>by
        by_cases ek:k'=d
        ·simp only [if_pos ek] at h;injection h with h;subst h;exact ⟨hgB,kb,by simp only; omega,ux,new,oj,by rw [uu,lm.1,zi],by simp [LA,hi]⟩
        ·simp only [if_neg ek] at h;exact R1.tok k' o' (BA h).1)
       (fun k' k'' o' o'' h h' hg=>by
        by_cases e1:k'=d <;> by_cases e2:k''=d
        ·rw [e1,e2]
        ·simp only [if_pos e1] at h; simp only [if_neg e2] at h';injection h with h; subst h;exact absurd (R.tinj _ _ _ _ hk (BA h').1 hg).symm ((BA h').2.2 k e rfl)
        ·simp only [if_neg e1] at h; simp only [if_pos e2] at h';injection h' with h'; subst h';exact absurd (R.tinj _ _ _ _ (BA h).1 hk hg) ((BA h).2.2 k e rfl)
        ·simp only [if_neg e1] at h; simp only [if_neg e2] at h';exact R.tinj _ _ _ _ (BA h).1 (BA h').1 hg)
       (fun k' o' t' n' h=>by
        by_cases ek:k'=d
        ·simp only [if_pos ek] at h;injection h with h;subst h;exact R.apart k ow t' n' hk
        ·simp only [if_neg ek] at h;exact R.apart k' o' t' n' (BA h).1)
       (fun k' o' t' n' H h hH=>by
        by_cases ek:k'=d
        ·simp only [if_pos ek] at h;injection h with h;subst h;show ¬ H ow.g;exact R.apob hk hH
        ·simp only [if_neg ek] at h;exact R.apob (BA h).1 hH)
      have rt:a.eval X=.slice (some ⟨ow.g,0,none⟩) l.length ow.c:=by rw [hv,e3]
      rw [<- rt] at aa;refine ⟨_,_,jg _ _ aa,ι,_,R2.put hd ?_ (.inr ⟨_,if_pos rfl,rfl,rfl⟩)⟩;show nA _ _ _ _ (.sl (b&&m.isEmpty) (l++m)) _;have hb:b=false:=by
       cases b with
       | false=>rfl
       | true=>have:=(hn rfl).1; cases this
      rw [hb,Bool.false_and,rB];simp only [xB,y9];refine ⟨_,_,rfl,by omega,pt,(fun h=>by cases h),fun _=>⟨fun h=>(by cases h),fun _=>⟨ow.g,0,rfl,?_⟩⟩⟩;rw [bB];have uj:xA (JA ga ι Θ) (JA ga ι (fun j=>if j=d then some ⟨ow.g,l.length + m.length,ow.c,i.size,e⟩ else Θ.less (.own k e) d j)) w (w.setRow ow.g new):=⟨fun b' o' u hc rz=>by
       refine ⟨?_,fun h=>rz (h.imp id (ub b' o'))⟩;by_cases ra:b'=ow.g
       ·subst ra;rw [cell_of_row _ ow.g o' new e (0,0) oj];have:o'<l.length * i.size:=by
         rcases Nat.lt_or_ge o' (l.length * i.size) with h | h
         ·exact h
         ·exact absurd (.inr (.inr ⟨k,ow,hk,rfl,by omega⟩)) rz
        rw [jk o' this,<- cell_of_row w ow.g o' cur e (0,0) bd];exact hc
       ·exact (World.cell?_of_block (w:=w) (a:=⟨b',o',none⟩) (setRow_other w ow.g b' new ra)).trans hc⟩
      refine sE (IA.held uj _ _ mb) fun j u hj=>⟨?_,fun h=>?_⟩
      ·rw [yb,cell_of_row _ ow.g j new e (0,0) oj];exact sy j u hj
      ·rw [yb] at h;have wj:=(yk.1 hj).1;rw [y9,fd,fe,<- Nat.add_mul] at wj;rcases h with h | (⟨t',n',h⟩ | ⟨t',n',H,h,ra⟩) | ⟨k',ow',h1,h2,h3⟩
       ·have:=R.out _ _ h; omega
       ·exact R.apart k ow t' n' hk h
       ·exact R.apob hk h ra
       ·by_cases ek:k'=d
        ·simp only [if_pos ek] at h1; injection h1 with h1; subst h1; simp only at h3; omega
        ·simp only [if_neg ek] at h1;exact absurd (R.tinj _ _ _ _ (BA h1).1 hk h2) ((BA h1).2.2 k e rfl)
  ·cases hr
 ·cases hr
def Ix.del (ι:Ix) (t n:Nat):Ix:=⟨fun t' n'=>if t'=t/\n'=n then .none else ι t' n',ι.ob,ι.z⟩
theorem Ix.del_some {ι:Ix} {t n t' n' b:Nat} (h:(ι.del t n) t' n'=some b):ι t' n'=some b/\¬ (t'=t/\n'=n):=by
 have h':(if t'=t/\n'=n then Option.none else ι t' n')=Option.some b:=h;split at h'
 ·cases h'
 ·rename_i hn; exact ⟨h',hn⟩
theorem Ix.del_lk (ι:Ix) (t n:Nat):Ix.Lk t n ι (ι.del t n):=⟨fun t' n' b hn h=>by
 show (if t'=t/\n'=n then Option.none else ι t' n')=Option.some b;rw [if_neg hn]; exact h,fun _ _ _ _=>rfl⟩
theorem uB.kill {t n:Nat} {ι':Ix} {av wa:Av} {r:List qA} {cur:Array Value} (h:uB ι Θ av w r cur) (hι:Ix.Lk t n ι ι') (hh:xA av wa w w):uB ι' Θ wa w (r.map (qA.kill t n)) cur:=by
 refine ⟨by simpa using h.1,fun j x hx=>?_⟩;rw [yl] at hx;cases hj:r[j]? with
 | none=>rw [hj] at hx; cases hx
 | some y =>
  rw [hj] at hx;injection hx with hx;subst hx;obtain ⟨u,hu,h1,hr,ha⟩:=h.2 j y hj;refine ⟨u,hu,h1,?_,ha⟩;have hk:=QA.kill hι hh y.v u hr;show QA ι' wa w (y.v.kill t n) u;cases hy:y.v with
  | agg cs=>rw [hy] at hr; obtain ⟨us,rfl,_⟩:=hr; simp [Value.oneCell'] at h1
  | tup cs=>rw [hy] at hr; obtain ⟨us,rfl,_⟩:=hr; simp [Value.oneCell'] at h1
  | _=>rw [hy] at hk; exact hk
theorem DA.kill (R:DA P O nt B F0 ga w0 D s a w ι Θ) {t n:Nat} (ik:t≠0) {r:List qA} (hm:s.mem t n=some r):DA P O nt B F0 ga w0 D (s.kill t n) a w (ι.del t n) Θ:=by
 have xc:=(R.rows t n r hm).1;have ff:=Ix.del_lk ι t n;have mf:∀ b o,ZA (ι.del t n) Θ b o->ZA ι Θ b o:=fun b o h=>h.imp (fun h=>h.imp (fun ⟨t',n',h⟩=>⟨t',n',(Ix.del_some h).1⟩) id) id
 have hB:xA (ZA ι Θ) (ZA (ι.del t n) Θ) w w:=xA.less mf;have hA:xA (JA ga ι Θ) (JA ga (ι.del t n) Θ) w w:=xA.less fun b o h=>h.imp id (mf b o)
 refine ⟨R.defers,R.size,fun j=>nA.kill ff hA hB _ _ (R.env j),R.ann,fun t' n' r' hr=>?_,fun t' n' b h=>R.mine t' n' b (Ix.del_some h).1,fun t1 n1 t2 n2 b h h'=>R.inj t1 n1 t2 n2 b (Ix.del_some h).1 (Ix.del_some h').1,R.tok,R.tinj,fun k o t' n' h h'=>R.apart k o t' n' h (Ix.del_some h').1,R.out,fun p h=>?_,R.kept,R.base,fun t' n' S h=>?_,fun t' n' H h=>?_,fun j=>nA.kill ff hA hB _ _ (R.gen j),R.gann⟩
 ·simp only [tA.kill] at hr;split at hr
  ·cases hr
  ·rename_i hn;cases pc:s.mem t' n' with
   | none=>rw [pc] at hr; cases hr
   | some r0 =>
    rw [pc] at hr;injection hr with hr;subst hr;obtain ⟨h0,b,cur,ty,h1,h2,h3,h4⟩:=R.rows t' n' r0 pc;exact ⟨h0,b,cur,ty,ff.f _ _ _ hn h1,h2,h3.kill ff hA,h4⟩
 ·obtain ⟨h1,h2⟩:=R.pin p h;exact ⟨ff.f _ _ _ (fun e=>ik e.1.symm) h1,h2.imp (fun g=>⟨g.1,(ff.z _ _ _ h1).trans g.2⟩) id⟩
 ·obtain ⟨p,H,h1,h2,h3,h4⟩:=R.objs t' n' S h;have wn:∀ t1 n1 b1 H1,ι t1 n1=some b1->ι.ob t1 n1=some H1->(ι.del t n) t1 n1=some b1:=fun t1 n1 b1 H1 g1 g2=>ff.f _ _ _ (fun e=>by rw [<- e.1,<- e.2,g2] at xc; cases xc) g1
  exact ⟨p,H,wn _ _ _ _ h1 h2,h2,h3,h4.keep (fun t1 n1 b1 H1 g1 g2=>⟨wn _ _ _ _ g1 g2,H1,g2⟩) fun x hx=>hx⟩
 ·obtain ⟨h1,h2⟩:=R.obs t' n' H h;refine ⟨fun b hb=>?_,h2⟩;obtain ⟨g1,g2,g3,g4,g5⟩:=h1 b hb;exact ⟨g1,g2,fun t2 n2 h=>g3 t2 n2 (Ix.del_some h).1,g4,g5⟩
theorem DA.ren (R:DA P O nt B F0 ga w0 D s a w ι Θ) {t n:Nat} (ik:t≠0) {r:List qA} (hm:s.mem t n=some r) (rc:r.map (qA.kill t n)=r) {d:Nat} (hd:d<nt) (hD:¬ D d) {x:AV} {v:Value}
  (hx:∀ ι':Ix,ι' d s.next=ι t n->(∀ b,ι'.z b=ι.z b)->nA ι' (JA ga ι' Θ) (ZA ι' Θ) w x v) :
  ∃ ι',DA P O nt B F0 ga w0 (fun j=>D j\/j=d) (((s.kill t n).setRow d s.next r).put (some d) ⟨x,.no⟩) (a.put (some d) v) w ι' Θ:=by
 obtain ⟨xc,b0,cur0,ul,cm,uo,kh,il,kf⟩:=R.rows t n r hm;have lc:ι d s.next=none:=by
  cases h:ι d s.next with
  | none=>rfl
  | some b =>
   rcases (R.mine _ _ _ h).2.2 with h1 | h1
   ·omega
   ·exact absurd h1.2 hD
 have kc:ι.ob d s.next=none:=by
  cases h:ι.ob d s.next with
  | none=>rfl
  | some b =>
   rcases (R.obs _ _ _ h).2 with h1 | h1
   ·omega
   ·exact absurd h1.2 hD
 have db:¬ (t=d/\n=s.next):=fun e=>by rw [e.1,e.2,lc] at cm; cases cm
 obtain ⟨ι',hι'⟩:∃ ι':Ix,ι'=⟨fun t' n'=>if t'=d/\n'=s.next then some b0 else (ι.del t n) t' n',ι.ob,ι.z⟩:=⟨_,rfl⟩;have pb:ι' d s.next=some b0:=by subst hι'; show (if d=d/\s.next=s.next then some b0 else _)=_; rw [if_pos ⟨rfl,rfl⟩]
 have zc:∀ t' n' b,ι' t' n'=some b->(t'=d/\n'=s.next/\b=b0)\/(ι t' n'=some b/\¬ (t'=t/\n'=n)/\¬ (t'=d/\n'=s.next)):=fun t' n' b h=>by
  subst hι';have h':(if t'=d/\n'=s.next then some b0 else (ι.del t n) t' n')=some b:=h;split at h'
  ·rename_i e; injection h' with h'; exact .inl ⟨e.1,e.2,h'.symm⟩
  ·rename_i e; exact .inr ⟨(Ix.del_some h').1,(Ix.del_some h').2,e⟩
 have za:ι'.ob=ι.ob:=by subst hι'; rfl
 have ff:Ix.Lk t n ι ι':=⟨fun t' n' b hn h=>by
  subst hι';show (if t'=d/\n'=s.next then some b0 else (ι.del t n) t' n')=some b;rw [if_neg (fun e=>by rw [e.1,e.2,lc] at h; cases h)];exact (Ix.del_lk ι t n).f _ _ _ hn h,fun _ _ _ _=>by subst hι'; rfl⟩
 have xg:∀ b,ι'.z b=ι.z b:=fun b=>by subst hι'; rfl
 clear hι';have mf:∀ b o,ZA ι' Θ b o->ZA ι Θ b o:=fun b o h=>h.imp (fun h=>h.imp (fun ⟨t',n',h⟩=>by
  rcases zc _ _ _ h with ⟨_,_,e⟩ | ⟨h,_⟩
  ·exact ⟨t,n,e ▸ cm⟩
  ·exact ⟨t',n',h⟩) (fun ⟨t',n',H,h,hb⟩=>⟨t',n',H,za ▸ h,hb⟩)) id
 have hB:xA (ZA ι Θ) (ZA ι' Θ) w w:=xA.less mf;have hA:xA (JA ga ι Θ) (JA ga ι' Θ) w w:=xA.less fun b o h=>h.imp id (mf b o)
 refine ⟨ι',DA.put (s:=(s.kill t n).setRow d s.next r) ⟨R.defers,R.size,fun j=>nA.kill ff hA hB _ _ (R.env j),R.ann,fun t' n' r' hr=>?_,fun t' n' b h=>?_,fun t1 n1 t2 n2 b h h'=>?_,R.tok,R.tinj,fun k o t' n' h h'=>?_,R.out,fun p h=>?_,R.kept,R.base,fun t' n' S h=>?_,fun t' n' H h=>?_,fun j=>nA.kill ff hA hB _ _ (R.gen j),R.gann⟩ hd (hx _ (pb.trans cm.symm) xg) trivial⟩
 ·simp only [tA.setRow] at hr;split at hr
  ·rename_i e;injection hr with hr;subst hr;refine ⟨by rw [za,e.1,e.2]; exact kc,b0,cur0,ul,by rw [e.1,e.2]; exact pb,uo,?_,il,kf.trans (xg _).symm⟩;have:=kh.kill ff hA;rw [rc] at this;exact this
  ·simp only [tA.kill] at hr;split at hr
   ·cases hr
   ·rename_i hn;cases pc:s.mem t' n' with
    | none=>rw [pc] at hr; cases hr
    | some r0 =>
     rw [pc] at hr;injection hr with hr;subst hr;obtain ⟨h0,b,cur,ty,h1,h2,h3,h4,h5⟩:=R.rows t' n' r0 pc;exact ⟨za ▸ h0,b,cur,ty,ff.f _ _ _ hn h1,h2,h3.kill ff hA,h4,h5.trans (xg _).symm⟩
 ·rcases zc _ _ _ h with ⟨e1,e2,e3⟩ | ⟨h,_⟩
  ·subst e1; subst e3;obtain ⟨h1,h2,_⟩:=R.mine t n b cm;exact ⟨h1,h2,.inr ⟨e2,.inr rfl⟩⟩
  ·obtain ⟨h1,h2,h3⟩:=R.mine t' n' b h;exact ⟨h1,h2,h3.imp id fun ⟨e,d⟩=>⟨e,.inl d⟩⟩
 ·rcases zc _ _ _ h with ⟨e1,e2,e3⟩ | ⟨h,hn,_⟩ <;> rcases zc _ _ _ h' with ⟨f1,f2,f3⟩ | ⟨h',fh,_⟩
  ·exact ⟨e1.trans f1.symm,e2.trans f2.symm⟩
  ·subst e3; exact absurd (R.inj _ _ _ _ _ h' cm) fh
  ·subst f3; exact absurd (R.inj _ _ _ _ _ h cm) hn
  ·exact R.inj _ _ _ _ _ h h'
 ·rcases zc _ _ _ h' with ⟨e1,e2,e3⟩ | ⟨h',_⟩
  ·exact R.apart k o t n h (e3 ▸ cm)
  ·exact R.apart k o t' n' h h'
 ·obtain ⟨h1,h2⟩:=R.pin p h;exact ⟨ff.f _ _ _ (fun e=>ik e.1.symm) h1,h2.imp (fun g=>⟨g.1,(ff.z _ _ _ h1).trans g.2⟩) fun g=>za ▸ g⟩
 ·obtain ⟨p,H,h1,h2,h3,h4⟩:=R.objs t' n' S h;have wn:∀ t1 n1 b1 H1,ι t1 n1=some b1->ι.ob t1 n1=some H1->ι' t1 n1=some b1:=fun t1 n1 b1 H1 g1 g2=>ff.f _ _ _ (fun e=>by rw [<- e.1,<- e.2,g2] at xc; cases xc) g1
  exact ⟨p,H,wn _ _ _ _ h1 h2,za ▸ h2,h3,h4.keep (fun t1 n1 b1 H1 g1 g2=>⟨wn _ _ _ _ g1 g2,H1,za ▸ g2⟩) fun x hx=>hx⟩
 ·rw [za] at h;obtain ⟨h1,h2⟩:=R.obs t' n' H h;refine ⟨fun b hb=>?_,h2.imp id fun ⟨e,d⟩=>⟨e,.inl d⟩⟩;obtain ⟨g1,g2,g3,g4,g5⟩:=h1 b hb;refine ⟨g1,g2,fun t2 n2 h'=>?_,g4,za ▸ g5⟩;rcases zc _ _ _ h' with ⟨e1,e2,e3⟩ | ⟨h',_⟩
  ·exfalso;have e:=g3 t n (e3 ▸ cm);rw [<- e.1,<- e.2] at h;rw [xc] at h;cases h
  ·exact g3 t2 n2 h'
theorem BZ {av:Av} {cs:List AV} {us:List Value} (h:IA av w cs us) {cur:Array Value} (hc:∀ (j:Nat) (u:Value),us[j]?=some u->cur[j]?=some u):uB ι Θ av w (cs.map (⟨·,.no⟩)) cur:=by
 have da:=NA (aB (ι:=ι) h);constructor
 ·rw [yv];rcases yx cs.length with h0 | h0
  ·omega
  ·have:=hc (cs.length - 1) us[cs.length - 1] (yn (by omega));have:=(Array.getElem?_eq_some_iff.1 this).1;omega
 ·intro j x hx;rw [yl] at hx;cases hj:cs[j]? with
  | none=>rw [hj] at hx; cases hx
  | some y =>
   rw [hj] at hx;injection hx with hx;subst hx;obtain ⟨u,hu,h1,hr⟩:=LD (aB (ι:=ι) h) hj;exact ⟨u,hc j u hu,h1,hr,trivial⟩
theorem DA.drew (R:DA P O nt B F0 ga w0 D s a w ι Θ):DA P O nt B F0 ga w0 D s a w.drew ι Θ:=R.grow (w':=w.drew) (fun _ _=>rfl) (y6 _) R.kept.drew
theorem WS (s:tA) (t n:Nat) (r:List qA):(s.setRow t n r).kill t n=s.kill t n:=by
 simp only [tA.setRow,tA.kill];congr 1;funext t' n';by_cases h:t'=t/\n'=n <;> simp [h]
theorem fR {av:Av} {cs:List AV} {us:List Value} (h:zA ι av w cs us) {cur:Array Value} (hc:∀ (j:Nat) (u:Value),us[j]?=some u->cur[j]?=some u):uB ι Θ av w (cs.map (⟨·,.no⟩)) cur:=by
 have da:=NA h;constructor
 ·rw [yv];rcases yx cs.length with h0 | h0
  ·omega
  ·have:=hc (cs.length - 1) us[cs.length - 1] (yn (by omega));have:=(Array.getElem?_eq_some_iff.1 this).1;omega
 ·intro j x hx;rw [yl] at hx;cases hj:cs[j]? with
  | none=>rw [hj] at hx; cases hx
  | some y =>
   rw [hj] at hx;injection hx with hx;subst hx;obtain ⟨u,hu,h1,hr⟩:=LD h hj;exact ⟨u,hc j u hu,h1,hr,trivial⟩
theorem mL {t n:Nat} {v:AV} (h:v.noName t n=true):v.kill0 t n=v/\v.kill t n=v:=by
  cases v <;> first
    | exact ⟨rfl,rfl⟩
    | (simp only [AV.noName,Bool.not_eq_true',Bool.and_eq_false_imp,decide_eq_true_eq,decide_eq_false_iff_not] at h
       have h':¬ (_=t/\_=n):=fun e=>h e.1 e.2
       exact ⟨by simp only [AV.kill0,if_neg h'],by simp only [AV.kill,AV.kill0,if_neg h']⟩)
    | cases h
theorem dS {t n:Nat} {l:List AV} (h:l.all (AV.noName t n)=true):l.map (AV.kill0 t n)=l:=by
 have:l.map (AV.kill0 t n)=l.map id:=yo fun x hx=>(mL (y5.1 h x hx)).1
 rwa [List.map_id] at this
theorem sS {t n:Nat} {l:List AV} (h:l.all (AV.noName t n)=true):(l.map (⟨·,.no⟩)).map (qA.kill t n)=l.map (⟨·,.no⟩):=by
 rw [J];apply yo;intro x hx;show (⟨x.kill t n,.no⟩:qA)=⟨x,.no⟩;rw [(mL (y5.1 h x hx)).2]
theorem uR (R:DA P O nt B F0 ga w0 D s a w ι Θ) {t e:TypeId} {i:TypeInfo} {z:List AV} (ht:P.underlying t=some (.slice e)) (hi:P.info? e=some i) (hz:UD P e=some z) (rb:z.length=i.size) (kb:0<i.size) {X Y:Operand} {x y:GA} (hx:opd X=some x) (hy:opd Y=some y)
  (ho:o.op=.call { callee:=.builtin .append,args:=#[X,Y],argTypes:=#[t,t] }) {d:Nat} (fa:o.dst=some d) (hd:d<nt) (hD:¬ D d) {cl:Cl} {call} {xe:qA × wB} (hr:(K.appn cl e i.size i.bytes x y).run call s=some xe) {g} {s':tA} (he:sA.eff ⟨o.dst,.appn cl e i.size i.bytes x y,g⟩ s xe=some s') :
  ∃ v w',(execOp a.eval o).run P w=.ok (.value v) w'/\fB P O nt B F0 ga w0 (fun t=>D t\/t=d) s' (a.put o.dst v) w':=by
 obtain ⟨zv,i',bc,bi,ze,hl⟩:=gC hz w;rw [hi] at bc;injection bc with bc;subst bc;have gf:zv.cells.size=i.size:=by
  have:=wC hl;simp only [yw] at this;omega
 have hX:=R.opd hx;have hY:=(R.opd hy).1;have jg:∀ v w',(Builtin.append_ #[t,t] o.type #[a.eval X,a.eval Y]).run P w=.ok v w'->(execOp a.eval o).run P w=.ok (.value v) w':=fun v w' h=>by
  simp only [execOp,ho,resolve,invoke,builtin,Sem.run_bind,Sem.run_pure,Result.andThen_ok,List.map_toArray,yf,List.map_nil,h]
 -- a new block for l++m
 have grow:∀ {s1:tA} {ι1:Ix} {l m:List (List AV)} {xs news:List Value} {A:Option Addr} {ln c:Nat},DA P O nt B F0 ga w0 D s1 a w.drew ι1 Θ->a.eval X=.slice A ln c->xs.length=ln * i.size->(A=none->ln=0/\c=0)->(∀ a',A=some a'->∀ j u,xs[j]?=some u->w.cell? (a'.add j)=some u) →
   l.length=ln->Sl (fun _=>False) w i.size (a.eval Y) m.length news->c<ln + m.length->ln<=c->zA ι1 (JA ga ι1 Θ) w.drew (l++m).flatten (xs++news)->TA i.bytes (ln + m.length)=true →
   ∃ v w',(execOp a.eval o).run P w=.ok (.value v) w'/\fB P O nt B F0 ga w0 (fun t=>D t\/t=d) ((s1.setRow d s1.next ((l++m).flatten.map (⟨·,.no⟩))).put (some d) ⟨.ref d s1.next i.size 0 (ln + m.length) (ln + m.length),.no⟩) (a.put (some d) v) w':=by
  intro s1 ι1 l m xs news A ln c R1 hv sb hA oh nc ud eb rl mb ua;obtain ⟨pd,zd⟩:=gP.1 ua;have aa:=fN (P:=P) (w:=w) ht hi bi o.type sb hA oh ud eb rl zd pd;rw [<- hv] at aa;have wi:=grownCap_ge w (ln + m.length) c e;have uu:news.length=m.length * i.size:=ud.1;have ja:uB ι1 Θ (JA ga ι1 Θ) w.drew ((l++m).flatten.map (⟨·,.no⟩)) (xs.toArray++news.toArray++Builtin.zeroCells zv.cells (grownCap w (ln + m.length) c e - (ln + m.length))):=fR mb fun j u hj=>by
   have wj:=(yk.1 hj).1;rw [Array.getElem?_append_left (by simp only [Array.size_append,yu]; simpa using wj)];simpa using hj
  obtain ⟨ι',h⟩:=R1.new hd hD e ja (x:=.ref d s1.next i.size 0 (ln + m.length) (ln + m.length)) (v:=.slice (some ⟨w.heap.size,0,none⟩) (ln + m.length) (grownCap w (ln + m.length) c e)) (fun ι' h hz=>⟨_,h,y6 _,_,wi,by
   rw [show ι'.z w.drew.heap.size=_ from hz,yb];simp only [Array.size_append,yu,size_zeroCells,gf,sb,uu,<- Nat.add_mul];exact Nat.mul_le_mul_right _ (by omega),rfl⟩)
  exact ⟨_,_,jg _ _ aa,ι',Θ,h⟩
 have drewHeld:xA (JA ga ι Θ) (JA ga ι Θ) w w.drew:=xA.grown (fun _ _=>rfl) fun _ _ _ h=>h
 simp only [K.run] at hr;split at hr
 ·rename_i b l m gc ib;split at hr
  ·rename_i ea;obtain ⟨ua,nb,wm⟩:=ea;have tb:∀ c∈l++m,c.length=i.size:=fun c hc=>by simpa using y5.1 nb c hc
   have pc:∀ c∈m,c.length=i.size:=fun c hc=>tb c (List.mem_append_right _ hc)
   have zj:∀ c∈l,c.length=i.size:=fun c hc=>tb c (List.mem_append_left _ hc)
   obtain ⟨news,fb,ud⟩:=iW R hY ib kb pc;rw [gc] at hX;have ll:=hX.1;rw [rB] at ll;obtain ⟨xs,sb,dl⟩:=zF (cl:=cl) R hX.1 (m:=l) rfl kb zj;simp only [xB] at ll;obtain ⟨A,c,hv,rl,hu,hn,hs⟩:=ll;have fd:xs.length=l.length * i.size:=dl.1;have jd:∀ a',A=some a'->∀ j u,xs[j]?=some u->w.cell? (a'.add j)=some u:=fun a' ha j u hj=>by
    obtain ⟨_,A2,c2,ut,_,h2⟩:=dl;rw [hv] at ut;injection ut with e1 e2 e3;subst e1;have hp:0<l.length:=by
     rcases yx l.length with h | h
     ·rw [h] at fd; have:=(yk.1 hj).1; omega
     ·exact h
    obtain ⟨b',off,hA,_,_,uc⟩:=h2 hp;rw [ha] at hA;injection hA with hA;subst hA;rw [Addr.add_lit];exact uc j u hj
   split at hr
   ·rename_i pg;have hXe:exV (a.eval X):=by
     cases b with
     | false=>have h2:=hX.2; rw [show x.an s=.ex from pg] at h2; exact h2
     | true =>
      obtain ⟨h1,h2,h3⟩:=hn rfl;exact ⟨none,0,by rw [hv,h1,h2,h3]⟩
    obtain ⟨A',n',fg⟩:=hXe;rw [hv] at fg;injection fg with e1 e2 e3;injection hr with hr;subst hr;simp only [sA.eff,fa] at he;injection he with he;subst he;rw [fa];exact grow R.drew hv fd (fun hA=>by
     cases b with
     | true=>have:=hn rfl; exact ⟨this.2.1,this.2.2⟩
     | false =>
      obtain ⟨h1,h2⟩:=hs rfl;refine ⟨?_,h1 hA⟩;rcases yx l.length with h0 | h0
      ·exact h0
      ·obtain ⟨_,_,ha,_⟩:=h2 h0; rw [hA] at ha; cases ha) jd rfl ud (by omega) rl (by rw [List.flatten_append]; exact GC (aB (IA.held drewHeld _ _ sb)) (zA.held (Ix.Le.refl _) drewHeld _ _ fb)) ua
   ·cases hr
  ·cases hr
 ·rename_i t' n sz off ln cp m gc ib;split at hr
  ·rename_i l nc;split at hr
   ·rename_i ea;obtain ⟨rfl,rfl,ua,nb,ik,lq⟩:=ea;injection hr with hr;subst hr;have pc:∀ c∈m,c.length=i.size:=fun c hc=>by simpa using y5.1 nb c hc
    obtain ⟨news,fb,ud⟩:=iW R hY ib kb pc;rw [gc] at hX;obtain ⟨b,hb,jb,cc,sd,wy,hv⟩:=OC.1 hX.1;simp only [AV.raws] at nc;split at nc
    ·cases hm:s.mem t' n with
     | none=>rw [hm] at nc; cases nc
     | some r =>
      rw [hm,U] at nc;obtain ⟨xc,b',cur,ty,ra,ba,ja,lf,eg⟩:=R.rows t' n r hm;rw [hb] at ra;injection ra with ra;subst ra;obtain ⟨tr,zj,xs,sb,jd⟩:=hJ ja ba nc;simp only [yb] at jd wy;have rj:∀ {q:List (List AV)},(∀ c∈q,c.length=i.size)->q.flatten.length=q.length * i.size:=fun {q} hq=>by
       induction q with
       | nil=>simp
       | cons c r ih=>rw [yi,y9,hq c (by simp),ih (fun c hc=>hq c (by simp [hc])),yz,yt]; omega
      have fd:xs.length=ln * i.size:=by
       have:=NA sb;rw [this,rj zj,tr]
      have fe:news.length=m.length * i.size:=ud.1;have mb:zA ι (JA ga ι Θ) w (l++m).flatten (xs++news):=by rw [List.flatten_append]; exact GC sb fb
      have kr:(l++m).flatten.map (AV.kill0 t' n)=(l++m).flatten:=dS lq;simp only [sA.eff,fa,tA.killO] at he;injection he with he;subst he;rw [fa];rcases Nat.lt_or_ge cc (ln + m.length) with eb | wi
      ·have ff:xA (JA ga ι Θ) (JA ga (ι.del t' n) Θ) w w.drew:=xA.grown (fun _ _=>rfl) fun b o _ h=>h.imp id fun h=>h.imp (fun h=>h.imp (fun ⟨t',n',h⟩=>⟨t',n',(Ix.del_some h).1⟩) id) id
       exact grow (R.drew.kill ik hm) hv fd (fun h=>by cases h) (fun a' ha j u hj=>by
        injection ha with ha;subst ha;rw [Addr.add_lit,yb];exact jd j u hj) tr ud eb (yp jb sd) (by have:=zA.kill (Ix.del_lk ι t' n) ff _ _ mb; rwa [kr] at this) ua
      ·obtain ⟨new,pb⟩:∃ new,new=(cur.toList.take (ln * i.size)++news++cur.toList.drop (ln * i.size + news.length)).toArray:=⟨_,rfl⟩;have ne:ln * i.size + news.length<=cur.size:=by
        rw [fe,<- Nat.add_mul,eg];exact yp (Nat.mul_le_mul_right _ wi) wy
       have aa:(Builtin.append_ #[t,t] o.type #[a.eval X,a.eval Y]).run P w=.ok (.slice (some ⟨b,0,none⟩) (ln + m.length) cc) (w.setRow b new):=by
        rw [hv,pb];obtain ⟨jq,A,c',hsv,hc,ab⟩:=ud;rw [hsv];cases A with
        | none =>
         have wm:m.length=0:=by
          rcases yx m.length with h | h
          ·exact h
          ·obtain ⟨b,off,hA,_⟩:=ab h; cases hA
         have lq:news=[]:=yF (by rw [fe,wm,Nat.zero_mul]);subst lq;rw [wm] at wi ⊢;have xk:w.setRow b (cur.toList.take (ln * i.size)++[]++cur.toList.drop (ln * i.size + ([]:List Value).length)).toArray=w:=by
          simp only [List.append_nil,List.length_nil,Nat.add_zero,List.take_append_drop,yE];exact setRow_self w b cur ty (0,0) ba
         rw [xk];simp only [Nat.add_zero] at wi;simp [Builtin.append_,run_underlying ht,sizeOf,typeInfo,hi,Builtin.lenOf,Builtin.firstCells,wi,storeCells]
        | some a' =>
         have fp:∀ (j:Nat) (u:Value),news[j]?=some u->w.cell? (a'.add j)=some u:=fun j u hu=>by
          have wm:0<m.length:=by
           rcases yx m.length with h | h
           ·rw [h] at fe; have:=(yk.1 hu).1; omega
           ·exact h
          obtain ⟨b,off,hA,_,_,uc⟩:=ab wm;injection hA with hA;subst hA;rw [Addr.add_lit];exact uc j u hu
         have gp:=run_loadCells_list (P:=P) w a' news fp;rw [fe] at gp;have dd:=run_storeCells_at P b (ln * i.size) ty news 0 cur w ba (by simpa using ne) (wM fb);simp only [Nat.add_zero] at dd;simp [Builtin.append_,run_underlying ht,sizeOf,typeInfo,hi,Builtin.lenOf,Builtin.firstCells,wi,gp,Addr.add_lit,dd]
       have px:new.size=cur.size:=by
        rw [pb];simp only [yu,y9,yc,yg,yw];omega
       have jh:uB ι Θ (JA ga ι Θ) w ((l++m).flatten.map (⟨·,.no⟩)) new:=fR mb fun j u hj=>by
        have ay:(cur.toList.take (ln * i.size)).length=ln * i.size:=by rw [yc,yw]; omega
        rw [pb,List.getElem?_toArray,yA];rcases Nat.lt_or_ge j (ln * i.size) with h | h
        ·rw [yB (by omega)] at hj;have:=jd j u hj;rw [cell_of_row w b j cur ty (0,0) ba] at this;rw [yB (by omega),ym,if_pos h];simpa using this
        ·rw [yy (by omega),fd] at hj;have xw:=(yk.1 hj).1;rw [yy (by omega),ay,yB xw];exact hj
       have R1:=R.set hb xc ba jh lf (px.trans eg);have R2:=R1.ren (t:=t') (n:=n) ik (d:=d) (r:=(l++m).flatten.map (⟨·,.no⟩)) (by simp [tA.setRow]) (sS lq) hd hD (x:=.ref d s.next i.size 0 (ln + m.length) (ln + m.length)) (v:=.slice (some ⟨b,0,none⟩) (ln + m.length) cc) (fun ι' h1 h2=>⟨b,h1.trans hb,y6 _,cc,wi,by rw [h2,yb]; exact wy,rfl⟩);rw [WS] at R2;obtain ⟨ι',R2⟩:=R2;exact ⟨_,_,jg _ _ aa,ι',Θ,R2⟩
    ·cases nc
   ·cases hr
  ·cases hr
 ·cases hr
theorem aR {v:AV} {cl:Cl} {l:List (List AV)} (h:v.elems s cl=some l):v.raws s cl=some l:=by
 cases v with
 | ref t n sz off len cap =>
  simp only [AV.elems,AV.raws] at h ⊢;split at h
  ·rename_i hc;rw [if_pos hc];cases hm:s.mem t n with
   | none=>rw [hm] at h; cases h
   | some r =>
    rw [hm,U,bA] at h;split at h
    ·rename_i hr;rw [U,SF,if_pos hr.1];exact h
    ·cases h
  ·cases h
 | _=>exact h
theorem DQ {av:Av} (t n:Nat):∀ {xs:List AV} {us:List Value},IA av w xs us->xs.all (AV.noName t n)=true
 | [],_,_=>rfl
 | x :: r,_,h=>by
  simp only [IA] at h;obtain ⟨u,na,rfl,h0,h1,h⟩:=h;rw [List.all_cons,DQ t n h,Bool.and_true];cases x <;> first | rfl | (simp [xB] at h0; done) | (simp only [xB] at h0; obtain ⟨us,rfl,_⟩:=h0; simp [Value.oneCell'] at h1; done)
theorem rW (R:DA P O nt B F0 ga w0 D s a w ι Θ) {t e:TypeId} {i:TypeInfo} {z:List AV} (ht:P.underlying t=some (.slice e)) (hi:P.info? e=some i) (hz:UD P e=some z) (rb:z.length=i.size) (kb:0<i.size) {X Y:Operand} {x y:GA} (hx:opd X=some x) (hy:opd Y=some y)
  (ho:o.op=.call { callee:=.builtin .append,args:=#[X,Y],argTypes:=#[t,t] }) {d:Nat} (fa:o.dst=some d) (hd:d<nt) (hD:¬ D d) {cl:Cl} {call} {xe:qA × wB} (hr:(K.appf cl e i.size i.bytes x y).run call s=some xe) {g} {s':tA} (he:sA.eff ⟨o.dst,.appf cl e i.size i.bytes x y,g⟩ s xe=some s') :
  ∃ v w',(execOp a.eval o).run P w=.ok (.value v) w'/\fB P O nt B F0 ga w0 (fun t=>D t\/t=d) s' (a.put o.dst v) w':=by
 have hX:=R.opd hx;have hY:=(R.opd hy).1;simp only [K.run] at hr;split at hr
 ·rename_i b l m gc ib;split at hr
  ·rename_i ea;split at hr
   ·rename_i pg;split at hr
    ·rename_i wr;cases hr;have wm:m=[]:=by simpa using wr
     subst wm;have tb:∀ c∈l,c.length=i.size:=fun c hc=>by simpa using y5.1 ea.2 c (List.mem_append_left _ hc)
     obtain ⟨news,fb,ud⟩:=zF R hY ib kb (fun _ h=>by cases h);rw [gc] at hX;obtain ⟨hX,jl⟩:=hX;obtain ⟨A,c,hv,rl,_,hn,_⟩:=rB.1 hX;cases he;have aa:=gN (P:=P) (w:=w) ht hi o.type (A:=A) rl ud;rw [<- hv] at aa;refine ⟨_,_,by simp only [execOp,ho,resolve,invoke,builtin,Sem.run_bind,Sem.run_pure,Result.andThen_ok,List.map_toArray,yf,List.map_nil,aa],ι,Θ,(R.putN (d:=o.dst) (x:=⟨.sl b l,.ex⟩) (fun t h=>by rw [fa] at h; cases h; exact hd) hX ?_).more fun _ h=>.inl h⟩;cases b with
     | false=>rw [show x.an s=.ex from pg] at jl; exact jl
     | true=>obtain ⟨h1,h2,h3⟩:=hn rfl; exact ⟨none,0,by rw [hv,h1,h2,h3]⟩
    ·rename_i wr;exact uR R ht hi hz rb kb hx hy ho fa hd hD (cl:=cl) (call:=call) (xe:=xe) (by simp only [K.run,gc,aR ib]; rw [if_pos ⟨ea.1,ea.2,by cases m <;> simp at wr ⊢⟩,pg]; exact hr) (g:=g) he
   ·cases hr
  ·cases hr
 ·cases hr
theorem g6 (R:DA P O nt B F0 ga w0 D s a w ι Θ) {t e:TypeId} {i:TypeInfo} {z:List AV} (ht:P.underlying t=some (.slice e)) (hi:P.info? e=some i) (hz:UD P e=some z) (rb:z.length=i.size) (kb:0<i.size) {X Y:Operand} {x y:GA} (hx:opd X=some x) (hy:opd Y=some y)
  (ho:o.op=.call { callee:=.builtin .append,args:=#[X,Y],argTypes:=#[t,t] }) {d:Nat} (fa:o.dst=some d) (hd:d<nt) (hD:¬ D d) {cl:Cl} {call} {xe:qA × wB} (hr:(K.appm cl e i.size i.bytes x y).run call s=some xe) {g} {s':tA} (he:sA.eff ⟨o.dst,.appm cl e i.size i.bytes x y,g⟩ s xe=some s') :
  ∃ v w',(execOp a.eval o).run P w=.ok (.value v) w'/\fB P O nt B F0 ga w0 (fun t=>D t\/t=d) s' (a.put o.dst v) w':=by
 have hX:=R.opd hx;have hY:=(R.opd hy).1;simp only [K.run] at hr;split at hr
 ·rename_i b l m gc ib;exact rW R ht hi hz rb kb hx hy ho fa hd hD (cl:=cl) (call:=call) (xe:=xe) (by simp only [K.run,gc,ib]; exact hr) (g:=g) he
 ·rename_i t' n sz off ln cp m gc ib;split at hr
  ·rename_i l nc;split at hr
   ·rename_i ea;obtain ⟨h1,h2,ua,nb,ik⟩:=ea;obtain ⟨news,fb,ud⟩:=zF R hY ib kb fun c hc=>by simpa using y5.1 nb c hc
    rw [gc] at hX;have xc:(l++m).flatten.all (AV.noName t' n)=true:=by
     rw [List.flatten_append,List.all_append,DQ t' n fb,Bool.and_true];simp only [AV.elems] at nc;split at nc
     ·cases hm:s.mem t' n with
      | none=>rw [hm] at nc; cases nc
      | some r =>
       rw [hm,U] at nc;obtain ⟨_,b',cur,ty,_,ba,ja,_⟩:=R.rows t' n r hm;obtain ⟨_,_,xs,sb,_⟩:=PC ja ba nc;exact DQ t' n sb
     ·cases nc
    exact uR R ht hi hz rb kb hx hy ho fa hd hD (cl:=cl) (call:=call) (xe:=xe) (by simp only [K.run,gc,aR ib,aR nc]; rw [if_pos ⟨h1,h2,ua,nb,ik,xc⟩]; exact hr) (g:=g) he
   ·cases hr
  ·cases hr
 ·cases hr
theorem l6 (R:DA P O nt B F0 ga w0 D s a w ι Θ) {t e:TypeId} {n z:Nat} {zero:List AV} (ht:P.underlying t=some (.slice e)) (hz:UD P e=some zero) (hs:LA P e=some z) (rb:zero.length=z) (kb:0<z) (ur:n * z<=16777216) {ps:Array (Nat × Operand)} {ys:List (Nat × GA)} (hy:opds ps.toList=some ys) (ho:o.op=.buildSlice t n ps)
  {d:Nat} (fa:o.dst=some d) (hd:d<nt) (hD:¬ D d) {call} {xe:qA × wB} (hr:(K.bslr z zero n ys).run call s=some xe) {g} {s':tA} (he:sA.eff ⟨o.dst,.bslr z zero n ys,g⟩ s xe=some s') :
  ∃ v w',(execOp a.eval o).run P w=.ok (.value v) w'/\fB P O nt B F0 ga w0 (fun t=>D t\/t=d) s' (a.put o.dst v) w':=by
 obtain ⟨zv,i',bc,bi,ze,hl⟩:=gC hz w;have uw:i'.size=z:=by simp [LA,bc] at hs; exact hs
 have gf:zv.cells.size=z:=by
  have:=wC hl;simp only [yw] at this;omega
 simp only [K.run] at hr;split at hr
 ·rename_i ea;obtain ⟨re,nb,_,_⟩:=ea;injection hr with hr; subst hr;simp only [sA.eff,fa] at he;injection he with he;subst he;have tb:∀ p∈ys,(p.2.get s).whole=true/\(p.2.get s).cells.length=zero.length:=fun p hp=>by
   have:=y5.1 nb p hp;simpa using this
  have hn:ys.length=n:=by
   have:=congrArg List.length re;simpa using this
  have kg:=iM (s:=s) z ys 0 [] (ye n zero).flatten (by rw [re,List.range_eq_range',hn]) (by simp) (by simp [hn,rb]) (fun p hp=>by rw [(tb p hp).2,rb]);rw [List.nil_append,List.nil_append] at kg;have hp:=FK z ys;have mg:((Array.range (n * z)).map (((if n * z=0 then (#[]:Array Value) else zv.cells)[· % (if n * z=0 then (#[]:Array Value) else zv.cells).size]!))).toList=(ye n zv.cells.toList).flatten:=by
   rcases yx n with h0 | h0
   ·subst h0; simp
   ·have:¬ n * z=0:=by have:=Nat.mul_pos h0 kb; omega
    simp only [if_neg this];rw [<- gf];exact RJ zv.cells n
  obtain ⟨na,h1,h2⟩:=sL (pl:=fun i=>some (i * z,z)) (ι:=ι) (av:=JA ga ι Θ) (avb:=ZA ι Θ) (w:=w) (s:=s) (a:=a) rfl (fun X y h=>(R.opd h).1) hy hp (fun p hp=>by
   obtain ⟨q,hq,rfl⟩:=List.mem_map.1 hp;exact (tb q hq).1) (by rw [J]; exact kg) (us:=(Array.range (n * z)).map (((if n * z=0 then (#[]:Array Value) else zv.cells)[· % (if n * z=0 then (#[]:Array Value) else zv.cells).size]!))) (by
    rw [mg];exact TJ _ _ (dD hl _ _) n)
  have aa:(execOp a.eval o).run P w=.ok (.value (.slice (some ⟨w.heap.size,0,none⟩) n n)) (w.alloc (.cells na e)):=by
   have h3:Instr.fill (fun i=>some (i * z,z)) ((Array.range (n * z)).map (((if n * z=0 then (#[]:Array Value) else zv.cells)[· % (if n * z=0 then (#[]:Array Value) else zv.cells).size]!))) (ps.map fun (i,x)=>(i,a.eval x)).toList=some na:=by
    rw [Array.toList_map];exact h1
   have jb:¬ (n * z > 2 ^ 24):=by omega
   by_cases h0:n * z=0
   ·simp only [if_pos h0] at h3;simp only [execOp,ho,Instr.buildSlice,Sem.run_bind,run_underlying ht,Result.andThen_ok,CA hs,if_neg jb,if_pos h0,Sem.run_pure,h3,newRow,run_newObj_alloc]
   ·simp only [if_neg h0] at h3;simp only [execOp,ho,Instr.buildSlice,Sem.run_bind,run_underlying ht,Result.andThen_ok,CA hs,if_neg jb,if_neg h0,Sem.run_pure,ze,h3,newRow,run_newObj_alloc]
  refine ⟨_,_,aa,?_⟩;rw [fa];have da:=NA h2;have dg:(ys.map fun p=>(p.2.get s).cells).flatten.length=n * z:=by
   rw [<- hn];clear kg h2 da h1 re nb hp hy ur mg hn
   induction ys with
   | nil=>simp
   | cons p r ih=>rw [yf,yi,y9,(tb p (by simp)).2,ih (fun q hq=>tb q (by simp [hq])),rb,yz,yt]; omega
  have oc:na.size=n * z:=by
   rw [dg,yw] at da;exact da
  have ja:uB ι Θ (JA ga ι Θ) w (lA (ys.map fun p=>(p.2.get s).cells)) na:=fR h2 fun j u hj=>by simpa using hj
  obtain ⟨ι',h⟩:=R.new hd hD e ja (x:=.ref d s.next z 0 n n) (v:=.slice (some ⟨w.heap.size,0,none⟩) n n) (fun ι' h hz=>⟨_,h,y6 _,_,y6 _,by
   rw [show ι'.z w.heap.size=_ from hz,yb,oc];exact y6 _,rfl⟩)
  exact ⟨ι',Θ,h⟩
 ·cases hr
end
end
section
open Go Go.RowKit
section
variable {P:Program} {O:OB} {nt B:Nat} {F0:DH} {ga:Av} {w0:World} {D:Nat->Prop} {s:tA} {a:Act} {w w':World} {ι:Ix} {Θ:tE} {o:Oper}
def jC (ι:Ix) (av avl:Av) (w:World):List AV->List Value->Prop
 | [],us=>us=[]
 | x :: r,us=>∃ u na,us=u :: na/\nA ι av avl w x u/\jC ι av avl w r na
def Ix.one (p:Nat):Ix:=⟨fun t n=>if t=0/\n=0 then some p else .none,fun _ _=>.none,fun _=>0⟩
def eM (p:Nat) (av:Av) (w:World) (x:AV) (v:Value):Prop:=if x.isObj then v=.pointer (some ⟨p,0,none⟩) else xB av w x v
def BE (p:Nat) (av:Av) (w:World):List AV->List Value->Prop
 | [],us=>us=[]
 | x :: r,us=>∃ u na,us=u :: na/\eM p av w x u/\BE p av w r na
def JS (p:Nat) (av:Av) (w:World):AV->Value->Prop
 | .tup vs,v=>∃ us,v=.tuple us/\BE p av w vs us.toList
 | x,v=>eM p av w x v
def OwnV (base:Nat) (H:Nat->Prop) (w:World) (l:List (List AV)) (v:Value):Prop :=
 (l=[]/\∃ A c,v=.slice A 0 c/\(A=none->c=0))\/∃ g c cur ty,v=.slice (some ⟨g,0,none⟩) l.length c/\base<=g/\¬ H g/\w.heap[g]?=some (.cells cur ty (0,0))/\l.length<=c/\(∀ sz,UA sz l=true->0<l.length->c * sz<=cur.size)/\∀ (j:Nat) (x:AV),l.flatten[j]?=some x->cur[j]?=some x.scalV
def SQ (w:World) (g0:Nat->Prop) (z:Nat) (av:Av) (w':World) (l:List (List AV)) (v:Value):Prop :=
 ∃ g c cur ty,v=.slice (some ⟨g,0,none⟩) l.length c/\(w.heap.size<=g\/g0 g/\∃ cur0 ul,w.heap[g]?=some (.cells cur0 ul (0,0))/\cur.size=cur0.size)/\w'.heap[g]?=some (.cells cur ty (0,0))/\l.length<=c/\c * z<=cur.size/\IA (fun b o=>av b o\/b=g) w' l.flatten (cur.toList.take l.flatten.length)
def PQ (z:Nat) (av:Av) (w:World) (b:Bool) (l:List (List AV)) (v:Value) (g0:Nat->Prop):Prop :=
 (l=[]/\(∃ A,v=.slice A 0 0)/\(b=true->v=.slice none 0 0)/\∀ g,¬ g0 g)\/(b=false/\∃ g c cur ty,v=.slice (some ⟨g,0,none⟩) l.length c/\(∀ g',g0 g' ↔ g'=g)/\w.heap[g]?=some (.cells cur ty (0,0))/\l.length<=c/\c * z<=cur.size/\(∀ o,av g o)/\IA av w l.flatten (cur.toList.take l.flatten.length))
def eD (P:Program) (O:OB) (f:FuncId) (args:List AV) (S0:Option AV) (r:RV):Prop :=
 (∀ xs w,(callFunc f xs).run P w=.ok (.enter f xs) w) ∧
 match r,S0 with
 | (.sl nl l,none),none=>∀ (av:Av) (w:World) (vs:List Value),O.low (fun _=>False) av w->jC Ix.none av (fun _ _=>False) w args vs →
  Calls P f vs.toArray w fun e w'=>∃ v,e=.returned v/\(if l=[] then xB av w' (.sl nl []) v/\∃ A,v=.slice A 0 0 else ∀ z,UA z l=true->SQ w (fun _=>False) z av w' l v)/\Below w.heap.size w w'
 | (.sl false l,none),some (.int _ z)=>match args with
  | .sl nl l0 :: rest=>∀ (av:Av) (w:World) (v0:Value) (vs:List Value) (g0:Nat->Prop),O.low g0 av w->jC Ix.none av (fun _ _=>False) w rest vs->PQ z.toNat av w nl l0 v0 g0 →
   Calls P f (v0 :: vs).toArray w fun e w'=>∃ v,e=.returned v/\SQ w g0 z.toNat av w' l v/\WA g0 w w'
  | _=>True
 | (.sl false l,some S'),some S=>∀ (av:Av) (w:World) (vs:List Value) (p:Nat) (H:Nat->Prop),O.low H av w->(∀ b o,H b->av b o)->O.at_ S H p w->jC (Ix.one p) av (fun b _=>H b) w args vs →
  Calls P f vs.toArray w fun e w'=>∃ v H',e=.returned v/\OwnV w.heap.size H' w' l v/\O.at_ S' H' p w'/\(∀ b,H' b->H b\/w.heap.size<=b)/\WA H w w'
 | _,_=>True
def TQ (P:Program) (O:OB) (f:FuncId) (args:List AV) (S0:Option AV) (r:RV):Prop :=
 (∀ xs w,(callFunc f xs).run P w=.ok (.enter f xs) w) ∧
 match S0,r.2 with
 | none,none=>∀ (av:Av) (w:World) (vs:List Value),O.low (fun _=>False) av w->jC Ix.none av (fun _ _=>False) w args vs →
  Calls P f vs.toArray w fun e w'=>∃ v,e=.returned v/\xB av w' r.1 v/\Below w.heap.size w w'
 | some S,some S'=>∀ (av:Av) (w:World) (vs:List Value) (p:Nat) (H:Nat->Prop),O.low H av w->(∀ b o,H b->av b o)->O.at_ S H p w->jC (Ix.one p) av (fun b _=>H b) w args vs →
  Calls P f vs.toArray w fun e w'=>∃ v H',e=.returned v/\xB (fun b o=>av b o\/H' b) w' r.1 v/\O.at_ S' H' p w'/\(∀ b,H' b->H b\/w.heap.size<=b)/\WA H w w'
 | none,some S'=>∀ (av:Av) (w:World) (vs:List Value),O.low (fun _=>False) av w->jC Ix.none av (fun _ _=>False) w args vs →
  Calls P f vs.toArray w fun e w'=>∃ v p H',e=.returned v/\JS p (fun b o=>av b o\/H' b) w' r.1 v/\O.at_ S' H' p w'/\(∀ b,H' b->w.heap.size<=b)/\Below w.heap.size w w'
 | some _,none=>True
def Ix.row (p z:Nat):Ix:=⟨fun t n=>if t=0/\n=0 then some p else .none,fun _ _=>.none,fun _=>z⟩
def UQ (P:Program) (O:OB) (f:FuncId) (args:List AV) (S0:Option AV) (r:RV):Prop :=
 (∀ xs w,(callFunc f xs).run P w=.ok (.enter f xs) w) ∧
 match S0,r with
 | some (.agg cs),(r1,some (.agg xl))=>∀ (av:Av) (w:World) (vs:List Value) (p:Nat) (cur:Array Value) (ty:TypeId),O.low (fun b=>b=p) av w->(∀ o,av p o)->w.heap[p]?=some (.cells cur ty (0,0))->cs.length<=cur.size->IA av w cs (cur.toList.take cs.length)->jC (Ix.row p cur.size) av (fun b _=>b=p) w args vs →
  Calls P f vs.toArray w fun e w'=>∃ v ia ae,e=.returned v/\xB av w' r1 v/\w'.heap[p]?=some (.cells ia ae (0,0))/\ia.size=cur.size/\IA av w' xl (ia.toList.take xl.length)/\WA (fun b=>b=p) w w'
 | _,_=>True
def EA (P:Program) (O:OB) (f:FuncId) (args:List AV) (S0:Option AV) (r:RV):Prop:=match args with
 | .undef :: .undef :: rest=>UQ P O f rest S0 r
 | .undef :: rest=>eD P O f rest S0 r
 | _=>TQ P O f args S0 r
theorem EA.of {P:Program} {O:OB} {f:FuncId} {args:List AV} {S0:Option AV} {r:RV} (hm:IC args=false):EA P O f args S0 r ↔ TQ P O f args S0 r:=by
 unfold EA;split
 ·cases hm
 ·cases hm
 ·simp_all
theorem EA.own {P:Program} {O:OB} {f:FuncId} {args:List AV} {S0:Option AV} {r:RV} (hm:IC args=false) (h:EA P O f (.undef :: args) S0 r):eD P O f args S0 r:=by
 cases args with
 | nil=>exact h
 | cons x r=>cases x <;> first | exact h | (simp [IC] at hm; done)
theorem EO {ι':Ix} {av avb avl:Av} {x:AV} {v:Value} (h:nA ι av avb w x v) (hx:x.free=true):nA ι' av avl w x v:=by
  cases x <;> first
    | exact h
    | (simp [AV.free,AV.free0] at hx; done)
    | (obtain ⟨us,hv,hc⟩:=h
       exact ⟨us,hv,aB (HC hc fun y hy=>y5.1 hx y hy)⟩)
theorem qM {av avb:Av}:∀ {cs:List AV} {us:List Value} {b off:Nat},IA av w cs us->(∀ (j:Nat) (u:Value),us[j]?=some u->w.cell? ⟨b,off + j,none⟩=some u/\¬ avb b (off + j))->XA av avb w cs b off
 | [],_,_,_,_,_=>by simp [XA]
 | x :: r,_,b,off,h,hj=>by
  simp only [IA] at h;obtain ⟨u,na,rfl,h0,h1,h⟩:=h;simp only [XA];have h2:=hj 0 u rfl;refine ⟨⟨u,h2.1,h0,h1⟩,h2.2,qM h fun j v hv=>?_⟩;have:=hj (j + 1) v (by simpa using hv);rw [show off + 1 + j=off + (j + 1) from by omega];exact this
section
variable (R:DA P O nt B F0 ga w0 D s a w ι Θ) {avl:Av}
include R avl
theorem xM {cl:Cl} {y x:AV} (hB:∀ b o,avl b o->ZA ι Θ b o) (gy:∀ t n b o,ι t n=some b->ι.ob t n=none->(∃ sz off len cap,y=.ref t n sz off len cap)->¬ avl b o) {v:Value} {ι':Ix} (hY:nA ι (JA ga ι Θ) (ZA ι Θ) w y v) (h:zL s cl y=some x) (za:∀ t n,y=.ptr t n 0->ι' 0 0=ι t n):nA ι' (JA ga ι Θ) avl w x v:=by
 unfold zL at h;split at h
 ·rename_i t n sz off len cap;split at h
  ·cases hm:s.mem t n with
   | none=>rw [hm] at h; cases h
   | some r =>
    rw [hm,U] at h;cases hr:bA r sz off len with
    | none=>rw [hr] at h; cases h
    | some m =>
     rw [hr] at h;cases h;obtain ⟨b,hb,jb,cc,sd,_,hv⟩:=OC.1 hY;obtain ⟨xc,b',cur,ty,ra,ba,ja,_⟩:=R.rows t n r hm;rw [hb] at ra;injection ra with ra
     subst ra;obtain ⟨h1,h2,us,hl,oc⟩:=PC ja ba hr;subst h1;exact ⟨_,cc,hv,yp jb sd,fun c hc c' xf=>(h2 c hc).trans (h2 c' xf).symm,fun _=>⟨b,off,rfl,ZD.2 (qM hl fun j u hj=>⟨oc j u hj,gy t n b _ hb xc ⟨_,_,_,_,rfl⟩⟩)⟩⟩
  ·cases h
 ·cases h;obtain ⟨a',c,hv,hc,hu,hs⟩:=hY;refine ⟨a',c,hv,hc,hu,fun h0=>?_⟩;obtain ⟨b,off,ha,hr⟩:=hs h0;exact ⟨b,off,ha,NE.held (xA.refl _ _) (xA.less hB) _ _ _ hr⟩
 ·cases h;obtain ⟨b,off,hv,hc⟩:=hY;exact ⟨b,off,hv,XA.held (xA.refl _ _) (xA.less hB) _ _ _ hc⟩
 ·rename_i t n off;split at h
  ·rename_i hc;cases h;obtain ⟨h0,_,_⟩:=hc;subst h0;obtain ⟨b,hb,hv⟩:=aC.1 hY;exact ⟨b,(za t n rfl).trans hb,hv⟩
  ·cases h
 ·split at h
  ·rename_i hf;cases h;exact EO hY hf
  ·cases h
theorem xZ (xd:∀ b o,avl b o->∃ t n H,ι.ob t n=some H/\H b) {cl:Cl} {y x:AV} {v:Value} {ι':Ix} (hY:nA ι (JA ga ι Θ) (ZA ι Θ) w y v) (h:zL s cl y=some x) (za:∀ t n,y=.ptr t n 0->ι' 0 0=ι t n):nA ι' (JA ga ι Θ) avl w x v :=
 xM R (fun b o h=>.inl (.inr (xd b o h))) (fun t n b o hb xc _ h=>by
  obtain ⟨t',n',H,ho,hH⟩:=xd _ _ h;obtain ⟨e1,e2⟩:=((R.obs _ _ _ ho).1 _ hH).2.2.1 _ _ hb;rw [e1,e2,ho] at xc;cases xc) hY h za
theorem aX (xd:∀ b o,avl b o->∃ t n H,ι.ob t n=some H/\H b) {cl:Cl} {y x:AV} {v:Value} {ι':Ix} (hY:IN ι (JA ga ι Θ) (ZA ι Θ) w y v) (h:rJ s cl y=some x):IN ι' (JA ga ι Θ) avl w x v:=by
 have hB:∀ b o,avl b o->ZA ι Θ b o:=fun b o h=>.inl (.inr (xd b o h))
 unfold rJ at h;split at h
 ·rename_i t n off;split at h
  ·split at h
   ·rename_i r hm;split at h
    ·rename_i nb;cases h;obtain ⟨b,hb,hv⟩:=hY;obtain ⟨xc,b',cur,ty,ra,ba,ja,_⟩:=R.rows t n r hm;rw [hb] at ra;injection ra with ra
     subst ra;have mb:=AB off ja.rep;rw [<- List.map_drop] at mb;have rc:∀ x∈(r.drop off).map (·.v),x.free0=true:=fun x hx=>by
      grind
     refine ⟨b,off,hv,qM (HC mb rc) fun j u hu=>⟨?_,fun h=>?_⟩⟩
     ·rw [yj] at hu;have hj:off + j<r.length:=by
       grind
      rw [List.getElem?_take_of_lt hj] at hu;simp only [World.cell?,ba];simp_all
     ·obtain ⟨t',n',H,ho,hH⟩:=xd _ _ h;obtain ⟨e1,e2⟩:=((R.obs _ _ _ ho).1 _ hH).2.2.1 _ _ hb;simp_all
    ·cases h
   ·cases h
  ·cases h
 ·cases h;obtain ⟨b,off,hv,hc⟩:=hY;exact ⟨b,off,hv,XA.held (xA.refl _ _) (xA.less hB) _ _ _ hc⟩
 ·cases h;exact hY
 ·cases h
end
theorem cK (R:DA P O nt B F0 ga w0 D s a w ι Θ) {avl:Av} (xd:∀ b o,avl b o->∃ t n H,ι.ob t n=some H/\H b) {cl:Cl} {ι':Ix}:∀ {ys xs:List AV} {us:List Value},mC ι (JA ga ι Θ) (ZA ι Θ) w ys us->NC s cl ys=some xs->mC ι' (JA ga ι Θ) avl w xs us
 | [],xs,us,hY,h=>by
  injection h with h;subst h;exact hY
 | y :: r,xs,us,hY,h=>by
  obtain ⟨u,na,rfl,h0,hY⟩:=hY;unfold NC at h;split at h
  ·rename_i v vs hv hr;injection h with h;subst h;exact ⟨u,na,rfl,aX R xd h0 hv,cK R xd hY hr⟩
  ·cases h
theorem pX (R:DA P O nt B F0 ga w0 D s a w ι Θ) {avl:Av} (xd:∀ b o,avl b o->∃ t n H,ι.ob t n=some H/\H b) {cl:Cl} {y x:AV} {v:Value} {ι':Ix} (hY:nA ι (JA ga ι Θ) (ZA ι Θ) w y v) (h:eJ s cl y=some x) (za:∀ t n,y=.ptr t n 0->ι' 0 0=ι t n):nA ι' (JA ga ι Θ) avl w x v:=by
 unfold eJ at h;split at h
 ·rename_i f cs;obtain ⟨ws,hw,h⟩:=y8.1 h;subst h;obtain ⟨us,hv,hc⟩:=hY;exact ⟨us,hv,cK R xd hc hw⟩
 ·exact xZ R xd hY h za
theorem ZP {ι':Ix} {av avl:Av}:∀ {xs:List AV} {us:List Value},(∀ x∈xs,x.capOk=true)->mC ι' av avl w xs us->jC ι' av avl w xs us
 | [],_,_,h=>h
 | x :: r,_,hc,h=>by
  obtain ⟨u,na,rfl,h0,h⟩:=h;refine ⟨u,na,rfl,?_,ZP (fun y hy=>hc y (yr _ hy)) h⟩;have:=hc x (yh);cases x <;> first | (simp [AV.capOk] at this; done) | exact h0
theorem iN {ι':Ix} {av avl:Av}:∀ {xs ys:List AV} {us vs:List Value},jC ι' av avl w xs us->jC ι' av avl w ys vs->jC ι' av avl w (xs++ys) (us++vs)
 | [],_,_,_,h,h'=>by cases h; exact h'
 | x :: r,_,_,_,h,h'=>by
  obtain ⟨u,na,rfl,h0,h⟩:=h;exact ⟨u,na++_,rfl,h0,iN h h'⟩
theorem zM {cl:Cl}:∀ {ys xs:List AV},NC s cl ys=some xs->∀ x∈xs,x.capOk=true
 | [],xs,h=>by injection h with h; subst h; intro x hx; cases hx
 | y :: r,xs,h=>by
  unfold NC at h;split at h
  ·rename_i v vs hv hr;injection h with h;subst h;intro x hx;rcases List.mem_cons.1 hx with rfl | hx
   ·unfold rJ at hv;split at hv
    ·split at hv
     ·split at hv
      ·split at hv
       ·injection hv with hv; subst hv; rfl
       ·cases hv
      ·cases hv
     ·cases hv
    ·injection hv with hv; subst hv; rfl
    ·injection hv with hv; subst hv; rfl
    ·cases hv
   ·exact zM hr x hx
  ·cases h
theorem UC (R:DA P O nt B F0 ga w0 D s a w ι Θ) {avl:Av} (xd:∀ b o,avl b o->∃ t n H,ι.ob t n=some H/\H b) {cl:Cl} {ι':Ix}:∀ {Xs:List Operand} {xs:List GA} {vs:List AV},ZB Xs=some xs->cB s cl xs=some vs->(∀ x∈xs,∀ t n,x.get s=.ptr t n 0->ι' 0 0=ι t n)->jC ι' (JA ga ι Θ) avl w vs (Xs.map a.eval)
 | [],xs,vs,h,hl,_=>by
  injection h with h;subst h;injection hl with hl;subst hl;rfl
 | X :: Xs,xs,vs,h,hl,za=>by
  unfold ZB at h;split at h
  ·rename_i x l hx hr;injection h with h;subst h;unfold cB at hl;split at hl
   ·rename_i v wl hv jp;injection hl with hl;subst hl;exact ⟨_,_,rfl,pX R xd (R.opd hx).1 hv (za x (yh)),UC R xd hr jp fun y hy=>za y (yr _ hy)⟩
   ·cases hl
  ·cases h
theorem jX {p d n:Nat} {ι':Ix} {av avb:Av} {x:AV} {v:Value} (h:JS p av w x v) (hp:ι' d n=some p) (hx:x.backN=true):nA ι' av avb w (x.named d n) v:=by
 have one:∀ {x:AV} {u:Value},eM p av w x u->QA ι' av w (if x.isObj then .ptr d n 0 else x) u:=fun {x u} h=>by
  unfold eM at h;split at h
  ·rename_i ho; rw [if_pos ho]; exact ⟨p,hp,h⟩
  ·rename_i ho; rw [if_neg ho]; exact dE h
 have oneU:∀ {x:AV} {u:Value},eM p av w x u->OI ι' av w (if x.isObj then .ptr d n 0 else x) u:=fun {x u} h=>by
  unfold eM at h;split at h
  ·rename_i ho; rw [if_pos ho]; exact ⟨p,hp,h⟩
  ·rename_i ho; rw [if_neg ho]; exact QC h
 have all:∀ {xs:List AV} {us:List Value},BE p av w xs us->zC ι' av w (xs.map fun v=>if v.isObj then .ptr d n 0 else v) us:=by
  intro xs
  induction xs with
  | nil=>intro us h; simpa [BE,zC] using h
  | cons x r ih =>
   intro us h;simp only [BE] at h;obtain ⟨u,na,rfl,h0,h⟩:=h;exact ⟨u,na,rfl,oneU h0,ih h⟩
 cases x with
 | tup vs =>
  obtain ⟨us,hv,hc⟩:=h;exact ⟨us,hv,all hc⟩
 | ptr t' n' off =>
  have h1:=one (x:=.ptr t' n' off) h;have h2:(AV.ptr t' n' off).isObj=true:=hx;simp only [h2,if_true] at h1;show nA ι' av avb w (if (AV.ptr t' n' off).isObj then .ptr d n 0 else .ptr t' n' off) v;rw [if_pos h2];exact h1
 | _=>simp [AV.backN,AV.isObj] at hx
theorem eM.held {p:Nat} {av wa:Av} {w w':World} (h:xA av wa w w') {x:AV} {v:Value} (hr:eM p av w x v):eM p wa w' x v:=by
 unfold eM at hr ⊢;split at hr
 ·rename_i ho; rw [if_pos ho]; exact hr
 ·rename_i ho; rw [if_neg ho]; exact xB.held h _ _ hr
theorem JS.held {p:Nat} {av wa:Av} {w w':World} (h:xA av wa w w') {x:AV} {v:Value} (hr:JS p av w x v):JS p wa w' x v:=by
 have all:∀ {xs:List AV} {us:List Value},BE p av w xs us->BE p wa w' xs us:=by
  intro xs
  induction xs with
  | nil=>intro us h; exact h
  | cons x r ih =>
   intro us h';simp only [BE] at h' ⊢;obtain ⟨u,na,rfl,h0,h'⟩:=h';exact ⟨u,na,rfl,eM.held h h0,ih h'⟩
 cases x <;> first | exact eM.held h hr | (obtain ⟨us,hv,hc⟩:=hr; exact ⟨us,hv,all hc⟩)
theorem DA.turnObj (R:DA P O nt B F0 ga w0 D s a w ι Θ) {t n p:Nat} {H H':Nat->Prop} {S':AV} (hp:ι t n=some p) (za:ι.ob t n=some H) (xb:O.at_ S' H' p w') (tg:xR ι S' p w') (hH:∀ b,H' b->H b\/w.heap.size<=b) (hk:WA H w w') :
  ∃ ι':Ix,DA P O nt B F0 ga w0 D (s.setObj t n S') a w' ι' Θ/\xA (fun b o=>JA ga ι Θ b o\/H' b) (JA ga ι' Θ) w' w':=by
 obtain ⟨ji,sk⟩:=R.obs t n H za;have sf:∀ t' n' H1,(if t'=t/\n'=n then some H' else ι.ob t' n')=some H1->(t'=t/\n'=n/\H1=H')\/(¬ (t'=t/\n'=n)/\ι.ob t' n'=some H1):=fun t' n' H1 h=>by
  grind
 have mf:∀ b o,b<w.heap.size->ZA ⟨ι.f,fun t' n'=>if t'=t/\n'=n then some H' else ι.ob t' n',ι.z⟩ Θ b o->ZA ι Θ b o:=fun b o hb h=>h.imp (fun h=>h.imp id fun ⟨t',n',H1,h1,h2⟩=>by
  rcases sf _ _ _ h1 with ⟨e1,e2,e3⟩ | ⟨_,h1⟩
  ·subst e3;rcases hH b h2 with h3 | h3
   ·exact ⟨t,n,H,za,h3⟩
   ·omega
  ·exact ⟨t',n',H1,h1,h2⟩) id
 have we:∀ t1 n1 b1 H1,ι t1 n1=some b1->ι.ob t1 n1=some H1->(⟨ι.f,fun t' n'=>if t'=t/\n'=n then some H' else ι.ob t' n',ι.z⟩:Ix) t1 n1=some b1/\∃ H2,(⟨ι.f,fun t' n'=>if t'=t/\n'=n then some H' else ι.ob t' n',ι.z⟩:Ix).ob t1 n1=some H2:=fun t1 n1 b1 H1 g1 g2=>⟨g1,by
  by_cases e:t1=t/\n1=n
  ·exact ⟨H',by simp only [if_pos e]⟩
  ·exact ⟨H1,by simp only [if_neg e]; exact g2⟩⟩
 have ab:∀ b o u,w.cell? ⟨b,o,none⟩=some u->¬ H b->w'.cell? ⟨b,o,none⟩=some u:=fun b o u hc hn=>(World.cell?_of_block (w:=w) (a:=⟨b,o,none⟩) (hk.block b (IB hc) hn)).trans hc
 have hB:xA (ZA ι Θ) (ZA ⟨ι.f,fun t' n'=>if t'=t/\n'=n then some H' else ι.ob t' n',ι.z⟩ Θ) w w':=⟨fun b o u hc hn=>⟨ab b o u hc fun h=>hn (.inl (.inr ⟨t,n,H,za,h⟩)),fun h=>hn (mf b o (IB hc) h)⟩⟩;have hA:xA (JA ga ι Θ) (JA ga ⟨ι.f,fun t' n'=>if t'=t/\n'=n then some H' else ι.ob t' n',ι.z⟩ Θ) w w':=⟨fun b o u hc hn=>⟨ab b o u hc fun h=>hn (.inr (.inl (.inr ⟨t,n,H,za,h⟩))),fun h=>hn (h.imp id (mf b o (IB hc)))⟩⟩;have ej:=R.lowB;have rb:=hk.size;have om:∀ t1,nA ⟨ι.f,fun t' n'=>if t'=t/\n'=n then some H' else ι.ob t' n',ι.z⟩ (JA ga ⟨ι.f,fun t' n'=>if t'=t/\n'=n then some H' else ι.ob t' n',ι.z⟩ Θ) (ZA ⟨ι.f,fun t' n'=>if t'=t/\n'=n then some H' else ι.ob t' n',ι.z⟩ Θ) w' (s.env t1).v (a.tmps.getD t1 undef):=fun t1=>nA.held (ι:=ι) (ι':=⟨ι.f,fun t' n'=>if t'=t/\n'=n then some H' else ι.ob t' n',ι.z⟩) ⟨fun _ _ _ h=>h,fun _ _ _ _=>rfl⟩ hA hB _ _ (R.env t1)
 have mw:∀ t1,nA ⟨ι.f,fun t' n'=>if t'=t/\n'=n then some H' else ι.ob t' n',ι.z⟩ (JA ga ⟨ι.f,fun t' n'=>if t'=t/\n'=n then some H' else ι.ob t' n',ι.z⟩ Θ) (ZA ⟨ι.f,fun t' n'=>if t'=t/\n'=n then some H' else ι.ob t' n',ι.z⟩ Θ) w' (s.gh t1).v (F0.g t1):=fun t1=>nA.held (ι:=ι) (ι':=⟨ι.f,fun t' n'=>if t'=t/\n'=n then some H' else ι.ob t' n',ι.z⟩) ⟨fun _ _ _ h=>h,fun _ _ _ _=>rfl⟩ hA hB _ _ (R.gen t1)
 refine ⟨⟨ι.f,fun t' n'=>if t'=t/\n'=n then some H' else ι.ob t' n',ι.z⟩,⟨R.defers,R.size,om,R.ann,fun t' n' r hr=>?_,fun t' n' b h=>?_,R.inj,fun k o h=>?_,R.tinj,R.apart,R.out,(fun p' h=>⟨(R.pin p' h).1,by
  rcases (R.pin p' h).2 with kp | ⟨H1,h1⟩
  ·exact .inl kp
  refine .inr ?_;show ∃ H2,(if 0=t/\0=n then some H' else ι.ob 0 0)=some H2;split
  ·exact ⟨_,rfl⟩
  ·exact ⟨H1,h1⟩⟩),?_,R.base,fun t' n' S1 h=>?_,fun t' n' H1 h=>?_,mw,R.gann⟩,?_⟩
 ·obtain ⟨h0,b,cur,ty,h1,h2,h3,h8⟩:=R.rows t' n' r hr;have db:¬ (t'=t/\n'=n):=fun e=>by rw [e.1,e.2,za] at h0; cases h0
  have dw:¬ H b:=fun hb=>db ((ji b hb).2.2.1 t' n' h1)
  exact ⟨by simp only [if_neg db]; exact h0,b,cur,ty,h1,(hk.block b (uA h2) dw).trans h2,h3.held ⟨fun _ _ _ h=>h,fun _ _ _ _=>rfl⟩ hA (fun _ _ h=>h),h8⟩
 ·obtain ⟨h1,h2,h3⟩:=R.mine t' n' b h;exact ⟨h1,by omega,h3⟩
 ·obtain ⟨h1,h2,h3,h4,ia,h5,h6⟩:=R.tok k o h;exact ⟨h1,h2,h3,h4,ia,(hk.block _ (uA h5) (R.apob h za)).trans h5,h6⟩
 ·refine R.kept.trans hk fun i hi h=>?_
  have:=R.base.1
  grind
 ·simp only [tA.setObj] at h;split at h
  ·rename_i e;injection h with h;subst h;exact ⟨p,H',by rw [e.1,e.2]; exact hp,by simp only [if_pos e],xb,tg.keep we fun x hx=>hx⟩
  ·rename_i e;obtain ⟨p1,H1,h1,h2,h3,h4⟩:=R.objs t' n' S1 h;have th:∀ b,H1 b->¬ H b:=fun b hb ra=>e ((ji b ra).2.2.2.2 t' n' H1 h2 hb)
   exact ⟨p1,H1,h1,by simp only [if_neg e]; exact h2,O.keep h3 (fun b hb=>hk.block b (O.lt h3 hb) (th b hb)) rb,h4.keep we fun x hx=>(hk.block _ (uA hx) (th _ (O.main h3))).trans hx⟩
 ·rcases sf _ _ _ h with ⟨e1,e2,e3⟩ | ⟨e,h⟩
  ·subst e1; subst e2; subst e3;refine ⟨fun b hb=>?_,sk⟩;rcases hH b hb with h1 | h1
   ·grind
   ·refine ⟨.inl (by omega),O.lt xb hb,fun t1 n1 h2=>?_,fun k o h2 e=>?_,fun t1 n1 H2 h2 h3=>?_⟩
    ·have:=(R.mine _ _ _ h2).2.1; omega
    ·obtain ⟨_,_,_,_,ia,h5,_⟩:=R.tok k o h2; have:=uA h5; omega
    ·rcases sf _ _ _ h2 with ⟨e1,e2,_⟩ | ⟨_,h2⟩
     ·omega
     ·have:=((R.obs _ _ _ h2).1 b h3).2.1; omega
  ·obtain ⟨h1,h2⟩:=R.obs t' n' H1 h;refine ⟨fun b hb=>?_,h2⟩;obtain ⟨g1,g2,g3,g4,g5⟩:=h1 b hb;refine ⟨g1,by omega,g3,g4,fun t1 n1 H2 h2 h3=>?_⟩;rcases sf _ _ _ h2 with ⟨e1,e2,e3⟩ | ⟨_,h2⟩
   ·subst e3;rcases hH b h3 with h4 | h4
    ·have:=g5 t n H za h4;omega
    ·omega
   ·exact g5 t1 n1 H2 h2 h3
 ·refine xA.less fun b o h=>?_
  rcases h with h | h | h
  ·exact .inl (.inl h)
  ·rcases h with h | ⟨t1,n1,H2,h2,h3⟩
   ·exact .inl (.inr (.inl (.inl h)))
   ·rcases sf _ _ _ h2 with ⟨_,_,e3⟩ | ⟨_,h2⟩
    ·grind
    ·exact .inl (.inr (.inl (.inr ⟨t1,n1,H2,h2,h3⟩)))
  ·exact .inl (.inr (.inr h))
theorem DA.newObj (R:DA P O nt B F0 ga w0 D s a w ι Θ) {d p:Nat} {H:Nat->Prop} {S:AV} (hb:Below w.heap.size w w') (hD:¬ D d) (xb:O.at_ S H p w') (tg:xR ι S p w') (hH:∀ b,H b->w.heap.size<=b) :
  ∃ ι':Ix,DA P O nt B F0 ga w0 (fun t=>D t\/t=d) (s.setObj d s.next S) a w' ι' Θ/\ι' d s.next=some p/\xA (fun b o=>JA ga ι Θ b o\/H b) (JA ga ι' Θ) w' w':=by
 have ej:=R.lowB;have rb:=hb.size;have xu:=hH p (O.main xb);have lc:ι d s.next=none:=by
  cases h:ι d s.next with
  | none=>rfl
  | some b =>
   rcases (R.mine _ _ _ h).2.2 with h1 | h1
   ·omega
   ·simp_all
 have kc:ι.ob d s.next=none:=by
  cases h:ι.ob d s.next with
  | none=>rfl
  | some b =>
   rcases (R.obs _ _ _ h).2 with h1 | h1
   ·omega
   ·simp_all
 have hmemn:s.mem d s.next=none:=by
  cases h:s.mem d s.next with
  | none=>rfl
  | some r=>obtain ⟨_,b,cur,ty,h1,_⟩:=R.rows _ _ _ h; rw [lc] at h1; cases h1
 obtain ⟨ι',hι'⟩:∃ ι':Ix,ι'=⟨fun t' n'=>if t'=d/\n'=s.next then some p else ι t' n',fun t' n'=>if t'=d/\n'=s.next then some H else ι.ob t' n',ι.z⟩:=⟨_,rfl⟩;have hf:∀ t' n' b,ι' t' n'=some b->(t'=d/\n'=s.next/\b=p)\/(¬ (t'=d/\n'=s.next)/\ι t' n'=some b):=fun t' n' b h=>by
  subst hι'
  grind
 have ho:∀ t' n' H1,ι'.ob t' n'=some H1->(t'=d/\n'=s.next/\H1=H)\/(¬ (t'=d/\n'=s.next)/\ι.ob t' n'=some H1):=fun t' n' H1 h=>by
  subst hι'
  grind
 have ac:∀ t n b,ι t n=some b->ι' t n=some b:=fun t n b h=>by
  subst hι'
  grind
 have gj:∀ t n H1,¬ (t=d/\n=s.next)->ι.ob t n=H1->ι'.ob t n=H1:=fun t n H1 e h=>by
  simp_all
 have pb:ι' d s.next=some p:=by
  simp_all
 have pk:ι'.ob d s.next=some H:=by subst hι'; simp
 have we:∀ t1 n1 b1 H1,ι t1 n1=some b1->ι.ob t1 n1=some H1->ι' t1 n1=some b1/\∃ H2,ι'.ob t1 n1=some H2:=fun t1 n1 b1 H1 g1 g2=>⟨ac _ _ _ g1,H1,gj _ _ _ (fun e=>by rw [e.1,e.2,kc] at g2; cases g2) g2⟩
 have xg:∀ b,ι'.z b=ι.z b:=fun b=>by subst hι'; rfl
 have jb:Ix.Le ι ι':=⟨ac,fun _ _ _ _=>xg _⟩;clear hι';have mf:∀ b o,b<w.heap.size->ZA ι' Θ b o->ZA ι Θ b o:=fun b o im h=>h.imp (fun h=>by
  rcases h with ⟨t',n',h⟩ | ⟨t',n',H1,h,h2⟩
  ·rcases hf _ _ _ h with ⟨_,_,e⟩ | ⟨_,h⟩
   ·omega
   ·exact .inl ⟨t',n',h⟩
  ·rcases ho _ _ _ h with ⟨_,_,e⟩ | ⟨_,h⟩
   ·subst e; have:=hH b h2; omega
   ·exact .inr ⟨t',n',H1,h,h2⟩) id
 have hB:xA (ZA ι Θ) (ZA ι' Θ) w w':=xA.grown (fun b ra=>hb.block b ra) mf;have hA:xA (JA ga ι Θ) (JA ga ι' Θ) w w':=xA.grown (fun b ra=>hb.block b ra) fun b o im h=>h.imp id (mf b o im)
 refine ⟨ι',⟨R.defers,R.size,fun t=>nA.held jb hA hB _ _ (R.env t),R.ann,fun t' n' r hr=>?_,fun t' n' b h=>?_,fun t n t' n' b h h'=>?_,fun k o h=>?_,R.tinj,fun k o t n h h'=>?_,R.out,fun p h=>⟨ac _ _ _ (R.pin p h).1,by
  rcases (R.pin p h).2 with kp | ⟨H1,h1⟩
  ·exact .inl ⟨kp.1,(jb.z _ _ _ (R.pin p h).1).trans kp.2⟩
  refine .inr ?_;by_cases e:0=d/\0=s.next
  ·exact ⟨H,by rw [<- e.1,<- e.2] at pk; exact pk⟩
  ·exact ⟨H1,gj _ _ _ e h1⟩⟩,R.kept.trans_below hb,R.base,fun t' n' S1 h=>?_,fun t' n' H1 h=>?_,fun t=>nA.held jb hA hB _ _ (R.gen t),R.gann⟩,pb,?_⟩
 ·obtain ⟨h0,b,cur,ty,h1,h2,h3,h8,h9⟩:=R.rows t' n' r hr;have db:¬ (t'=d/\n'=s.next):=fun e=>by
   simp_all
  exact ⟨gj _ _ _ db h0,b,cur,ty,ac _ _ _ h1,(hb.block b (uA h2)).trans h2,h3.held jb hA (fun _ _ h=>h),h8,h9.trans (xg _).symm⟩
 ·rcases hf _ _ _ h with ⟨e1,e2,e⟩ | ⟨_,h⟩
  ·subst e;exact ⟨.inl (by omega),O.lt xb (O.main xb),.inr ⟨e2,.inr e1⟩⟩
  ·obtain ⟨h1,h2,h3⟩:=R.mine t' n' b h;exact ⟨h1,by omega,h3.imp id fun ⟨e,d⟩=>⟨e,.inl d⟩⟩
 ·rcases hf _ _ _ h with ⟨e1,e2,e⟩ | ⟨_,h⟩ <;> rcases hf _ _ _ h' with ⟨g1,g2,g⟩ | ⟨_,h'⟩
  ·omega
  ·have:=(R.mine _ _ _ h').2.1; omega
  ·have:=(R.mine _ _ _ h).2.1; omega
  ·exact R.inj t n t' n' b h h'
 ·obtain ⟨h1,h2,h3,h4,ia,h5,h6⟩:=R.tok k o h;exact ⟨h1,h2,h3,h4,ia,(hb.block _ (uA h5)).trans h5,h6⟩
 ·obtain ⟨_,_,_,_,ia,h5,_⟩:=R.tok k o h;have eb:=uA h5;rcases hf _ _ _ h' with ⟨_,_,e⟩ | ⟨_,h'⟩
  ·omega
  ·exact R.apart k o t n h h'
 ·simp only [tA.setObj] at h;split at h
  ·rename_i e;injection h with h;subst h;exact ⟨p,H,by rw [e.1,e.2]; exact pb,by rw [e.1,e.2]; exact pk,xb,tg.keep we fun x hx=>hx⟩
  ·rename_i e;obtain ⟨p1,H1,h1,h2,h3,h4⟩:=R.objs t' n' S1 h;exact ⟨p1,H1,ac _ _ _ h1,gj _ _ _ e h2,O.keep h3 (fun b ra=>hb.block b (O.lt h3 ra)) rb,h4.keep we fun x hx=>(hb.block _ (uA hx)).trans hx⟩
 ·rcases ho _ _ _ h with ⟨e1,e2,e⟩ | ⟨_,h⟩
  ·subst e;refine ⟨fun b ra=>⟨.inl (by have:=hH b ra; omega),O.lt xb ra,fun t1 n1 h2=>?_,fun k o h2 e=>?_,fun t1 n1 H2 h2 h3=>?_⟩,.inr ⟨e2,.inr e1⟩⟩
   ·have:=hH b ra;rcases hf _ _ _ h2 with ⟨g1,g2,_⟩ | ⟨_,h2⟩
    ·omega
    ·have:=(R.mine _ _ _ h2).2.1; omega
   ·have:=hH b ra;obtain ⟨_,_,_,_,ia,h5,_⟩:=R.tok k o h2; have:=uA h5; omega
   ·have:=hH b ra;rcases ho _ _ _ h2 with ⟨g1,g2,_⟩ | ⟨_,h2⟩
    ·omega
    ·have:=((R.obs _ _ _ h2).1 b h3).2.1; omega
  ·obtain ⟨h1,h2⟩:=R.obs t' n' H1 h;refine ⟨fun b ra=>?_,h2.imp id fun ⟨e,d⟩=>⟨e,.inl d⟩⟩;obtain ⟨g1,g2,g3,g4,g5⟩:=h1 b ra;refine ⟨g1,by omega,fun t1 n1 h2=>?_,g4,fun t1 n1 H2 h2 h3=>?_⟩
   ·grind
   ·grind
 ·refine xA.less fun b o h=>?_
  rcases h with h | h | h
  ·exact .inl (.inl h)
  ·rcases h with ⟨t',n',h⟩ | ⟨t',n',H1,h,h2⟩
   ·rcases hf _ _ _ h with ⟨_,_,e⟩ | ⟨_,h⟩
    ·subst e; exact .inr (O.main xb)
    ·exact .inl (.inr (.inl (.inl ⟨t',n',h⟩)))
   ·rcases ho _ _ _ h with ⟨_,_,e⟩ | ⟨_,h⟩
    ·simp_all
    ·exact .inl (.inr (.inl (.inr ⟨t',n',H1,h,h2⟩)))
  ·exact .inl (.inr (.inr h))
theorem wH {s:tA} {cl:Cl}:∀ {xs:List GA} {vs:List AV},cB s cl xs=some vs->IC vs=false
 | [],vs,h=>by injection h with h; subst h; rfl
 | x :: r,vs,h=>by
  unfold cB at h;split at h
  ·rename_i v us hv hr;injection h with h;subst h;cases v with
   | undef =>
    exfalso;unfold eJ at hv;split at hv
    ·obtain ⟨_,_,hv⟩:=y8.1 hv; cases hv
    unfold zL at hv;split at hv
    ·split at hv
     ·obtain ⟨_,_,hv⟩:=y8.1 hv; cases hv
     ·cases hv
    ·injection hv with hv; cases hv
    ·injection hv with hv; cases hv
    ·split at hv
     ·injection hv with hv; cases hv
     ·cases hv
    ·split at hv
     ·rename_i hf; injection hv with hv; rw [hv] at hf; cases hf
     ·cases hv
   | _=>rfl
  ·cases h
theorem DA.wd (R:DA P O nt B F0 ga w0 D s a w ι Θ):O.wd w:=O.wdk R.base.2.1 R.kept R.base.2.2
theorem DA.lo (R:DA P O nt B F0 ga w0 D s a w ι Θ) {b:Nat} (h:B<=b\/F0.b b):O.lo<=b:=by
 rcases h with h | h
 ·have:=O.wdl R.base.2.1;have:=R.base.1;omega
 ·exact R.base.2.2 b h
section
variable (R:DA P O nt B F0 ga w0 D s a w ι Θ)
include R
theorem DA.low0:O.low (fun _=>False) (JA ga ι Θ) w:=⟨⟨R.wd,fun _ h=>h.elim⟩,fun b o h=>R.low h⟩
theorem DA.lowH {t n:Nat} {H:Nat->Prop} (h:ι.ob t n=some H):O.low H (JA ga ι Θ) w:=⟨⟨R.wd,fun b hb=>R.lo (((R.obs t n H h).1 b hb).1)⟩,fun b o h=>R.low h⟩
theorem DA.lowR {t n p:Nat} (h:ι t n=some p):O.low (fun b=>b=p) (JA ga ι Θ) w:=⟨⟨R.wd,fun b hb=>by subst hb; exact R.lo (R.mine t n b h).1⟩,fun b o h=>R.low h⟩
theorem z6 {call:OA} (oa:∀ f args S r,call f args S=some r->EA P O f args S r) {f:FuncId} {Xs:Array Operand} {ts:Array TypeId} {xs:List GA} (hx:ZB Xs.toList=some xs) (ho:o.op=.call { callee:=.value (.func f),args:=Xs,argTypes:=ts }) (hd:∀ d,o.dst=some d->d<nt) (hD:∀ d,o.dst=some d->¬ D d) {cl:Cl} {xe:qA × wB} (hr:(K.call cl f xs).run call s=some xe) {g} {s':tA} (he:sA.eff ⟨o.dst,.call cl f xs,g⟩ s xe=some s')
  {Kn:Act->World->Prop} {Q:Exit->Act->World->Prop} (hK:∀ a' w',fB P O nt B F0 ga w0 (fun t=>D t\/o.dst=some t) s' a' w'->Kn a' w'):o.wp P a w Kn Q:=by
 simp only [K.run] at hr;obtain ⟨vs,hl,hr⟩:=y0.1 hr;have sh:(Xs.toList.map a.eval).toArray=Xs.map a.eval:=by rw [<- Array.toList_map,yE]
 have run:∀ {S0:Option AV} {r:RV},TQ P O f vs S0 r->(execOp a.eval o).run P w=.ok (.enter f (Xs.map a.eval)) w:=fun h=>by
  simp only [execOp,ho,resolve,Act.eval,Deferred.ofValue,Sem.run_bind,Sem.run_pure,Result.andThen_ok,invoke];have:=h.1 (#[]++Xs.map a.eval++#[]) w;simp_all
 have ak:∀ b o,JA ga ι Θ b o->b<w.heap.size:=fun b o h=>R.low h
 split at hr
 ·rename_i de;have nob:∀ x∈xs,∀ t n,x.get s=.ptr t n 0->False:=fun x hx t n h=>by
   have:(t,n)∈lC s xs:=List.mem_filterMap.2 ⟨x,hx,by rw [h]⟩;simp_all
  have ka:=UC (ι':=Ix.none) (avl:=fun _ _=>False) R (fun _ _ h=>h.elim) hx hl fun x hx t n h=>(nob x hx t n h).elim
  obtain ⟨r,hc,hr⟩:=y0.1 hr;have sa:=(EA.of (wH hl)).1 (oa f vs none r hc);obtain ⟨r1,r2⟩:=r;unfold Oper.wp;rw [run sa,Oper.upon_enter];cases r2 with
  | none =>
   simp only at hr;split at hr
   ·cases hr;simp only [sA.eff] at he;cases he;have hC:=sa.2 (JA ga ι Θ) w _ R.low0 ka;rw [sh] at hC;refine hC.mono ?_;rintro e w' ⟨v,rfl,hv,hb⟩;have R':DA P O nt B F0 ga w0 D s a w' ι Θ:=R.grow (fun b ra=>hb.block b ra) hb.size (R.kept.trans_below hb);exact hK _ _ ⟨ι,Θ,(R'.putN (x:=⟨_,.no⟩) hd (fE hv) trivial).more fun _ h=>.inl h⟩
   ·cases hr
  | some S' =>
   simp only at hr;split at hr
   ·rename_i ti;cases hr;simp only [sA.eff] at he;split at he
    ·cases he
    ·rename_i d fa;cases he;have hC:=sa.2 (JA ga ι Θ) w _ R.low0 ka;rw [sh] at hC;refine hC.mono ?_;rintro e w' ⟨v,p,H',rfl,hv,xb,hH,hb⟩;obtain ⟨ι',R2,hι,ub⟩:=R.newObj (d:=d) hb (hD d fa) xb (xR.no ti.2.2) hH;rw [fa];refine hK _ _ ⟨ι',Θ,(R2.put (x:=⟨_,.no⟩) (hd d fa) (jX (JS.held ub hv) hι ti.1) trivial).more fun t h=>h.imp id fun e=>by rw [fa,e]⟩
   ·cases hr
 ·rename_i t n pe;obtain ⟨r,hc,hr⟩:=y0.1 hr;obtain ⟨r1,r2⟩:=r;cases r2 with
  | none=>cases hr
  | some S' =>
   simp only at hr;split at hr
   ·rename_i ea;cases hr;simp only [sA.eff] at he;cases he;obtain ⟨S,hS⟩:=Option.isSome_iff_exists.1 ea.2.1;rw [hS] at hc;have sa:=(EA.of (wH hl)).1 (oa f vs (some S) _ hc);obtain ⟨p,H,hp,za,xb,_⟩:=R.objs t n S hS;have ka:=UC (ι':=Ix.one p) (avl:=fun b _=>H b) R (fun b _ h=>⟨t,n,H,za,h⟩) hx hl fun x hx t' n' h=>by
     have:(t',n')∈lC s xs:=List.mem_filterMap.2 ⟨x,hx,by rw [h]⟩;rw [pe] at this;have:=List.mem_singleton.1 this;injection this with e1 e2;rw [e1,e2,hp];rfl
    unfold Oper.wp;rw [run sa,Oper.upon_enter];have hC:=sa.2 (JA ga ι Θ) w _ p H (R.lowH za) (fun b o h=>.inr (.inl (.inr ⟨t,n,H,za,h⟩))) xb ka;rw [sh] at hC;refine hC.mono ?_;rintro e w' ⟨v,H',rfl,hv,gg,hH,hk⟩;obtain ⟨ι',R',ub⟩:=R.turnObj hp za gg (xR.no ea.2.2) hH hk;refine hK _ _ ⟨ι',Θ,(R'.putN (x:=⟨_,.no⟩) hd (fE (xB.held ub _ _ hv)) trivial).more fun _ h=>.inl h⟩
   ·cases hr
 ·cases hr
theorem GZ {call:OA} (oa:∀ f args S r,call f args S=some r->EA P O f args S r) {tf:Nat} {Xs:Array Operand} {ts:Array TypeId} {xs:List GA} (hx:ZB Xs.toList=some xs) (ho:o.op=.call { callee:=.value (.tmp tf),args:=Xs,argTypes:=ts }) (hd:∀ d,o.dst=some d->d<nt) {cl:Cl} {xe:qA × wB} (hr:(K.callv cl (.t tf) xs).run call s=some xe) {g} {s':tA} (he:sA.eff ⟨o.dst,.callv cl (.t tf) xs,g⟩ s xe=some s')
  {Kn:Act->World->Prop} {Q:Exit->Act->World->Prop} (hK:∀ a' w',fB P O nt B F0 ga w0 (fun t=>D t\/o.dst=some t) s' a' w'->Kn a' w'):o.wp P a w Kn Q:=by
 simp only [K.run,GA.get] at hr;have hF:=R.env tf;split at hr
 ·rename_i f cs bh;rw [bh] at hF;obtain ⟨us,jc,ig⟩:=hF;split at hr
  ·rename_i vs ws hl hw de;have ak:∀ b o,JA ga ι Θ b o->b<w.heap.size:=fun b o h=>R.low h
   have nob:∀ x∈xs,∀ t n,x.get s=.ptr t n 0->False:=fun x hx t n h=>by
    have:(t,n)∈lC s xs:=List.mem_filterMap.2 ⟨x,hx,by rw [h]⟩;simp_all
   have ka:=UC (ι':=Ix.none) (avl:=fun _ _=>False) R (fun _ _ h=>h.elim) hx hl fun x hx t n h=>(nob x hx t n h).elim
   have zq:=ZP (zM hw) (cK (ι':=Ix.none) (avl:=fun _ _=>False) R (fun _ _ h=>h.elim) ig hw);have nb:=iN ka zq;obtain ⟨r,hc,hr⟩:=y0.1 hr;have hm:IC (vs++ws)=false:=by
    cases vs with
    | cons v r=>have:=wH hl; cases v <;> first | rfl | exact this
    | nil =>
     cases ws with
     | nil=>rfl
     | cons v r =>
      have:=zM hw v (yh);cases v <;> first | rfl | (simp [AV.capOk] at this; done)
   have sa:=(EA.of hm).1 (oa f (vs++ws) none r hc);obtain ⟨r1,r2⟩:=r;cases r2 with
   | some S'=>cases hr
   | none =>
    simp only at hr;split at hr
    ·cases hr;simp only [sA.eff] at he;cases he;have sh:(Xs.toList.map a.eval++us.toList).toArray=Xs.map a.eval++us:=by
      simp_all
     have run:(execOp a.eval o).run P w=.ok (.enter f (Xs.map a.eval++us)) w:=by
      have fr:a.eval (.tmp tf)=.func (.func f) #[] us:=jc;simp only [execOp,ho,resolve,fr,Deferred.ofValue,Sem.run_bind,Sem.run_pure,Result.andThen_ok,invoke];have:=sa.1 (#[]++Xs.map a.eval++us) w;simp_all
     unfold Oper.wp;rw [run,Oper.upon_enter];have hC:=sa.2 (JA ga ι Θ) w _ R.low0 nb;rw [sh] at hC;refine hC.mono ?_;rintro e w' ⟨v,rfl,hv,hb⟩;have R':DA P O nt B F0 ga w0 D s a w' ι Θ:=R.grow (fun b ra=>hb.block b ra) hb.size (R.kept.trans_below hb);exact hK _ _ ⟨ι,Θ,(R'.putN (x:=⟨_,.no⟩) hd (fE hv) trivial).more fun _ h=>.inl h⟩
    ·cases hr
  ·cases hr
 ·cases hr
theorem C0 {t t':TypeId} {k:IntKind} (ht:P.underlying t=some (.int k)) (ao:P.underlying t'=some .string) {X:Operand} {x:GA} (hx:opd X=some x) (ho:o.op=.convert t t' X)
  {call} {y:qA} {e:wB} (hr:(K.rstr x).run call s=some (y,e)):e=.none/\LK P ga a w ι Θ o y:=by
 have hX:=(R.opd hx).1;simp only [K.run] at hr;split at hr
 ·rename_i k' n hy;injection hr with hr; injection hr with h1 h2; subst h1; subst h2;rw [hy,cA] at hX;exact ⟨rfl,.string (Utf8.encode n),by simp [execOp,ho,convert,run_underlying ht,run_underlying ao,hX,Conv.intToString],by rw [sC],trivial⟩
 ·cases hr
end
theorem XK {av:Av}:∀ {m:List (List AV)} {bs:List UInt8} {us:List Value},bytesOf m=some bs->IA av w m.flatten us->∃ ns:List Int,us=ns.map (Value.int .u8)/\bs=ns.map (fun n=>UInt8.ofNat n.toNat)/\∀ c∈m,c.length=1
 | [],bs,us,hb,h=>by
  injection hb with hb;subst hb;cases h;exact ⟨[],rfl,rfl,by simp⟩
 | c :: r,bs,us,hb,h=>by
  unfold bytesOf at hb;split at hb
  ·rename_i n l hr;injection hb with hb;subst hb;simp only [yi,List.cons_append,List.nil_append,IA] at h;obtain ⟨u,na,rfl,h0,_,h⟩:=h;obtain ⟨ns,e1,e2,e3⟩:=XK hr h;refine ⟨n :: ns,?_,by rw [e2]; rfl,?_⟩
   ·simp only [xB] at h0;rw [h0,e1]; rfl
   ·intro c hc;rcases List.mem_cons.1 hc with rfl | hc
    ·rfl
    ·exact e3 c hc
  ·cases hb
theorem cQ:∀ (ns:List Int) (acc:ByteArray),ns.foldl (fun r n=>r.push (UInt8.ofNat n.toNat)) acc=⟨acc.data++(ns.map fun n=>UInt8.ofNat n.toNat).toArray⟩
 | [],acc=>by simp
 | n :: r,acc=>by
  rw [List.foldl_cons,cQ r];congr 1;apply Array.ext';simp [ByteArray.push]
theorem H0 (R:DA P O nt B F0 ga w0 D s a w ι Θ) {t t' e':TypeId} (ht:P.underlying t=some (.slice e')) (ui:P.underlying e'=some (.int .u8)) (ao:P.underlying t'=some .string) {X:Operand} {x:GA} (hx:opd X=some x) (ho:o.op=.convert t t' X)
  {call} {cl:Cl} {y:qA} {e:wB} (hr:(K.bstr cl x).run call s=some (y,e)):e=.none/\LK P ga a w ι Θ o y:=by
 have hX:=(R.opd hx).1;simp only [K.run] at hr;split at hr
 ·rename_i m hm;obtain ⟨bs,lz,hr⟩:=y8.1 hr;injection hr with h1 h2; subst h1; subst h2;have pr:∀ c∈m,c.length=1:=by
   clear hX hm hr
   induction m generalizing bs with
   | nil=>simp
   | cons c r ih =>
    unfold bytesOf at lz
    grind
  obtain ⟨us,mb,hl,A,c,hv,hc,ab⟩:=zF R hX hm (sz:=1) (by omega) pr;obtain ⟨ns,e1,e2,_⟩:=XK lz mb;refine ⟨rfl,.string ⟨bs.toArray⟩,?_,by rw [sC],trivial⟩;have px:ns.length=m.length:=by rw [e1] at hl; simpa using hl
  simp only [execOp,ho,hv,Sem.run_bind];rw [run_convert_bytes_string w t t' e' A m.length c ht ui ao];cases A with
  | none =>
   rcases yx m.length with h0 | h0
   ·have:ns=[]:=yF (by omega);subst this;subst e2;simp [Conv.bytesToString];rfl
   ·simp_all
  | some a' =>
   have gp:(loadCells a' m.length).run P w=.ok (ns.map (Value.int .u8)).toArray w:=by
    have:=run_loadCells_list (P:=P) w a' (ns.map (Value.int .u8)) (fun j v hj=>by
     have wj:j<m.length:=by
      grind
     obtain ⟨b,off,hA,_,_,uc⟩:=ab (by omega);cases hA;rw [Addr.add_lit];rw [<- e1] at hj;exact uc j v hj)
    simp_all
   rw [run_bytesToString w a' m.length c ns gp,cQ];simp_all
 ·cases hr
theorem LP {t e:TypeId} {z n:Nat} (ht:P.underlying t=some (.array n e)) (hz:LA P e=some z) {b off:Nat} {L H:Option Operand} {l h:Nat} (hl:WO a 0 L (L.map a.eval,l)) (hh:WO a n H (H.map a.eval,h)) (h1:l<=h) (h2:h<=n) :
  (Instr.sliceAt t (.pointer (some ⟨b,off,none⟩)) (L.map a.eval) (H.map a.eval) none).run P w=.ok (.slice (some (if n=l then ⟨b,off,none⟩ else ⟨b,off + l * z,none⟩)) (h - l) (n - l)) w:=by
 cases L with
 | none =>
  obtain ⟨_,rfl⟩:=hl;cases H with
  | none =>
   obtain ⟨_,rfl⟩:=hh;simp [Instr.sliceAt,Instr.sureAddr,Instr.sliceBounds,run_underlying ht,CA hz,Addr.add_lit]
  | some x =>
   obtain ⟨_,k,i,hx,h0,rfl⟩:=hh;have:0<=i/\i<=(n:Int):=⟨h0,by omega⟩;simp [Instr.sliceAt,Instr.sureAddr,Instr.sliceBounds,Instr.sliceBound,run_underlying ht,CA hz,hx,asIntOf,this,Addr.add_lit]
 | some y =>
  obtain ⟨_,k',i',hy,oi,rfl⟩:=hl;cases H with
  | none =>
   obtain ⟨_,rfl⟩:=hh;have:0<=i'/\i'<=(h:Int):=⟨oi,by omega⟩;simp [Instr.sliceAt,Instr.sureAddr,Instr.sliceBounds,Instr.sliceBound,run_underlying ht,CA hz,hy,asIntOf,this,Addr.add_lit]
  | some x =>
   obtain ⟨_,k,i,hx,h0,rfl⟩:=hh;have h3:0<=i/\i<=(n:Int):=⟨h0,by omega⟩;have h4:0<=i'/\i'<=i:=⟨oi,by omega⟩;have h5:((i.toNat:Nat):Int)=i:=by omega
   simp [Instr.sliceAt,Instr.sureAddr,Instr.sliceBounds,Instr.sliceBound,run_underlying ht,CA hz,hy,hx,asIntOf,h3,h4,h5,Addr.add_lit]
section
variable (R:DA P O nt B F0 ga w0 D s a w ι Θ)
include R
theorem G0 {t e':TypeId} {n z:Nat} (ht:P.underlying t=some (.array n e')) (hz:LA P e'=some z) {X:Operand} {L H:Option Operand} {x:GA} {l h:Option GA} (hx:opd X=some x) (hl:oO L=some l) (hh:oO H=some h)
  (ho:o.op=.slice t X L H none) {call} {cl:Cl} {y:qA} {e:wB} (hr:(K.aslc cl n z x l h).run call s=some (y,e)):e=.none/\LK P ga a w ι Θ o y:=by
 have hX:=(R.opd hx).1;simp only [K.run] at hr;split at hr
 ·rename_i t' n' off hy;split at hr
  ·rename_i lo hi r zn rm hm;have hL:=wE R hl zn;have hH:=wE R hh rm;rw [hy,aC] at hX;obtain ⟨b,hb,hv⟩:=hX;obtain ⟨_,b',cur,ty,ra,ba,ja,_,eg⟩:=R.rows t' n' r hm;rw [hb] at ra;injection ra with ra;subst ra;split at hr
   ·rename_i ea;obtain ⟨h1,h2,kf,h3,_⟩:=ea;have aa:=LP (w:=w) (b:=b) (off:=off) ht hz hL hH h1 h2;split at hr
    ·rename_i heq;injection hr with hr; injection hr with e1 e2; subst e1; subst e2;refine ⟨rfl,.slice (some (if n=lo then ⟨b,off,none⟩ else ⟨b,off + lo * z,none⟩)) (hi - lo) (n - lo),by simp only [execOp,ho,hv,Option.map_none,Sem.run_bind,aa,Result.andThen_ok,Sem.run_pure],?_,trivial⟩;simp only [rB,xB];refine ⟨some (if n=lo then ⟨b,off,none⟩ else ⟨b,off + lo * z,none⟩),n - lo,by rw [heq]; simp,by simp,by simp,by simp,fun _=>⟨by simp,by simp⟩⟩
    ·rename_i db;injection hr with hr; injection hr with e1 e2; subst e1; subst e2;refine ⟨rfl,.slice (some (if n=lo then ⟨b,off,none⟩ else ⟨b,off + lo * z,none⟩)) (hi - lo) (n - lo),by simp only [execOp,ho,hv,Option.map_none,Sem.run_bind,aa,Result.andThen_ok,Sem.run_pure],?_,trivial⟩;rw [OC];refine ⟨b,hb,by omega,n - lo,y6 _,?_,by rw [if_neg (by omega)]⟩;have:(n - lo) * z + lo * z=n * z:=by rw [<- Nat.add_mul]; congr 1; omega
     have:=ja.1;omega
   ·cases hr
  ·cases hr
 ·cases hr
theorem X6 {f:FuncId} {fs Xs:Array Operand} (hfs:fs.size=0) {xs:List GA} (hx:ZB Xs.toList=some xs) (ho:o.op=.makeFunc (.func f) fs Xs)
  {call} {y:qA} {e:wB} (hr:(K.mkf f xs).run call s=some (y,e)):e=.none/\LK P ga a w ι Θ o y:=by
 simp only [K.run] at hr;split at hr
 ·rename_i nb;injection hr with hr; injection hr with e1 e2; subst e1; subst e2;have key:∀ {Xs:List Operand} {xs:List GA},ZB Xs=some xs->xs.all (fun x=>(x.get s).capOk)=true->mC ι (JA ga ι Θ) (ZA ι Θ) w (xs.map (·.get s)) (Xs.map a.eval):=by
   intro Xs
   induction Xs with
   | nil=>intro xs h _; injection h with h; subst h; rfl
   | cons X r ih =>
    intro xs h hc;unfold ZB at h;split at h
    ·rename_i x l h1 h2;cases h;simp only [List.all_cons,y7] at hc;refine ⟨_,_,rfl,?_,ih h2 hc.2⟩;have hX:=(R.opd h1).1;have hk:=hc.1;show IN ι (JA ga ι Θ) (ZA ι Θ) w (x.get s) (a.eval X);cases hg:x.get s <;> rw [hg] at hX hk <;> first | exact hX | (simp [AV.capOk] at hk; done)
    ·cases h
  have lw:fs=#[]:=Array.eq_empty_of_size_eq_zero hfs;refine ⟨rfl,.func (.func f) #[] (Xs.map a.eval),by simp [execOp,ho,Instr.makeFunc,lw],⟨Xs.map a.eval,rfl,?_⟩,trivial⟩;simp_all
 ·cases hr
theorem DA.turnRow {t n b:Nat} (hb:ι t n=some b) (xc:ι.ob t n=none) {r:List qA} {new:Array Value} {ae:TypeId} (xb:w'.heap[b]?=some (.cells new ae (0,0))) (hk:WA (fun k=>k=b) w w') (ja:uB ι Θ (JA ga ι Θ) w' r new) (lf:B<=b\/F0.r b) (tz:new.size=ι.z b) :
  DA P O nt B F0 ga w0 D (s.setRow t n r) a w' ι Θ:=by
 have db:∀ b',b'<w.heap.size->b'≠b->w'.heap[b']?=w.heap[b']?:=fun b' h1 h=>hk.block b' h1 h
 have hB:xA (ZA ι Θ) (ZA ι Θ) w w':=⟨fun b' o u hc hn=>by
  have:b'≠b:=fun e=>hn (.inl (.inl ⟨t,n,e ▸ hb⟩))
  exact ⟨(World.cell?_of_block (w:=w) (a:=⟨b',o,none⟩) (db b' (IB hc) this)).trans hc,hn⟩⟩
 have hA:xA (JA ga ι Θ) (JA ga ι Θ) w w':=⟨fun b' o u hc hn=>by
  have:b'≠b:=fun e=>hn (.inr (.inl (.inl ⟨t,n,e ▸ hb⟩)))
  exact ⟨(World.cell?_of_block (w:=w) (a:=⟨b',o,none⟩) (db b' (IB hc) this)).trans hc,hn⟩⟩
 have ck:=R.mine t n b hb;have rb:=hk.size;refine ⟨R.defers,R.size,fun t=>nA.held (Ix.Le.refl _) hA hB _ _ (R.env t),R.ann,fun t' n' r' hr=>?_,fun t n b h=>?_,R.inj,fun k o h=>?_,R.tinj,R.apart,R.out,R.pin,?_,R.base,fun t' n' S h=>?_,fun t n H h=>(R.obs t n H h).grow rb,fun t=>nA.held (Ix.Le.refl _) hA hB _ _ (R.gen t),R.gann⟩
 ·simp only [tA.setRow] at hr;split at hr
  ·rename_i e;simp_all
  ·rename_i e;obtain ⟨h0,b',ia,ae,h1,h2,h3,h4⟩:=R.rows t' n' r' hr;have:b'≠b:=fun e'=>e (R.inj _ _ _ _ _ (e' ▸ h1) hb)
   exact ⟨h0,b',ia,ae,h1,(db b' (uA h2) this).trans h2,h3.held (Ix.Le.refl _) hA (fun _ _ h=>h),h4⟩
 ·obtain ⟨h1,h2,h3⟩:=R.mine t n b h;exact ⟨h1,by omega,h3⟩
 ·obtain ⟨h1,h2,h3,h4,ia,h5,h6⟩:=R.tok k o h;have:o.g≠b:=fun e=>R.apart k o t n h (e ▸ hb)
  grind
 ·refine R.kept.trans hk fun i hi h=>?_
  subst h;rcases ck.1 with h | h
  ·have:=R.base.1; omega
  ·exact h
 ·obtain ⟨p,H,h1,h2,h3,h4⟩:=R.objs t' n' S h;have th:∀ b',H b'->b'≠b:=fun b' hH e=>by
   subst e;have:=((R.obs _ _ _ h2).1 _ hH).2.2.1 t n hb;simp_all
  exact ⟨p,H,h1,h2,O.keep h3 (fun b' hH=>db b' (O.lt h3 hH) (th b' hH)) rb,h4.keep (fun t n b H h g=>⟨h,H,g⟩) fun x hx=>(db _ (uA hx) (th _ (O.main h3))).trans hx⟩
end
theorem XO (R:DA P O nt B F0 ga w0 D s a w ι Θ) {t n p z:Nat} (hp:ι t n=some p) (hz:ι.z p=z) {cl:Cl}:∀ {Xs:List Operand} {xs:List GA} {vs:List AV},ZB Xs=some xs->BD s cl t n xs=some vs->jC (Ix.row p z) (JA ga ι Θ) (fun b _=>b=p) w vs (Xs.map a.eval)
 | [],xs,vs,h,hl=>by
  injection h with h;subst h;injection hl with hl;subst hl;rfl
 | X :: Xs,xs,vs,h,hl=>by
  unfold ZB at h;split at h
  ·rename_i x l hx hr;injection h with h;subst h;unfold BD at hl;split at hl
   ·rename_i v wl hv jp;injection hl with hl;subst hl;refine ⟨_,_,rfl,?_,XO R hp hz hr jp⟩;have hX:=(R.opd hx).1;have hB:∀ (b o:Nat),b=p->ZA ι Θ b o:=fun b o h=>.inl (.inl ⟨t,n,h ▸ hp⟩)
    unfold WN at hv;split at hv
    ·rename_i t' n' off hg;split at hv
     ·rename_i e;injection hv with hv;subst hv;rw [hg,e.1,e.2] at hX;obtain ⟨b,hb,hv⟩:=aC.1 hX;rw [hp] at hb;injection hb with hb;subst hb;exact ⟨p,rfl,hv⟩
     ·cases hv
    ·rename_i t' n' sz off len cap hg;split at hv
     ·rename_i e;injection hv with hv;subst hv;rw [hg,e.1,e.2] at hX;obtain ⟨b,hb,h1,c,h2,h3,hv⟩:=OC.1 hX;rw [hp] at hb;injection hb with hb;subst hb;exact ⟨p,rfl,h1,c,h2,by rw [hz] at h3; exact h3,hv⟩
     ·rename_i e;rw [hg] at hX;refine xM R hB (fun t1 n1 b o hb1 _ ⟨sz1,off1,len1,cap1,hy⟩ h=>e ?_) hX hv fun t n h=>by cases h
      injection hy with e1 e2;subst h;exact R.inj _ _ _ _ _ (by rw [e1,e2]; exact hb1) hp
    ·rename_i f cs hg;split at hv
     ·rename_i hc;injection hv with hv;subst hv;rw [hg,List.isEmpty_iff.1 hc] at hX;exact hX
     ·cases hv
    ·rename_i y h1 h2 h3;exact xM R hB (fun t1 n1 b o _ _ ⟨sz1,off1,len1,cap1,hy⟩=>absurd hy (h2 _ _ _ _ _ _)) hX hv fun t n h=>absurd h (h1 _ _ _)
   ·cases hl
  ·cases h
theorem pW {av:Av} {cs:List AV} {us:List Value} (h:IA av w cs us) {cur:Array Value} (hc:∀ (j:Nat) (u:Value),us[j]?=some u->cur[j]?=some u):uB ι Θ av w (cs.map fun v=>⟨v,SC v⟩) cur:=by
 have h0:=BZ (ι:=ι) (Θ:=Θ) h hc;refine ⟨by simpa using h0.1,fun j x hx=>?_⟩;rw [yl] at hx;obtain ⟨v,hv,rfl⟩:=y8.1 hx;obtain ⟨u,h1,h2,h3,_⟩:=h0.2 j ⟨v,.no⟩ (by rw [yl,hv]; rfl);refine ⟨u,h1,h2,h3,?_⟩;unfold SC;split
 ·rename_i b l hh;simp only at h3;obtain ⟨A,c,hv,_,_,hn,_⟩:=(by simpa [QA,xB] using h3:xB av w (.sl true _) u);obtain ⟨rfl,e1,rfl⟩:=hn rfl;exact ⟨none,0,by rw [hv,e1]⟩
 ·trivial
theorem FZ (R:DA P O nt B F0 ga w0 D s a w ι Θ) {call:OA} (oa:∀ f args S r,call f args S=some r->EA P O f args S r) {f:FuncId} {Xs:Array Operand} {ts:Array TypeId} {xs:List GA} (hx:ZB Xs.toList=some xs) (ho:o.op=.call { callee:=.value (.func f),args:=Xs,argTypes:=ts }) (hd:∀ d,o.dst=some d->d<nt) {cl:Cl} {xe:qA × wB} (hr:(K.callr cl f xs).run call s=some xe) {g} {s':tA} (he:sA.eff ⟨o.dst,.callr cl f xs,g⟩ s xe=some s')
  {Kn:Act->World->Prop} {Q:Exit->Act->World->Prop} (hK:∀ a' w',fB P O nt B F0 ga w0 (fun t=>D t\/o.dst=some t) s' a' w'->Kn a' w'):o.wp P a w Kn Q:=by
 simp only [K.run] at hr;split at hr
 ·rename_i t n _;split at hr
  ·split at hr
   ·rename_i r vs hm hl;split at hr
    ·rename_i nb;obtain ⟨q,hc,hr⟩:=y0.1 hr;split at hr
     ·rename_i cs hq;split at hr
      ·rename_i ea;cases hr;simp only [sA.eff] at he;cases he;obtain ⟨q1,q2⟩:=q;simp only at hq;subst hq;obtain ⟨xc,p,cur,ty,hp,ba,ja,lf,eg⟩:=R.rows t n r hm;have sa:UQ P O f vs (some (.agg (r.map (·.v)))) (q1,some (.agg cs)):=oa f (.undef :: .undef :: vs) _ _ hc;have rc:∀ x∈r.map (·.v),x.free0=true:=fun x hx=>by
        grind
       have sh:(Xs.toList.map a.eval).toArray=Xs.map a.eval:=by rw [<- Array.toList_map,yE]
       have run:(execOp a.eval o).run P w=.ok (.enter f (Xs.map a.eval)) w:=by
        simp only [execOp,ho,resolve,Act.eval,Deferred.ofValue,Sem.run_bind,Sem.run_pure,Result.andThen_ok,invoke];have:=sa.1 (#[]++Xs.map a.eval++#[]) w;simp_all
       unfold Oper.wp;rw [run,Oper.upon_enter];have hC:=sa.2 (JA ga ι Θ) w _ p cur ty (R.lowR hp) (fun o=>.inr (.inl (.inl ⟨t,n,hp⟩))) ba (by simpa using ja.1) (by simpa using HC ja.rep rc) (XO R hp eg.symm hx hl);rw [sh] at hC;refine hC.mono ?_;rintro e w' ⟨v,ia,ae,rfl,hv,ai,rb,mb,hk⟩;have jh:uB ι Θ (JA ga ι Θ) w' (cs.map fun v=>⟨v,SC v⟩) ia:=pW mb fun j u hu=>by
        grind
       have R':=R.turnRow hp xc ai hk jh lf (rb.trans eg);exact hK _ _ ⟨ι,Θ,(R'.putN (x:=⟨_,.no⟩) hd (fE hv) trivial).more fun _ h=>.inl h⟩
      ·cases hr
     ·cases hr
    ·cases hr
   ·cases hr
  ·cases hr
 ·cases hr
end
end
section
open Go Go.RowKit
section
variable {P:Program} {O:OB} {nt B:Nat} {F0:DH} {ga:Av} {w0:World} {D:Nat->Prop} {s:tA} {a:Act} {w w':World} {ι:Ix} {Θ:tE} {o:Oper}
theorem aH {av:Av} {x:AV} (h:x.scal=true):xB av w x x.scalV/\x.scalV.oneCell'=true:=by
 cases x <;> first | (simp [AV.scal] at h; done) | exact ⟨rfl,rfl⟩
theorem qN {av:Av}:∀ {cs:List AV},cs.all AV.scal=true->IA av w cs (cs.map AV.scalV)
 | [],_=>rfl
 | x :: r,h=>by
  simp only [List.all_cons,y7] at h;exact ⟨_,_,rfl,(aH h.1).1,(aH (av:=av) (w:=w) h.1).2,qN h.2⟩
theorem NG {av:Av} {x:AV} (h:x.flat=true):xB av w x x.flatV:=by
 cases x with
 | agg cs=>exact ⟨_,rfl,by simpa using qN (av:=av) (w:=w) h⟩
 | int k n=>exact (aH (x:=.int k n) rfl).1
 | bool b=>exact (aH (x:=.bool b) rfl).1
 | str b=>exact (aH (x:=.str b) rfl).1
 | _=>simp [AV.flat,AV.scal] at h
theorem r8 {av avb:Av} {x:AV} (h:x.flat=true):nA ι av avb w x x.flatV:=by
 have h1:=NG (av:=av) (w:=w) h;cases x with
 | agg cs=>obtain ⟨us,hv,hc⟩:=h1; exact ⟨us,hv,aB hc⟩
 | _=>first | exact h1 | (simp [AV.flat,AV.scal] at h; done)
theorem dL {av avb:Av} {x:AV} {v:Value} (hf:x.flat=true) (h:nA ι av avb w x v):v=x.flatV:=by
 cases x with
 | agg cs =>
  obtain ⟨us,hv,hc⟩:=h;subst hv;have key:∀ {cs:List AV} {us:List Value},cs.all AV.scal=true->zA ι av w cs us->us=cs.map AV.scalV:=by
   intro cs
   induction cs with
   | nil=>intro us _ h; simpa [zA] using h
   | cons x r ih =>
    intro us hf h;simp only [zA] at h;obtain ⟨u,na,rfl,h0,_,h⟩:=h;simp only [List.all_cons,y7] at hf;rw [yf,ih hf.2 h];congr 1;cases x <;> first | exact h0 | (simp [AV.scal] at hf; done)
  have:=key hf hc;show Value.agg us=.agg (cs.map AV.scalV).toArray;rw [<- this,yE]
 | int k n=>exact h
 | bool b=>exact h
 | str b=>exact h
 | _=>simp [AV.flat,AV.scal] at hf
theorem NX {v:Value} {x:AV} (h:BX v=some x) (hf:x.flat=true):v=x.flatV :=
 dL (ι:=Ix.none) (av:=fun _ _=>False) (avb:=fun _ _=>False) (w:=default) hf (ZT h _ _ _ _)
theorem ZS (a b:ByteArray):(a == b)=decide (a=b):=by
 obtain ⟨a⟩:=a;obtain ⟨b⟩:=b;rw [Bool.eq_iff_iff];simp only [decide_eq_true_eq,ByteArray.mk.injEq];exact beq_iff_eq (α:=Array UInt8)
def iC {κ:Type} [DecidableEq κ] (L:List (κ × Value)) (n:κ) (m:Nat):Option (Nat × Value):=((L.map (·.1)).idxOf? n).bind fun i=>(L[i]?).map fun p=>(m + i,p.2)
theorem jG {κ:Type} [DecidableEq κ] (p:κ × Value) (L:List (κ × Value)) (n:κ) (m:Nat):iC (p :: L) n m=if n=p.1 then some (m,p.2) else iC L n (m + 1):=by
 unfold iC;simp only [yf,List.idxOf?_cons];by_cases hk:n=p.1
 ·subst hk; simp
 ·have hb:(p.1 == n)=false:=by simpa using fun e:p.1=n=>hk e.symm
  simp only [hb,hk,if_false];cases hi:List.idxOf? n (List.map (fun x=>x.1) L) with
  | none=>simp
  | some i=>simp [Nat.add_assoc,Nat.add_comm 1 i]
theorem cN (k:IntKind) (n:Int):∀ (es:List MapEntry) (L:List (Int × Value)) (m:Nat),es.map (fun e=>(e.key,e.val))=L.map (fun p=>(Value.int k p.1,p.2)) →
   Instr.findNow (.int k) (.int k n) es m=some (iC L n m)
 | [],[],m,_=>by simp [Instr.findNow,iC]
 | [],_ :: _,_,h=>by simp at h
 | _ :: _,[],_,h=>by simp at h
 | e :: es,p :: L,m,h=>by
  simp only [yf,List.cons.injEq,Prod.mk.injEq] at h;obtain ⟨⟨h1,h2⟩,h3⟩:=h;have ih:=cN k n es L (m + 1) h3;have hs:Instr.sameNow (.int k) (.int k n) e.key=some (n == p.1):=by rw [h1]; simp [Instr.sameNow]
  simp only [Instr.findNow,hs,jG];by_cases hk:n=p.1
  ·subst hk; simp [h2]
  ·have ra:(n == p.1)=false:=by simpa using hk
   simp only [ra,ih,hk,if_false]
theorem bN (n:ByteArray):∀ (es:List MapEntry) (L:List (ByteArray × Value)) (m:Nat),es.map (fun e=>(e.key,e.val))=L.map (fun p=>(Value.string p.1,p.2)) →
   Instr.findNow .string (.string n) es m=some (iC L n m)
 | [],[],m,_=>by simp [Instr.findNow,iC]
 | [],_ :: _,_,h=>by simp at h
 | _ :: _,[],_,h=>by simp at h
 | e :: es,p :: L,m,h=>by
  simp only [yf,List.cons.injEq,Prod.mk.injEq] at h;obtain ⟨⟨h1,h2⟩,h3⟩:=h;have ih:=bN n es L (m + 1) h3;have hs:Instr.sameNow .string (.string n) e.key=some (decide (n=p.1)):=by
   rw [h1];simp only [Instr.sameNow,ZS]
  simp only [Instr.findNow,hs,jG];by_cases hk:n=p.1
  ·subst hk; simp [h2]
  ·simp only [hk,decide_false,ih,if_false]
theorem BQ {T:TypeId} {k:IntKind} (u:P.underlying T=some (.int k)):TI P T (fun n:Int=>Value.int k n) where
 check empty n w:=by
  have hq:∀ (d:Nat),(Instr.checkKey empty (d + 1) T (.int k n)).run P w=.ok () w:=fun d=>by simp [Instr.checkKey,run_underlying u]
  exact hq 9999
 find n es L w h:=by
  simp only [Instr.findKey,Sem.run_bind,run_underlying u,Result.andThen_ok,cN k n es L 0 h,iC,yb,Sem.run_pure]
 same n:=by
  have hq:∀ (d:Nat),Instr.sameBits (d + 1) (.int k n) (.int k n)=true:=fun d=>by simp [Instr.sameBits]
  exact hq 9999
theorem NQ {T:TypeId} (u:P.underlying T=some .string):TI P T Value.string where
 check empty n w:=by
  have hq:∀ (d:Nat),(Instr.checkKey empty (d + 1) T (.string n)).run P w=.ok () w:=fun d=>by simp [Instr.checkKey,run_underlying u]
  exact hq 9999
 find n es L w h:=by
  simp only [Instr.findKey,Sem.run_bind,run_underlying u,Result.andThen_ok,bN n es L 0 h,iC,yb,Sem.run_pure]
 same n:=by
  have hq:∀ (d:Nat),Instr.sameBits (d + 1) (.string n) (.string n)=true:=fun d=>by simp [Instr.sameBits,ZS]
  exact hq 9999
structure MJ (ty:GX) (κ:Type) [DecidableEq κ] (ke:κ->Value) (kx:κ->AV):Prop where
 val:∀ a,(kx a).flatV=ke a
 eq:∀ a b,aQ (kx a) (kx b)=decide (a=b)
 of:∀ x,jK ty x=true->∃ a,x=kx a
 flat:∀ a,(kx a).flat=true
section
variable {κ:Type} [DecidableEq κ] {ke:κ->Value} {kx:κ->AV} {ty:GX}
theorem gQ (K:MJ ty κ ke kx) (n:κ):∀ M:List (κ × AV),kG (M.map fun p=>[kx p.1,p.2]) (kx n)=EE M n
 | []=>rfl
 | p :: r=>by
  simp only [yf,kG,EE,K.eq,decide_eq_true_eq,gQ K n r];by_cases h:p.1=n
  ·rw [if_pos h,if_pos h.symm]
  ·rw [if_neg h,if_neg fun e=>h e.symm]
theorem jQ (K:MJ ty κ ke kx) (n:κ) (v:AV):∀ M:List (κ × AV),nH (M.map fun p=>[kx p.1,p.2]) (kx n) v=(JP M n v).map fun p=>[kx p.1,p.2]
 | []=>rfl
 | p :: r=>by
  simp only [yf,nH,JP,K.eq,decide_eq_true_eq,jQ K n v r];by_cases h:p.1=n
  ·rw [if_pos h,if_pos h.symm]; rfl
  ·rw [if_neg h,if_neg fun e=>h e.symm]; rfl
theorem TO (g:AV->Value) (n:κ):∀ M:List (κ × AV),EE (M.map fun p=>(p.1,g p.2)) n=(EE M n).map g
 | []=>rfl
 | p :: r=>by
  simp only [yf,EE,TO g n r];split <;> rfl
theorem mS (g:AV->Value) (n:κ) (v:AV):∀ M:List (κ × AV),JP (M.map fun p=>(p.1,g p.2)) n (g v)=(JP M n v).map fun p=>(p.1,g p.2)
 | []=>rfl
 | p :: r=>by
  simp only [yf,JP,mS g n v r];split <;> rfl
theorem dQ (K:MJ ty κ ke kx):∀ L:List (List AV),xK ty L=true->∃ M:List (κ × AV),L=M.map (fun p=>[kx p.1,p.2])/\∀ p∈M,p.2.flat=true
 | [],_=>⟨[],rfl,fun _ h=>by cases h⟩
 | e :: r,h=>by
  unfold xK at h;simp only [List.all_cons,y7] at h;obtain ⟨M,hM,hf⟩:=dQ K r h.2;have h1:=h.1;split at h1
  ·rename_i k v;simp only [y7] at h1;obtain ⟨n,rfl⟩:=K.of k h1.1;exact ⟨(n,v) :: M,by rw [hM]; rfl,fun p hp=>by
    rcases List.mem_cons.1 hp with rfl | hp
    ·exact h1.2
    ·exact hf p hp⟩
  ·cases h1
theorem fQ (K:MJ ty κ ke kx) (M:List (κ × AV)):(M.map fun p=>[kx p.1,p.2]).map IY=(M.map fun p=>(p.1,p.2.flatV)).map fun p=>(ke p.1,p.2):=by
 rw [J,J];apply yo;intro p _;simp [IY,K.val]
end
theorem jM (k:IntKind):MJ (.some k) Int (fun n=>Value.int k n) (fun n=>.int k n) where
 val _:=rfl
 eq a b:=by simp [aQ]
 of x h:=by
  cases x <;> first | (simp [jK] at h; done) | (simp only [jK,decide_eq_true_eq] at h; subst h; exact ⟨_,rfl⟩)
 flat _:=rfl
theorem kM:MJ .none ByteArray Value.string AV.str where
 val _:=rfl
 eq a b:=by simp [aQ]
 of x h:=by
  cases x <;> first | (simp [jK] at h; done) | exact ⟨_,rfl⟩
 flat _:=rfl
inductive KV where
 | i (k:IntKind) (n:Int)
 | s (b:ByteArray)
 deriving DecidableEq
def KV.av:KV->AV
 | .i k n=>.int k n
 | .s b=>.str b
def KV.kd:KV->Option IntKind
 | .i k _=>some k
 | .s _=>none
abbrev cW (l:List (Option IntKind)):={ a:List KV // a.map KV.kd=l }
theorem sQ:∀ a b:List KV,FO (a.map KV.av) (b.map KV.av)=decide (a=b)
 | [],[]=>rfl
 | [],b :: r=>by cases b <;> rfl
 | a :: r,[]=>by cases a <;> rfl
 | a :: r,b :: r'=>by
  have ih:=sQ r r';cases a <;> cases b <;> simp [KV.av,FO,ih,Bool.decide_and]
theorem fM:∀ (l:List (Option IntKind)) (cs:List AV),qJ l cs=true->∃ a:List KV,a.map KV.kd=l/\cs=a.map KV.av
 | [],[],_=>⟨[],rfl,rfl⟩
 | [],_ :: _,h=>by simp [qJ] at h
 | k :: r,[],h=>by cases k <;> simp [qJ] at h
 | k :: r,c :: cs,h=>by
  cases k with
  | none =>
   cases c <;> simp only [qJ] at h <;> first | (cases h; done) | skip
   rename_i b;obtain ⟨a,h1,h2⟩:=fM r cs h;exact ⟨.s b :: a,by simp [KV.kd,h1],by simp [KV.av,h2]⟩
  | some k =>
   cases c <;> simp only [qJ] at h <;> first | (cases h; done) | skip
   rename_i k' n;simp only [y7,decide_eq_true_eq] at h;obtain ⟨rfl,h⟩:=h;obtain ⟨a,h1,h2⟩:=fM r cs h;exact ⟨.i k n :: a,by simp [KV.kd,h1],by simp [KV.av,h2]⟩
theorem CV (a:List KV):(a.map KV.av).all AV.scal=true:=by
 simp only [List.all_map,y5];intro x _;cases x <;> rfl
theorem gM (l:List (Option IntKind)):MJ (.agg l) (cW l) (fun a=>.agg ((a.1.map KV.av).map AV.scalV).toArray) (fun a=>.agg (a.1.map KV.av)) where
 val _:=rfl
 eq a b:=by
  simp only [aQ,sQ];by_cases h:a.1=b.1
  ·rw [decide_eq_true h,decide_eq_true (Subtype.ext h)]
  ·rw [decide_eq_false h,decide_eq_false fun e=>h (congrArg Subtype.val e)]
 of x h:=by
  cases x <;> first | (simp [jK] at h; done) | skip
  rename_i cs;obtain ⟨a,h1,h2⟩:=fM l cs h;exact ⟨⟨a,h1⟩,by rw [h2]⟩
 flat a:=CV a.1
theorem OY:∀ a b:List KV,a.map KV.kd=b.map KV.kd->zH ((a.map KV.kd).map iE) (a.map KV.av) (b.map KV.av)=some (decide (a=b))
 | [],[],_=>rfl
 | [],_ :: _,h=>by simp at h
 | _ :: _,[],h=>by simp at h
 | a :: r,b :: r',h=>by
  simp only [yf,List.cons.injEq] at h;have ih:=OY r r' h.2;cases a <;> cases b <;> simp only [KV.kd,reduceCtorEq,Option.some.injEq,false_and] at h
  ·obtain ⟨rfl,h⟩:=h;rename_i n m;by_cases e:n=m
   ·subst e; simp [KV.kd,KV.av,iE,zH,ih,-J]
   ·simp [KV.kd,KV.av,iE,zH,e]
  ·rename_i n m;by_cases e:n=m
   ·subst e; simp [KV.kd,KV.av,iE,zH,ih,-J]
   ·simp [KV.kd,KV.av,iE,zH,e]
theorem zJ {t:TypeId} {ks:List Nat} (h:lK P t=some ks):TC P 8 t=some ks/\TD P t=some true:=by
 unfold lK at h;split at h
 ·cases h
 ·split at h
  ·rename_i ij; exact ⟨h,by simp [TD,ij]⟩
  ·rename_i ij; exact ⟨h,by simp [TD,ij]⟩
  ·cases h
theorem AY {T:TypeId} {l:List (Option IntKind)} (ht:lK P T=some (l.map iE)) (a b:cW l) (w:World) :
  (Op.equal T (.agg ((a.1.map KV.av).map AV.scalV).toArray) (.agg ((b.1.map KV.av).map AV.scalV).toArray)).run P w=.ok (decide (a=b)) w:=by
 obtain ⟨hk,hA⟩:=zJ ht;have he:=OY a.1 b.1 (a.2.trans b.2.symm);rw [a.2] at he;have hd:decide (a.1=b.1)=decide (a=b):=by
  by_cases h:a.1=b.1
  ·rw [decide_eq_true h,decide_eq_true (Subtype.ext h)]
  ·rw [decide_eq_false h,decide_eq_false fun e=>h (congrArg Subtype.val e)]
 rw [hd] at he;have hl:∀ c:cW l,zA Ix.none (fun _ _=>False) w (c.1.map KV.av) (((c.1.map KV.av).map AV.scalV).toArray.toList.take (l.map iE).length):=fun c=>by
  rw [List.take_of_length_le (by simp [<- c.2])];exact aB (qN (CV c.1))
 exact (rN (ι:=Ix.none) (av:=fun _ _=>False) (fun t ks h=>lM 7 t ks h) 9992 hk hA (hl a) (hl b) he).2
theorem kH (em:Bool) (w:World):∀ (n:Nat) (t:TypeId) (ks:List Nat),TC P n t=some ks->∀ (d:Nat) (us:Array Value) (off:Nat),off + ks.length<=us.size->(∃ a,(part t us off).run P w=.ok a w/\(Instr.checkKey em (d + n) t a).run P w=.ok () w)/\(TD P t=some true->off=0->(Instr.checkKey em (d + n) t (.agg us)).run P w=.ok () w)
 | 0,_,_,h=>by cases h
 | n + 1,t,ks,hk=>by
  intro d us off jb;have whole:TD P t=some true->∀ vs:Array Value,ks.length<=vs.size->LA P t=some ks.length/\(Instr.checkKey em (d + (n + 1)) t (.agg vs)).run P w=.ok () w:=by
   intro hA vs dv;unfold TC at hk;split at hk
   ·rename_i k gd;unfold TD at hA;unfold zP at gd;split at gd <;> first | (cases gd; done) | (rename_i ht _; rw [ht] at hA; injection hA with hA; cases hA) | (rename_i ht; rw [ht] at hA; injection hA with hA; cases hA)
   ·split at hk
    ·rename_i m e ht;obtain ⟨l,hl,hk⟩:=y0.1 hk;split at hk
     ·rename_i hc;injection hk with hk;subst hk;obtain ⟨i,hi⟩:=kL hc.2.1;refine ⟨hc.2.2,?_⟩;have rb:i.size=l.length:=by
       have:=hc.2.1;simp only [LA,hi,yd,Option.some.injEq] at this;exact this
      have dg:(ye m l).flatten.length=m * l.length:=by simp
      rw [show d + (n + 1)=(d + n) + 1 from rfl,Instr.checkKey];simp only [Sem.run_bind,run_underlying ht,Result.andThen_ok];simp only [Std.Legacy.Range.forIn_eq_forIn_range',Std.Legacy.Range.size,Nat.sub_zero,Nat.add_one_sub_one,Nat.div_one];have each:∀ j∈List.range' 0 m,∃ a,(part e vs (j * P.cellsOf e)).run P w=.ok a w/\(Instr.checkKey em (d + n) e a).run P w=.ok () w:=fun j hj=>by
       have iq:j<m:=by simpa using hj
       refine (kH em w n e l hl d vs (j * P.cellsOf e) ?_).1;rw [hc.1,<- yt];rw [dg] at dv;exact yp (Nat.mul_le_mul_right _ iq) dv
      generalize List.range' 0 m=is at each
      induction is with
      | nil=>simp
      | cons j is ih =>
       obtain ⟨a,p1,p2⟩:=each j (by simp);simp only [List.forIn_cons,Sem.run_bind,run_sizeOf w hi,Result.andThen_ok,p1,p2,Sem.run_pure];exact ih (fun y hy=>each y (by simp [hy]))
     ·cases hk
    ·rename_i fs ht;split at hk
     ·cases hk
     ·obtain ⟨l,hl,hk⟩:=y0.1 hk;split at hk
      ·rename_i hc;injection hk with hk;subst hk;refine ⟨hc,?_⟩;rw [show d + (n + 1)=(d + n) + 1 from rfl,Instr.checkKey];simp only [Sem.run_bind,run_underlying ht,Result.andThen_ok];rw [<- Array.forIn_toList];have go:∀ (L:List Field) (i:Nat) (l:List Nat),WJ (TC P n) i L=some l->i + l.length<=vs.size->∀ f∈L,f.name≠"_"/\∃ a,(part f.type vs f.offset).run P w=.ok a w/\(Instr.checkKey em (d + n) f.type a).run P w=.ok () w:=by
        intro L
        induction L with
        | nil=>intro i l _ _ f hf; cases hf
        | cons g L ih =>
         intro i l hl jb f hf;unfold WJ at hl;obtain ⟨l1,h1,hl⟩:=y0.1 hl;split at hl
         ·rename_i hn;obtain ⟨l2,h2,rfl⟩:=y8.1 hl;rw [y9] at jb;rcases List.mem_cons.1 hf with rfl | hf
          ·exact ⟨hn.1,(kH em w n _ l1 h1 d vs f.offset (by rw [hn.2]; omega)).1⟩
          ·exact ih (i + l1.length) l2 h2 (by omega) f hf
         ·cases hl
       have each:=go fs.toList 0 l hl (by omega);clear go hl;generalize fs.toList=L at each
       induction L with
       | nil=>simp
       | cons f L ih =>
        obtain ⟨hn,a,p1,p2⟩:=each f (by simp);simp only [List.forIn_cons,Sem.run_bind,hn,ne_eq,not_false_eq_true,if_true,Result.andThen_ok,p1,p2,Sem.run_pure];exact ih (fun y hy=>each y (by simp [hy]))
      ·cases hk
    ·cases hk
  refine ⟨?_,fun hA h0=>(whole hA us (by omega)).2⟩;by_cases hA:TD P t=some true
  ·obtain ⟨h1,h2⟩:=whole hA (us.extract off (off + ks.length)) (by simp; omega);exact ⟨_,(DK hA h1 us off).1,h2⟩
  ·have rf:=hk;unfold TC at hk;split at hk
   ·rename_i k gd;injection hk with hk;subst hk;simp only [yz,List.length_nil] at jb;have hu:us[off]?=some us[off]:=yH (by omega);have hp:=(RS (w:=w) 0 gd hu hu).1;refine ⟨_,hp,?_⟩;unfold zP at gd;rw [show d + (n + 1)=(d + n) + 1 from rfl];split at gd
    ·rename_i ht _; simp [Instr.checkKey,run_underlying ht]
    ·rename_i ht _; simp [Instr.checkKey,run_underlying ht]
    ·rename_i ht _; simp [Instr.checkKey,run_underlying ht]
    ·cases gd
   ·split at hk
    ·rename_i ht; exact absurd (by simp [TD,ht]) hA
    ·rename_i ht; exact absurd (by simp [TD,ht]) hA
    ·cases hk
theorem DV {T:TypeId} {l:List (Option IntKind)} (ht:lK P T=some (l.map iE)) (a:cW l) (w:World):∀ (es:List MapEntry) (L:List (cW l × Value)) (m:Nat),es.map (fun e=>(e.key,e.val))=L.map (fun p=>(Value.agg ((p.1.1.map KV.av).map AV.scalV).toArray,p.2)) →
  (Instr.findAsking T (.agg ((a.1.map KV.av).map AV.scalV).toArray) es m).run P w=.ok (iC L a m) w
 | [],[],m,_=>by simp [Instr.findAsking,iC]
 | [],_ :: _,_,h=>by simp at h
 | _ :: _,[],_,h=>by simp at h
 | e :: es,p :: L,m,h=>by
  simp only [yf,List.cons.injEq,Prod.mk.injEq] at h;obtain ⟨⟨h1,h2⟩,h3⟩:=h;have ih:=DV ht a w es L (m + 1) h3;have he:=AY (P:=P) ht a p.1 w;simp only [Instr.findAsking,Sem.run_bind,h1,he,Result.andThen_ok,jG,Sem.run_ite];by_cases hk:a=p.1
  ·simp [hk,h2]
  ·simp [hk,ih,-J]
theorem CQ {T:TypeId} {l:List (Option IntKind)} (ht:lK P T=some (l.map iE)):TI P T (fun a:cW l=>Value.agg ((a.1.map KV.av).map AV.scalV).toArray) where
 check empty a w:=by
  obtain ⟨hk,hA⟩:=zJ ht;exact (kH empty w 8 T _ hk 9992 _ 0 (by simp [<- a.2])).2 hA rfl
 find a es L w h:=by
  have hu:∃ desc,P.underlying T=some desc/\∀ x e,Instr.sameNow desc (.agg x) e=none:=by
   obtain ⟨hk,hA⟩:=zJ ht;unfold TD at hA;cases hd:P.underlying T with
   | none=>rw [hd] at hA; cases hA
   | some desc =>
    refine ⟨desc,rfl,fun x e=>?_⟩;cases desc <;> rfl
  obtain ⟨desc,hu,hn⟩:=hu;cases es with
  | nil =>
   cases L with
   | nil=>simp [Instr.findKey,run_underlying hu,Instr.findNow]
   | cons=>simp at h
  | cons e es =>
   have:=DV ht a w (e :: es) L 0 h;simp only [Instr.findKey,Sem.run_bind,run_underlying hu,Result.andThen_ok,Instr.findNow,hn,this,iC,yb]
 same a:=by
  have hq:∀ l:List KV,(((l.map KV.av).map AV.scalV).zip ((l.map KV.av).map AV.scalV)).all (fun (x,y)=>Instr.sameBits 9999 x y)=true:=by
   intro l
   induction l with
   | nil=>rfl
   | cons c r ih =>
    simp only [yf,List.zip_cons_cons,List.all_cons,ih,Bool.and_true];cases c <;> simp [KV.av,AV.scalV,Instr.sameBits,ZS]
  show Instr.sameBits (9999 + 1) _ _=true;simp only [Instr.sameBits,beq_self_eq_true,Bool.true_and];exact hq a.1
theorem i1 {e:TypeId} {z:AV} (h:((P.info? e).bind (·.zero)).bind BX=some z) (w:World):∃ zv,(zeroValue e).run P w=.ok zv w/\BX zv=some z:=by
 obtain ⟨zv,h1,h2⟩:=y0.1 h;obtain ⟨i,hi,hz⟩:=y0.1 h1;exact ⟨zv,by simp [zeroValue,typeInfo,hi,hz],h2⟩
theorem iS {κ:Type} [DecidableEq κ] {ke:κ->Value} {kx:κ->AV} {ty:GX} (R:DA P O nt B F0 ga w0 D s a w ι Θ) (K:MJ ty κ ke kx) {t n:Nat} {v:Value} (hv:nA ι (JA ga ι Θ) (ZA ι Θ) w (.mp t n) v) {L:List (List AV)} (hL:(s.obj t n).bind mD=some L) (hk:xK ty L=true) :
  ∃ (b:Nat) (H:Nat->Prop) (M:List (κ × AV)),v=.map (some b)/\ι t n=some b/\ι.ob t n=some H/\(∀ x,H x ↔ x=b)/\L=M.map (fun p=>[kx p.1,p.2])/\(∀ p∈M,p.2.flat=true)/\SH ke w b (M.map fun p=>(p.1,p.2.flatV))/\∃ es clock,w.heap[b]?=some (.map es clock)/\FQ es clock:=by
 obtain ⟨b,hb,rfl⟩:=hv;obtain ⟨S,hS,hm⟩:=y0.1 hL;obtain ⟨p,H,hp,za,xb,_⟩:=R.objs t n S hS;rw [hb] at hp;injection hp with hp;subst hp;have gm:S=sG L:=by
  unfold mD at hm;split at hm
  ·injection hm with hm; subst hm; rfl
  ·cases hm
 subst gm;obtain ⟨hH,es,clock,he,ge,dd⟩:=(O.maps L H b w).1 xb;obtain ⟨M,rfl,hf⟩:=dQ K L hk;exact ⟨b,H,M,rfl,hb,za,hH,rfl,hf,⟨es,clock,he,ge.trans (fQ K M)⟩,es,clock,he,dd⟩
theorem pQ {κ:Type} [DecidableEq κ]:∀ {M:List (κ × AV)} {n:κ} {x:AV},(∀ p∈M,p.2.flat=true)->EE M n=some x->x.flat=true
 | [],_,_,_,h=>by cases h
 | p :: r,n,x,hf,h=>by
  unfold EE at h;split at h
  ·injection h with h; subst h; exact hf p yh
  ·exact pQ (fun q hq=>hf q (yr _ hq)) h
theorem CO {κ:Type} [DecidableEq κ] {ke:κ->Value} {kx:κ->AV} {ty:GX} (R:DA P O nt B F0 ga w0 D s a w ι Θ) (K:MJ ty κ ke kx) {T kT eT:TypeId} (KL:TI P kT ke) (hT:P.underlying T=some (.map kT eT)) {zero:AV} (hz:((P.info? eT).bind (·.zero)).bind BX=some zero) (hzf:zero.flat=true)
  {X I:Operand} {y i:GA} (hx:opd X=some y) (hi:opd I=some i) {ok:Bool} (ho:o.op=.lookup T X I ok) {t n:Nat} (hy:y.get s=.mp t n) {L:List (List AV)} (hL:(s.obj t n).bind mD=some L) (hk:xK ty L=true) (xj:jK ty (i.get s)=true) :
  LK P ga a w ι Θ o ⟨if ok then .tup [(kG L (i.get s)).getD zero,.bool (kG L (i.get s)).isSome] else (kG L (i.get s)).getD zero,.no⟩:=by
 have hX:=(R.opd hx).1;have hI:=(R.opd hi).1;rw [hy] at hX;obtain ⟨b,H,M,hv,hb,za,hH,rfl,hf,xb,_⟩:=iS R K hX hL hk;obtain ⟨k,gx⟩:=K.of _ xj;rw [gx] at hI ⊢;have zw:(kx k).flat=true:=K.flat k;have bu:a.eval I=ke k:=(dL zw hI).trans (K.val k);obtain ⟨zv,hzr,fq⟩:=i1 hz w;have hzv:=NX fq hzf;rw [gQ K];have df:(EE (M.map fun p=>(p.1,p.2.flatV)) k).getD zv=((EE M k).getD zero).flatV:=by
  rw [TO,hzv];cases EE M k <;> rfl
 have lg:((EE M k).getD zero).flat=true:=by
  cases hg:EE M k with
  | none=>exact hzf
  | some x=>exact pQ hf hg
 cases ok with
 | false =>
  have aa:=xb.lookup KL hT hzr k;rw [df] at aa;refine ⟨((EE M k).getD zero).flatV,by simp only [execOp,ho,hv,bu,Sem.run_bind,aa,Result.andThen_ok,Sem.run_pure],?_,trivial⟩;exact r8 lg
 | true =>
  have aa:=xb.lookup_ok KL hT hzr k;rw [df] at aa;have mh:(EE (M.map fun p=>(p.1,p.2.flatV)) k).isSome=(EE M k).isSome:=by rw [TO]; cases EE M k <;> rfl
  rw [mh] at aa;refine ⟨.tuple #[((EE M k).getD zero).flatV,.bool (EE M k).isSome],by simp only [execOp,ho,hv,bu,Sem.run_bind,aa,Result.andThen_ok,Sem.run_pure],?_,trivial⟩;refine ⟨_,rfl,_,_,rfl,?_,_,_,rfl,rfl,rfl⟩;exact QC (NG lg)
theorem SH.updateS {κ:Type} [DecidableEq κ] {P:Program} {T kT eT:TypeId} {ke:κ->Value} {w:World} {m:Nat} {L:List (κ × Value)} (h:SH ke w m L) (K:TI P kT ke) (hT:P.underlying T=some (.map kT eT)) {lv:Array MapEntry} {jv:Nat} (h0:w.heap[m]?=some (.map lv jv)) (dd:FQ lv jv) (k:κ) (v:Value) :
  ∃ es clock,(Instr.mapUpdate T (.map (some m)) (ke k) v).run P w=.ok () { w with heap:=w.heap.setIfInBounds m (.map es clock) }/\es.toList.map (fun e=>(e.key,e.val))=(JP L k v).map (fun p=>(ke p.1,p.2))/\FQ es clock:=by
 obtain ⟨es,clock,h1,h2⟩:=h;rw [h1] at h0;injection h0 with h0;injection h0 with e1 e2;subst e1;subst e2;obtain ⟨s1,s2⟩:=dd;have hg:(getObj m).run P w=.ok (.map es clock) w:=by simp [getObj,Sem.run,h1]
 have hf:=K.find k es.toList L w h2;have hi:=j5 L k v;have hl:es.toList.length=L.length:=by simpa using congrArg List.length h2
 cases hq:(L.map (·.1)).idxOf? k with
 | none =>
  rw [hq] at hf hi;refine ⟨es.push { key:=ke k,val:=v,born:=clock },clock + 1,?_,by rw [hi]; simp [h2],by simp [s1],fun i h=>?_⟩
  case refine_2 =>
   simp only [Array.size_push] at h;simp only [Array.getElem_push];split
   ·exact s2 _ _
   ·show clock=i;omega
  case refine_1 =>
   simp only [Instr.mapUpdate,Sem.run_bind,run_underlying hT,Result.andThen_ok,hg,K.check,hf,Option.bind_none];simp [setObj,Sem.run,h1]
 | some i =>
  rw [hq] at hf hi;have sw:i<L.length:=by have:=List.idxOf?_eq_some_iff.1 hq; simpa using this.1
  have hk:(L[i]).1=k:=by have:=List.idxOf?_eq_some_iff.1 hq; simpa using this.2.1
  have jr:i<es.size:=by
   have:es.size=L.length:=by simpa using hl
   omega
  have xj:(es[i]).key=ke k:=by
   have:=congrArg (fun l=>(l[i]?).map (·.1)) h2;simp only [yl,Array.getElem?_toList,yH jr,yd,yn sw,hk,Option.some.injEq] at this;exact this
  refine ⟨es.modify i fun e=>{ e with key:=ke k,val:=v },clock,?_,?_,by simp [s1],fun j h=>?_⟩
  case refine_3 =>
   simp only [Array.getElem_modify];split <;> exact s2 _ _
  case refine_1 =>
   have hL:L[i]?=some L[i]:=yn sw;have he:es[i]?=some es[i]:=yH jr;simp only [Instr.mapUpdate,Sem.run_bind,run_underlying hT,Result.andThen_ok,hg,K.check,hf,U,hL,yd,he,Option.getD_some,xj];simp [Instr.keyThatStays,K.same,setObj,Sem.run,h1]
  case refine_2 =>
   rw [hi];apply List.ext_getElem?;intro j;have hj:=congrArg (fun l=>l[j]?) h2;simp only [yl,Array.getElem?_toList] at hj;simp only [yl,Array.getElem?_toList,Array.getElem?_modify,List.getElem?_set];by_cases ou:i=j
   ·subst ou;simp [yH jr,sw]
   ·simp only [if_neg ou];exact hj
theorem eH {κ:Type} [DecidableEq κ] {ke:κ->Value} {kx:κ->AV} {ty:GX} (R:DA P O nt B F0 ga w0 D s a w ι Θ) (K:MJ ty κ ke kx) {T kT eT:TypeId} (KL:TI P kT ke) (hT:P.underlying T=some (.map kT eT))
  {X I Y:Operand} {x i y:GA} (hx:opd X=some x) (hi:opd I=some i) (hyo:opd Y=some y) (ho:o.op=.mapUpdate T X I Y\/o.op=.insert T X I Y) (hd:∀ d,o.dst=some d->d<nt) {t n:Nat} (gc:x.get s=.mp t n) {L:List (List AV)} (hL:(s.obj t n).bind mD=some L) (hk:xK ty L=true) (xj:jK ty (i.get s)=true) (hvf:(y.get s).flat=true) :
  ∃ w',(execOp a.eval o).run P w=.ok .skip w'/\fB P O nt B F0 ga w0 D ((s.setObj t n (sG (nH L (i.get s) (y.get s)))).put o.dst ⟨.undef,.no⟩) (a.put o.dst undef) w':=by
 have hX:=(R.opd hx).1;have hI:=(R.opd hi).1;have hY:=dL hvf (R.opd hyo).1;rw [gc] at hX;obtain ⟨b,H,M,hv,hb,za,hH,rfl,hf,xb,lv,jv,jw,dy⟩:=iS R K hX hL hk;obtain ⟨k,gx⟩:=K.of _ xj;rw [gx] at hI ⊢;have zw:(kx k).flat=true:=K.flat k;have bu:a.eval I=ke k:=(dL zw hI).trans (K.val k);have eb:=xb.lt;obtain ⟨es,clock,aa,ge,dd⟩:=xb.updateS KL hT jw dy k (y.get s).flatV;rw [mS] at ge;have gg:O.at_ (sG (nH (M.map fun p=>[kx p.1,p.2]) (kx k) (y.get s))) H b { w with heap:=w.heap.setIfInBounds b (.map es clock) }:=by
  refine (O.maps _ _ _ _).2 ⟨hH,es,clock,by simp [eb],?_,dd⟩;rw [jQ K,fQ K];exact ge
 have ed:WA H w { w with heap:=w.heap.setIfInBounds b (.map es clock) }:=⟨rfl,rfl,rfl,by simp,fun j _ hn=>by
  have:j≠b:=fun e=>hn ((hH j).2 e)
  simp only [Array.getElem?_setIfInBounds];rw [if_neg fun e:b=j=>this e.symm]⟩
 obtain ⟨ι',R2,_⟩:=R.turnObj hb za gg (xR.no rfl) (fun x hx=>.inl hx) ed;refine ⟨_,by rcases ho with ho | ho <;> simp only [execOp,ho,hv,bu,hY,Sem.run_bind,aa,Result.andThen_ok,Sem.run_pure],ι',Θ,R2.putN (x:=⟨.undef,.no⟩) hd trivial trivial⟩
section
variable (R:DA P O nt B F0 ga w0 D s a w ι Θ)
include R
theorem q9 {T:TypeId} (ho:o.op=.makeMap T none) {d:Nat} (fa:o.dst=some d) (hd:d<nt) (hD:¬ D d) :
  ∃ v w',(execOp a.eval o).run P w=.ok (.value v) w'/\fB P O nt B F0 ga w0 (fun t=>D t\/t=d) ((s.setObj d s.next (sG [])).put (some d) ⟨.mp d s.next,.no⟩) (a.put o.dst v) w':=by
 have aa:(execOp a.eval o).run P w=.ok (.value (.map (some w.heap.size))) (w.alloc (.map #[] 0)):=by
  simp [execOp,ho,Instr.makeMap]
 have hb:Below w.heap.size w (w.alloc (.map #[] 0)):=Below.alloc (Below.refl _ _) (y6 _) _;obtain ⟨ι',R2,hι,_⟩:=R.newObj (d:=d) (p:=w.heap.size) (H:=fun b=>b=w.heap.size) (S:=sG []) hb hD ((O.maps _ _ _ _).2 ⟨fun b=>Iff.rfl,#[],0,mK rfl,rfl,rfl,fun i h=>absurd h (by simp)⟩) (xR.no rfl) (fun b h=>Nat.le_of_eq h.symm);rw [fa];exact ⟨_,_,aa,ι',Θ,R2.put (x:=⟨.mp d s.next,.no⟩) hd ⟨_,hι,rfl⟩ trivial⟩
theorem o9 {T kT eT:TypeId} (hT:P.underlying T=some (.map kT eT)) {X:Operand} {x:GA} (hx:opd X=some x) (ho:o.op=.range T X) {t n:Nat} (gc:x.get s=.mp t n) {L:List (List AV)} (hL:(s.obj t n).bind mD=some L) {d:Nat} (fa:o.dst=some d) (hd:d<nt) (hD:¬ D d) :
  ∃ v w',(execOp a.eval o).run P w=.ok (.value v) w'/\fB P O nt B F0 ga w0 (fun t=>D t\/t=d) ((s.setObj d s.next (ZQ t n L.length [])).put (some d) ⟨.ptr d s.next 0,.no⟩) (a.put o.dst v) w':=by
 have hX:=(R.opd hx).1;rw [gc] at hX;obtain ⟨b,hb,hv⟩:=hX;obtain ⟨S,hS,hm⟩:=y0.1 hL;obtain ⟨p,H,hp,za,xb,_⟩:=R.objs t n S hS;rw [hb] at hp;injection hp with hp;subst hp;have gm:S=sG L:=by
  unfold mD at hm;split at hm
  ·injection hm with hm; subst hm; rfl
  ·cases hm
 subst gm;obtain ⟨hH,es,clock,he,ge,hc,_⟩:=(O.maps L H b w).1 xb;have da:es.size=L.length:=by simpa using congrArg List.length ge
 have hg:(getObj b).run P w=.ok (.map es clock) w:=by simp [getObj,Sem.run,he]
 have aa:(execOp a.eval o).run P w=.ok (.value (.pointer (some ⟨w.heap.size,0,none⟩))) (w.alloc (.mapIter (some b) clock #[] clock)):=by
  simp only [execOp,ho,hv,Instr.range,Sem.run_bind,run_underlying hT,Result.andThen_ok,hg,Sem.run_pure,run_newObj_alloc]
 have im:Below w.heap.size w (w.alloc (.mapIter (some b) clock #[] clock)):=Below.alloc (Below.refl _ _) (y6 _) _;obtain ⟨ι',R2,hι,_⟩:=R.newObj (d:=d) (p:=w.heap.size) (H:=fun b=>b=w.heap.size) (S:=ZQ t n L.length []) im hD ((O.iters _ _ _ _ (by rw [sO]; rfl)).2 ⟨fun b=>Iff.rfl,by simp⟩) (fun tm nm N seen e=>by
  rw [sO] at e;injection e with e;injection e with g1 e;injection e with g2 e;injection e with g3 g4;subst g1; subst g2; subst g3; subst g4;exact ⟨b,H,hb,za,by rw [<- da,<- hc]; exact mK rfl⟩) (fun b h=>Nat.le_of_eq h.symm)
 rw [fa];exact ⟨_,_,aa,ι',Θ,R2.put (x:=⟨.ptr d s.next 0,.no⟩) hd ⟨_,hι,rfl⟩ trivial⟩
theorem L6 {X:Operand} {x:GA} (hx:opd X=some x) (ho:o.op=.entry X) {t n tm nm N:Nat} {seen:List Nat} (gc:x.get s=.ptr t n 0) (hi:(s.obj t n).bind AO=some (tm,nm,N,seen)) {L:List (List AV)} (hL:(s.obj tm nm).bind mD=some L) {i:Nat} (hl:seen.getLast?=some i) (hN:L.length=N) {y v:AV} (ah:L[i]?=some [y,v]) (dg:(y.flat&&v.flat)=true) :
  LK P ga a w ι Θ o ⟨.tup [y,v],.no⟩:=by
 have hX:=(R.opd hx).1;rw [gc] at hX;obtain ⟨q,hq,hv⟩:=hX;obtain ⟨S,hS,pu⟩:=y0.1 hi;obtain ⟨p,H,hp,za,xb,tg⟩:=R.objs t n S hS;rw [hq] at hp;injection hp with hp;subst hp;obtain ⟨m,Hm,hm,ms,ba⟩:=tg tm nm N seen pu;obtain ⟨S2,uv,aj⟩:=y0.1 hL;obtain ⟨p2,H2,gn,sk,po,_⟩:=R.objs tm nm S2 uv;rw [hm] at gn;injection gn with gn;subst gn;have gm:S2=sG L:=by
  unfold mD at aj;split at aj
  ·injection aj with aj; subst aj; rfl
  ·cases aj
 subst gm;obtain ⟨hH2,es,clock,he,ge,hc,dd⟩:=(O.maps L H2 m w).1 po;have er:es.size=N:=by rw [<- hN]; simpa using congrArg List.length ge
 have nu:(getObj q).run P w=.ok (.mapIter (some m) N seen.toArray N) w:=by simp [getObj,Sem.run,ba]
 have lu:(getObj m).run P w=.ok (.map es clock) w:=by simp [getObj,Sem.run,he]
 have sm:i<es.size:=by
  have:=(yk.1 ah).1;omega
 have ti:seen.toArray.back?=some i:=by simpa using hl
 have ar:es.find? (fun e=>e.born == i)=some es[i]:=by
  rw [Array.find?_eq_some_iff_getElem];refine ⟨by simp [dd i sm],i,sm,rfl,fun j hj=>?_⟩;simp only [dd j (by omega),Bool.not_eq_true'];simp;omega
 have mr:es[i].key=y.flatV/\es[i].val=v.flatV:=by
  have:=congrArg (fun l=>l[i]?) ge;simp only [yl,ah,Array.getElem?_toList,yH sm,yd,Option.some.injEq,IY] at this;exact ⟨congrArg Prod.fst this,congrArg Prod.snd this⟩
 rw [y7] at dg;have uc:(clock != N)=false:=by simp [hc,er]
 refine ⟨.tuple #[y.flatV,v.flatV],?_,?_,trivial⟩
 ·simp only [execOp,ho,hv,Instr.entry,Sem.run_bind,nu,lu,ti,Result.andThen_ok,uc,yq,if_false,ar,mr.1,mr.2,Sem.run_pure]
 ·exact ⟨_,rfl,_,_,rfl,QC (NG dg.1),_,_,rfl,QC (NG dg.2),rfl⟩
end
theorem RW {v:Value} (h:mP v=some .nilP):v=.pointer none:=by
 unfold mP at h;split at h <;> first | rfl | (injection h with h; cases h; done) | (cases h; done)
theorem MX {v:Value} (h:mP v=some (.sl true [])):v=.slice none 0 0:=by
 unfold mP at h;split at h <;> first | rfl | (injection h with h; cases h; done) | (cases h; done)
theorem qZ {l:List AV} (h:HV l=true):l=[.nilP,.sl true []]:=by
 unfold HV at h;split at h
 ·rfl
 ·cases h
theorem EW {vs:List Value} (h:jE vs=some [.nilP,.sl true []]):vs=[.pointer none,.slice none 0 0]:=by
 cases vs with
 | nil=>cases h
 | cons v r =>
  simp only [jE] at h;split at h
  ·rename_i x l hx hl;injection h with h;injection h with h1 h2;subst h1;subst h2;cases r with
   | nil=>cases hl
   | cons v' r' =>
    simp only [jE] at hl;split at hl
    ·rename_i x' l' wg zj;injection hl with hl;injection hl with h1 h2;subst h1;subst h2;cases r' with
     | nil=>rw [RW hx,MX wg]
     | cons v'' r'' =>
      simp only [jE] at zj;split at zj <;> cases zj
    ·cases hl
  ·cases h
section
variable (R:DA P O nt B F0 ga w0 D s a w ι Θ)
include R
theorem M8 {T e:TypeId} (ib:gY P T=some e) (ho:o.op=.alloc T) {d:Nat} (fa:o.dst=some d) (hd:d<nt) (hD:¬ D d) :
  ∃ v w',(execOp a.eval o).run P w=.ok (.value v) w'/\fB P O nt B F0 ga w0 (fun t=>D t\/t=d) ((s.setObj d s.next (UV T e ⟨#[]⟩)).put (some d) ⟨.ptr d s.next 0,.no⟩) (a.put o.dst v) w':=by
 obtain ⟨l,hl,hb⟩:∃ l,UD P T=some l/\HV l=true:=by
  unfold gY at ib;split at ib
  ·rename_i h; exact y8.1 h
  ·cases ib
 obtain ⟨z,i,hi,bi,hrz,du⟩:=gC hl w;rw [qZ hb] at du;have fq:z.cells=#[.pointer none,.slice none 0 0]:=by
  apply Array.ext';exact EW du
 have aa:(execOp a.eval o).run P w=.ok (.value (.pointer (some ⟨w.heap.size,0,none⟩))) (w.alloc (.cells #[.pointer none,.slice none 0 0] T)):=by
  simp [execOp,ho,Instr.alloc,newVar,newRow,hrz,fq]
 have hb:Below w.heap.size w (w.alloc (.cells #[.pointer none,.slice none 0 0] T)):=Below.alloc (Below.refl _ _) (y6 _) _;obtain ⟨ι',R2,hι,_⟩:=R.newObj (d:=d) (p:=w.heap.size) (H:=fun b=>b=w.heap.size) (S:=UV T e ⟨#[]⟩) hb hD ((O.blds _ _ _ _ _ _).2 ⟨.slice none 0 0,.pointer none,mK rfl,.inl rfl,World.ownsRowF_nil _ _ _ _,by simp [Value.ownBlock],fun b=>by simp [Value.ownBlock]⟩) (xR.no rfl) (fun b h=>Nat.le_of_eq h.symm);rw [fa];exact ⟨_,_,aa,ι',Θ,R2.put (x:=⟨.ptr d s.next 0,.no⟩) hd ⟨_,hι,rfl⟩ trivial⟩
theorem x6 {T:TypeId} {kT eT:TypeId} (hT:P.underlying T=some (.map kT eT)) {X:Operand} {x:GA} (hx:opd X=some x) (ho:o.op=.call { callee:=.builtin .len,args:=#[X],argTypes:=#[T] }) {t n:Nat} (gc:x.get s=.mp t n) {L:List (List AV)} (hL:(s.obj t n).bind mD=some L) :
  LK P ga a w ι Θ o ⟨.int .i64 L.length,.no⟩:=by
 have hX:=(R.opd hx).1;rw [gc] at hX;obtain ⟨b,hb,hv⟩:=hX;obtain ⟨S,hS,hm⟩:=y0.1 hL;obtain ⟨p,H,hp,za,xb,_⟩:=R.objs t n S hS;rw [hb] at hp;injection hp with hp;subst hp;have gm:S=sG L:=by
  unfold mD at hm;split at hm
  ·injection hm with hm; subst hm; rfl
  ·cases hm
 subst gm;obtain ⟨hH,es,clock,he,ge,_⟩:=(O.maps L H b w).1 xb;have da:es.size=L.length:=by simpa using congrArg List.length ge
 have hg:(getObj b).run P w=.ok (.map es clock) w:=by simp [getObj,Sem.run,he]
 refine ⟨.int .i64 L.length,?_,by rw [cA],trivial⟩;simp [execOp,ho,resolve,invoke,builtin,Builtin.len_,run_underlying hT,hv,hg,goInt,da]
theorem DA.turnNew {t n p:Nat} {H H':Nat->Prop} {S':AV} (hp:ι t n=some p) (za:ι.ob t n=some H) (xb:O.at_ S' H' p w') (tg:xR ι S' p w') (hH:∀ b,H' b->H b\/w.heap.size<=b) (hk:WA H w w')
  {d g:Nat} (hD:¬ D d) (hg:w.heap.size<=g) (hgH:¬ H' g) {cur:Array Value} {ty:TypeId} (nz:w'.heap[g]?=some (.cells cur ty (0,0))) {l:List AV} (hl:l.all AV.scal=true) (bd:∀ (j:Nat) (x:AV),l[j]?=some x->cur[j]?=some x.scalV) (ig:l.length<=cur.size) :
  ∃ ι':Ix,DA P O nt B F0 ga w0 (fun j=>D j\/j=d) ((s.setObj t n S').setRow d s.next (l.map (⟨·,.no⟩))) a w' ι' Θ/\ι' d s.next=some g/\ι'.z g=cur.size:=by
 obtain ⟨ji,sk⟩:=R.obs t n H za;have so:=uA nz;have lc:ι d s.next=none:=by
  cases h:ι d s.next with
  | none=>rfl
  | some b =>
   rcases (R.mine _ _ _ h).2.2 with h1 | h1
   ·omega
   ·exact absurd h1.2 hD
 have kc:ι.ob d s.next=none:=by
  cases h:ι.ob d s.next with
  | none=>rfl
  | some b =>
   rcases (R.obs _ _ _ h).2 with h1 | h1
   ·omega
   ·exact absurd h1.2 hD
 have xr:¬ (t=d/\n=s.next):=fun e=>by rw [e.1,e.2,lc] at hp; cases hp
 obtain ⟨ι',hι'⟩:∃ ι':Ix,ι'=⟨fun t' n'=>if t'=d/\n'=s.next then some g else ι t' n',fun t' n'=>if t'=t/\n'=n then some H' else ι.ob t' n',fun b=>if b=g then cur.size else ι.z b⟩:=⟨_,rfl⟩;have hf:∀ t' n' b,ι' t' n'=some b->(t'=d/\n'=s.next/\b=g)\/(¬ (t'=d/\n'=s.next)/\ι t' n'=some b):=fun t' n' b h=>by
  subst hι';have h':(if t'=d/\n'=s.next then some g else ι t' n')=some b:=h;split at h'
  ·rename_i e; injection h' with h'; exact .inl ⟨e.1,e.2,h'.symm⟩
  ·rename_i e; exact .inr ⟨e,h'⟩
 have sf:∀ t' n' H1,ι'.ob t' n'=some H1->(t'=t/\n'=n/\H1=H')\/(¬ (t'=t/\n'=n)/\ι.ob t' n'=some H1):=fun t' n' H1 h=>by
  subst hι';simp only at h;split at h
  ·rename_i e; injection h with h; exact .inl ⟨e.1,e.2,h.symm⟩
  ·rename_i e; exact .inr ⟨e,h⟩
 have ac:∀ t n b,ι t n=some b->ι' t n=some b:=fun t n b h=>by
  subst hι';show (if t=d/\n=s.next then some g else ι t n)=some b;split
  ·rename_i e; rw [e.1,e.2,lc] at h; cases h
  ·exact h
 have pb:ι' d s.next=some g:=by subst hι'; show (if d=d/\s.next=s.next then some g else ι d s.next)=_; rw [if_pos ⟨rfl,rfl⟩]
 have zm:ι'.ob t n=some H':=by subst hι'; simp
 have tk:∀ t' n',¬ (t'=t/\n'=n)->ι'.ob t' n'=ι.ob t' n':=fun t' n' e=>by subst hι'; simp only [if_neg e]
 have pq:ι'.z g=cur.size:=by subst hι'; simp
 have we:∀ t1 n1 b1 H1,ι t1 n1=some b1->ι.ob t1 n1=some H1->ι' t1 n1=some b1/\∃ H2,ι'.ob t1 n1=some H2:=fun t1 n1 b1 H1 g1 g2=>⟨ac _ _ _ g1,by
  by_cases e:t1=t/\n1=n
  ·exact ⟨H',by rw [e.1,e.2]; exact zm⟩
  ·exact ⟨H1,by rw [tk _ _ e]; exact g2⟩⟩
 have jb:Ix.Le ι ι':=⟨ac,fun t n b h=>by
  have:=(R.mine t n b h).2.1;subst hι';show (if b=g then cur.size else ι.z b)=ι.z b;rw [if_neg (by omega)]⟩
 clear hι';have rb:=hk.size;have ej:=R.lowB;have mf:∀ b o,b<w.heap.size->ZA ι' Θ b o->ZA ι Θ b o:=fun b o hb h=>h.imp (fun h=>h.imp (fun ⟨t',n',h⟩=>by
  rcases hf _ _ _ h with ⟨_,_,e⟩ | ⟨_,h⟩
  ·omega
  ·exact ⟨t',n',h⟩) fun ⟨t',n',H1,h1,h2⟩=>by
  rcases sf _ _ _ h1 with ⟨e1,e2,e3⟩ | ⟨_,h1⟩
  ·subst e3;rcases hH b h2 with h3 | h3
   ·exact ⟨t,n,H,za,h3⟩
   ·omega
  ·exact ⟨t',n',H1,h1,h2⟩) id
 have ab:∀ b o u,w.cell? ⟨b,o,none⟩=some u->¬ H b->w'.cell? ⟨b,o,none⟩=some u:=fun b o u hc hn=>(World.cell?_of_block (w:=w) (a:=⟨b,o,none⟩) (hk.block b (IB hc) hn)).trans hc
 have hB:xA (ZA ι Θ) (ZA ι' Θ) w w':=⟨fun b o u hc hn=>⟨ab b o u hc fun h=>hn (.inl (.inr ⟨t,n,H,za,h⟩)),fun h=>hn (mf b o (IB hc) h)⟩⟩;have hA:xA (JA ga ι Θ) (JA ga ι' Θ) w w':=⟨fun b o u hc hn=>⟨ab b o u hc fun h=>hn (.inr (.inl (.inr ⟨t,n,H,za,h⟩))),fun h=>hn (h.imp id (mf b o (IB hc)))⟩⟩;refine ⟨ι',⟨R.defers,R.size,fun j=>nA.held jb hA hB _ _ (R.env j),R.ann,fun t' n' r hr=>?_,fun t' n' b h=>?_,fun t1 n1 t2 n2 b h h'=>?_,fun k o h=>?_,R.tinj,fun k o t' n' h h'=>?_,R.out,fun p' h=>⟨ac _ _ _ (R.pin p' h).1,?_⟩,?_,R.base,fun t' n' S1 h=>?_,fun t' n' H1 h=>?_,fun j=>nA.held jb hA hB _ _ (R.gen j),R.gann⟩,pb,pq⟩
 ·simp only [tA.setRow] at hr;split at hr
  ·rename_i e;injection hr with hr;subst hr;have hoo:ι'.ob t' n'=none:=by
    rw [tk t' n' (fun e'=>xr ⟨e'.1.symm.trans e.1,e'.2.symm.trans e.2⟩),e.1,e.2];exact kc
   refine ⟨hoo,g,cur,ty,by rw [e.1,e.2]; exact pb,nz,⟨by simpa using ig,fun j x hx=>?_⟩,by omega,pq.symm⟩;rw [yl] at hx;cases hj:l[j]? with
   | none=>rw [hj] at hx; cases hx
   | some y =>
    rw [hj] at hx;injection hx with hx;subst hx;have hy:=y5.1 hl y (List.mem_of_getElem? hj);have hr:=aH (av:=JA ga ι' Θ) (w:=w') hy;exact ⟨_,bd j y hj,hr.2,dE hr.1,trivial⟩
  ·have jp:s.mem t' n'=some r:=hr;obtain ⟨h0,b,ia,ae,h1,h2,h3,h8,h9⟩:=R.rows t' n' r jp;have db:¬ (t'=t/\n'=n):=fun e=>by rw [e.1,e.2,za] at h0; cases h0
   have dw:¬ H b:=fun hb=>db ((ji b hb).2.2.1 t' n' h1)
   exact ⟨by rw [tk _ _ db]; exact h0,b,ia,ae,ac _ _ _ h1,(hk.block b (uA h2) dw).trans h2,h3.held jb hA (fun _ _ h=>h),h8,h9.trans (jb.z _ _ _ h1).symm⟩
 ·rcases hf _ _ _ h with ⟨e1,e2,e3⟩ | ⟨_,h⟩
  ·subst e3;exact ⟨.inl (by omega),so,.inr ⟨e2,.inr e1⟩⟩
  ·obtain ⟨h1,h2,h3⟩:=R.mine t' n' b h;exact ⟨h1,by omega,h3.imp id fun ⟨e,d⟩=>⟨e,.inl d⟩⟩
 ·rcases hf _ _ _ h with ⟨e1,e2,e3⟩ | ⟨_,h⟩ <;> rcases hf _ _ _ h' with ⟨f1,f2,f3⟩ | ⟨_,h'⟩
  ·exact ⟨e1.trans f1.symm,e2.trans f2.symm⟩
  ·have:=(R.mine _ _ _ h').2.1; omega
  ·have:=(R.mine _ _ _ h).2.1; omega
  ·exact R.inj _ _ _ _ _ h h'
 ·obtain ⟨h1,h2,h3,h4,ia,h5,h6⟩:=R.tok k o h;exact ⟨h1,h2,h3,h4,ia,(hk.block _ (uA h5) (R.apob h za)).trans h5,h6⟩
 ·obtain ⟨_,_,_,_,ia,h5,_⟩:=R.tok k o h;have eb:=uA h5;rcases hf _ _ _ h' with ⟨_,_,e⟩ | ⟨_,h'⟩
  ·omega
  ·exact R.apart k o t' n' h h'
 ·rcases (R.pin p' h).2 with kp | ⟨H1,h1⟩
  ·exact .inl ⟨kp.1,(jb.z _ _ _ (R.pin p' h).1).trans kp.2⟩
  refine .inr ?_;by_cases e:0=t/\0=n
  ·exact ⟨H',by rw [<- e.1,<- e.2] at zm; exact zm⟩
  ·exact ⟨H1,by rw [tk _ _ e]; exact h1⟩
 ·refine R.kept.trans hk fun i hi h=>?_
  have:=R.base.1;rcases (ji i h).1 with h1 | h1
  ·omega
  ·exact h1
 ·simp only [tA.setRow,tA.setObj] at h;split at h
  ·rename_i e;injection h with h;subst h;exact ⟨p,H',by rw [e.1,e.2]; exact ac _ _ _ hp,by rw [e.1,e.2]; exact zm,xb,tg.keep we fun x hx=>hx⟩
  ·rename_i e;obtain ⟨p1,H1,h1,h2,h3,h4⟩:=R.objs t' n' S1 h;have th:∀ b,H1 b->¬ H b:=fun b hb ra=>e ((ji b ra).2.2.2.2 t' n' H1 h2 hb)
   exact ⟨p1,H1,ac _ _ _ h1,by rw [tk _ _ e]; exact h2,O.keep h3 (fun b hb=>hk.block b (O.lt h3 hb) (th b hb)) rb,h4.keep we fun x hx=>(hk.block _ (uA hx) (th _ (O.main h3))).trans hx⟩
 ·rcases sf _ _ _ h with ⟨e1,e2,e3⟩ | ⟨e,h⟩
  ·subst e1; subst e2; subst e3;refine ⟨fun b hb=>?_,sk.imp id fun ⟨e,d⟩=>⟨e,.inl d⟩⟩;have iu:b≠g:=fun e=>hgH (e ▸ hb)
   rcases hH b hb with h1 | h1
   ·obtain ⟨g1,g2,g3,g4,g5⟩:=ji b h1;refine ⟨g1,by omega,fun t1 n1 h2=>?_,g4,fun t1 n1 H2 h2 h3=>?_⟩
    ·rcases hf _ _ _ h2 with ⟨_,_,e⟩ | ⟨_,h2⟩
     ·exact absurd e iu
     ·exact g3 t1 n1 h2
    ·rcases sf _ _ _ h2 with ⟨e1,e2,_⟩ | ⟨_,h2⟩
     ·exact ⟨e1,e2⟩
     ·exact g5 t1 n1 H2 h2 h3
   ·refine ⟨.inl (by omega),O.lt xb hb,fun t1 n1 h2=>?_,fun k o h2 e=>?_,fun t1 n1 H2 h2 h3=>?_⟩
    ·rcases hf _ _ _ h2 with ⟨_,_,e⟩ | ⟨_,h2⟩
     ·exact absurd e iu
     ·have:=(R.mine _ _ _ h2).2.1; omega
    ·obtain ⟨_,_,_,_,ia,h5,_⟩:=R.tok k o h2; have:=uA h5; omega
    ·rcases sf _ _ _ h2 with ⟨e1,e2,_⟩ | ⟨_,h2⟩
     ·exact ⟨e1,e2⟩
     ·have:=((R.obs _ _ _ h2).1 b h3).2.1; omega
  ·obtain ⟨h1,h2⟩:=R.obs t' n' H1 h;refine ⟨fun b hb=>?_,h2.imp id fun ⟨e,d⟩=>⟨e,.inl d⟩⟩;obtain ⟨g1,g2,g3,g4,g5⟩:=h1 b hb;refine ⟨g1,by omega,fun t1 n1 h2=>?_,g4,fun t1 n1 H2 h2 h3=>?_⟩
   ·rcases hf _ _ _ h2 with ⟨_,_,e'⟩ | ⟨_,h2⟩
    ·omega
    ·exact g3 t1 n1 h2
   ·rcases sf _ _ _ h2 with ⟨e1,e2,e3⟩ | ⟨_,h2⟩
    ·subst e3;rcases hH b h3 with h4 | h4
     ·have:=g5 t n H za h4;exact absurd ⟨this.1.symm,this.2.symm⟩ e
     ·omega
    ·exact g5 t1 n1 H2 h2 h3
theorem DZ {call:OA} (oa:∀ f args S r,call f args S=some r->EA P O f args S r) {f:FuncId} {Xs:Array Operand} {ts:Array TypeId} {xs:List GA} (hx:ZB Xs.toList=some xs) (ho:o.op=.call { callee:=.value (.func f),args:=Xs,argTypes:=ts }) (hd:∀ d,o.dst=some d->d<nt) (hD:∀ d,o.dst=some d->¬ D d) {cl:Cl} {sz:Nat} (rb:0<sz) {xe:qA × wB} (hr:(K.callf cl f sz xs).run call s=some xe) {g} {s':tA} (he:sA.eff ⟨o.dst,.callf cl f sz xs,g⟩ s xe=some s')
  {Kn:Act->World->Prop} {Q:Exit->Act->World->Prop} (hK:∀ a' w',fB P O nt B F0 ga w0 (fun t=>D t\/o.dst=some t) s' a' w'->Kn a' w'):o.wp P a w Kn Q:=by
 simp only [K.run] at hr;obtain ⟨vs,hl,hr⟩:=y0.1 hr;have sh:(Xs.toList.map a.eval).toArray=Xs.map a.eval:=by rw [<- Array.toList_map,yE]
 have ak:∀ b o,JA ga ι Θ b o->b<w.heap.size:=fun b o h=>R.low h
 split at hr
 ·rename_i t n pe;obtain ⟨r,hc,hr⟩:=y0.1 hr;split at hr
  ·rename_i l S';split at hr
   ·rename_i ea;obtain ⟨mh,fi,gt,kq⟩:=ea;obtain ⟨S,hS⟩:=Option.isSome_iff_exists.1 mh;rw [hS] at hc;have sa:eD P O f vs (some S) (.sl false l,some S'):=EA.own (wH hl) (oa f (.undef :: vs) (some S) _ hc);obtain ⟨p,H,hp,za,xb,_⟩:=R.objs t n S hS;have ka:=UC (ι':=Ix.one p) (avl:=fun b _=>H b) R (fun b _ h=>⟨t,n,H,za,h⟩) hx hl fun x hx t' n' h=>by
     have:(t',n')∈lC s xs:=List.mem_filterMap.2 ⟨x,hx,by rw [h]⟩;rw [pe] at this;have:=List.mem_singleton.1 this;injection this with e1 e2;rw [e1,e2,hp];rfl
    have aa:(execOp a.eval o).run P w=.ok (.enter f (Xs.map a.eval)) w:=by
     simp only [execOp,ho,resolve,Act.eval,Deferred.ofValue,Sem.run_bind,Sem.run_pure,Result.andThen_ok,invoke];have:=sa.1 (#[]++Xs.map a.eval++#[]) w;simp only [Array.empty_append,Array.append_empty] at this ⊢;exact this
    unfold Oper.wp;rw [aa,Oper.upon_enter];have hC:=sa.2 (JA ga ι Θ) w _ p H (R.lowH za) (fun b o h=>.inr (.inl (.inr ⟨t,n,H,za,h⟩))) xb ka;rw [sh] at hC;refine hC.mono ?_;rintro e w' ⟨v,H',rfl,hv,gg,hH,hk⟩;split at hr
    ·rename_i sg;injection hr with hr;subst hr;simp only [sA.eff] at he;injection he with he;subst he;have jq:l=[]:=by simpa using sg
     subst jq;obtain ⟨ι',R',ub⟩:=R.turnObj hp za gg (xR.no kq) hH hk;have rt:∃ A c,v=.slice A 0 c/\(A=none->c=0):=by
      rcases hv with ⟨_,A,c,h1,h2⟩ | ⟨g,c,cur,ty,h1,_⟩
      ·exact ⟨A,c,h1,h2⟩
      ·exact ⟨_,c,h1,fun h=>by cases h⟩
     obtain ⟨A,c,rfl,hA⟩:=rt;refine hK _ _ ⟨ι',Θ,(R'.putN (x:=⟨.sl false [],.no⟩) hd ?_ trivial).more fun _ h=>.inl h⟩;rw [rB];simp only [xB,List.length_nil];exact ⟨A,c,rfl,Nat.zero_le _,(fun x hx=>by cases hx),(fun h=>by cases h),fun _=>⟨hA,fun h=>absurd h (Nat.lt_irrefl 0)⟩⟩
    ·rename_i sg;injection hr with hr;subst hr;cases fa:o.dst with
     | none=>simp [sA.eff,fa] at he
     | some d =>
      simp only [sA.eff,fa] at he;injection he with he;subst he;have db:l≠[]:=fun h=>sg (by simp [h])
      have kb:0<l.length:=List.length_pos_iff.2 db;rcases hv with ⟨h0,_⟩ | ⟨g,c,cur,ty,rfl,h2,h3,h4,h5,h6,h7⟩
      ·exact absurd h0 db
      ·have eg:=h6 sz fi kb;have dg:l.flatten.length=l.length * sz:=by
        have tw:∀ q:List (List AV),UA sz q=true->q.flatten.length=q.length * sz:=fun q=>by
         induction q with
         | nil=>simp
         | cons c r ih =>
          intro h;rw [lB] at h;simp only [y7,decide_eq_true_eq] at h;rw [yi,y9,ih h.2,h.1,yz,yt];omega
        exact tw l fi
       have hsc:l.flatten.all AV.scal=true:=by
        rw [List.all_flatten];exact gt
       obtain ⟨ι',R',hι,hz⟩:=R.turnNew (d:=d) (g:=g) hp za gg (xR.no kq) hH hk (hD d fa) h2 h3 h4 hsc h7 (by rw [dg]; exact yp (Nat.mul_le_mul_right _ h5) eg);refine hK _ _ ⟨ι',Θ,?_⟩;rw [fa];exact (R'.put (x:=⟨.ref d s.next sz 0 l.length l.length,.no⟩) (hd d fa) ⟨g,hι,y6 _,c,h5,by rw [hz,yb]; exact eg,rfl⟩ trivial).more fun t h=>h.imp id fun e=>by rw [e]
   ·cases hr
  ·cases hr
 ·cases hr
end
end
end
section
open Go Go.RowKit
section
variable {P:Program} {O:OB} {nt B:Nat} {F0:DH} {ga:Av} {w0:World} {D:Nat->Prop} {s:tA} {a:Act} {w w':World} {ι:Ix} {Θ:tE} {o:Oper}
def XT (s:tA) (av:Av) (ι:Ix):Av:=fun b o=>av b o/\¬ ∃ t n r,s.mem t n=some r/\ι t n=some b
theorem QA.frz1 {D:Nat->Prop} {ι:Ix} {Θ:tE} (R:DA P O nt B F0 ga w0 D s a w ι Θ) {x:AV} {u:Value} (h:QA ι (JA ga ι Θ) w x u):QA ι (XT s (JA ga ι Θ) ι) w (x.frz1 s) u:=by
 have less:xA (JA ga ι Θ) (XT s (JA ga ι Θ) ι) w w:=xA.less fun b o h=>h.1
 have same:=QA.held (Ix.Le.refl ι) less x u h;cases x with
 | ref t n sz off len c =>
  simp only [AV.frz1];split
  ·rename_i l hl;obtain ⟨r,hm,hl⟩:=y0.1 hl;obtain ⟨b,hb,jb,cc,sd,hz,hv⟩:=h;obtain ⟨xc,b',cur,ty,ra,ba,ja,_⟩:=R.rows t n r hm;rw [hb] at ra;injection ra with ra;subst ra;obtain ⟨h1,h2,us,hL,oc⟩:=PC ja ba hl;subst h1;show xB _ w (.sl false l) u;simp only [xB];refine ⟨_,cc,hv,yp jb sd,fun x hx y hy=>(h2 x hx).trans (h2 y hy).symm,(fun h=>by cases h),fun _=>⟨fun h=>(by cases h),fun _=>⟨b,off,rfl,?_⟩⟩⟩;rw [bB];exact sE (IA.held less _ _ hL) fun j u hj=>⟨oc j u hj,fun h=>h.2 ⟨t,n,r,hm,hb⟩⟩
  ·exact same
 | _=>exact same
theorem zA.frz1 {D:Nat->Prop} {ι:Ix} {Θ:tE} (R:DA P O nt B F0 ga w0 D s a w ι Θ):∀ {xs:List AV} {us:List Value},zA ι (JA ga ι Θ) w xs us->zA ι (XT s (JA ga ι Θ) ι) w (xs.map (AV.frz1 s)) us
 | [],_,h=>h
 | x :: r,_,h=>by
  simp only [zA] at h;obtain ⟨u,na,rfl,h0,h1,h⟩:=h;exact ⟨u,na,rfl,h0.frz1 R,h1,h.frz1 R⟩
theorem QA.frz {D:Nat->Prop} {ι:Ix} {Θ:tE} (R:DA P O nt B F0 ga w0 D s a w ι Θ) {x:AV} {u:Value} (h:QA ι (JA ga ι Θ) w x u):QA ι (XT s (JA ga ι Θ) ι) w (x.frz0 s) u:=by
 have less:xA (JA ga ι Θ) (XT s (JA ga ι Θ) ι) w w:=xA.less fun b o h=>h.1
 have same:=QA.held (Ix.Le.refl ι) less x u h;cases x with
 | ref t n sz off len c =>
  simp only [AV.frz0];split
  ·rename_i l hl;obtain ⟨r,hm,hl⟩:=y0.1 hl;obtain ⟨b,hb,jb,cc,sd,hz,hv⟩:=h;obtain ⟨xc,b',cur,ty,ra,ba,ja,_⟩:=R.rows t n r hm;rw [hb] at ra;injection ra with ra;subst ra;obtain ⟨h1,h2,us,hL,oc⟩:=PC ja ba hl;subst h1;show xB _ w (.sl false l) u;simp only [xB];refine ⟨_,cc,hv,yp jb sd,fun x hx y hy=>(h2 x hx).trans (h2 y hy).symm,(fun h=>by cases h),fun _=>⟨fun h=>(by cases h),fun _=>⟨b,off,rfl,?_⟩⟩⟩;rw [bB];exact sE (IA.held less _ _ hL) fun j u hj=>⟨oc j u hj,fun h=>h.2 ⟨t,n,r,hm,hb⟩⟩
  ·split
   ·rename_i l hl;obtain ⟨r,hm,hl⟩:=y0.1 hl;obtain ⟨l0,jq,hl⟩:=y0.1 hl;split at hl
    ·rename_i rc;injection hl with hl;subst hl;obtain ⟨b,hb,jb,cc,sd,hz,hv⟩:=h;obtain ⟨xc,b',cur,ty,ra,ba,ja,_⟩:=R.rows t n r hm;rw [hb] at ra;injection ra with ra;subst ra;obtain ⟨h1,h2,us,hL,oc⟩:=hJ ja ba jq;subst h1;have ri:=zA.frz1 R hL;rw [List.map_flatten] at ri;have mo:=HC ri fun x hx=>y5.1 rc x hx
     show xB _ w (.sl false _) u;simp only [xB];refine ⟨_,cc,by rw [yv]; exact hv,by rw [yv]; exact yp jb sd,fun x hx y hy=>?_,(fun h=>by cases h),fun _=>⟨fun h=>(by cases h),fun _=>⟨b,off,rfl,?_⟩⟩⟩
     ·obtain ⟨x',wg,rfl⟩:=List.mem_map.1 hx;obtain ⟨y',bn,rfl⟩:=List.mem_map.1 hy;rw [yv,yv,h2 x' wg,h2 y' bn]
     ·rw [bB];exact sE mo fun j u hj=>⟨oc j u hj,fun h=>h.2 ⟨t,n,r,hm,hb⟩⟩
    ·cases hl
   ·exact same
 | _=>exact same
theorem zA.frz {D:Nat->Prop} {ι:Ix} {Θ:tE} (R:DA P O nt B F0 ga w0 D s a w ι Θ):∀ {xs:List AV} {us:List Value},zA ι (JA ga ι Θ) w xs us->zA ι (XT s (JA ga ι Θ) ι) w (xs.map (AV.frz0 s)) us
 | [],_,h=>h
 | x :: r,_,h=>by
  simp only [zA] at h;obtain ⟨u,na,rfl,h0,h1,h⟩:=h;exact ⟨u,na,rfl,h0.frz R,h1,h.frz R⟩
theorem nA.frz {D:Nat->Prop} {ι:Ix} {Θ:tE} (R:DA P O nt B F0 ga w0 D s a w ι Θ) {x:AV} {u:Value} (h:nA ι (JA ga ι Θ) (ZA ι Θ) w x u):nA ι (XT s (JA ga ι Θ) ι) (ZA ι Θ) w (x.frz s) u:=by
 have less:xA (JA ga ι Θ) (XT s (JA ga ι Θ) ι) w w:=xA.less fun b o h=>h.1
 have same:=nA.held (Ix.Le.refl ι) less (xA.refl _ _) x u h;cases x with
 | agg cs=>obtain ⟨us,hv,hc⟩:=h; exact ⟨us,hv,hc.frz R⟩
 | ref t n sz off len c =>
  have:=QA.frz R (x:=.ref t n sz off len c) h;show nA _ _ _ w (AV.frz0 s (.ref t n sz off len c)) u;generalize hy:AV.frz0 s (.ref t n sz off len c)=y at this ⊢;simp only [AV.frz0] at hy;split at hy
  ·subst hy; exact this
  ·split at hy <;> (subst hy; exact this)
 | _=>exact same
def AV.killO (q:Option (Nat × Nat)) (x:AV):AV:=match q with
 | none=>x
 | some p=>x.kill p.1 p.2
def Ix.delO (ι:Ix):Option (Nat × Nat)->Ix
 | .none=>ι
 | .some p=>ι.del p.1 p.2
theorem uB.killW {t n:Nat} {ι':Ix} {av wa:Av} {r:List qA} {cur:Array Value} (h:uB ι Θ av w r cur) (hι:Ix.Lk t n ι ι') (hh:xA av wa w w'):uB ι' Θ wa w' (r.map (qA.kill t n)) cur:=by
 refine ⟨by simpa using h.1,fun j x hx=>?_⟩;rw [yl] at hx;cases hj:r[j]? with
 | none=>rw [hj] at hx; cases hx
 | some y =>
  rw [hj] at hx;injection hx with hx;subst hx;obtain ⟨u,hu,h1,hr,ha⟩:=h.2 j y hj;refine ⟨u,hu,h1,?_,ha⟩;have hk:=QA.kill hι hh y.v u hr;show QA ι' wa w' (y.v.kill t n) u;cases hy:y.v with
  | agg cs=>rw [hy] at hr; obtain ⟨us,rfl,_⟩:=hr; simp [Value.oneCell'] at h1
  | tup cs=>rw [hy] at hr; obtain ⟨us,rfl,_⟩:=hr; simp [Value.oneCell'] at h1
  | _=>rw [hy] at hk; exact hk
theorem DA.swap (R:DA P O nt B F0 ga w0 D s a w ι Θ) {q:Option (Nat × Nat)} {g0:Nat->Prop}
  (hq:match q with
   | none=>∀ b,¬ g0 b
   | some p=>p.1≠0/\∃ r b,s.mem p.1 p.2=some r/\ι p.1 p.2=some b/\∀ b',g0 b' ↔ b'=b)
  (hk:WA g0 w w') {d:Nat} (hd:d<nt) (hD:¬ D d) {l:List AV} {g:Nat} {cur:Array Value} {ty:TypeId}
  (hg:w.heap.size<=g\/g0 g/\∃ cur0 ul,w.heap[g]?=some (.cells cur0 ul (0,0))/\cur.size=cur0.size) (ba:w'.heap[g]?=some (.cells cur ty (0,0)))
  (mb:IA (fun b o=>JA ga ι Θ b o\/b=g) w' l (cur.toList.take l.length)) {x:AV} {v:Value}
  (hx:∀ ι':Ix,ι' d s.next=some g->ι'.z g=cur.size->nA ι' (JA ga ι' Θ) (ZA ι' Θ) w' x v) :
  ∃ ι',DA P O nt B F0 ga w0 (fun j=>D j\/j=d) (((s.killO q).setRow d s.next (l.map (⟨·,.no⟩))).put (some d) ⟨x,.no⟩) (a.put (some d) v) w' ι' Θ:=by
 have lc:ι d s.next=none:=by
  cases h:ι d s.next with
  | none=>rfl
  | some b =>
   rcases (R.mine _ _ _ h).2.2 with h1 | h1
   ·omega
   ·exact absurd h1.2 hD
 have kc:ι.ob d s.next=none:=by
  cases h:ι.ob d s.next with
  | none=>rfl
  | some b =>
   rcases (R.obs _ _ _ h).2 with h1 | h1
   ·omega
   ·exact absurd h1.2 hD
 -- the given block's name
 have gi:∀ b,g0 b->∃ p,q=some p/\ι p.1 p.2=some b/\ι.ob p.1 p.2=none/\(B<=b\/F0.r b)/\p.1≠0:=fun b hb=>by
  cases q with
  | none=>exact absurd hb (hq b)
  | some p =>
   obtain ⟨h0,r,b',h1,h2,h3⟩:=hq;have e:=(h3 b).1 hb;subst e;obtain ⟨g1,b2,_,_,g2,_,_,g3,_⟩:=R.rows _ _ _ h1;rw [h2] at g2;injection g2 with g2;subst g2;exact ⟨p,rfl,h2,g1,g3,h0⟩
 have rb:=hk.size;have ej:=R.lowB;have so:g<w'.heap.size:=uA ba
 -- blocks that are known stay
 have del:∀ t n b,(ι.delO q) t n=some b->ι t n=some b/\¬ g0 b/\b≠g:=fun t n b h=>by
  have h1:ι t n=some b/\¬ g0 b:=by
   cases q with
   | none=>exact ⟨h,hq b⟩
   | some p =>
    obtain ⟨h1,h2⟩:=Ix.del_some h;exact ⟨h1,fun hb=>by
     obtain ⟨p',e,h3,_⟩:=gi b hb;injection e with e;subst e;have:=R.inj _ _ _ _ _ h1 h3;exact h2 ⟨this.1,this.2⟩⟩
  refine ⟨h1.1,h1.2,fun e=>?_⟩;rcases hg with hg | hg
  ·have:=(R.mine _ _ _ h1.1).2.1; omega
  ·exact h1.2 (e ▸ hg.1)
 obtain ⟨ι',hι'⟩:∃ ι':Ix,ι'=⟨fun t n=>if t=d/\n=s.next then some g else (ι.delO q) t n,ι.ob,fun b=>if b=g then cur.size else ι.z b⟩:=⟨_,rfl⟩;have pb:ι' d s.next=some g:=by subst hι'; show (if d=d/\s.next=s.next then some g else _)=_; rw [if_pos ⟨rfl,rfl⟩]
 have zc:∀ t n b,ι' t n=some b->(t=d/\n=s.next/\b=g)\/((ι.delO q) t n=some b/\¬ (t=d/\n=s.next)):=fun t n b h=>by
  subst hι';have h':(if t=d/\n=s.next then some g else (ι.delO q) t n)=some b:=h;split at h'
  ·rename_i e; injection h' with h'; exact .inl ⟨e.1,e.2,h'.symm⟩
  ·rename_i e; exact .inr ⟨h',e⟩
 have ed:∀ t n b,(ι.delO q) t n=some b->ι' t n=some b:=fun t n b h=>by
  subst hι';show (if t=d/\n=s.next then some g else (ι.delO q) t n)=some b;rw [if_neg (fun e=>by have:=(del _ _ _ h).1; rw [e.1,e.2,lc] at this; cases this)];exact h
 have za:ι'.ob=ι.ob:=by subst hι'; rfl
 have pq:ι'.z g=cur.size:=by subst hι'; exact if_pos rfl
 have hzo:∀ b,b≠g->ι'.z b=ι.z b:=fun b h=>by subst hι'; exact if_neg h
 have xg:∀ t n b,ι t n=some b->ι'.z b=ι.z b:=fun t n b h=>by
  by_cases e:b=g
  ·subst e;rcases hg with hg | ⟨hg,cur0,ul,h1,h2⟩
   ·have:=(R.mine _ _ _ h).2.1; omega
   ·obtain ⟨p,e,h3,h4,_⟩:=gi b hg;cases q with
    | none=>cases e
    | some p' =>
     injection e with e;subst e;obtain ⟨_,r,b',g1,g2,_⟩:=hq;obtain ⟨_,b2,cur2,ty2,g3,g4,_,_,g5⟩:=R.rows _ _ _ g1;rw [h3] at g3;injection g3 with g3;subst g3;rw [h1] at g4;injection g4 with g4;injection g4 with g4;subst g4;rw [pq,h2,g5]
  ·exact hzo b e
 clear hι';have blk:∀ b,b<w.heap.size->¬ g0 b->w'.heap[b]?=w.heap[b]?:=fun b h1 h2=>hk.block b h1 h2
 have mf:∀ b o,b<w.heap.size->b≠g->ZA ι' Θ b o->ZA ι Θ b o:=fun b o _ db h=>h.imp (fun h=>h.imp (fun ⟨t,n,h⟩=>by
  rcases zc _ _ _ h with ⟨_,_,e⟩ | ⟨h,_⟩
  ·exact absurd e db
  ·exact ⟨t,n,(del _ _ _ h).1⟩) (fun ⟨t,n,H,h,hb⟩=>⟨t,n,H,za ▸ h,hb⟩)) id
 have away:∀ b o,¬ ZA ι Θ b o->¬ g0 b:=fun b o h hb=>by
  obtain ⟨p,_,h1,_⟩:=gi b hb;exact h (.inl (.inl ⟨p.1,p.2,h1⟩))
 have ng:∀ b o,b<w.heap.size->¬ ZA ι Θ b o->b≠g:=fun b o h1 h2 e=>by
  rcases hg with hg | hg
  ·omega
  ·exact away b o h2 (e ▸ hg.1)
 have hB:xA (ZA ι Θ) (ZA ι' Θ) w w':=⟨fun b o u hc hn=>⟨(World.cell?_of_block (w:=w) (a:=⟨b,o,none⟩) (blk b (IB hc) (away b o hn))).trans hc,fun h=>hn (mf b o (IB hc) (ng b o (IB hc) hn) h)⟩⟩;have hA:xA (JA ga ι Θ) (JA ga ι' Θ) w w':=⟨fun b o u hc hn=>by
  have fh:¬ ZA ι Θ b o:=fun h=>hn (.inr h)
  exact ⟨(World.cell?_of_block (w:=w) (a:=⟨b,o,none⟩) (blk b (IB hc) (away b o fh))).trans hc,fun h=>hn (h.imp id (mf b o (IB hc) (ng b o (IB hc) fh)))⟩⟩
 have jb:q=none->Ix.Le ι ι':=fun e=>⟨fun t n b h=>ed t n b (by rw [e]; exact h),xg⟩
 have ff:∀ p,q=some p->Ix.Lk p.1 p.2 ι ι':=fun p e=>⟨fun t n b hn h=>ed t n b (by rw [e]; exact (Ix.del_lk ι p.1 p.2).f _ _ _ hn h),xg⟩
 have hS:∀ X V,nA ι (JA ga ι Θ) (ZA ι Θ) w X V->nA ι' (JA ga ι' Θ) (ZA ι' Θ) w' (X.killO q) V:=fun X V h=>by
  cases en:q with
  | none=>exact nA.held (jb en) hA hB _ _ h
  | some p=>exact nA.kill (ff p en) hA hB _ _ h
 have om:∀ j,(s.killO q).env j=⟨(s.env j).v.killO q,(s.env j).a⟩:=fun j=>by cases q <;> rfl
 have mz:∀ j,(s.killO q).gh j=⟨(s.gh j).v.killO q,(s.gh j).a⟩:=fun j=>by cases q <;> rfl
 have sx:(s.killO q).next=s.next:=by cases q <;> rfl
 have tx:(s.killO q).obj=s.obj:=by cases q <;> rfl
 have hRe:IA (JA ga ι' Θ) w' l (cur.toList.take l.length):=IA.held (xA.less fun b o h=>by
  by_cases e:b=g
  ·exact .inr e
  ·refine .inl (h.imp id fun h=>h.imp (fun h=>h.imp (fun ⟨t,n,h⟩=>?_) (fun ⟨t,n,H,h,hb⟩=>⟨t,n,H,za ▸ h,hb⟩)) id);rcases zc _ _ _ h with ⟨_,_,e'⟩ | ⟨h,_⟩
   ·exact absurd e' e
   ·exact ⟨t,n,(del _ _ _ h).1⟩) _ _ mb
 refine ⟨ι',DA.put (s:=(s.killO q).setRow d s.next (l.map (⟨·,.no⟩))) ⟨R.defers,R.size,fun j=>?_,fun j=>?_,fun t' n' r' hr=>?_,fun t' n' b h=>?_,fun t1 n1 t2 n2 b h h'=>?_,fun k o h=>?_,R.tinj,fun k o t' n' h h'=>?_,R.out,fun p h=>?_,?_,R.base,fun t' n' S h=>?_,fun t' n' H h=>?_,fun j=>?_,fun j=>?_⟩ hd (hx _ pb pq) trivial⟩
 ·show nA ι' _ _ w' ((s.killO q).env j).v _;rw [om];exact hS _ _ (R.env j)
 ·show pE Θ ((s.killO q).env j).a _;rw [om];exact R.ann j
 ·simp only [tA.setRow] at hr;split at hr
  ·rename_i e;injection hr with hr;subst hr;refine ⟨by rw [za,e.1,e.2]; exact kc,g,cur,ty,by rw [e.1,e.2]; exact pb,ba,BZ hRe (fun j u hj=>?_),?_,pq.symm⟩
   ·rw [ym] at hj;split at hj
    ·simpa using hj
    ·cases hj
   ·rcases hg with hg | hg
    ·exact .inl (by omega)
    ·obtain ⟨p,_,_,_,h4,_⟩:=gi g hg.1;exact h4
  ·have key:∃ r0,s.mem t' n'=some r0/\(ι.delO q) t' n'=ι t' n'/\r'=r0.map (fun x=>⟨x.v.killO q,x.a⟩):=by
    cases q with
    | none=>exact ⟨r',hr,rfl,by simp [AV.killO]⟩
    | some p =>
     simp only [tA.killO,tA.kill] at hr;split at hr
     ·cases hr
     ·rename_i hn;cases pc:s.mem t' n' with
      | none=>rw [pc] at hr; cases hr
      | some r0 =>
       rw [pc] at hr;injection hr with hr;exact ⟨r0,rfl,if_neg hn,hr.symm⟩
   obtain ⟨r0,pc,xh,rfl⟩:=key;obtain ⟨h0,b,ia,ae,h1,h2,h3,h4,h5⟩:=R.rows t' n' r0 pc;have td:(ι.delO q) t' n'=some b:=xh.trans h1;obtain ⟨_,tu,_⟩:=del _ _ _ td;refine ⟨za ▸ h0,b,ia,ae,ed _ _ _ td,(blk b (uA h2) tu).trans h2,?_,h4,h5.trans (xg _ _ _ h1).symm⟩;cases en:q with
   | none =>
    have:r0.map (fun x:qA=>(⟨x.v.killO none,x.a⟩:qA))=r0:=by simp [AV.killO]
    rw [this];exact h3.held (jb en) hA (fun _ _ h=>h)
   | some p=>exact h3.killW (ff p en) hA
 ·rcases zc _ _ _ h with ⟨e1,e2,e3⟩ | ⟨h,_⟩
  ·subst e3;refine ⟨?_,so,.inr ⟨by rw [e2]; exact sx.symm,.inr e1⟩⟩;rcases hg with hg | hg
   ·exact .inl (by omega)
   ·obtain ⟨p,_,h3,_⟩:=gi b hg.1;exact (R.mine _ _ _ h3).1
  ·obtain ⟨h1,h2,h3⟩:=R.mine t' n' b (del _ _ _ h).1;refine ⟨h1,by omega,?_⟩;show n'<(s.killO q).next\/n'=(s.killO q).next/\_;rw [sx];exact h3.imp id fun ⟨e,d⟩=>⟨e,.inl d⟩
 ·rcases zc _ _ _ h with ⟨e1,e2,e3⟩ | ⟨h,hn⟩ <;> rcases zc _ _ _ h' with ⟨f1,f2,f3⟩ | ⟨h',fh⟩
  ·exact ⟨e1.trans f1.symm,e2.trans f2.symm⟩
  ·exact absurd e3 (del _ _ _ h').2.2
  ·exact absurd f3 (del _ _ _ h).2.2
  ·exact R.inj _ _ _ _ _ (del _ _ _ h).1 (del _ _ _ h').1
 ·obtain ⟨h1,h2,h3,h4,ia,h5,h6⟩:=R.tok k o h;exact ⟨h1,h2,h3,h4,ia,(blk _ (uA h5) fun hb=>by
   obtain ⟨p,_,h7,_⟩:=gi _ hb;exact R.apart k o _ _ h h7).trans h5,h6⟩
 ·rcases zc _ _ _ h' with ⟨e1,e2,e3⟩ | ⟨h',_⟩
  ·obtain ⟨_,_,_,_,ia,h5,_⟩:=R.tok k o h;rcases hg with hg | hg
   ·have:=uA h5; omega
   ·obtain ⟨p,_,h7,_⟩:=gi _ hg.1;exact R.apart k o _ _ h (e3 ▸ h7)
  ·exact R.apart k o t' n' h (del _ _ _ h').1
 ·obtain ⟨h1,h2⟩:=R.pin p h;have td:(ι.delO q) 0 0=some p:=by
   cases en:q with
   | none=>exact h1
   | some p' =>
    subst en;exact (Ix.del_lk ι p'.1 p'.2).f _ _ _ (fun e=>hq.1 e.1.symm) h1
  exact ⟨ed _ _ _ td,h2.imp (fun g=>⟨g.1,(xg _ _ _ h1).trans g.2⟩) fun g=>za ▸ g⟩
 ·exact R.kept.trans hk fun i hi hb=>by
   obtain ⟨p,_,h3,_⟩:=gi i hb;rcases (R.mine _ _ _ h3).1 with h | h
   ·have:=R.base.1; omega
   ·exact h
 ·have h:s.obj t' n'=some S:=by
   have:((s.killO q).setRow d s.next (l.map (⟨·,.no⟩))).obj=s.obj:=tx;rw [this] at h;exact h
  obtain ⟨p,H,h1,h2,h3,h4⟩:=R.objs t' n' S h;have wn:∀ t1 n1 b1 H1,ι t1 n1=some b1->ι.ob t1 n1=some H1->ι' t1 n1=some b1:=fun t1 n1 b1 H1 g1 g2=>by
   refine ed _ _ _ ?_;cases en:q with
   | none=>exact g1
   | some p' =>
    refine (Ix.del_lk ι p'.1 p'.2).f _ _ _ (fun e=>?_) g1;subst en;obtain ⟨_,r,b,m1,m2,m3⟩:=hq;have:=(R.rows _ _ _ m1).1;rw [e.1,e.2,this] at g2;cases g2
  have bz:∀ b,H b->¬ g0 b:=fun b hb h=>by
   obtain ⟨p',e,h5,h6,_⟩:=gi b h;have e2:=((R.obs _ _ _ h2).1 b hb).2.2.1 _ _ h5;rw [e2.1,e2.2,h2] at h6;cases h6
  exact ⟨p,H,wn _ _ _ _ h1 h2,za ▸ h2,O.keep h3 (fun b hb=>blk b (O.lt h3 hb) (bz b hb)) rb,h4.keep (fun t1 n1 b1 H1 g1 g2=>⟨wn _ _ _ _ g1 g2,H1,za ▸ g2⟩) fun x hx=>(blk _ (uA hx) (bz _ (O.main h3))).trans hx⟩
 ·rw [za] at h;obtain ⟨h1,h2⟩:=R.obs t' n' H h;refine ⟨fun b hb=>?_,?_⟩
  ·obtain ⟨g1,g2,g3,g4,g5⟩:=h1 b hb;refine ⟨g1,by omega,fun t2 n2 h'=>?_,g4,za ▸ g5⟩;rcases zc _ _ _ h' with ⟨e1,e2,e3⟩ | ⟨h',_⟩
   ·exfalso;rcases hg with hg | hg
    ·omega
    ·obtain ⟨p',e,h5,h6,_⟩:=gi g hg.1;have e4:=g3 _ _ (e3 ▸ h5);rw [e4.1,e4.2,h] at h6;cases h6
   ·exact g3 t2 n2 (del _ _ _ h').1
  ·show n'<(s.killO q).next\/n'=(s.killO q).next/\_;rw [sx];exact h2.imp id fun ⟨e,d⟩=>⟨e,.inl d⟩
 ·show nA ι' _ _ w' ((s.killO q).gh j).v _;rw [mz];exact hS _ _ (R.gen j)
 ·show pE Θ ((s.killO q).gh j).a _;rw [mz];exact R.gann j
theorem H4 {cl:Cl} {hs:Nat->Bool} {L:List Nat} {op:Go.Op} {k:K} (h:lN P cl hs L op=some k):qX k=false:=by
 unfold lN at h;split at h
 ·split at h
  ·obtain ⟨_,_,rfl⟩:=y8.1 h; rfl
  ·split at h
   ·split at h
    ·split at h
     ·split at h
      ·split at h
       ·split at h
        ·split at h
         ·injection h with h; subst h; rfl
         ·split at h
          ·injection h with h; subst h; rfl
          ·cases h
        ·cases h
       ·cases h
      ·cases h
     ·cases h
    ·cases h
   ·cases h
 ·cases h
theorem gW {av:Av} {cs:List AV} {us:List Value} (h:IA av w cs us) {cur:Array Value} (hc:∀ (j:Nat) (u:Value),us[j]?=some u->cur[j]?=some u):us=cur.toList.take cs.length:=by
 have hl:=NA (aB (ι:=Ix.none) h);refine List.ext_getElem? fun j=>?_
 rw [ym];split
 ·rename_i hj;have hu:us[j]?=some us[j]:=yn (by omega);rw [hu,Array.getElem?_toList,hc j _ hu]
 ·exact List.getElem?_eq_none (by omega)
theorem r9 (R:DA P O nt B F0 ga w0 D s a w ι Θ) {call:OA} (oa:∀ f args S r,call f args S=some r->EA P O f args S r) {cl:Cl} {hs:Nat->Bool} {L:List Nat} {k:K} (hk:lN P cl hs L o.op=some k) (hd:∀ d,o.dst=some d->d<nt) (hD:∀ d,o.dst=some d->(DS k||ML k)=true->¬ D d)
  {xe:qA × wB} (hr:k.run call s=some xe) {g} {s':tA} (he:sA.eff ⟨o.dst,k,g⟩ s xe=some s')
  {Kn:Act->World->Prop} {Q:Exit->Act->World->Prop} (hK:∀ a' w',fB P O nt B F0 ga w0 (fun t=>D t\/o.dst=some t) s' a' w'->Kn a' w'):o.wp P a w Kn Q:=by
 unfold lN at hk;split at hk
 case h_2=>cases hk
 rename_i f Xs ts ho;have sh:(Xs.toList.map a.eval).toArray=Xs.map a.eval:=by rw [<- Array.toList_map,yE]
 have run:(∀ xs w,(callFunc f xs).run P w=.ok (.enter f xs) w)->(execOp a.eval o).run P w=.ok (.enter f (Xs.map a.eval)) w:=fun h=>by
  simp only [execOp,ho,resolve,Act.eval,Deferred.ofValue,Sem.run_bind,Sem.run_pure,Result.andThen_ok,invoke];have:=h (#[]++Xs.map a.eval++#[]) w;simp_all
 have ak:∀ b o,JA ga ι Θ b o->b<w.heap.size:=fun b o h=>R.low h
 obtain ⟨x,e⟩:=xe;split at hk
 ·-- numbers and letters,by what the memory of the arguments uk
  obtain ⟨xs,sb,rfl⟩:=y8.1 hk;simp only [K.run] at hr;split at hr
  case isFalse=>cases hr
  rename_i ea;obtain ⟨r,hc,hr⟩:=y0.1 hr;split at hr
  case h_2=>cases hr
  rename_i v;split at hr
  case isFalse=>cases hr
  rename_i zu;injection hr with hr;injection hr with h1 h2;subst h1; subst h2;have hm:IC (xs.map fun x=>(x.get s).frz s)=false:=by
   cases hv:xs.map fun x=>(x.get s).frz s with
   | nil=>rfl
   | cons y ys =>
    have:=y5.1 ea.2 y (by rw [hv]; exact yh);cases y <;> first | rfl | (simp [AV.free,AV.free0] at this; done)
  have sa:=(EA.of hm).1 (oa f _ none _ hc);have ka:∀ {Xs:List Operand} {xs:List GA},ZB Xs=some xs->(xs.map fun x=>(x.get s).frz s).all AV.free=true->jC Ix.none (XT s (JA ga ι Θ) ι) (fun _ _=>False) w (xs.map fun x=>(x.get s).frz s) (Xs.map a.eval):=by
   intro Xs
   induction Xs with
   | nil=>intro xs h _; injection h with h; subst h; rfl
   | cons X Xr ih =>
    intro xs h hf;unfold ZB at h;split at h
    ·rename_i y ys hy hys;injection h with h;subst h;simp only [yf,List.all_cons,y7] at hf ⊢;exact ⟨_,_,rfl,EO ((R.opd hy).1.frz R) hf.1,ih hys hf.2⟩
    ·cases h
  simp only [sA.eff] at he;injection he with he;subst he;have hC:=sa.2 (XT s (JA ga ι Θ) ι) w _ ⟨⟨R.wd,fun _ h=>h.elim⟩,fun b o h=>ak b o h.1⟩ (ka sb ea.2);rw [sh] at hC;unfold Oper.wp;rw [run sa.1,Oper.upon_enter];refine hC.mono ?_;rintro e w' ⟨u,rfl,hv,hb⟩;have R':DA P O nt B F0 ga w0 D s a w' ι Θ:=R.grow (fun b ra=>hb.block b ra) hb.size (R.kept.trans_below hb);refine hK _ _ ⟨ι,Θ,(R'.putN (x:=⟨v,.no⟩) hd ?_ trivial).more fun _ h=>.inl h⟩;refine fE ?_;cases v with
  | tup vs =>
   obtain ⟨us,hu,ht⟩:=hv;refine ⟨us,hu,?_⟩;have key:∀ {vs:List AV} {us:List Value},vs.all AV.scal=true->JF (XT s (JA ga ι Θ) ι) w' vs us->JF (JA ga ι Θ) w' vs us:=by
    intro vs
    induction vs with
    | nil=>intro us _ h; exact h
    | cons y r ih =>
     intro us hs h;simp only [List.all_cons,y7] at hs;simp only [JF] at h ⊢;obtain ⟨u,na,rfl,h0,h⟩:=h;refine ⟨u,na,rfl,?_,ih hs.2 h⟩;cases y <;> first | exact h0 | (simp [AV.scal] at hs; done)
   exact key zu ht
  | _=>first | exact hv | (simp [AV.plain,AV.scal] at zu; done)
 ·split at hk
  case isFalse=>cases hk
  split at hk
  case h_2=>cases hk
  split at hk
  case h_2=>cases hk
  split at hk
  case h_2=>cases hk
  split at hk
  case h_2=>cases hk
  rename_i z ys hz sb;split at hk
  case isFalse=>cases hk
  split at hk
  ·-- a new slice
   injection hk with hk;subst hk;simp only [K.run] at hr;split at hr
   case h_2=>cases hr
   rename_i vs hl de;obtain ⟨r,hc,hr⟩:=y0.1 hr;split at hr
   case h_2=>cases hr
   rename_i b l;split at hr
   case isFalse=>cases hr
   rename_i ea;have sa:eD P O f vs none (.sl b l,none):=EA.own (wH hl) (oa f (.undef :: vs) none _ hc);have nob:∀ x∈ys,∀ t n,x.get s=.ptr t n 0->False:=fun x hx t n h=>by
    have:(t,n)∈lC s ys:=List.mem_filterMap.2 ⟨x,hx,by rw [h]⟩;rw [de] at this;cases this
   have ka:=UC (ι':=Ix.none) (avl:=fun _ _=>False) R (fun _ _ h=>h.elim) sb hl fun x hx t n h=>(nob x hx t n h).elim
   have hC:=sa.2 (JA ga ι Θ) w _ R.low0 ka;rw [sh] at hC;unfold Oper.wp;rw [run sa.1,Oper.upon_enter];refine hC.mono ?_;rintro e' w' ⟨u,rfl,hv,hb⟩;split at hr
   ·rename_i sg;have jq:l=[]:=by simpa using sg
    subst jq;injection hr with hr;injection hr with h1 h2;subst h1; subst h2;simp only [sA.eff] at he;injection he with he;subst he;rw [if_pos rfl] at hv;have R':DA P O nt B F0 ga w0 D s a w' ι Θ:=R.grow (fun b ra=>hb.block b ra) hb.size (R.kept.trans_below hb);exact hK _ _ ⟨ι,Θ,(R'.putN (x:=⟨.sl b [],.ex⟩) hd (fE hv.1) (hv.2.imp fun A h=>⟨0,h⟩)).more fun _ h=>.inl h⟩
   ·rename_i sg;have db:l≠[]:=fun h=>sg (by simp [h])
    split at hr
    case isTrue=>cases hr
    injection hr with hr;injection hr with h1 h2;subst h1; subst h2;cases fa:o.dst with
    | none=>simp [sA.eff,fa] at he
    | some d =>
     simp only [sA.eff,fa] at he;injection he with he;subst he;rw [if_neg db] at hv;obtain ⟨g',c,cur,ty,rfl,hg,ba,jb,eg,mb⟩:=hv z ea.1;obtain ⟨ι',R'⟩:=R.swap (q:=none) (g0:=fun _=>False) (fun _ h=>h) (WA.of_below hb _) (hd d fa) (hD d fa rfl) (l:=l.flatten) (hg.imp id fun h=>h.1.elim) ba mb (x:=.ref d s.next z 0 l.length l.length) (v:=.slice (some ⟨g',0,none⟩) l.length c) fun ι' h1 h2=>⟨g',h1,y6 _,c,jb,by rw [h2,yb]; exact eg,rfl⟩
     refine hK _ _ ⟨ι',Θ,?_⟩;rw [fa];exact R'.more fun t h=>h.imp id fun e=>by rw [e]
  ·split at hk
   case h_2=>cases hk
   rename_i y rest;injection hk with hk;subst hk
   -- the first argument is the row
   cases ll:Xs.toList with
   | nil=>rw [ll] at sb; cases sb
   | cons X Xr =>
    rw [ll] at sb sh;unfold ZB at sb;split at sb
    case h_2=>cases sb
    rename_i y' rest' hy ss;injection sb with sb;injection sb with e1 e2;subst e1; subst e2;simp only [K.run] at hr;split at hr
    case h_2=>cases hr
    rename_i vs hl de;split at hr
    case isFalse=>cases hr
    have nob:∀ x∈rest',∀ t n,x.get s=.ptr t n 0->False:=fun x hx t n h=>by
     have:(t,n)∈lC s rest':=List.mem_filterMap.2 ⟨x,hx,by rw [h]⟩;rw [de] at this;cases this
    have ka:=UC (ι':=Ix.none) (avl:=fun _ _=>False) R (fun _ _ h=>h.elim) ss hl fun x hx t n h=>(nob x hx t n h).elim
    have hY:=(R.opd hy).1;have uQ:∀ {q:Option (Nat × Nat)} {g0:Nat->Prop} {l':List (List AV)} {nl:Bool} {l0:List (List AV)},(match q with
      | none=>∀ b,¬ g0 b
      | some p=>p.1≠0/\∃ r b,s.mem p.1 p.2=some r/\ι p.1 p.2=some b/\∀ b',g0 b' ↔ b'=b)->eD P O f (.sl nl l0 :: vs) (some (.int .i64 z)) (.sl false l',none)->PQ z (JA ga ι Θ) w nl l0 (a.eval X) g0 →
      (∀ d,o.dst=some d->s'=(((s.killO q).setRow d s.next (lA l')).put (some d) ⟨.ref d s.next z 0 l'.length l'.length,.no⟩))->(o.dst=none->False)->o.wp P a w Kn Q:=fun {q g0 l' nl l0} hq sa hgi nq xc=>by
     have hC:=sa.2 (JA ga ι Θ) w (a.eval X) _ g0 ⟨⟨R.wd,fun b hb=>by
      cases q with
      | none=>exact (hq b hb).elim
      | some p =>
       obtain ⟨_,r,b',_,h1,h2⟩:=hq;rw [(h2 b).1 hb];exact R.lo (R.mine _ _ _ h1).1⟩,ak⟩ ka (by simpa using hgi)
     have he1:(a.eval X :: Xr.map a.eval).toArray=Xs.map a.eval:=by rw [<- sh]; rfl
     rw [he1] at hC;unfold Oper.wp;rw [run sa.1,Oper.upon_enter];refine hC.mono ?_;rintro e' w' ⟨u,rfl,⟨g',c,cur,ty,rfl,hg,ba,jb,eg,mb⟩,hkp⟩;cases fa:o.dst with
     | none=>exact (xc fa).elim
     | some d =>
      obtain ⟨ι',R'⟩:=R.swap (q:=q) hq hkp (hd d fa) (hD d fa rfl) (l:=l'.flatten) hg ba mb (x:=.ref d s.next z 0 l'.length l'.length) (v:=.slice (some ⟨g',0,none⟩) l'.length c) fun ι' h1 h2=>⟨g',h1,y6 _,c,jb,by rw [h2,yb]; simpa using eg,rfl⟩
      refine hK _ _ ⟨ι',Θ,?_⟩;rw [nq d fa,fa];exact R'.more fun t h=>h.imp id fun e=>by rw [e]
    split at hr
    ·rename_i t n z' off ln cap ah;split at hr
     case h_2=>cases hr
     rename_i l0 ib;split at hr
     case isFalse=>cases hr
     rename_i ea;obtain ⟨rfl,rfl,ht0,hLt⟩:=ea;obtain ⟨r,hc,hr⟩:=y0.1 hr;split at hr
     case h_2=>cases hr
     rename_i l';split at hr
     case isFalse=>cases hr
     injection hr with hr;injection hr with h1 h2;subst h1; subst h2;have sa:eD P O f (.sl false l0 :: vs) (some (.int .i64 z')) (.sl false l',none):=EA.own rfl (oa f (.undef :: .sl false l0 :: vs) _ _ hc);rw [ah] at hY;obtain ⟨b,hb,jb,cc,sd,xg,hv⟩:=hY;simp only [AV.elems] at ib;split at ib
     case isFalse=>cases ib
     obtain ⟨row,hm,ib⟩:=y0.1 ib;obtain ⟨xc,b',cur,ty,ra,ba,ja,_,eg⟩:=R.rows t n row hm;rw [hb] at ra;injection ra with ra;subst ra;obtain ⟨q1,q2,us,q3,q4⟩:=PC ja ba ib;have oc:us=cur.toList.take l0.flatten.length:=gW q3 fun j u hj=>by
      have:=q4 j u hj;simpa [World.cell?,ba] using this
     rw [oc] at q3;subst q1;refine uQ (q:=some (t,n)) (g0:=fun x=>x=b) ⟨ht0,row,b,hm,hb,fun _=>Iff.rfl⟩ sa (.inr ⟨rfl,b,cc,cur,ty,hv,fun _=>Iff.rfl,ba,yp jb sd,by rw [eg]; simpa using xg,fun o=>.inr (.inl (.inl ⟨t,n,hb⟩)),q3⟩) (fun d fa=>?_) fun fa=>by simp [sA.eff,fa] at he
     simp only [sA.eff,fa] at he;injection he with he;exact he.symm
    ·rename_i b ah;split at hr
     case isFalse=>cases hr
     rename_i fg;obtain ⟨r,hc,hr⟩:=y0.1 hr;split at hr
     case h_2=>cases hr
     rename_i l';split at hr
     case isFalse=>cases hr
     injection hr with hr;injection hr with h1 h2;subst h1; subst h2;have sa:eD P O f (.sl b [] :: vs) (some (.int .i64 z)) (.sl false l',none):=EA.own rfl (oa f (.undef :: .sl b [] :: vs) _ _ hc);have iz:=(R.opd hy).2;rw [ah] at hY;obtain ⟨A,c,hv,_,_,h3,_⟩:=hY;obtain ⟨ju,jx⟩:c=0/\(b=true->A=none):=by
      cases b with
      | true =>
       obtain ⟨rfl,_,rfl⟩:=h3 rfl;exact ⟨rfl,fun _=>rfl⟩
      | false =>
       refine ⟨?_,fun h=>by cases h⟩;unfold w8 SS at fg;cases ha:y'.an s with
       | ex =>
        rw [ha,hv] at iz;obtain ⟨A',n',h⟩:=iz;injection h with _ h1 h2;rw [h2,<- h1]; rfl
       | no=>rw [ha] at fg; cases fg
       | own k e=>rw [ha] at fg; cases fg
     refine uQ (q:=none) (g0:=fun _=>False) (fun _ h=>h) sa (.inl ⟨rfl,⟨A,by rw [hv,ju]; rfl⟩,fun h=>by rw [hv,ju,jx h]; rfl,fun _ h=>h⟩) (fun d fa=>?_) fun fa=>by simp [sA.eff,fa] at he
     simp only [sA.eff,fa] at he;injection he with he;exact he.symm
    ·cases hr
end
end
section
open Go Go.RowKit
section
variable {P:Program} {O:OB} {nt B:Nat} {F0:DH} {ga:Av} {w0:World} {D:Nat->Prop} {s:tA} {a:Act} {w w':World} {ι:Ix} {Θ:tE} {o:Oper}
theorem KA (R:DA P O nt B F0 ga w0 D s a w ι Θ) {x:qA} {e:wB} (hv:e=.none/\LK P ga a w ι Θ o x) (hd:∀ d,o.dst=some d->d<nt) {k:K} {g} {s':tA} (he:sA.eff ⟨o.dst,k,g⟩ s (x,e)=some s')
  {Kn:Act->World->Prop} {Q:Exit->Act->World->Prop} (hK:∀ a' w',fB P O nt B F0 ga w0 D s' a' w'->Kn a' w'):o.wp P a w Kn Q:=by
 obtain ⟨rfl,v,aa,hS,hA⟩:=hv;simp only [sA.eff] at he;cases he;unfold Oper.wp;rw [aa,Oper.upon_value];exact hK _ _ ⟨ι,Θ,R.putN hd hS hA⟩
theorem TT {s':tA} (h:∃ v w',(execOp a.eval o).run P w=.ok (.value v) w'/\fB P O nt B F0 ga w0 D s' (a.put o.dst v) w')
  {Kn:Act->World->Prop} {Q:Exit->Act->World->Prop} (hK:∀ a' w',fB P O nt B F0 ga w0 D s' a' w'->Kn a' w'):o.wp P a w Kn Q:=by
 obtain ⟨v,w',aa,hR⟩:=h;unfold Oper.wp;rw [aa,Oper.upon_value];simp_all
theorem eB {α β:Type} {x:Option α} {f:α->β} {z:β} (h:x.map f=some z):∃ a,x=some a/\f a=z:=by
 simp_all
theorem tW {xs:Array Operand} {x':GA} (hx:ZB xs.toList=some [x']):∃ X,xs=#[X]/\opd X=some x':=by
 obtain ⟨l⟩:=xs
 match l,hx with
 | [X],hx =>
  unfold ZB at hx
  grind
 | [],hx=>simp [ZB] at hx
 | X :: Y :: r,hx =>
  unfold ZB at hx;split at hx
  ·rename_i y l hy hl;injection hx with hx;injection hx with h1 h2;subst h2;unfold ZB at hl
   grind
  ·cases hx
theorem HZ (R:DA P O nt B F0 ga w0 D s a w ι Θ) {call:OA} (oa:∀ f args S r,call f args S=some r->EA P O f args S r) {cl:Cl} {mu:Option Bool} {nest:Bool} {k:K} (hk:BS P cl mu o.op nest=some k) (eh:mu≠none->o.dst≠none) (hd:∀ d,o.dst=some d->d<nt) (hD:∀ d,o.dst=some d->(DS k||ML k)=true->¬ D d)
  {xe:qA × wB} (hr:k.run call s=some xe) {g} {s':tA} (he:sA.eff ⟨o.dst,k,g⟩ s xe=some s')
  {Kn:Act->World->Prop} {Q:Exit->Act->World->Prop} (hK:∀ a' w',fB P O nt B F0 ga w0 (fun t=>D t\/o.dst=some t) s' a' w'->Kn a' w'):o.wp P a w Kn Q:=by
 have ec:∀ a' w',fB P O nt B F0 ga w0 D s' a' w'->Kn a' w':=fun a' w' ⟨ι',Θ',h⟩=>hK a' w' ⟨ι',Θ',h.more fun _ h=>.inl h⟩
 have pb:∀ d,o.dst=some d->(∃ v w',(execOp a.eval o).run P w=.ok (.value v) w'/\fB P O nt B F0 ga w0 (fun t=>D t\/t=d) s' (a.put o.dst v) w')->o.wp P a w Kn Q:=fun d fa h =>
  TT h fun a' w' ⟨ι',Θ',h⟩=>hK a' w' ⟨ι',Θ',h.more fun t h=>h.imp id fun e=>by rw [fa,e]⟩
 obtain ⟨x,e⟩:=xe;cases gb:o.op <;> rw [gb] at hk <;> simp only [BS] at hk
 case move X=>obtain ⟨y,hy,rfl⟩:=eB hk; simp only [K.run] at hr; injection hr with hr; injection hr with h1 h2; subst h1; subst h2; exact KA R ⟨rfl,Z0 R hy (.inl gb)⟩ hd he ec
 case assign X=>obtain ⟨y,hy,rfl⟩:=eB hk; simp only [K.run] at hr; injection hr with hr; injection hr with h1 h2; subst h1; subst h2; exact KA R ⟨rfl,Z0 R hy (.inr gb)⟩ hd he ec
 case pick C X Y =>
  split at hk
  ·rename_i c x' y' hc hx hy;cases hk;simp only [K.run] at hr;split at hr
   ·rename_i t ht;injection hr with hr; injection hr with h1 h2; subst h1; subst h2;exact KA R ⟨rfl,X0 R hc hx hy gb ht⟩ hd he ec
   ·cases hr
  ·cases hk
 case alloc t =>
  split at hk
  case h_2 =>
   obtain ⟨el,ib,rfl⟩:=eB hk;simp only [K.run] at hr;injection hr with hr; injection hr with h1 h2; subst h1; subst h2;cases fa:o.dst with
   | none=>simp [sA.eff,fa] at he
   | some d =>
    simp only [sA.eff,fa] at he;cases he;exact pb d fa (M8 R ib gb fa (hd d fa) (hD d fa rfl))
  obtain ⟨z,hz,rfl⟩:=eB hk;cases fa:o.dst with
  | none=>simp [K.run] at hr; obtain ⟨rfl,rfl⟩:=hr; simp [sA.eff,fa] at he
  | some d=>exact pb d fa (SZ R hz gb fa (hd d fa) (hD d fa rfl) hr he)
 case box t X =>
  split at hk
  ·rename_i z x' hz hx;cases hk;cases fa:o.dst with
   | none =>
    simp only [K.run] at hr;split at hr
    ·split at hr
     ·injection hr with hr; injection hr with h1 h2; subst h1; subst h2; simp [sA.eff,fa] at he
     ·cases hr
    ·split at hr
     ·injection hr with hr; injection hr with h1 h2; subst h1; subst h2; simp [sA.eff,fa] at he
     ·cases hr
   | some d=>exact pb d fa (j6 R hx gb fa (hd d fa) (hD d fa rfl) hr he)
  ·cases hk
 case build t ps =>
  split at hk
  ·rename_i fs z ys ht hz hy;split at hk
   ·rename_i pl zu;obtain ⟨zs,gf,rfl⟩:=eB hk;obtain ⟨zv,i,hi,bi,_,hl⟩:=gC hz w;refine KA R (WQ R hl (pl:=(pl.toArray[·]?)) ?_ hy gf gb hr) hd he ec;simp [Program.built,hi,ht,bi,zu]
   ·cases hk
  ·rename_i n el z ys ht hz hy;split at hk
   ·rename_i ie jr;obtain ⟨zs,gf,rfl⟩:=eB hk;obtain ⟨zv,i,hi,bi,_,hl⟩:=gC hz w;refine KA R (WQ R hl (pl:=fun i=>some (i * ie.size,ie.size)) ?_ hy gf gb hr) hd he ec;simp [Program.built,hi,ht,bi,jr]
   ·cases hk
  ·cases hk
 case buildSlice t n ps =>
  split at hk
  ·rename_i el ys ht hy;split at hk
   ·rename_i z kk hz hs;split at hk
    ·rename_i hc;cases mu with
     | none =>
      simp only at hk;cases hk;obtain ⟨rfl,v,w',aa,R',hS,hA⟩:=B8 R ht hz hs hc.1 hc.2.1 hc.2.2 hy gb hr;simp only [sA.eff] at he;cases he;unfold Oper.wp;rw [aa,Oper.upon_value];exact ec _ _ ⟨ι,Θ,R'.putN hd hS hA⟩
     | some m =>
      simp only at hk;cases hk;cases fa:o.dst with
      | none=>exact absurd fa (eh (by simp))
      | some d=>exact pb d fa (l6 R ht hz hs hc.1 hc.2.1 hc.2.2 hy gb fa (hd d fa) (hD d fa rfl) hr he)
    ·cases hk
   ·cases hk
  ·cases hk
 case load t X =>
  split at hk
  ·rename_i ag z y hA hz hx;cases hk;exact KA R (J0 R hA hz hx gb hr) hd he ec
  ·cases hk
 case store t X Y =>
  split at hk
  ·rename_i ag z x' y' hA hz hx hy;split at hk
   ·rename_i xv;cases hk;obtain ⟨w',aa,hR⟩:=JZ R hz (by simpa using xv) hx hy gb hd hr he;unfold Oper.wp;rw [aa,Oper.upon_skip];simp_all
   ·cases hk
  ·cases hk
 case nilCheck X=>obtain ⟨y,hy,rfl⟩:=eB hk; exact KA R (GT R hy gb hr) hd he ec
 case binOp op t X Y t' =>
  split at hk
  ·rename_i x' y' hx hy;split at hk
   ·cases hk;simp only [K.run] at hr;obtain ⟨v,hv,hr⟩:=eB hr;injection hr with h1 h2; subst h1; subst h2
    refine KA R ⟨rfl,K6 R (fun hb=>?_) hx hy gb hv⟩ hd he ec
    grind
   ·split at hk
    ·split at hk
     ·rename_i el ht; injection hk with hk; subst hk; exact KA R (zO R (neg:=false) (ptr:=false) ⟨el,ht⟩ hx hy gb hr) hd he ec
     ·rename_i el ht; injection hk with hk; subst hk; exact KA R (zO R (neg:=false) (ptr:=true) ⟨el,ht⟩ hx hy gb hr) hd he ec
     ·obtain ⟨ks,ht,rfl⟩:=eB hk; exact KA R (lW R (neg:=false) ht hx hy gb hr) hd he ec
    ·split at hk
     ·rename_i el ht; injection hk with hk; subst hk; exact KA R (zO R (neg:=true) (ptr:=false) ⟨el,ht⟩ hx hy gb hr) hd he ec
     ·rename_i el ht; injection hk with hk; subst hk; exact KA R (zO R (neg:=true) (ptr:=true) ⟨el,ht⟩ hx hy gb hr) hd he ec
     ·obtain ⟨ks,ht,rfl⟩:=eB hk; exact KA R (lW R (neg:=true) ht hx hy gb hr) hd he ec
    ·cases hk
  ·cases hk
 case unOp op t X =>
  split at hk
  ·obtain ⟨y,hy,rfl⟩:=eB hk; exact KA R (X9 R hy gb hr) hd he ec
  ·cases hk
 case convert t t' X =>
  split at hk
  ·rename_i j kk x' h1 h2 hx; injection hk with hk; subst hk; exact KA R (OS R (k:=some kk) ⟨⟨j,h1⟩,h2⟩ hx gb hr) hd he ec
  ·rename_i x' h1 h2 hx; injection hk with hk; subst hk; exact KA R (OS R (k:=none) ⟨h1,h2⟩ hx gb hr) hd he ec
  ·rename_i j x' h1 h2 hx; injection hk with hk; subst hk; exact KA R (C0 R h1 h2 hx gb hr) hd he ec
  ·rename_i el x' h1 h2 hx;split at hk
   ·rename_i h3;split at hk
    ·injection hk with hk; subst hk; exact KA R (H0 R h1 h3 h2 hx gb hr) hd he ec
    ·cases hk
   ·cases hk
  ·cases hk
 case makeSlice t L C =>
  split at hk
  ·rename_i el l c ht hl hc;split at hk
   ·rename_i z i hz hi;split at hk
    ·rename_i ea;cases hk;cases fa:o.dst with
     | none =>
      simp only [K.run] at hr;split at hr
      ·split at hr
       ·injection hr with hr; injection hr with h1 h2; subst h1; subst h2; simp [sA.eff,fa] at he
       ·cases hr
      ·cases hr
     | some d=>exact pb d fa (w9 R ht hi hz ea.1 hl hc gb fa (hd d fa) (hD d fa rfl) hr he)
    ·cases hk
   ·cases hk
  ·cases hk
 case slice t X L H M =>
  split at hk
  ·rename_i x' l h m hx hl hh hm;split at hk
   ·rename_i ht;cases hk;cases M with
    | none=>injection hm with hm; subst hm; exact KA R (xW R (str:=true) ht hx hl hh gb hr) hd he ec
    | some M=>simp only [oO] at hm; obtain ⟨m',_,rfl⟩:=eB hm; simp [K.run] at hr
   ·rename_i el ht;split at hk
    ·rename_i xg;obtain ⟨z,hz,rfl⟩:=eB hk;rw [y7] at xg;exact KA R (C6 R ht hz xg.1 xg.2 hx gb hr) hd he ec
    ·obtain ⟨z,hz,rfl⟩:=eB hk;cases M with
     | none=>injection hm with hm; subst hm; exact KA R (xW R (str:=false) ⟨el,ht,hz⟩ hx hl hh gb hr) hd he ec
     | some M=>simp only [oO] at hm; obtain ⟨m',_,rfl⟩:=eB hm; simp [K.run] at hr
   ·rename_i n' el ht;cases M with
    | none =>
     injection hm with hm; subst hm;obtain ⟨z,hz,rfl⟩:=eB hk;exact KA R (G0 R ht hz hx hl hh gb hr) hd he ec
    | some M=>simp only [oO] at hm; obtain ⟨m',_,rfl⟩:=eB hm; cases hk
   ·cases hk
  ·cases hk
 case fieldAddr t X i =>
  split at hk
  ·rename_i fs x' ht hx;split at hk
   ·rename_i f hf;split at hk
    ·rename_i n hn; injection hk with hk; subst hk; exact KA R (TX R ht hf hn hx gb hr) hd he ec
    ·cases hk
   ·cases hk
  ·cases hk
 case field t X i =>
  split at hk
  ·rename_i fs x' ht hx;split at hk
   ·rename_i f hf;split at hk
    ·rename_i ag z hA hz; injection hk with hk; subst hk; exact KA R (UX R ht hf hA hz hx gb hr) hd he ec
    ·cases hk
   ·cases hk
  ·cases hk
 case indexAddr t X I =>
  split at hk
  ·rename_i el x' i' ht hx hi;obtain ⟨z,hz,rfl⟩:=eB hk;exact KA R (IX R ht hz hx hi gb hr) hd he ec
  ·rename_i n' e x' i' ht hx hi;obtain ⟨z,hz,rfl⟩:=eB hk;exact KA R (RX R ht hz hx hi gb hr) hd he ec
  ·cases hk
 case index t X I =>
  split at hk
  ·rename_i x' i' ht hx hi;cases hk;exact KA R (OX R ht hx hi gb hr) hd he ec
  ·cases hk
 case makeMap t r =>
  split at hk
  ·rename_i kT eT ht;obtain ⟨ty,ld,rfl⟩:=eB hk;simp only [K.run] at hr;injection hr with hr; injection hr with h1 h2; subst h1; subst h2;cases fa:o.dst with
   | none=>simp [sA.eff,fa] at he
   | some d =>
    simp only [sA.eff,fa] at he;cases he;have h:=q9 R gb fa (hd d fa) (hD d fa rfl);exact pb d fa h
  ·cases hk
 case entry X =>
  obtain ⟨x',hx,rfl⟩:=eB hk;simp only [K.run] at hr;split at hr
  ·rename_i t' n gc;split at hr
   ·rename_i tm nm N seen hi;split at hr
    ·rename_i L i hL hl;split at hr
     ·rename_i hN;split at hr
      ·rename_i y v ah;split at hr
       ·rename_i dg;injection hr with hr; injection hr with h1 h2; subst h1; subst h2;exact KA R ⟨rfl,L6 R hx gb gc hi hL hl hN ah dg⟩ hd he ec
       ·cases hr
      ·cases hr
     ·cases hr
    ·cases hr
   ·cases hr
  ·cases hr
 case range t X =>
  split at hk
  ·rename_i kT eT ht;obtain ⟨x',hx,rfl⟩:=eB hk;simp only [K.run] at hr;split at hr
   ·rename_i t' n gc;split at hr
    ·rename_i L hL;injection hr with hr; injection hr with h1 h2; subst h1; subst h2;cases fa:o.dst with
     | none=>simp [sA.eff,fa] at he
     | some d =>
      simp only [sA.eff,fa] at he;cases he;have h:=o9 R ht hx gb gc hL fa (hd d fa) (hD d fa rfl);exact pb d fa h
    ·cases hr
   ·cases hr
  ·cases hk
 case lookup t X I ok =>
  split at hk
  ·rename_i kT eT x' i' ht hx hi;split at hk
   ·rename_i ty z ld hz;cases hk;simp only [K.run] at hr;split at hr
    ·rename_i t' n gc;split at hr
     ·rename_i L hL;split at hr
      ·rename_i ea;injection hr with hr; injection hr with h1 h2; subst h1; subst h2;unfold GO at ld;split at ld
       ·rename_i kk ci;cases ld;exact KA R ⟨rfl,CO R (jM kk) (BQ ci) ht hz ea.2.2 hx hi gb gc hL ea.1 ea.2.1⟩ hd he ec
       ·rename_i ci;cases ld;exact KA R ⟨rfl,CO R kM (NQ ci) ht hz ea.2.2 hx hi gb gc hL ea.1 ea.2.1⟩ hd he ec
       ·obtain ⟨l,_,ld⟩:=y0.1 ld;split at ld
        ·rename_i dg;cases ld;exact KA R ⟨rfl,CO R (gM l) (CQ dg.1) ht hz ea.2.2 hx hi gb gc hL ea.1 ea.2.1⟩ hd he ec
        ·cases ld
      ·cases hr
     ·cases hr
    ·cases hr
   ·cases hk
  ·cases hk
 case mapUpdate t X I Y =>
  split at hk
  ·rename_i kT eT x' i' y' ht hx hi hy;obtain ⟨ty,ld,rfl⟩:=eB hk;simp only [K.run] at hr;split at hr
   ·rename_i t' n gc;split at hr
    ·rename_i L hL;split at hr
     ·rename_i ea;injection hr with hr; injection hr with h1 h2; subst h1; subst h2;simp only [sA.eff] at he;cases he;have key:∃ w',(execOp a.eval o).run P w=.ok .skip w'/\fB P O nt B F0 ga w0 D ((s.setObj t' n (sG (nH L (i'.get s) (y'.get s)))).put o.dst ⟨.undef,.no⟩) (a.put o.dst undef) w':=by
       unfold GO at ld;split at ld
       ·rename_i kk ci;cases ld;exact eH R (jM kk) (BQ ci) ht hx hi hy (.inl gb) hd gc hL ea.1 ea.2.1 ea.2.2
       ·rename_i ci;cases ld;exact eH R kM (NQ ci) ht hx hi hy (.inl gb) hd gc hL ea.1 ea.2.1 ea.2.2
       ·obtain ⟨l,_,ld⟩:=y0.1 ld;split at ld
        ·rename_i dg;cases ld;exact eH R (gM l) (CQ dg.1) ht hx hi hy (.inl gb) hd gc hL ea.1 ea.2.1 ea.2.2
        ·cases ld
      obtain ⟨w',aa,hR⟩:=key;unfold Oper.wp;rw [aa,Oper.upon_skip];simp_all
     ·cases hr
    ·cases hr
   ·cases hr
  ·cases hk
 case insert t X I Y =>
  split at hk
  ·rename_i kT eT x' i' y' ht hx hi hy;obtain ⟨ty,ld,rfl⟩:=eB hk;simp only [K.run] at hr;split at hr
   ·rename_i t' n gc;split at hr
    ·rename_i L hL;split at hr
     ·rename_i ea;injection hr with hr; injection hr with h1 h2; subst h1; subst h2;simp only [sA.eff] at he;cases he;have key:∃ w',(execOp a.eval o).run P w=.ok .skip w'/\fB P O nt B F0 ga w0 D ((s.setObj t' n (sG (nH L (i'.get s) (y'.get s)))).put o.dst ⟨.undef,.no⟩) (a.put o.dst undef) w':=by
       unfold GO at ld;split at ld
       ·rename_i kk ci;cases ld;exact eH R (jM kk) (BQ ci) ht hx hi hy (.inr gb) hd gc hL ea.1 ea.2.1 ea.2.2
       ·rename_i ci;cases ld;exact eH R kM (NQ ci) ht hx hi hy (.inr gb) hd gc hL ea.1 ea.2.1 ea.2.2
       ·obtain ⟨l,_,ld⟩:=y0.1 ld;split at ld
        ·rename_i dg;cases ld;exact eH R (gM l) (CQ dg.1) ht hx hi hy (.inr gb) hd gc hL ea.1 ea.2.1 ea.2.2
        ·cases ld
      obtain ⟨w',aa,hR⟩:=key;unfold Oper.wp;rw [aa,Oper.upon_skip];simp_all
     ·cases hr
    ·cases hr
   ·cases hr
  ·cases hk
 case extract X i=>obtain ⟨y,hy,rfl⟩:=eB hk; exact KA R (Z6 R hy gb hr) hd he ec
 case call c =>
  obtain ⟨callee,xs,ts⟩:=c;cases callee with
  | invoke r m=>cases hk
  | value f =>
   cases f with
   | func f =>
    have plain:(ZB xs.toList).map (.call cl f)=some k->o.wp P a w Kn Q:=fun hk=>by
     obtain ⟨ys,hy,rfl⟩:=eB hk;exact z6 R oa hy gb hd (fun d h=>hD d h rfl) hr he hK
    cases mu with
    | none=>exact plain hk
    | some b =>
     cases b with
     | true =>
      obtain ⟨ys,hy,rfl⟩:=eB (show (ZB xs.toList).map (.callr cl f)=some k from hk);exact FZ R oa hy gb hd hr he hK
     | false =>
      have rf:(match P.funcs[f]? with
       | some fn=>(match fn.resultTypes.toList with
        | [t]=>(match P.underlying t with
         | some (.slice e)=>(match LA P e,ZB xs.toList with
          | some z,some xs=>if 0<z then some (K.callf cl f z xs) else none
          | _,_=>none)
         | _=>none)
        | _=>none)
       | none=>none)=some k:=hk
      clear hk;split at rf
      ·split at rf
       ·split at rf
        ·split at rf
         ·rename_i z ys hz hy;split at rf
          ·rename_i kb;injection rf with rf;subst rf;exact DZ R oa hy gb hd (fun d h=>hD d h rfl) kb hr he hK
          ·cases rf
         ·cases rf
        ·cases rf
       ·cases rf
      ·cases rf
   | tmp tf =>
    obtain ⟨ys,hy,rfl⟩:=eB hk;exact GZ R oa hy gb hd hr he hK
   | _=>cases hk
  | builtin b =>
  cases b
  case len =>
   simp only at hk;split at hk
   ·rename_i x' t hx ij;have kt:ts=#[t]:=by have h0:=congrArg List.toArray ij; rwa [yE] at h0
    subst kt;obtain ⟨X,hX,wg⟩:=tW hx;subst hX;split at hk
    ·rename_i ht; injection hk with hk; subst hk; exact KA R (zW R (str:=true) ht wg gb hr) hd he ec
    ·rename_i el ht; injection hk with hk; subst hk; exact KA R (zW R (str:=false) ⟨el,ht⟩ wg gb hr) hd he ec
    ·rename_i kT eT ht;cases hk;simp only [K.run] at hr;split at hr
     ·rename_i t n gc;split at hr
      ·rename_i L hL;injection hr with hr; injection hr with h1 h2; subst h1; subst h2;exact KA R ⟨rfl,x6 R ht wg gb gc hL⟩ hd he ec
      ·cases hr
     ·cases hr
    ·cases hk
   ·cases hk
  case clear =>
   simp only at hk;split at hk
   ·rename_i x' t hx ij;have kt:ts=#[t]:=by have h0:=congrArg List.toArray ij; rwa [yE] at h0
    subst kt;obtain ⟨X,hX,wg⟩:=tW hx;subst hX;split at hk
    ·rename_i el ht;obtain ⟨z,hz,rfl⟩:=eB hk;exact TT (N8 R ht hz wg gb hd hr he) ec
    ·cases hk
   ·cases hk
  case max =>
   simp only at hk;split at hk
   ·rename_i X Y sb;have hX:xs=#[X,Y]:=by rw [<- yE (xs:=xs),sb]
    subst hX;split at hk
    ·rename_i x' y' hx hy;injection hk with hk; subst hk;simp only [K.run] at hr;obtain ⟨v,hv,hr⟩:=eB hr;injection hr with h1 h2; subst h1; subst h2;exact KA R ⟨rfl,K0 R (mx:=true) hx hy gb hv⟩ hd he ec
    ·cases hk
   ·cases hk
  case min =>
   simp only at hk;split at hk
   ·rename_i X Y sb;have hX:xs=#[X,Y]:=by rw [<- yE (xs:=xs),sb]
    subst hX;split at hk
    ·rename_i x' y' hx hy;injection hk with hk; subst hk;simp only [K.run] at hr;obtain ⟨v,hv,hr⟩:=eB hr;injection hr with h1 h2; subst h1; subst h2;exact KA R ⟨rfl,K0 R (mx:=false) hx hy gb hv⟩ hd he ec
    ·cases hk
   ·cases hk
  case append =>
   simp only at hk;split at hk
   ·rename_i x' y' t t' hx ij;split at hk
    ·rename_i iy;subst iy;have kt:ts=#[t,t]:=by have h0:=congrArg List.toArray ij; rwa [yE] at h0
     subst kt;obtain ⟨X,Y,hX,wg,bn⟩:∃ X Y,xs=#[X,Y]/\opd X=some x'/\opd Y=some y':=by
      obtain ⟨l⟩:=xs;have key:∀ {r:List Operand} {ys:List GA},ZB r=some ys->r.length=ys.length/\∀ j (h:j<r.length),opd r[j]=ys[j]?:=by
       intro r
       induction r with
       | nil=>intro ys h; injection h with h; subst h; exact ⟨rfl,fun j h=>by simp at h⟩
       | cons X r ih =>
        intro ys h;unfold ZB at h
        grind
      obtain ⟨h1,h2⟩:=key hx
      match l,h1,h2 with
      | [X,Y],_,h2=>exact ⟨X,Y,rfl,h2 0 (by simp),h2 1 (by simp)⟩
     subst hX;split at hk
     ·rename_i el ht;split at hk
      ·rename_i i z hi hz;split at hk
       ·rename_i ea;injection hk with hk;cases mu with
        | some m =>
         cases fa:o.dst with
         | none=>exact absurd fa (eh (by simp))
         | some d =>
          cases m with
          | true =>
           cases nest with
           | true=>simp only [if_true] at hk; subst hk; exact pb d fa (uR R ht hi hz ea.1 ea.2 wg bn gb fa (hd d fa) (hD d fa rfl) hr he)
           | false=>simp only [yq,if_false] at hk; subst hk; exact pb d fa (g6 R ht hi hz ea.1 ea.2 wg bn gb fa (hd d fa) (hD d fa rfl) hr he)
          | false=>simp only at hk; subst hk; exact pb d fa (rW R ht hi hz ea.1 ea.2 wg bn gb fa (hd d fa) (hD d fa rfl) hr he)
        | none =>
        simp only at hk;subst hk;cases fa:o.dst with
        | none =>
         have:∃ A,e=.app A 0:=by
          simp only [K.run] at hr
          grind
         obtain ⟨A,rfl⟩:=this;simp [sA.eff,fa] at he
        | some d=>exact TT (C8 R ht hi hz ea.1 ea.2 wg bn gb fa (hd d fa) hr he) ec
       ·cases hk
      ·cases hk
     ·cases hk
    ·cases hk
   ·cases hk
  all_goals cases hk
 case makeFunc fn fs Xs =>
  cases fn with
  | func f =>
   simp only at hk;split at hk
   ·rename_i h0;obtain ⟨ys,hy,rfl⟩:=eB hk;exact KA R (X6 R h0 hy gb hr) hd he ec
   ·cases hk
  | _=>cases hk
 all_goals cases hk
end
end
section
section
variable {call:OA} {s s' s1 s2:tA}
inductive Tr where
 | id
 | row (t n:Nat) (r:List qA)
 | an (A:An) (d:Nat)
 | obj (t n:Nat) (S:AV)
 | rn (k:Option (Nat × Nat)) (t n:Nat) (r:List qA)
 | ob2 (t n:Nat) (S:AV) (d m:Nat) (r:List qA)
def Tr.ap:Tr->tA->tA
 | .id,s=>s
 | .row t n r,s=>s.setRow t n r
 | .an A d,s=>(s.stripA A).strip d
 | .obj t n S,s=>s.setObj t n S
 | .rn k t n r,s=>(s.killO k).setRow t n r
 | .ob2 t n S d m r,s=>(s.setObj t n S).setRow d m r
def Tr.f:Tr->An->An
 | .an A d,x=>match A with
  | .own k _=>(x.strip k).strip d
  | _=>x.strip d
 | _,x=>x
theorem Tr.ends (T:Tr):IQ T.f:=by
 cases T with
 | an A d =>
  have h:∀ k j e,(An.own j e).strip k≠.ex:=fun k j e=>by simp only [An.strip]; split <;> simp
  have h':∀ k k' j e,((An.own j e).strip k).strip k'≠.ex:=fun k k' j e=>by
   by_cases hj:j=k
   ·simp [An.strip,hj]
   ·rw [show (An.own j e).strip k=An.own j e from if_neg hj];exact h k' j e
  cases A with
  | own k e=>exact ⟨rfl,rfl,fun j e=>h' k d j e⟩
  | no=>exact ⟨rfl,rfl,fun j e=>h d j e⟩
  | ex=>exact ⟨rfl,rfl,fun j e=>h d j e⟩
 | _=>exact ⟨rfl,rfl,fun _ _ h=>by cases h⟩
theorem Tr.ap_an (A:An) (d:Nat) (s:tA):(Tr.an A d).ap s=s.mapAn (Tr.an A d).f:=by
 cases A with
 | own k e=>simp [Tr.ap,tA.stripA,tA.strip,tA.mapAn,qA.strip,Tr.f,Function.comp_def]
 | no=>rfl
 | ex=>rfl
def sA.runG (call:OA) (o:sA) (s:tA):Option (qA × wB) :=
 match o.guard with
 | none=>o.op.run call s
 | some (t,want)=>match (s.env t).v with
  | .bool b=>if b=want then o.op.run call s else some (⟨.tup [],.no⟩,.none)
  | .tup []=>some (⟨.tup [],.no⟩,.none)
  | _=>none
def sA.effT (o:sA) (next:Nat):qA × wB->Option (Tr × qA)
 | (x,.none)=>some (.id,x)
 | (x,.new r)=>match o.dst with
  | none=>none
  | some d=>some (.row d next r,⟨match x.v with | .ref _ _ sz off l c=>.ref d next sz off l c | _=>.ptr d next 0,.no⟩)
 | (x,.set t n r)=>some (.row t n r,x)
 | (x,.app a _)=>match o.dst with
  | none=>none
  | some d=>some (.an a d,⟨x.v,match x.a with | .own _ e=>.own d e | a=>a⟩)
 | (x,.obj t n S)=>some (.obj t n S,x)
 | (x,.mk S)=>match o.dst with
  | none=>none
  | some d=>some (.obj d next S,⟨x.v.named d next,.no⟩)
 | (x,.ob2 t n S r)=>match o.dst with
  | none=>none
  | some d=>some (.ob2 t n S d next r,⟨match x.v with | .ref _ _ sz off l c=>.ref d next sz off l c | _=>.ptr d next 0,.no⟩)
 | (x,.rn k r)=>match o.dst with
  | none=>none
  | some d=>some (.rn k d next r,⟨match x.v with | .ref _ _ sz off l c=>.ref d next sz off l c | _=>.ptr d next 0,.no⟩)
theorem RD (o:sA) (s:tA):o.step call s=(o.runG call s).bind fun p=>(o.effT s.next p).map fun q=>(q.1.ap s).put o.dst q.2:=by
 have h:∀ p,o.eff s p=(o.effT s.next p).map fun q=>(q.1.ap s).put o.dst q.2:=by
  rintro ⟨x,e⟩;cases e with
  | none=>rfl
  | new r=>simp only [sA.eff,sA.effT]; cases o.dst <;> rfl
  | set t n r=>rfl
  | app a k=>simp only [sA.eff,sA.effT]; cases o.dst <;> rfl
  | obj t n S=>rfl
  | mk S=>simp only [sA.eff,sA.effT]; cases o.dst <;> rfl
  | rn k r=>simp only [sA.eff,sA.effT]; cases o.dst <;> rfl
  | ob2 t n S r=>simp only [sA.eff,sA.effT]; cases o.dst <;> rfl
 have hf:o.eff s=fun p=>(o.effT s.next p).map fun q=>(q.1.ap s).put o.dst q.2:=funext h
 unfold sA.step sA.runG;rw [<- hf];cases o.guard with
 | none=>rfl
 | some p =>
  obtain ⟨t,want⟩:=p;simp only;generalize (s.env t).v=y;cases y with
  | bool b=>simp only; split <;> rfl
  | tup l=>cases l <;> rfl
  | _=>rfl
theorem PH (k:K) {x:qA} {e:wB} (h:k.run call s=some (x,e)):match e with
    | .none=>True
    | .new _=>DS k=true
    | .set t _ _=>isS k=true/\∃ c,k.cl=some c/\c.okPtr t=true
    | .app _ _=>AX k=true
    | .obj _ _ _=>ML k=true/\uZ k=false
    | .mk _=>ML k=true/\uZ k=false
    | .rn _ _=>eZ k=true
    | .ob2 _ _ _ _=>ML k=true/\uZ k=false/\DS k=true:=by
  have hn:e=.none->(match e with
    | .none=>True
    | .new _=>DS k=true
    | .set t _ _=>isS k=true/\∃ c,k.cl=some c/\c.okPtr t=true
    | .app _ _=>AX k=true
    | .obj _ _ _=>ML k=true/\uZ k=false
    | .mk _=>ML k=true/\uZ k=false
    | .rn _ _=>eZ k=true
    | .ob2 _ _ _ _=>ML k=true/\uZ k=false/\DS k=true):=fun h=>by subst h; trivial
  cases k with
  | callh nt x xs=>cases h
  | nxt x=>cases h
  | ent x =>
    simp only [K.run] at h;split at h
    · split at h
      · split at h
        · split at h
          · split at h
            · split at h
              · injection h with h; injection h with _ h; exact hn h.symm
              · cases h
            · cases h
          · cases h
        · cases h
      · cases h
    · cases h
  | slz x =>
    simp only [K.run] at h;split at h <;> first | (cases h; done) | (injection h with h; injection h with _ h; exact hn h.symm)
  | rng x =>
    simp only [K.run] at h;split at h
    · split at h
      · injection h with h; injection h with _ h; subst h; exact ⟨rfl,rfl⟩
      · cases h
    · cases h
  | alloc z=>simp only [K.run] at h; injection h with h; injection h with _ h; subst h; rfl
  | box z x =>
    simp only [K.run] at h;split at h <;> split at h <;> first | (cases h; done) | (injection h with h; injection h with _ h; subst h; rfl)
  | mks z b zs l c =>
    simp only [K.run] at h;split at h
    · split at h
      · injection h with h; injection h with _ h; subst h; rfl
      · cases h
    · cases h
  | clr cl z x =>
    simp only [K.run] at h;split at h
    · injection h with h; injection h with _ h; subst h; trivial
    · rename_i t n sz off ln _ _
      split at h
      · rename_i sa
        obtain ⟨r,_,h⟩:=y8.1 h;injection h with _ h;subst h;exact ⟨rfl,cl,rfl,sa.1⟩
      · cases h
    · cases h
  | store cl g z x y =>
    simp only [K.run] at h;split at h
    · split at h
      · rename_i t n off _ sa
        obtain ⟨r,_,h⟩:=y8.1 h;injection h with _ h;subst h;exact ⟨rfl,cl,rfl,sa⟩
      · cases h
    · cases h
  | app cl e z b x y =>
    simp only [K.run] at h;split at h
    · split at h
      · split at h
        · cases h
        · split at h
          · injection h with h; injection h with _ h; subst h; rfl
          · cases h
        · injection h with h; injection h with _ h; subst h; rfl
      · cases h
    · cases h
  | appf cl e z b x y =>
    simp only [K.run] at h;split at h
    · split at h
      · split at h
        · split at h
          · injection h with h; injection h with _ h; exact hn h.symm
          · injection h with h; injection h with _ h; subst h; rfl
        · cases h
      · cases h
    · cases h
  | appm cl e z b x y =>
    simp only [K.run] at h;split at h
    · split at h
      · split at h
        · split at h
          · injection h with h; injection h with _ h; exact hn h.symm
          · injection h with h; injection h with _ h; subst h; rfl
        · cases h
      · cases h
    · split at h
      · split at h
        · injection h with h; injection h with _ h; subst h; rfl
        · cases h
      · cases h
    · cases h
  | appn cl e z b x y =>
    simp only [K.run] at h;split at h
    · split at h
      · split at h
        · injection h with h; injection h with _ h; subst h; rfl
        · cases h
      · cases h
    · split at h
      · split at h
        · injection h with h; injection h with _ h; subst h; rfl
        · cases h
      · cases h
    · cases h
  | bslr sz z n ps =>
    simp only [K.run] at h;split at h
    · injection h with h; injection h with _ h; subst h; rfl
    · cases h
  | bad=>simp only [K.run] at h; cases h
  | mkm=>simp only [K.run] at h; injection h with h; injection h with _ h; subst h; exact ⟨rfl,rfl⟩
  | mkb T e=>simp only [K.run] at h; injection h with h; injection h with _ h; subst h; exact ⟨rfl,rfl⟩
  | mget ok ty z x k =>
    simp only [K.run] at h;split at h
    · split at h
      · split at h
        · injection h with h; injection h with _ h; exact hn h.symm
        · cases h
      · cases h
    · cases h
  | mset ty x k v =>
    simp only [K.run] at h;split at h
    · split at h
      · split at h
        · injection h with h; injection h with _ h; subst h; exact ⟨rfl,rfl⟩
        · cases h
      · cases h
    · cases h
  | mlen x =>
    simp only [K.run] at h;split at h
    · split at h
      · injection h with h; injection h with _ h; exact hn h.symm
      · cases h
    · cases h
  | mv x=>simp only [K.run] at h; injection h with h; injection h with _ h; exact hn h.symm
  | pick c a b =>
    simp only [K.run] at h;split at h
    · injection h with h; injection h with _ h; exact hn h.symm
    · cases h
  | build z ps =>
    simp only [K.run] at h;split at h
    · obtain ⟨r,_,h⟩:=y8.1 h; injection h with _ h; exact hn h.symm
    · cases h
  | bsl z n ps =>
    simp only [K.run] at h;split at h
    · injection h with h; injection h with _ h; exact hn h.symm
    · cases h
  | load cl g z x =>
    simp only [K.run] at h;split at h
    · split at h
      · obtain ⟨r,_,h⟩:=y8.1 h; injection h with _ h; exact hn h.symm
      · cases h
    · split at h
      · cases h
      · obtain ⟨r,_,h⟩:=y8.1 h; injection h with _ h; exact hn h.symm
    · split at h
      · cases h
      · obtain ⟨r,_,h⟩:=y8.1 h; injection h with _ h; exact hn h.symm
    · cases h
  | mm b x y=>simp only [K.run] at h; obtain ⟨r,_,h⟩:=y8.1 h; injection h with _ h; exact hn h.symm
  | bin op b x y=>simp only [K.run] at h; obtain ⟨r,_,h⟩:=y8.1 h; injection h with _ h; exact hn h.symm
  | eqa n ks x y =>
    simp only [K.run] at h;split at h
    · obtain ⟨r,_,h⟩:=y8.1 h; injection h with _ h; exact hn h.symm
    · cases h
  | eqn n p x y =>
    simp only [K.run] at h;split at h <;> first | (cases h; done) | (obtain ⟨r,_,h⟩:=y8.1 h; injection h with _ h; exact hn h.symm)
  | un op x =>
    simp only [K.run] at h;split at h <;> first | (cases h; done) | (injection h with h; injection h with _ h; exact hn h.symm)
  | conv o x =>
    simp only [K.run] at h;split at h <;> first | (cases h; done) | (injection h with h; injection h with _ h; exact hn h.symm)
  | slc st z x lo hi mx =>
    cases mx with
    | some m=>simp [K.run] at h
    | none =>
      simp only [K.run] at h;split at h
      · cases h
      · split at h <;> first
          | (cases h; done)
          | (split at h
             · split at h
               · (try split at h) <;> (injection h with h; injection h with _ h; exact hn h.symm)
               · cases h
             · cases h)
  | faddr o x =>
    simp only [K.run] at h;split at h <;> first | (cases h; done) | (injection h with h; injection h with _ h; exact hn h.symm)
  | field g o z x =>
    simp only [K.run] at h;split at h
    · obtain ⟨r,_,h⟩:=y8.1 h; injection h with _ h; exact hn h.symm
    · cases h
  | aaddr l z x i =>
    simp only [K.run] at h;split at h
    · split at h
      · split at h <;> first | (cases h; done) | (injection h with h; injection h with _ h; exact hn h.symm)
      · cases h
    · cases h
  | iaddr z x i =>
    simp only [K.run] at h;split at h
    · split at h
      · obtain ⟨r,_,h⟩:=y0.1 h; split at h <;> first | (cases h; done) | (injection h with h; injection h with _ h; exact hn h.symm)
      · obtain ⟨r,_,h⟩:=y0.1 h; split at h <;> first | (cases h; done) | (injection h with h; injection h with _ h; exact hn h.symm)
      · split at h <;> first | (cases h; done) | (injection h with h; injection h with _ h; exact hn h.symm)
      · cases h
    · cases h
  | index x i =>
    simp only [K.run] at h;split at h
    · obtain ⟨r,_,h⟩:=y8.1 h; injection h with _ h; exact hn h.symm
    · cases h
  | ext x i =>
    simp only [K.run] at h;split at h
    · obtain ⟨r,_,h⟩:=y8.1 h; injection h with _ h; exact hn h.symm
    · cases h
  | call cl f xs =>
    simp only [K.run] at h;obtain ⟨vs,_,h⟩:=y0.1 h;split at h
    · obtain ⟨r,_,h⟩:=y0.1 h
      split at h
      · split at h <;> first | (cases h; done) | (injection h with h; injection h with _ h; exact hn h.symm)
      · split at h <;> first | (cases h; done) | (injection h with h; injection h with _ h; subst h; exact ⟨rfl,rfl⟩)
    · obtain ⟨r,_,h⟩:=y0.1 h
      split at h
      · cases h
      · split at h <;> first | (cases h; done) | (injection h with h; injection h with _ h; subst h; exact ⟨rfl,rfl⟩)
    · cases h
  | callf cl f z xs =>
    simp only [K.run] at h;obtain ⟨vs,_,h⟩:=y0.1 h;split at h
    · obtain ⟨r,_,h⟩:=y0.1 h
      split at h
      · split at h
        · split at h
          · injection h with h; injection h with _ h; subst h; exact ⟨rfl,rfl⟩
          · injection h with h; injection h with _ h; subst h; exact ⟨rfl,rfl,rfl⟩
        · cases h
      · cases h
    · cases h
  | callo cl f z xs =>
    simp only [K.run] at h;split at h
    · obtain ⟨r,_,h⟩:=y0.1 h
      split at h
      · split at h
        · split at h
          · injection h with h; injection h with _ h; exact hn h.symm
          · split at h
            · cases h
            · injection h with h; injection h with _ h; subst h; rfl
        · cases h
      · cases h
    · cases h
  | calln cl f z L x xs =>
    simp only [K.run] at h;split at h
    · split at h
      · split at h
        · split at h
          · split at h
            · obtain ⟨r,_,h⟩:=y0.1 h
              split at h
              · split at h
                · injection h with h; injection h with _ h; subst h; rfl
                · cases h
              · cases h
            · cases h
          · cases h
        · split at h
          · obtain ⟨r,_,h⟩:=y0.1 h
            split at h
            · split at h
              · injection h with h; injection h with _ h; subst h; rfl
              · cases h
            · cases h
          · cases h
        · cases h
      · cases h
    · cases h
  | callq cl f xs =>
    simp only [K.run] at h;split at h
    · obtain ⟨r,_,h⟩:=y0.1 h
      split at h
      · split at h
        · injection h with h; injection h with _ h; exact hn h.symm
        · cases h
      · cases h
    · cases h
  | callr cl f xs =>
    simp only [K.run] at h;split at h
    · split at h
      · rename_i sa
        split at h
        · split at h
          · obtain ⟨q,_,h⟩:=y0.1 h
            split at h
            · split at h
              · injection h with h; injection h with _ h; subst h
                exact ⟨rfl,cl,rfl,sa⟩
              · cases h
            · cases h
          · cases h
        · cases h
      · cases h
    · cases h
  | rstr x =>
    simp only [K.run] at h;split at h <;> first | (cases h; done) | (injection h with h; injection h with _ h; exact hn h.symm)
  | bstr cl x =>
    simp only [K.run] at h;split at h
    · obtain ⟨r,_,h⟩:=y8.1 h; injection h with _ h; exact hn h.symm
    · cases h
  | aslc cl l z x lo hi =>
    simp only [K.run] at h;split at h
    · split at h
      · split at h
        · split at h <;> (injection h with h; injection h with _ h; exact hn h.symm)
        · cases h
      · cases h
    · cases h
  | mkf f xs =>
    simp only [K.run] at h;split at h
    · injection h with h; injection h with _ h; exact hn h.symm
    · cases h
  | callv cl x xs =>
    simp only [K.run] at h;split at h
    · split at h
      · obtain ⟨r,_,h⟩:=y0.1 h
        split at h
        · split at h <;> first | (cases h; done) | (injection h with h; injection h with _ h; exact hn h.symm)
        · cases h
      · cases h
    · cases h
  | len st x =>
    simp only [K.run] at h;split at h <;> first
      | (cases h; done)
      | (split at h <;> first | (cases h; done) | (injection h with h; injection h with _ h; exact hn h.symm))
  | nilchk x =>
    simp only [K.run] at h;split at h <;> first | (cases h; done) | (injection h with h; injection h with _ h; exact hn h.symm)
def Tr.of (T:Tr) (o:sA):Prop:=match T with
 | .id=>True
 | .row t _ _=>(DS o.op=true/\o.dst=some t)\/(isS o.op=true/\∃ c,o.op.cl=some c/\c.okPtr t=true)
 | .an _ d=>AX o.op=true/\o.dst=some d
 | .obj _ _ _=>ML o.op=true/\uZ o.op=false
 | .rn ..=>eZ o.op=true
 | .ob2 _ _ _ d _ _=>(ML o.op=true/\uZ o.op=false/\DS o.op=true)/\o.dst=some d
theorem bS (o:sA) {x:qA} {e:wB} (h:o.runG call s=some (x,e)) {n:Nat} {T:Tr} {v:qA} (ht:o.effT n (x,e)=some (T,v)):T.of o:=by
 have key:o.op.run call s=some (x,e)\/e=.none:=by
  unfold sA.runG at h;split at h
  ·exact .inl h
  ·split at h
   ·split at h
    ·exact .inl h
    ·injection h with h; injection h with _ h; exact .inr h.symm
   ·injection h with h; injection h with _ h; exact .inr h.symm
   ·cases h
 cases e with
 | none=>simp only [sA.effT] at ht; injection ht with ht; injection ht with h1 _; subst h1; trivial
 | new r =>
  have:=PH o.op (key.resolve_right (by simp));simp only [sA.effT] at ht;split at ht
  ·cases ht
  ·rename_i d hd; injection ht with ht; injection ht with h1 _; subst h1; exact .inl ⟨this,hd⟩
 | set t n r =>
  have:=PH o.op (key.resolve_right (by simp));simp only [sA.effT] at ht;injection ht with ht; injection ht with h1 _; subst h1;exact .inr this
 | app a k =>
  have:=PH o.op (key.resolve_right (by simp));simp only [sA.effT] at ht;split at ht
  ·cases ht
  ·rename_i d hd; injection ht with ht; injection ht with h1 _; subst h1; exact ⟨this,hd⟩
 | obj t n S =>
  have:=PH o.op (key.resolve_right (by simp));simp only [sA.effT] at ht;injection ht with ht; injection ht with h1 _; subst h1;exact this
 | mk S =>
  have:=PH o.op (key.resolve_right (by simp));simp only [sA.effT] at ht;split at ht
  ·cases ht
  ·injection ht with ht; injection ht with h1 _; subst h1; exact this
 | rn k r =>
  have:=PH o.op (key.resolve_right (by simp));simp only [sA.effT] at ht;split at ht
  ·cases ht
  ·injection ht with ht; injection ht with h1 _; subst h1; exact this
 | ob2 t n S r =>
  have:=PH o.op (key.resolve_right (by simp));simp only [sA.effT] at ht;split at ht
  ·cases ht
  ·rename_i d hd; injection ht with ht; injection ht with h1 _; subst h1; exact ⟨this,hd⟩
theorem s5 {o:GA} {d:Option Nat} {x:qA} (h:∀ n,o=.t n->d≠some n):o.get (s.put d x)=o.get s/\o.an (s.put d x)=o.an s:=by
 cases d with
 | none=>exact ⟨rfl,rfl⟩
 | some d =>
  cases o with
  | c v=>exact ⟨rfl,by cases v <;> first | rfl | (rename_i b l; cases b <;> rfl)⟩
  | t n =>
   have:n≠d:=fun e=>h n rfl (by rw [e])
   simp [GA.get,GA.an,tA.put,this]
theorem lT {o:sA} {n:Nat} {x:GA} (h:x∈o.op.opds) (hx:x=.t n):n∈o.looks:=by
 unfold sA.looks;refine List.mem_append_left _ (List.mem_filterMap.2 ⟨x,h,?_⟩);rw [hx]
theorem RC {x y:sA} (h:x.clear y=true):(∀ n,x.dst=some n->n ∉ y.looks)/\(∀ n,x.dst=some n->y.dst≠some n):=by
 unfold sA.clear at h;constructor
 ·intro n hn;rw [hn] at h;simp at h;exact h.1
 ·intro n hn;rw [hn] at h;simp at h;exact h.2
theorem pH {y:sA} {d:Option Nat} {v:qA} (h:∀ n,d=some n->n ∉ y.looks):y.runG call (s.put d v)=y.runG call s:=by
 have h1:y.op.run call (s.put d v)=y.op.run call s:=UJ _ (fun o ho=>s5 fun n hn hd=>h n hd (lT ho hn)) (fun t n _=>by cases d <;> rfl) (fun _=>by cases d <;> rfl);unfold sA.runG;rw [h1];cases hg:y.guard with
 | none=>rfl
 | some p =>
  obtain ⟨t,want⟩:=p;have:t∈y.looks:=by unfold sA.looks; rw [hg]; simp
  have he:((s.put d v).env t)=s.env t:=by
   cases d with
   | none=>rfl
   | some d =>
    have:t≠d:=fun e=>h d rfl (e ▸ this)
    simp [tA.put,this]
  simp only [he]
def Tr.off (T:Tr) (o:sA):Prop:=match T with
 | .id=>True
 | .row t _ _=>¬ o.op.reads t
 | .an _ _=>AX o.op=false
 | .obj _ _ _=>ML o.op=false
 | .rn ..=>False
 | .ob2 _ _ _ d _ _=>ML o.op=false/\¬ o.op.reads d
def Tr.act (T:Tr) (p:qA × wB):qA × wB:=match T with
 | .an _ _=>(p.1.mapAn T.f,p.2.mapAn T.f)
 | _=>p
theorem aW {y:sA} {T:Tr} (h:T.off y):y.runG call (T.ap s)=(y.runG call s).map T.act:=by
 cases T with
 | rn=>exact absurd h id
 | ob2 t n S d m r =>
  have h1:y.op.run call ((s.setObj t n S).setRow d m r)=y.op.run call s:=UJ _ (fun o ho=>by
   cases o with
   | t n=>exact ⟨rfl,rfl⟩
   | c v=>exact ⟨rfl,by cases v <;> first | rfl | (rename_i b l; cases b <;> rfl)⟩) (fun t' n' hr=>by
   simp only [tA.setRow,tA.setObj];rw [if_neg];rintro ⟨e,_⟩;exact h.2 (e ▸ hr)) (fun ho=>by
    have h':ML y.op=false:=h.1;rw [h'] at ho; cases ho)
  have:y.runG call ((Tr.ob2 t n S d m r).ap s)=y.runG call s:=by
   unfold sA.runG Tr.ap;rw [h1];rfl
  have h2:(Tr.act (.ob2 t n S d m r):qA × wB->qA × wB)=id:=rfl;rw [this,h2,Option.map_id];rfl
 | id =>
  have:(Tr.act .id:qA × wB->qA × wB)=id:=rfl;rw [this,Option.map_id];rfl
 | row t n r =>
  have h1:y.op.run call (s.setRow t n r)=y.op.run call s:=UJ _ (fun o ho=>by
   cases o with
   | t n=>exact ⟨rfl,rfl⟩
   | c v=>exact ⟨rfl,by cases v <;> first | rfl | (rename_i b l; cases b <;> rfl)⟩) (fun t' n' hr=>by
   simp only [tA.setRow];rw [if_neg];rintro ⟨e,_⟩;exact h (e ▸ hr)) (fun _=>rfl)
  have:y.runG call ((Tr.row t n r).ap s)=y.runG call s:=by
   unfold sA.runG Tr.ap;rw [h1];rfl
  have h2:(Tr.act (.row t n r):qA × wB->qA × wB)=id:=rfl;rw [this,h2,Option.map_id];rfl
 | obj t n S =>
  have h1:y.op.run call (s.setObj t n S)=y.op.run call s:=UJ _ (fun o ho=>by
   cases o with
   | t n=>exact ⟨rfl,rfl⟩
   | c v=>exact ⟨rfl,by cases v <;> first | rfl | (rename_i b l; cases b <;> rfl)⟩) (fun t' n' hr=>rfl) (fun ho=>by
    have h':ML y.op=false:=h;rw [h'] at ho; cases ho)
  have:y.runG call ((Tr.obj t n S).ap s)=y.runG call s:=by
   unfold sA.runG Tr.ap;rw [h1];rfl
  have h2:(Tr.act (.obj t n S):qA × wB->qA × wB)=id:=rfl;rw [this,h2,Option.map_id];rfl
 | an A d =>
  rw [Tr.ap_an];have h1:=bX (call:=call) (s:=s) (Tr.ends (.an A d)) y.op h;unfold sA.runG;rw [h1];cases y.guard with
  | none=>rfl
  | some p =>
   obtain ⟨t,want⟩:=p;simp only [tA.mapAn];generalize (s.env t).v=y;cases y with
   | bool b =>
    simp only;split
    ·rfl
    ·simp [Tr.act,qA.mapAn,wB.mapAn,(Tr.ends (.an A d)).no]
   | tup l=>cases l <;> simp [Tr.act,qA.mapAn,wB.mapAn,(Tr.ends (.an A d)).no]
   | _=>rfl
theorem fS {x y:sA} (h:pD x y=true):pD y x=true:=by
 unfold pD at h ⊢;simp only [y7] at h ⊢;obtain ⟨⟨⟨⟨⟨⟨⟨m1,m2⟩,h1⟩,h0⟩,h2⟩,h3⟩,h4⟩,h5⟩:=h;refine ⟨⟨⟨⟨⟨⟨⟨m2,m1⟩,by rw [Bool.or_comm]; exact h1⟩,by rw [Bool.or_comm (!ML y.op),Bool.and_comm]; exact h0⟩,?_⟩,h4⟩,h3⟩,?_⟩
 ·cases hc:x.op.cl with
  | none=>cases y.op.cl <;> rfl
  | some c =>
   cases hd:y.op.cl with
   | none=>rfl
   | some d =>
    rw [hc,hd] at h2;simp only [Bool.or_eq_true] at h2 ⊢;refine h2.imp (fun h=>by rw [Bool.or_comm]; exact h) fun h=>?_
    cases c <;> cases d <;> first | rfl | exact h | (simp at h ⊢; exact fun e=>h e.symm) | (simp at h)
 ·simp only [Bool.or_eq_true] at h5 ⊢;rcases h5 with (h | h) | h
  ·exact .inl (.inr h)
  ·exact .inl (.inl h)
  ·exact .inr (by simp at h ⊢; exact fun e=>h e.symm)
theorem PZ {T:Tr} {x y:sA} (h:T.of x) (sa:pD x y=true):T.off y:=by
 unfold pD at sa;simp only [y7] at sa;obtain ⟨⟨⟨⟨⟨⟨⟨m1,m2⟩,h1⟩,h0⟩,h2⟩,h3⟩,h4⟩,h5⟩:=sa;cases T with
 | id=>trivial
 | rn k t n r =>
  have h':eZ x.op=true:=h;rw [h'] at m1;cases m1
 | ob2 t n S d m r =>
  obtain ⟨⟨g1,g2,ha⟩,hd⟩:=h;rw [g1,g2] at h0;refine ⟨by simpa using h0,fun hr=>?_⟩;unfold K.reads at hr;rw [ha,hd] at h3;cases uc:y.op.cl with
  | none=>rw [uc] at hr; exact hr
  | some c =>
   rw [uc] at hr h3;cases c with
   | any=>simp at h3
   | imm=>exact hr
   | root r=>simp at h3; exact h3 hr
   | out L=>simp only [Bool.not_true,Bool.false_or] at h3 hr; rw [h3] at hr; cases hr
 | an A d =>
  have:=h.1;rw [this] at h1;show AX y.op=false;simpa using h1
 | obj t n S =>
  obtain ⟨g1,g2⟩:ML x.op=true/\uZ x.op=false:=h;rw [g1,g2] at h0;show ML y.op=false;simpa using h0
 | row t n r =>
  intro hr;unfold K.reads at hr;rcases h with ⟨ha,hd⟩ | ⟨hs,hc⟩
  ·rw [ha,hd] at h3;cases uc:y.op.cl with
   | none=>rw [uc] at hr; exact hr
   | some c =>
    rw [uc] at hr h3;cases c with
    | any=>simp at h3
    | imm=>exact hr
    | root r=>simp at h3; exact h3 hr
    | out L=>simp only [Bool.not_true,Bool.false_or] at h3 hr; rw [h3] at hr; cases hr
  ·cases uc:y.op.cl with
   | none=>rw [uc] at hr; exact hr
   | some c =>
    rw [uc] at hr;obtain ⟨c0,hc,hp⟩:=hc;rw [hc,uc,hs] at h2;cases c0 with
    | imm=>simp [Cl.okPtr] at hp
    | any=>cases c <;> first | exact hr | (simp at h2)
    | root r0 =>
     simp [Cl.okPtr] at hp;subst hp;cases c with
     | imm=>exact hr
     | any=>simp at h2
     | root r=>simp at h2; exact h2 hr
     | out L=>simp at h2 hr; exact hr h2
    | out L0 =>
     simp [Cl.okPtr] at hp;cases c with
     | imm=>exact hr
     | any=>simp at h2
     | root r=>simp at h2 hr; subst hr; exact hp h2
     | out L=>simp at h2
theorem RT {t n t' n':Nat} {r r':List qA} {x y:sA} (h:(Tr.row t n r).of x) (h':(Tr.row t' n' r').of y) (sa:pD x y=true):t≠t':=by
 unfold pD at sa;simp only [y7] at sa;obtain ⟨⟨⟨⟨⟨⟨⟨m1,m2⟩,h1⟩,h0⟩,h2⟩,h3⟩,h4⟩,h5⟩:=sa;rintro rfl;rcases h with ⟨ha,hd⟩ | ⟨hs,hc⟩ <;> rcases h' with ⟨bq,xh⟩ | ⟨nq,xf⟩
 ·rw [ha,bq,hd,xh] at h5; simp at h5
 ·rw [ha,hd] at h3;obtain ⟨c,xf,hp⟩:=xf;rw [xf] at h3;cases c <;> simp [Cl.okPtr] at h3 hp <;> first | exact h3 hp.symm | exact hp h3
 ·rw [bq,xh] at h4;obtain ⟨c,hc,hp⟩:=hc;rw [hc] at h4;cases c <;> simp [Cl.okPtr] at h4 hp <;> first | exact h4 hp.symm | exact hp h4
 ·obtain ⟨c,hc,hp⟩:=hc;obtain ⟨c',xf,wu⟩:=xf;rw [hc,xf,hs] at h2;cases c <;> cases c' <;> simp [Cl.okPtr] at h2 hp wu
  ·subst hp; subst wu; exact h2 rfl
  ·subst hp; exact wu h2
  ·subst wu; exact hp h2
def Tr.conj (T:Tr):Tr->Tr
 | .row t n r=>match T with
  | .an A d=>.row t n (r.map (qA.mapAn (Tr.an A d).f))
  | _=>.row t n r
 | .ob2 t n S d m r=>match T with
  | .an A d'=>.ob2 t n S d m (r.map (qA.mapAn (Tr.an A d').f))
  | _=>.ob2 t n S d m r
 | T'=>T'
def Tr.actS (T:Tr) (v:qA):qA:=match T with
 | .an A d=>v.mapAn (Tr.an A d).f
 | _=>v
theorem DR {T:Tr} {o:sA} {n:Nat} {p:qA × wB} {T':Tr} {v:qA} (h:o.effT n p=some (T',v)) (hT:(∃ A d,T=.an A d)->∀ A d,T'≠.an A d) (hR:∀ k t m r,T'≠.rn k t m r):o.effT n (T.act p)=some (T.conj T',T.actS v):=by
 obtain ⟨x,e⟩:=p;cases T with
 | id=>rw [show Tr.id.act (x,e)=(x,e) from rfl,h]; cases T' <;> rfl
 | row t m r=>rw [show (Tr.row t m r).act (x,e)=(x,e) from rfl,h]; cases T' <;> rfl
 | obj t m S=>rw [show (Tr.obj t m S).act (x,e)=(x,e) from rfl,h]; cases T' <;> rfl
 | rn k t m r=>rw [show (Tr.rn k t m r).act (x,e)=(x,e) from rfl,h]; cases T' <;> rfl
 | ob2 t n S d m r=>rw [show (Tr.ob2 t n S d m r).act (x,e)=(x,e) from rfl,h]; cases T' <;> rfl
 | an A d =>
  cases e with
  | none=>simp only [sA.effT] at h; injection h with h; injection h with h1 h2; subst h1; subst h2; rfl
  | new r =>
   simp only [sA.effT] at h;split at h
   ·cases h
   ·rename_i d' hd;injection h with h; injection h with h1 h2; subst h1; subst h2;simp only [Tr.act,sA.effT,wB.mapAn,hd,Tr.conj,Tr.actS,qA.mapAn,(Tr.ends (.an A d)).no]
  | set t m r =>
   simp only [sA.effT] at h;injection h with h; injection h with h1 h2; subst h1; subst h2;simp only [Tr.act,sA.effT,wB.mapAn,Tr.conj,Tr.actS,qA.mapAn,(Tr.ends (.an A d)).no]
  | app a k =>
   simp only [sA.effT] at h;split at h
   ·cases h
   ·injection h with h; injection h with h1 h2; subst h1; exact absurd rfl (hT ⟨A,d,rfl⟩ _ _)
  | obj t m S =>
   simp only [sA.effT] at h;injection h with h; injection h with h1 h2; subst h1; subst h2;rfl
  | mk S =>
   simp only [sA.effT] at h;split at h
   ·cases h
   ·rename_i d' hd;injection h with h; injection h with h1 h2; subst h1; subst h2;simp only [Tr.act,sA.effT,wB.mapAn,hd,Tr.conj,Tr.actS,qA.mapAn,(Tr.ends (.an A d)).no]
  | rn k r =>
   simp only [sA.effT] at h;split at h
   ·cases h
   ·injection h with h; injection h with h1 h2; exact absurd h1.symm (hR _ _ _ _)
  | ob2 t n S r =>
   simp only [sA.effT] at h;split at h
   ·cases h
   ·rename_i d' hd;injection h with h; injection h with h1 h2; subst h1; subst h2;simp only [Tr.act,sA.effT,wB.mapAn,hd,Tr.conj,Tr.actS,qA.mapAn,(Tr.ends (.an A d)).no]
theorem MA {d d':Option Nat} (h:∀ n,d=some n->d'≠some n) (v v':qA):(s.put d v).put d' v'=(s.put d' v').put d v:=by
 cases d with
 | none=>rfl
 | some d =>
  cases d' with
  | none=>rfl
  | some d' =>
   have:d≠d':=fun e=>h d rfl (by rw [e])
   simp only [tA.put];congr 1;funext t;by_cases h1:t=d'
   ·by_cases h2:t=d
    ·exact absurd (h2.symm.trans h1) this
    ·rw [h1]; simp only [if_true]; rw [if_neg (fun e=>this e.symm)]
   ·simp [h1]
theorem kD (f:An->An) (d:Option Nat) (v:qA):(s.put d v).mapAn f=(s.mapAn f).put d (v.mapAn f):=by
 cases d with
 | none=>rfl
 | some d =>
  simp only [tA.put,tA.mapAn];congr 1;funext t;by_cases h:t=d <;> simp [h,qA.mapAn]
theorem JE (f:An->An) (t n:Nat) (r:List qA):(s.setRow t n r).mapAn f=(s.mapAn f).setRow t n (r.map (qA.mapAn f)):=by
 simp only [tA.setRow,tA.mapAn];congr 1;funext t' n';by_cases h:t'=t/\n'=n
 ·simp only [h,and_self,if_true,yd]; rfl
 ·simp [h]
theorem qB (d:Option Nat) (v:qA) (t n:Nat) (r:List qA):(s.put d v).setRow t n r=(s.setRow t n r).put d v:=by cases d <;> rfl
theorem jJ {t n t' n':Nat} (h:t≠t') (r r':List qA):(s.setRow t n r).setRow t' n' r'=(s.setRow t' n' r').setRow t n r:=by
 simp only [tA.setRow];congr 1;funext a b;by_cases h1:a=t'
 ·have:¬ (a=t/\b=n):=fun e=>h (e.1.symm.trans h1)
  simp [this]
 ·have:¬ (a=t'/\b=n'):=fun e=>h1 e.1
  simp [this]
theorem nB (d:Option Nat) (v:qA) (t n:Nat) (S:AV):(s.put d v).setObj t n S=(s.setObj t n S).put d v:=by cases d <;> rfl
theorem GE (f:An->An) (t n:Nat) (S:AV):(s.setObj t n S).mapAn f=(s.mapAn f).setObj t n S:=rfl
theorem kK (t n:Nat) (r:List qA) (t' n':Nat) (S:AV):(s.setRow t n r).setObj t' n' S=(s.setObj t' n' S).setRow t n r:=rfl
theorem WR {t n:Nat} {S:AV} {d m:Nat} {r:List qA} {o:sA} (h:(Tr.ob2 t n S d m r).of o):(Tr.row d m r).of o:=.inl ⟨h.1.2.2,h.2⟩
theorem eW (T:Tr) (s:tA) (d:Option Nat) (v:qA):((T.ap s).put d v).next=s.next:=by
 have:(T.ap s).next=s.next:=by
  cases T with
  | an A d=>rw [Tr.ap_an]; rfl
  | rn k t n r=>cases k <;> rfl
  | _=>rfl
 cases d <;> exact this
theorem bY {x y:sA} (md:DB x y=true) (sa:pD x y=true) (h1:x.step call s=some s1) (h2:y.step call s1=some s2):∃ cf,y.step call s=some cf/\x.step call cf=some s2:=by
 unfold DB at md;simp only [y7] at md;obtain ⟨a1,a2⟩:=RC md.1;obtain ⟨a3,a4⟩:=RC md.2;rw [RD] at h1 h2;obtain ⟨p,hp,h1⟩:=y0.1 h1;obtain ⟨⟨Tx,vx⟩,hx,h1⟩:=y8.1 h1;obtain ⟨q,hq,h2⟩:=y0.1 h2;obtain ⟨⟨Ty,vy⟩,hy,h2⟩:=y8.1 h2;simp only at h1 h2;subst h1;have ofx:Tx.of x:=bS x (x:=p.1) (e:=p.2) hp hx;have offy:=PZ ofx sa;rw [pH a1,aW offy] at hq;obtain ⟨q0,wz,rfl⟩:=y8.1 hq;rw [eW] at hy
 -- y in the first state
 have fu:∃ Ty0 ez,y.effT s.next q0=some (Ty0,ez):=by
  obtain ⟨u,e⟩:=q0;cases e with
  | none=>exact ⟨_,_,rfl⟩
  | new r =>
   cases hd:y.dst with
   | none =>
    exfalso;cases Tx <;> simp [Tr.act,sA.effT,wB.mapAn,hd] at hy
   | some d=>exact ⟨.row d s.next r,_,by simp only [sA.effT,hd]; rfl⟩
  | set t n r=>exact ⟨_,_,rfl⟩
  | obj t n S=>exact ⟨_,_,rfl⟩
  | mk S =>
   cases hd:y.dst with
   | none =>
    exfalso;cases Tx <;> simp [Tr.act,sA.effT,wB.mapAn,hd] at hy
   | some d=>exact ⟨.obj d s.next S,_,by simp only [sA.effT,hd]; rfl⟩
  | app a k =>
   cases hd:y.dst with
   | none =>
    exfalso;cases Tx <;> simp [Tr.act,sA.effT,wB.mapAn,hd] at hy
   | some d=>exact ⟨.an a d,_,by simp only [sA.effT,hd]; rfl⟩
  | rn k r =>
   cases hd:y.dst with
   | none =>
    exfalso;cases Tx <;> simp [Tr.act,sA.effT,wB.mapAn,hd] at hy
   | some d=>exact ⟨.rn k d s.next r,_,by simp only [sA.effT,hd]; rfl⟩
  | ob2 t n S r =>
   cases hd:y.dst with
   | none =>
    exfalso;cases Tx <;> simp [Tr.act,sA.effT,wB.mapAn,hd] at hy
   | some d=>exact ⟨.ob2 t n S d s.next r,_,by simp only [sA.effT,hd]; rfl⟩
 obtain ⟨Ty0,ez,fu⟩:=fu;have ofy:Ty0.of y:=bS y (x:=q0.1) (e:=q0.2) wz fu;have offx:=PZ ofy (fS sa);have notT:∀ A d A' d',Tx=.an A d->Ty0=.an A' d'->False:=fun A d A' d' e e'=>by
  subst e; subst e';have:=ofy.1;rw [show AX y.op=false from offy] at this;cases this
 have noM:∀ {T:Tr} {o:sA},T.of o->eZ o.op=false->∀ k t m r,T≠.rn k t m r:=fun h hm k t m r e=>by
  subst e;have h':eZ _=true:=h;rw [hm] at h';cases h'
 have hMx:eZ x.op=false:=by unfold pD at sa; simp only [y7] at sa; simpa using sa.1.1.1.1.1.1.1
 have hMy:eZ y.op=false:=by unfold pD at sa; simp only [y7] at sa; simpa using sa.1.1.1.1.1.1.2
 have nx:=noM ofx hMx;have ny:=noM ofy hMy;have hyc:=DR (T:=Tx) fu (hR:=ny) (fun ⟨A,d,e⟩ A' d' e'=>notT A d A' d' e e');rw [hyc] at hy;injection hy with hy;injection hy with e1 e2;subst e1; subst e2;have oh:=DR (T:=Ty0) hx (hR:=nx) (fun ⟨A,d,e⟩ A' d' e'=>notT A' d' A d e' e);refine ⟨(Ty0.ap s).put y.dst ez,by rw [RD,wz,U,fu]; rfl,?_⟩;rw [RD,pH a3,aW offx,hp];simp only [yd,U,eW,oh];rw [<- h2];congr 1;have notO:∀ t n S t' n' S',Tx=.obj t n S->Ty0=.obj t' n' S'->False:=fun t n S t' n' S' e e'=>by
  subst e; subst e';have h1:ML y.op=true:=ofy.1;rw [show ML y.op=false from offy] at h1;cases h1
 cases Tx with
 | rn=>exact absurd rfl (nx _ _ _ _)
 | id =>
  cases Ty0 with
  | rn=>exact absurd rfl (ny _ _ _ _)
  | ob2 t n S d m r=>simp only [Tr.ap,Tr.conj,Tr.actS]; rw [nB,qB]; exact (MA a2 _ _).symm
  | id=>exact (MA a2 _ _).symm
  | row t n r=>simp only [Tr.ap,Tr.conj,Tr.actS]; rw [qB]; exact (MA a2 _ _).symm
  | an A d =>
   simp only [Tr.conj,Tr.actS,Tr.ap_an,kD];exact (MA a2 _ _).symm
  | obj t n S=>simp only [Tr.ap,Tr.conj,Tr.actS]; rw [nB]; exact (MA a2 _ _).symm
 | row t n r =>
  cases Ty0 with
  | rn=>exact absurd rfl (ny _ _ _ _)
  | ob2 t' n' S d m r' =>
   have db:=RT (x:=x) (y:=y) ofx (WR ofy) sa;simp only [Tr.ap,Tr.conj,Tr.actS];rw [qB,nB,qB,kK,jJ db];exact (MA a2 _ _).symm
  | id=>simp only [Tr.ap,Tr.conj,Tr.actS]; rw [qB]; exact (MA a2 _ _).symm
  | row t' n' r' =>
   simp only [Tr.ap,Tr.conj,Tr.actS];rw [qB,qB,jJ (RT ofx ofy sa)];exact (MA a2 _ _).symm
  | an A d =>
   simp only [Tr.conj,Tr.actS,Tr.ap_an,kD];simp only [Tr.ap,JE,qB];exact (MA a2 _ _).symm
  | obj t' n' S =>
   simp only [Tr.ap,Tr.conj,Tr.actS];rw [nB,qB];exact (MA a2 _ _).symm
 | an A d =>
  cases Ty0 with
  | rn=>exact absurd rfl (ny _ _ _ _)
  | ob2 t' n' S d' m r' =>
   simp only [Tr.conj,Tr.actS,Tr.ap_an,kD];simp only [Tr.ap,JE,GE,nB,qB];exact (MA a2 _ _).symm
  | id =>
   simp only [Tr.conj,Tr.actS,Tr.ap_an,kD];exact (MA a2 _ _).symm
  | row t' n' r' =>
   simp only [Tr.conj,Tr.actS,Tr.ap_an,kD];simp only [Tr.ap,JE,qB];exact (MA a2 _ _).symm
  | an A' d'=>exact (notT A d A' d' rfl rfl).elim
  | obj t' n' S =>
   simp only [Tr.conj,Tr.actS,Tr.ap_an,kD];simp only [Tr.ap,GE,nB];exact (MA a2 _ _).symm
 | obj t n S =>
  cases Ty0 with
  | rn=>exact absurd rfl (ny _ _ _ _)
  | ob2 t' n' S' d m r'=>exact absurd ofy.1.1 (by rw [show ML y.op=false from offy]; decide)
  | id=>simp only [Tr.ap,Tr.conj,Tr.actS]; rw [nB]; exact (MA a2 _ _).symm
  | row t' n' r' =>
   simp only [Tr.ap,Tr.conj,Tr.actS];rw [qB,nB];exact (MA a2 _ _).symm
  | an A d =>
   simp only [Tr.conj,Tr.actS,Tr.ap_an,kD];simp only [Tr.ap,GE,nB];exact (MA a2 _ _).symm
  | obj t' n' S'=>exact (notO t n S t' n' S' rfl rfl).elim
 | ob2 t n S d m r =>
  have hyO:ML y.op=false:=offy.1;cases Ty0 with
  | rn=>exact absurd rfl (ny _ _ _ _)
  | id=>simp only [Tr.ap,Tr.conj,Tr.actS]; rw [nB,qB]; exact (MA a2 _ _).symm
  | row t' n' r' =>
   have db:=RT (x:=x) (y:=y) (WR ofx) ofy sa;simp only [Tr.ap,Tr.conj,Tr.actS];rw [qB,nB,qB,<- kK,jJ db];exact (MA a2 _ _).symm
  | an A d' =>
   simp only [Tr.conj,Tr.actS,Tr.ap_an,kD];simp only [Tr.ap,JE,GE,nB,qB];exact (MA a2 _ _).symm
  | obj t' n' S'=>exact absurd ofy.1 (by rw [hyO]; decide)
  | ob2 t' n' S' d' m' r'=>exact absurd ofy.1.1 (by rw [hyO]; decide)
def Tr.kl (T:Tr) (w:qA):qA:=match T with
 | .rn (some p) _ _ _=>w.kill p.1 p.2
 | _=>w
theorem LV {k:K} (hk:rZ k=true) {v:qA} {e:wB} (h:k.run call s=some (v,e)):e=.none\/(∃ r,e=.new r)\/∃ q r,e=.rn q r:=by
 cases k with
 | appm cl e' z b x y =>
  simp only [K.run] at h;split at h
  ·split at h
   ·split at h
    ·split at h
     ·injection h with h; injection h with _ h; exact .inl h.symm
     ·injection h with h; injection h with _ h; exact .inr (.inl ⟨_,h.symm⟩)
    ·cases h
   ·cases h
  ·split at h
   ·split at h
    ·injection h with h; injection h with _ h; exact .inr (.inr ⟨_,_,h.symm⟩)
    ·cases h
   ·cases h
  ·cases h
 | appn cl e' z b x y =>
  simp only [K.run] at h;split at h
  ·split at h
   ·split at h
    ·injection h with h; injection h with _ h; exact .inr (.inl ⟨_,h.symm⟩)
    ·cases h
   ·cases h
  ·split at h
   ·split at h
    ·injection h with h; injection h with _ h; exact .inr (.inr ⟨_,_,h.symm⟩)
    ·cases h
   ·cases h
  ·cases h
 | calln cl f z L x xs =>
  simp only [K.run] at h;split at h
  ·split at h
   ·split at h
    ·split at h
     ·split at h
      ·obtain ⟨r,_,h⟩:=y0.1 h;split at h
       ·split at h
        ·injection h with h; injection h with _ h; exact .inr (.inr ⟨_,_,h.symm⟩)
        ·cases h
       ·cases h
      ·cases h
     ·cases h
    ·split at h
     ·obtain ⟨r,_,h⟩:=y0.1 h;split at h
      ·split at h
       ·injection h with h; injection h with _ h; exact .inr (.inl ⟨_,h.symm⟩)
       ·cases h
      ·cases h
     ·cases h
    ·cases h
   ·cases h
  ·cases h
 | _=>cases hk
theorem LQ {x:sA} (hk:rZ x.op=true) {p:qA × wB} (hp:x.runG call s=some p) {n:Nat} {T:Tr} {v:qA} (ht:x.effT n p=some (T,v)):T=.id\/(∃ t m r,T=.row t m r)\/∃ q t m r,T=.rn q t m r:=by
 have he:p.2=.none\/(∃ r,p.2=.new r)\/∃ q r,p.2=.rn q r:=by
  unfold sA.runG at hp;split at hp
  ·exact LV hk (v:=p.1) (e:=p.2) hp
  ·split at hp
   ·split at hp
    ·exact LV hk (v:=p.1) (e:=p.2) hp
    ·injection hp with hp; subst hp; exact .inl rfl
   ·injection hp with hp; subst hp; exact .inl rfl
   ·cases hp
 obtain ⟨v0,e⟩:=p;rcases he with he | ⟨r,he⟩ | ⟨q,r,he⟩
 ·simp only at he; subst he; injection ht with ht; injection ht with h1 _; exact .inl h1.symm
 ·simp only at he;subst he;simp only [sA.effT] at ht;split at ht
  ·cases ht
  ·injection ht with ht; injection ht with h1 _; exact .inr (.inl ⟨_,_,_,h1.symm⟩)
 ·simp only at he;subst he;simp only [sA.effT] at ht;split at ht
  ·cases ht
  ·injection ht with ht; injection ht with h1 _; exact .inr (.inr ⟨_,_,_,_,h1.symm⟩)
theorem pG {T:Tr} (h:T=.id\/(∃ t m r,T=.row t m r)\/∃ q t m r,T=.rn q t m r) (s:tA) (d:Nat) (w:qA):T.ap (s.put (some d) w)=(T.ap s).put (some d) (T.kl w)/\∀ z,(T.ap s).env z=T.kl (s.env z):=by
 rcases h with rfl | ⟨t,m,r,rfl⟩ | ⟨q,t,m,r,rfl⟩
 ·exact ⟨rfl,fun _=>rfl⟩
 ·exact ⟨rfl,fun _=>rfl⟩
 ·cases q with
  | none=>exact ⟨rfl,fun _=>rfl⟩
  | some p =>
   refine ⟨?_,fun _=>rfl⟩;simp only [Tr.ap,tA.killO,tA.kill,tA.put,tA.setRow,Tr.kl];congr 1;funext j;by_cases hj:j=d <;> simp [hj]
theorem JV {y:sA} (h:wX y=true):∃ d z,y=⟨d,.mv (.t z),none⟩:=by
 obtain ⟨d,k,g⟩:=y;unfold wX at h;simp only at h;split at h
 ·exact ⟨_,_,rfl⟩
 ·cases h
theorem OR {x y:sA} (md:DB x y=true) (hx:rZ x.op=true) (hy:wX y=true):(∀ s s1 s2,x.step call s=some s1->y.step call s1=some s2->∃ cf,y.step call s=some cf/\x.step call cf=some s2)/\∀ s s1 s2,y.step call s=some s1->x.step call s1=some s2->∃ cf,x.step call s=some cf/\y.step call cf=some s2:=by
 obtain ⟨d,z,rfl⟩:=JV hy;unfold DB at md;simp only [y7] at md;obtain ⟨a1,a2⟩:=RC md.1;obtain ⟨a3,a4⟩:=RC md.2;have hz:∀ n,x.dst=some n->n≠z:=fun n hn e=>a1 n hn (by subst e; simp [sA.looks,K.opds])
 have oq:∀ s:tA,(⟨d,.mv (.t z),none⟩:sA).step call s=some (s.put d ⟨(s.env z).v,(s.env z).a⟩):=fun _=>rfl
 have key:∀ (s:tA) (p:qA × wB) (T:Tr) (v:qA),x.runG call s=some p->x.effT s.next p=some (T,v)->(T.ap (s.put d (s.env z))).put x.dst v=((T.ap s).put x.dst v).put d ((((T.ap s).put x.dst v).env z))/\x.step call (s.put d (s.env z))=some ((T.ap (s.put d (s.env z))).put x.dst v):=fun s p T v hp hT=>by
  have hk:=LQ hx hp hT;constructor
  ·have he:((T.ap s).put x.dst v).env z=T.kl (s.env z):=by
    cases hd:x.dst with
    | none=>exact (pG hk s 0 v).2 z
    | some n =>
     simp only [tA.put];rw [if_neg (fun e=>hz n hd e.symm)];exact (pG hk s 0 v).2 z
   rw [he];cases d with
   | none=>rfl
   | some d =>
    rw [(pG hk s d _).1];exact (MA (fun n hn e=>a4 n hn e) _ _)
  ·rw [RD,pH (fun n hn=>a3 n hn),hp];have hn:(s.put d (s.env z)).next=s.next:=by cases d <;> rfl
   simp only [U,hn,hT,yd]
 refine ⟨fun s s1 s2 h1 h2=>?_,fun s s1 s2 h1 h2=>?_⟩
 ·rw [RD] at h1;obtain ⟨p,hp,h1⟩:=y0.1 h1;obtain ⟨⟨T,v⟩,hT,h1⟩:=y8.1 h1;simp only at h1;rw [oq] at h2;injection h2 with h2;refine ⟨_,oq s,?_⟩;obtain ⟨k1,k2⟩:=key s p T v hp hT;have k2':x.step call (s.put d ⟨(s.env z).v,(s.env z).a⟩)=some ((T.ap (s.put d (s.env z))).put x.dst v):=k2;rw [k2',k1,<- h2,<- h1]
 ·rw [oq] at h1;injection h1 with h1;subst h1;have jf:x.step call (s.put d (s.env z))=some s2:=h2;rw [RD,pH (fun n hn=>a3 n hn)] at jf;obtain ⟨p,hp,jf⟩:=y0.1 jf;obtain ⟨⟨T,v⟩,hT,jf⟩:=y8.1 jf;have hn:(s.put d (s.env z)).next=s.next:=by cases d <;> rfl
  rw [hn] at hT;obtain ⟨k1,_⟩:=key s p T v hp hT;refine ⟨(T.ap s).put x.dst v,by rw [RD,hp]; simp only [U,hT,yd],?_⟩;rw [oq,<- jf];simp only;rw [k1]
theorem IR {x y:sA} (md:DB x y=true) (hx:rZ x.op=true) (fy:tA->Option qA) (hy:∀ s,y.step call s=(fy s).map fun w=>s.put y.dst w) :
  ((∀ s p T v,x.runG call s=some p->x.effT s.next p=some (T,v)->∀ w',fy ((T.ap s).put x.dst v)=some w'->∃ w,fy s=some w/\T.kl w=w')->∀ s s1 s2,x.step call s=some s1->y.step call s1=some s2->∃ cf,y.step call s=some cf/\x.step call cf=some s2) ∧
  ((∀ s p T v,x.runG call s=some p->x.effT s.next p=some (T,v)->∀ w,fy s=some w->fy ((T.ap s).put x.dst v)=some (T.kl w))->∀ s s1 s2,y.step call s=some s1->x.step call s1=some s2->∃ cf,x.step call s=some cf/\y.step call cf=some s2):=by
 unfold DB at md;simp only [y7] at md;obtain ⟨a1,a2⟩:=RC md.1;obtain ⟨a3,a4⟩:=RC md.2;have key:∀ (s:tA) (p:qA × wB) (T:Tr) (v w:qA),x.runG call s=some p->x.effT s.next p=some (T,v)->x.step call (s.put y.dst w)=some (((T.ap s).put x.dst v).put y.dst (T.kl w)):=fun s p T v w hp hT=>by
  have hk:=LQ hx hp hT;have hn:(s.put y.dst w).next=s.next:=by cases y.dst <;> rfl
  rw [RD,pH (fun n hn=>a3 n hn),hp];simp only [U,hn,hT,yd];congr 1;cases hd:y.dst with
  | none=>rfl
  | some d =>
   rw [(pG hk s d w).1];exact MA (fun n hn e=>by
    injection hn with hn;exact a4 n (by rw [hd,hn]) e) _ _
 refine ⟨fun H s s1 s2 h1 h2=>?_,fun H s s1 s2 h1 h2=>?_⟩
 ·rw [RD] at h1;obtain ⟨p,hp,h1⟩:=y0.1 h1;obtain ⟨⟨T,v⟩,hT,h1⟩:=y8.1 h1;simp only at h1;subst h1;rw [hy] at h2;obtain ⟨w',dh,h2⟩:=y8.1 h2;obtain ⟨w,hw,e⟩:=H s p T v hp hT w' dh;refine ⟨s.put y.dst w,by rw [hy,hw]; rfl,?_⟩;rw [key s p T v w hp hT,e,<- h2]
 ·rw [hy] at h1;obtain ⟨w,hw,h1⟩:=y8.1 h1;subst h1;have je:=h2;rw [RD,pH (fun n hn=>a3 n hn)] at je;obtain ⟨p,hp,je⟩:=y0.1 je;obtain ⟨⟨T,v⟩,hT,_⟩:=y8.1 je;have hn:(s.put y.dst w).next=s.next:=by cases y.dst <;> rfl
  rw [hn] at hT;have h3:=key s p T v w hp hT;rw [h2] at h3;injection h3 with h3;refine ⟨(T.ap s).put x.dst v,by rw [RD,hp]; simp only [U,hT,yd],?_⟩;rw [hy,H s p T v hp hT w hw,h3];rfl
def W6 (off:Option Nat) (v:AV):Option qA:=match off,v with
 | none,.ptr t n o=>some ⟨.ptr t n o,.no⟩
 | none,.ip cs=>some ⟨.ip cs,.no⟩
 | none,.bp cs=>some ⟨.bp cs,.no⟩
 | some k,.ptr t n o=>some ⟨.ptr t n (o + k),.no⟩
 | some k,.ip cs=>some ⟨.ip (cs.drop k),.no⟩
 | some k,.bp cs=>some ⟨.bp (cs.drop k),.no⟩
 | _,_=>none
theorem W5 {y:sA} (h:tZ y=true):∃ off z,(∀ s,y.step call s=(W6 off (s.env z).v).map fun w=>s.put y.dst w)/\z∈y.looks:=by
 obtain ⟨d,k,g⟩:=y;unfold tZ at h;simp only at h;split at h
 ·rename_i z;refine ⟨none,z,fun s=>?_,by simp [sA.looks,K.opds]⟩;simp only [sA.step,K.run,GA.get,W6];cases (s.env z).v <;> rfl
 ·rename_i k z;refine ⟨some k,z,fun s=>?_,by simp [sA.looks,K.opds]⟩;simp only [sA.step,K.run,GA.get,W6];cases (s.env z).v <;> rfl
 ·cases h
theorem LZ {off:Option Nat} {v:AV} {t n:Nat} {w':qA} (h:W6 off (v.kill t n)=some w'):∃ w,W6 off v=some w/\w.kill t n=w':=by
 cases v with
 | ptr t' n' o =>
  simp only [AV.kill,AV.kill0] at h;by_cases hn:t'=t/\n'=n
  ·rw [if_pos hn] at h; cases off <;> cases h
  ·rw [if_neg hn] at h;cases off <;> (simp only [W6] at h; injection h with h; subst h; exact ⟨_,rfl,by simp only [qA.kill,AV.kill,AV.kill0,if_neg hn]⟩)
 | ip cs=>cases off <;> (simp only [AV.kill,AV.kill0,W6] at h; injection h with h; subst h; exact ⟨_,rfl,rfl⟩)
 | bp cs=>cases off <;> (simp only [AV.kill,AV.kill0,W6] at h; injection h with h; subst h; exact ⟨_,rfl,rfl⟩)
 | ref t' n' sz o l c =>
  simp only [AV.kill,AV.kill0] at h;split at h <;> cases off <;> cases h
 | mp t' n' =>
  simp only [AV.kill,AV.kill0] at h;split at h <;> cases off <;> cases h
 | _=>cases off <;> cases h
theorem mY {x y:sA} (md:DB x y=true) (hx:rZ x.op=true) (hy:tZ y=true) {s1 s2:tA} (h1:x.step call s=some s1) (h2:y.step call s1=some s2):∃ cf,y.step call s=some cf/\x.step call cf=some s2:=by
 obtain ⟨off,z,oq,hz⟩:=W5 (call:=call) hy;refine (IR md hx (fun s=>W6 off (s.env z).v) oq).1 (fun s p T v hp hT w' dh=>?_) s s1 s2 h1 h2;have oo:=md;unfold DB at oo;simp only [y7] at oo;obtain ⟨a1,a2⟩:=RC oo.1;have hk:=LQ hx hp hT;have he:(((T.ap s).put x.dst v).env z)=T.kl (s.env z):=by
  cases hd:x.dst with
  | none=>exact (pG hk s 0 v).2 z
  | some n =>
   simp only [tA.put];rw [if_neg (show ¬ z=n from fun e=>a1 n hd (e ▸ hz))];exact (pG hk s 0 v).2 z
 rw [he] at dh;rcases hk with rfl | ⟨t,m,r,rfl⟩ | ⟨q,t,m,r,rfl⟩
 ·exact ⟨w',dh,rfl⟩
 ·exact ⟨w',dh,rfl⟩
 ·cases q with
  | none=>exact ⟨w',dh,rfl⟩
  | some p=>exact LZ dh
def ldF (r size:Nat) (s:tA) (v:AV):Option qA:=match v with
 | .ptr t n o=>if r == t then (s.mem t n).bind (bC false size o) else none
 | _=>none
theorem Q5 {y x:sA} (h:wZ y x=true):∃ r size z,(∀ s,y.step call s=(ldF r size s (s.env z).v).map fun w=>s.put y.dst w)/\z∈y.looks/\x.dst≠some r/\∃ cl f sz L a ws,x.op=.calln cl f sz L a ws/\L.contains r=true:=by
 obtain ⟨d,k,g⟩:=y;unfold wZ at h;simp only at h;split at h
 ·rename_i r size z cl f sz L a ws hxo;simp only [y7,bne_iff_ne,ne_eq] at h;refine ⟨r,size,z,fun s=>?_,by simp [sA.looks,K.opds],h.2,cl,f,sz,L,a,ws,hxo,h.1⟩;simp only [sA.step,K.run,GA.get,ldF,Cl.okPtr];cases (s.env z).v <;> try rfl
  rename_i t n o;simp only;by_cases rp:(r == t)=true
  ·simp only [rp,if_true];cases (s.mem t n).bind (bC false size o) <;> rfl
  ·simp [rp]
 ·cases h
theorem wQ {cl:Cl} {f sz:Nat} {L:List Nat} {a:GA} {ws:List GA} {v:qA} {e:wB} (h:(K.calln cl f sz L a ws).run call s=some (v,e)):(∃ r,e=.new r)\/∃ t n r,e=.rn (some (t,n)) r/\L.contains t=false:=by
 simp only [K.run] at h;split at h
 ·split at h
  ·split at h
   ·split at h
    ·split at h
     ·rename_i hc;obtain ⟨r,_,h⟩:=y0.1 h;split at h
      ·split at h
       ·injection h with h; injection h with _ h; exact .inr ⟨_,_,_,h.symm,hc.2.2.2⟩
       ·cases h
      ·cases h
     ·cases h
    ·cases h
   ·split at h
    ·obtain ⟨r,_,h⟩:=y0.1 h;split at h
     ·split at h
      ·injection h with h; injection h with _ h; exact .inl ⟨_,h.symm⟩
      ·cases h
     ·cases h
    ·cases h
   ·cases h
  ·cases h
 ·cases h
theorem nY {x y:sA} (md:DB x y=true) (hx:wZ x y=true) (hy:rZ y.op=true) {s1 s2:tA} (h1:x.step call s=some s1) (h2:y.step call s1=some s2):∃ cf,y.step call s=some cf/\x.step call cf=some s2:=by
 obtain ⟨r,size,z,ry,hz,zg,cl,f,sz,L,a,ws,gb,hL⟩:=Q5 (call:=call) hx;have gw:=md;unfold DB at md;simp only [y7] at md;obtain ⟨a3,a4⟩:=RC md.2;refine (IR (x:=y) (y:=x) (by unfold DB; rw [Bool.and_comm]; exact gw) hy (fun s=>ldF r size s (s.env z).v) ry).2 (fun s p T v hp hT w hw=>?_) s s1 s2 h1 h2;have hk:=LQ hy hp hT;have he:(((T.ap s).put y.dst v).env z)=T.kl (s.env z):=by
  cases hd:y.dst with
  | none=>exact (pG hk s 0 v).2 z
  | some n =>
   simp only [tA.put];rw [if_neg (show ¬ z=n from fun e=>a3 n hd (e ▸ hz))];exact (pG hk s 0 v).2 z
 have hm:∀ t n,((T.ap s).put y.dst v).mem t n=(T.ap s).mem t n:=fun t n=>by cases y.dst <;> rfl
 rw [he]
 -- what the call does to memory
 have fm:T=.id\/(∃ d m row,T=.row d m row/\y.dst=some d)\/∃ t n d m row,T=.rn (some (t,n)) d m row/\y.dst=some d/\L.contains t=false:=by
  obtain ⟨v0,e⟩:=p;have hpe:(e=.none)\/(∃ row,e=.new row)\/∃ t n row,e=.rn (some (t,n)) row/\L.contains t=false:=by
   unfold sA.runG at hp;rw [gb] at hp;split at hp
   ·exact .inr (wQ hp)
   ·split at hp
    ·split at hp
     ·exact .inr (wQ hp)
     ·injection hp with hp; injection hp with _ hp; exact .inl hp.symm
    ·injection hp with hp; injection hp with _ hp; exact .inl hp.symm
    ·cases hp
  rcases hpe with rfl | ⟨row,rfl⟩ | ⟨t,n,row,rfl,ht⟩
  ·injection hT with hT; injection hT with h1 _; exact .inl h1.symm
  ·simp only [sA.effT] at hT;split at hT
   ·cases hT
   ·rename_i d hd;injection hT with hT; injection hT with h1 _; exact .inr (.inl ⟨_,_,_,h1.symm,hd⟩)
  ·simp only [sA.effT] at hT;split at hT
   ·cases hT
   ·rename_i d hd;injection hT with hT; injection hT with h1 _; exact .inr (.inr ⟨_,_,_,_,_,h1.symm,hd,ht⟩)
 have dh:=hw;simp only [ldF] at dh ⊢;cases hv:(s.env z).v with
 | ptr t n o =>
  rw [hv] at dh;simp only at dh;split at dh
  case isFalse=>cases dh
  rename_i rp;have zx:r=t:=by simpa using rp
  subst zx;obtain ⟨row,ja,hl⟩:=y0.1 dh;simp only [bC,yq,if_false] at hl;rcases fm with rfl | ⟨d,m,al,rfl,hd⟩ | ⟨t',n',d,m,al,rfl,hd,ht⟩
  ·simp only [Tr.kl,hv,rp,if_true,hm];show ((Tr.id.ap s).mem r n).bind _=_;rw [show (Tr.id.ap s).mem r n=some row from ja];simp [bC,hl]
  ·simp only [Tr.kl,hv,rp,if_true,hm];have:((Tr.row d m al).ap s).mem r n=some row:=by
    show (if r=d/\n=m then some al else s.mem r n)=some row;rw [if_neg (fun e=>zg (by rw [hd,e.1]))];exact ja
   rw [this];simp [bC,hl]
  ·have db:¬ (r=t'/\n=n'):=fun e=>by rw [<- e.1] at ht; rw [hL] at ht; cases ht
   have hvk:(qA.kill t' n' (s.env z)).v=.ptr r n o:=by
    show (s.env z).v.kill t' n'=_;rw [hv];simp only [AV.kill,AV.kill0,if_neg db]
   simp only [Tr.kl,hvk,rp,if_true,hm];have:((Tr.rn (some (t',n')) d m al).ap s).mem r n=some (row.map (qA.kill t' n')):=by
    show (if r=d/\n=m then some al else (s.kill t' n').mem r n)=_;rw [if_neg (fun e=>zg (by rw [hd,e.1]))];show (if r=t'/\n=n' then none else (s.mem r n).map (·.map (qA.kill t' n')))=_;rw [if_neg db,ja];rfl
   rw [this];simp [bC,hl]
 | _=>rw [hv] at dh; cases dh
theorem ER {x y:sA} (h:DB x y=true):DB y x=true:=by
 unfold DB at h ⊢;rw [Bool.and_comm];exact h
theorem G4 {x y:sA} (md:DB x y=true) (sa:mH x y=true) (h1:x.step call s=some s1) (h2:y.step call s1=some s2):∃ cf,y.step call s=some cf/\x.step call cf=some s2:=by
 unfold mH at sa;simp only [Bool.or_eq_true,y7] at sa;rcases sa with h | ((⟨h,h'⟩ | ⟨h,h'⟩) | ⟨h,h'⟩) | ⟨h,h'⟩
 ·exact bY md h h1 h2
 ·exact (OR (ER md) h' h).2 s s1 s2 h1 h2
 ·exact (OR md h' h).1 s s1 s2 h1 h2
 ·exact nY md h h' h1 h2
 ·exact mY md h h' h1 h2
end
end
section
open Go Go.RowKit
section
variable {P:Program} {O:OB} {nt B:Nat} {F0:DH} {ga:Av} {w0:World} {s s':tA} {a:Act} {w w':World} {ι:Ix} {Θ:tE} {call:OA} {lh:LH} {Q:Exit->Act->World->Prop}
def o8 (nt:Nat) (a:Act) (g:Nat->Value):Nat->Value:=fun t=>if t<nt then a.tmps.getD t undef else g (t - nt)
def DH.wait (F0:DH) (nt:Nat) (a:Act):DH:=⟨F0.b,F0.p,F0.r,F0.z,o8 nt a F0.g⟩
def tA.bare (s:tA):tA:={ s with env:=fun _=>⟨.undef,.no⟩ }
def mR (P:Program) (O:OB) (B:Nat) (F0:DH) (ga:Av) (w0:World) (s:tA) (w:World) (ι:Ix) (Θ:tE):Prop:=DA P O 0 B F0 ga w0 (fun _=>False) s.bare ⟨#[],[]⟩ w ι Θ
def rC (ι:Ix) (Θ:tE) (av avb:Av) (w:World):List qA->List Value->Prop
 | [],us=>us=[]
 | x :: r,us=>∃ u na,us=u :: na/\nA ι av avb w x.v u/\pE Θ x.a u/\rC ι Θ av avb w r na
theorem KK {av avb:Av}:∀ {xs ys:List qA} {us vs:List Value},rC ι Θ av avb w xs us->rC ι Θ av avb w ys vs->rC ι Θ av avb w (xs++ys) (us++vs)
 | [],_,_,_,h,h'=>by simp only [rC] at h; subst h; exact h'
 | x :: r,_,_,_,h,h'=>by
  simp only [rC] at h;obtain ⟨u,na,rfl,h0,h1,h⟩:=h;exact ⟨u,na++_,rfl,h0,h1,KK h h'⟩
def bP (P:Program) (O:OB) (hp:E7):Prop:=∀ f xs s k r,hp f xs s k=some r->(∀ vs w,(callFunc f vs).run P w=.ok (.enter f vs) w) ∧
 ∀ (B:Nat) (F0:DH) (ga:Av) (w0 w:World) (ι:Ix) (Θ:tE) (us:List Value) (E:Ending->World->Prop),mR P O B F0 ga w0 s w ι Θ->rC ι Θ (JA ga ι Θ) (ZA ι Θ) w xs us →
  (∀ y s' w' ι' Θ' v,mR P O B F0 ga w0 s' w' ι' Θ'->nA ι' (JA ga ι' Θ') (ZA ι' Θ') w' y.v v->pE Θ' y.a v->k y s'=some r->E (.returned v) w')->Calls P f us.toArray w E
theorem DA.wait {D:Nat->Prop} (R:DA P O nt B F0 ga w0 D s a w ι Θ):mR P O B (F0.wait nt a) ga w0 (s.enter nt) w ι Θ :=
 ⟨rfl,rfl,fun _=>trivial,fun _=>trivial,R.rows,fun t n b h=>let ⟨h1,h2,h3⟩:=R.mine t n b h; ⟨h1,h2,.inl (by simp only [tA.bare,tA.enter]; rcases h3 with h | h <;> omega)⟩,R.inj,R.tok,R.tinj,R.apart,R.out,R.pin,R.kept,R.base,R.objs,fun t n H h=>let ⟨h1,h2⟩:=R.obs t n H h; ⟨h1,.inl (by simp only [tA.bare,tA.enter]; rcases h2 with h | h <;> omega)⟩,fun t=>by
  simp only [tA.bare,tA.enter,DH.wait,o8];split
  ·exact R.env t
  ·exact R.gen _,fun t=>by
  simp only [tA.bare,tA.enter,DH.wait,o8];split
  ·exact R.ann t
  ·exact R.gann _⟩
theorem DA.resume {D D':Nat->Prop} {s':tA} {ι':Ix} {Θ':tE} (R:DA P O nt B F0 ga w0 D s a w ι Θ) (R':mR P O B (F0.wait nt a) ga w0 s' w' ι' Θ'):DA P O nt B F0 ga w0 D' (s'.leave nt) a w' ι' Θ' :=
 ⟨R.defers,R.size,fun t=>by
  have:=R'.gen t;simp only [tA.bare,DH.wait,o8] at this;simp only [tA.leave];split
  ·rename_i h; rw [if_pos h] at this; exact this
  ·trivial,fun t=>by
  have:=R'.gann t;simp only [tA.bare,DH.wait,o8] at this;simp only [tA.leave];split
  ·rename_i h; rw [if_pos h] at this; exact this
  ·trivial,R'.rows,fun t n b h=>let ⟨h1,h2,h3⟩:=R'.mine t n b h; ⟨h1,h2,h3.imp id fun h=>h.2.elim⟩,R'.inj,R'.tok,R'.tinj,R'.apart,R'.out,R'.pin,R'.kept,R'.base,R'.objs,fun t n H h=>let ⟨h1,h2⟩:=R'.obs t n H h; ⟨h1,h2.imp id fun h=>h.2.elim⟩,fun t=>by
  have:=R'.gen (t + nt);simp only [tA.bare,DH.wait,o8] at this;rw [if_neg (by omega),Nat.add_sub_cancel] at this;exact this,fun t=>by
  have:=R'.gann (t + nt);simp only [tA.bare,DH.wait,o8] at this;rw [if_neg (by omega),Nat.add_sub_cancel] at this;exact this⟩
theorem ZK {D:Nat->Prop} (R:DA P O nt B F0 ga w0 D s a w ι Θ):∀ {Xs:List Operand} {xs:List GA},ZB Xs=some xs->rC ι Θ (JA ga ι Θ) (ZA ι Θ) w (gE s xs) (Xs.map a.eval)
 | [],xs,h=>by injection h with h; subst h; rfl
 | X :: Xs,xs,h=>by
  unfold ZB at h;split at h
  ·rename_i x l hx hl;injection h with h;subst h;exact ⟨_,_,rfl,(R.opd hx).1,(R.opd hx).2,ZK R hl⟩
  ·cases h
theorem UR {av avb:Av}:∀ {cs:List AV} {us:List Value},mC ι av avb w cs us->rC ι Θ av avb w (cs.map (⟨·,.no⟩)) us
 | [],_,h=>h
 | x :: r,_,h=>by
  simp only [mC] at h;obtain ⟨u,na,rfl,h0,h⟩:=h;refine ⟨u,na,rfl,?_,trivial,UR h⟩;cases x with
  | bp cs=>exact h0
  | int k n=>exact kB (x:=.int k n) h0
  | bool b=>exact kB (x:=.bool b) h0
  | str b=>exact kB (x:=.str b) h0
  | nilP=>exact kB (x:=.nilP) h0
  | ptr t n o=>exact kB (x:=.ptr t n o) h0
  | ip cs=>exact kB (x:=.ip cs) h0
  | sl n l=>exact kB (x:=.sl n l) h0
  | bl l=>exact kB (x:=.bl l) h0
  | ref a b c d e f=>exact kB (x:=.ref a b c d e f) h0
  | mp t n=>exact kB (x:=.mp t n) h0
  | fn f cs=>exact kB (x:=.fn f cs) h0
  | agg cs=>exact kB (x:=.agg cs) h0
  | tup cs=>exact kB (x:=.tup cs) h0
  | undef=>trivial
theorem kS {D:Nat->Prop} (R:DA P O nt B F0 ga w0 D s a w ι Θ) {lh:LH} (oe:bP P O lh.h) {o:Oper} {hs:Nat->Bool} {gz:Nat} {x:GA} {xs:List GA} (hk:rQ nt hs o.op=some (.callh gz x xs)) (hd:∀ d,o.dst=some d->d<nt) {k:tA->Option RV} {r:RV} (hr:gK lh o.dst gz x xs s k=some r)
  {Kn:Act->World->Prop} {Q:Exit->Act->World->Prop} (hK:∀ s' a' w',fB P O nt B F0 ga w0 (fun t=>D t\/o.dst=some t) s' a' w'->k s'=some r->Kn a' w'):o.wp P a w Kn Q:=by
 have go:∀ {f:FuncId} {Xs:Array Operand} {cs:List AV} {us:List Value},gz=nt->ZB Xs.toList=some xs->mC ι (JA ga ι Θ) (ZA ι Θ) w cs us->lh.h f (gE s xs++cs.map (⟨·,.no⟩)) (s.enter nt) (fun y s'=>k ((s'.leave nt).put o.dst y))=some r->((∀ vs w,(callFunc f vs).run P w=.ok (.enter f vs) w)->(execOp a.eval o).run P w=.ok (.enter f (Xs.map a.eval++us.toArray)) w)->o.wp P a w Kn Q:=fun {f Xs cs us} hn hx ig hh run=>by
  obtain ⟨h1,h2⟩:=oe _ _ _ _ _ hh;unfold Oper.wp;rw [run h1,Oper.upon_enter];have sh:(Xs.toList.map a.eval++us).toArray=Xs.map a.eval++us.toArray:=by
   apply Array.ext';simp
  rw [<- sh];refine h2 B (F0.wait nt a) ga w0 w ι Θ _ _ R.wait (KK (ZK R hx) (UR ig)) fun y s' w' ι' Θ' v R' hv ha hks=>?_
  exact hK _ _ _ ⟨ι',Θ',((R.resume (D':=D) R').putN hd hv ha).more fun _ h=>.inl h⟩ hks
 unfold rQ at hk;split at hk
 ·rename_i f Xs ts ho;split at hk
  ·obtain ⟨l,hl,hk⟩:=y8.1 hk;injection hk with hn hx sb;subst hx;subst sb;simp only [gK,GA.get] at hr;refine go (cs:=[]) (us:=[]) hn.symm hl rfl (by rw [hn]; exact hr) fun wb=>?_
   simp only [execOp,ho,resolve,Act.eval,Deferred.ofValue,Sem.run_bind,Sem.run_pure,Result.andThen_ok,invoke];have:=wb (#[]++Xs.map a.eval++#[]) w;simp only [Array.empty_append,Array.append_empty] at this ⊢;exact this
  ·cases hk
 ·rename_i tf Xs ts ho;split at hk
  ·obtain ⟨l,hl,hk⟩:=y8.1 hk;injection hk with hn hx sb;subst hx;subst sb;simp only [gK,GA.get] at hr;split at hr
   ·rename_i f cs bh;have hF:=R.env tf;rw [bh] at hF;obtain ⟨us,jc,ig⟩:=hF;refine go (cs:=cs) (us:=us.toList) hn.symm hl ig (by rw [hn]; exact hr) fun wb=>?_
    have fr:a.eval (.tmp tf)=.func (.func f) #[] us:=jc;simp only [execOp,ho,resolve,fr,Deferred.ofValue,Sem.run_bind,Sem.run_pure,Result.andThen_ok,invoke];have:=wb (#[]++Xs.map a.eval++us) w;simp only [Array.empty_append] at this ⊢;exact this
   ·cases hr
  ·cases hk
 ·obtain ⟨_,_,h⟩:=y8.1 hk; cases h
 ·cases hk
theorem ZL {f:Nat->Option RV} {z:Option RV} {r:RV} (l:List Nat) (h:iR f z l=some r):(l=[]->z=some r)/\∀ i∈l,f i=some r:=by
 match l,h with
 | [],h=>exact ⟨fun _=>h,fun i hi=>absurd hi (by simp)⟩
 | [a],h=>exact ⟨fun e=>(by cases e),fun i hi=>(by rw [List.mem_singleton.1 hi]; exact h)⟩
 | a :: b :: l,h =>
  have h':(open Classical in if ∀ x∈b :: l,f x=f a then f a else none)=some r:=h;split at h'
  ·rename_i hc;refine ⟨fun e=>(by cases e),fun i hi=>?_⟩;rcases List.mem_cons.1 hi with hi | hi
   ·rw [hi]; exact h'
   ·exact (hc i hi).trans h'
  ·cases h'
theorem dP {f:Nat->Option RV} {z:Option RV} {r:RV} (l:List Nat) (h0:l=[]->z=some r) (h:∀ i∈l,f i=some r):iR f z l=some r:=by
 match l,h0,h with
 | [],h0,_=>exact h0 rfl
 | [a],_,h=>exact h a yh
 | a :: b :: l,_,h =>
  show (open Classical in if ∀ x∈b :: l,f x=f a then f a else none)=some r;rw [if_pos fun x hx=>(h x (yr _ hx)).trans (h a yh).symm];exact h a yh
theorem e9 {D:Nat->Prop} (R:DA P O nt B F0 ga w0 D s a w ι Θ) {o:Oper} {X:Operand} {x:GA} (hx:opd X=some x) (ho:o.op=.next X false) (hd:∀ d,o.dst=some d->d<nt) {k:tA->Option RV} {r:RV} (hr:BO o.dst x s k=some r)
  {Kn:Act->World->Prop} {Q:Exit->Act->World->Prop} (hK:∀ s' a' w',fB P O nt B F0 ga w0 (fun t=>D t\/o.dst=some t) s' a' w'->k s'=some r->Kn a' w'):o.wp P a w Kn Q:=by
 unfold BO at hr;split at hr
 case h_2=>cases hr
 rename_i t n gc;split at hr
 case h_2=>cases hr
 rename_i tm nm N seen hi;split at hr
 case h_2=>cases hr
 rename_i L hL;split at hr
 case isFalse=>cases hr
 rename_i hN;have hX:=(R.opd hx).1;rw [gc] at hX;obtain ⟨q,hq,hv⟩:=hX;obtain ⟨S,hS,pu⟩:=y0.1 hi;obtain ⟨p,H,hp,za,xb,tg⟩:=R.objs t n S hS;rw [hq] at hp;injection hp with hp;subst hp;obtain ⟨m,Hm,hm,ms,ba⟩:=tg tm nm N seen pu;obtain ⟨hH,eb⟩:=(O.iters S H q w (by rw [pu]; rfl)).1 xb;obtain ⟨S2,uv,aj⟩:=y0.1 hL;obtain ⟨p2,H2,gn,sk,po,_⟩:=R.objs tm nm S2 uv;rw [hm] at gn;injection gn with gn;subst gn;have gm:S2=sG L:=by
  unfold mD at aj;split at aj
  ·injection aj with aj; subst aj; rfl
  ·cases aj
 subst gm;obtain ⟨hH2,es,clock,he,ge,hc,dd⟩:=(O.maps L H2 m w).1 po;have er:es.size=N:=by rw [<- hN]; simpa using congrArg List.length ge
 obtain ⟨h1,h2⟩:=ZL _ hr;have nu:(getObj q).run P w=.ok (.mapIter (some m) N seen.toArray N) w:=by simp [getObj,Sem.run,ba]
 have lu:(getObj m).run P w=.ok (.map es clock) w:=by simp [getObj,Sem.run,he]
 have fk:∀ i (hi:i<es.size),(es[i]∈es.filter (fun e=>!seen.toArray.contains e.born) ↔ (!seen.contains i)=true):=fun i hi=>by
  rw [Array.mem_filter,dd i hi];simp
 have bo:(!seen.toArray.isEmpty&&!es.isEmpty&&es.all (fun x=>decide (x.born>=N)))=false:=by
  cases sg:es.isEmpty with
  | true=>simp
  | false =>
   have h0:0<es.size:=by
    rcases yx es.size with h0 | h0
    ·simp [Array.isEmpty,h0] at sg
    ·exact h0
   have:es.all (fun x=>decide (x.born>=N))=false:=by
    rw [Bool.eq_false_iff];intro nb;rw [Array.all_eq_true] at nb;have:=nb 0 h0;rw [dd 0 h0] at this;simp at this;omega
   simp [this]
 have ee:∀ x∈es.filter (fun e=>!seen.toArray.contains e.born),x.born<N:=fun x hx=>by
  have wg:x∈es:=(Array.mem_filter.1 hx).1;obtain ⟨i,bc,rfl⟩:=Array.mem_iff_getElem.1 wg;rw [dd i bc];omega
 generalize tv:es.filter (fun e=>!seen.toArray.contains e.born)=Lf at ee fk;have e1:Lf.filter (fun x=>decide (x.born<N))=Lf:=Array.filter_eq_self.2 fun x hx=>by simpa using ee x hx
 have e2:Lf.filter (fun x=>decide (x.born>=N))=#[]:=by
  rw [Array.filter_eq_empty_iff];intro x hx;have:=ee x hx;simp;omega
 unfold Oper.wp;by_cases h0:Lf.size=0
 ·have hz:Lf=#[]:=Array.eq_empty_of_size_eq_zero h0;have rk:(List.range N).filter (fun i=>!seen.contains i)=[]:=by
   refine List.eq_nil_iff_forall_not_mem.2 fun i bc=>?_
   have fc:i<es.size:=by have:=(List.mem_filter.1 bc).1; rw [er]; exact List.mem_range.1 this
   have:=(fk i fc).2 (List.mem_filter.1 bc).2;rw [hz] at this;simp at this
  have aa:(execOp a.eval o).run P w=.ok (.value (.tuple #[.bool false])) w:=by
   simp only [execOp,ho,hv,Instr.next,Sem.run_bind,nu,lu,Result.andThen_ok,bo,yq,if_false,tv,e1,e2,hz,Array.append_empty];simp [choose,Sem.run,Question.forced]
  rw [aa,Oper.upon_value];exact hK _ _ _ ⟨ι,Θ,(R.putN hd (x:=⟨.tup [.bool false],.no⟩) ⟨_,rfl,_,_,rfl,rfl,rfl⟩ trivial).more fun _ h=>.inl h⟩ (h1 rk)
 ·have db:Lf.isEmpty=false:=by simp [Array.isEmpty,h0]
  obtain ⟨j,w1,hj,uh,hch⟩:∃ (j:Nat) (w1:World),j<Lf.size/\(w1=w\/w1=w.drew)/\(choose (Question.mapNext Lf.size)).run P w=.ok j w1:=by
   by_cases hf:Lf.size<=1
   ·exact ⟨0,w,by omega,.inl rfl,by simp [choose,Sem.run,Question.forced,hf]⟩
   ·exact ⟨_,w.drew,Nat.mod_lt _ (by omega),.inr rfl,by
     simp only [choose,Sem.run,Question.forced,decide_eq_true_eq,hf,if_false,Question.cut];rfl⟩
  have iq:Lf[j]∈Lf:=by simp
  have hje:Lf[j]∈es:=by
   have:∀ x,x∈Lf->x∈es:=fun x hx=>by rw [<- tv] at hx; exact (Array.mem_filter.1 hx).1
   exact this _ iq
  obtain ⟨i,sm,xo⟩:=Array.mem_iff_getElem.1 hje;have bc:i∈(List.range N).filter fun i=>!seen.contains i:=List.mem_filter.2 ⟨List.mem_range.2 (by rw [<- er]; exact sm),(fk i sm).1 (by rw [xo]; exact iq)⟩
  have wq:Lf[j].born=i:=by rw [<- xo]; exact dd i sm
  have hk:=h2 i bc;split at hk
  case h_2=>cases hk
  rename_i y v ah;split at hk
  case isFalse=>cases hk
  rename_i dg;rw [y7] at dg;have mr:Lf[j].key=y.flatV/\Lf[j].val=v.flatV:=by
   have:=congrArg (fun l=>l[i]?) ge;simp only [yl,ah,Array.getElem?_toList,yH sm,yd,Option.some.injEq,IY] at this;rw [<- xo];exact ⟨congrArg Prod.fst this,congrArg Prod.snd this⟩
  have fl:w1.heap=w.heap:=by rcases uh with rfl | rfl <;> rfl
  have hq1:w1.heap[q]?=some (.mapIter (some m) N seen.toArray N):=by rw [fl]; exact ba
  have ey:(setObj q (.mapIter (some m) N (seen.toArray.push i) clock)).run P w1=.ok () { w1 with heap:=w1.heap.setIfInBounds q (.mapIter (some m) N (seen.toArray.push i) clock) }:=by
   simp [setObj,Sem.run,hq1]
  have aa:(execOp a.eval o).run P w=.ok (.value (.tuple #[.bool true,y.flatV,v.flatV])) { w1 with heap:=w1.heap.setIfInBounds q (.mapIter (some m) N (seen.toArray.push i) clock) }:=by
   simp only [execOp,ho,hv,Instr.next,Sem.run_bind,nu,lu,Result.andThen_ok,bo,yq,if_false,tv,e1,e2,db,Array.append_empty,Array.empty_append,Array.size_map,hch,Array.getElem?_map,yH hj,yd,wq,ey,Sem.run_pure,mr.1,mr.2]
  rw [aa,Oper.upon_value];have R1:DA P O nt B F0 ga w0 D s a w1 ι Θ:=R.grow (fun b _=>by rw [fl]) (by rw [fl]; exact y6 _) (by rcases uh with rfl | rfl; exact R.kept; exact R.kept.drew);have gg:O.at_ (ZQ tm nm N (seen++[i])) H q { w1 with heap:=w1.heap.setIfInBounds q (.mapIter (some m) N (seen.toArray.push i) clock) }:=(O.iters _ _ _ _ (by rw [sO]; rfl)).2 ⟨hH,by simp; rw [fl]; exact eb⟩;have ed:WA H w1 { w1 with heap:=w1.heap.setIfInBounds q (.mapIter (some m) N (seen.toArray.push i) clock) }:=⟨rfl,rfl,rfl,by simp,fun j' _ hn=>by
   have:j'≠q:=fun e=>hn ((hH j').2 e)
   simp only [Array.getElem?_setIfInBounds];rw [if_neg fun e:q=j'=>this e.symm]⟩
  have jt:xR ι (ZQ tm nm N (seen++[i])) q { w1 with heap:=w1.heap.setIfInBounds q (.mapIter (some m) N (seen.toArray.push i) clock) }:=fun tm' nm' N' seen' e=>by
   rw [sO] at e;injection e with e;injection e with g1 e;injection e with g2 e;injection e with g3 g4;subst g1; subst g2; subst g3; subst g4;refine ⟨m,Hm,hm,ms,?_⟩;have dx:q<w1.heap.size:=by rw [fl]; exact eb
   simp [dx,hc,er]
  obtain ⟨ι',R2,_⟩:=R1.turnObj hq za gg jt (fun b hb=>.inl hb) ed;refine hK _ _ _ ⟨ι',Θ,(R2.putN hd (x:=⟨.tup [.bool true,y,v],.no⟩) ?_ trivial).more fun _ h=>.inl h⟩ hk;exact ⟨_,rfl,_,_,rfl,rfl,_,_,rfl,QC (NG dg.1),_,_,rfl,QC (NG dg.2),rfl⟩
structure nR (P:Program) (nt:Nat) (ops:Array Oper) (o:Oper) (c:sA):Prop where
 dst:c.dst=o.dst
 op:(qX c.op=false/\((∃ cl mu b q,PR P cl mu b q o.op=some c.op/\(mu≠none->o.dst≠none))\/∃ cl hs L,lN P cl hs L o.op=some c.op))\/∃ hs,rQ nt hs o.op=some c.op
 lt:∀ d,o.dst=some d->d<nt
 guard:match o.guard with
  | none=>c.guard=none
  | some (g,want)=>∃ t,(ops[g]?).bind (·.dst)=some t/\c.guard=some (t,want)
theorem zN {boxes:List Nat} {all:List Oper} {draw:Bool}:∀ {ops:List Oper} {cs:List sA},iL P boxes nt all draw ops=some cs->cs.length=ops.length/\∀ (i:Nat) (o:Oper),ops[i]?=some o->∃ c,cs[i]?=some c/\nR P nt all.toArray o c
 | [],cs,h=>by injection h with h; subst h; exact ⟨rfl,fun i o ho=>by simp at ho⟩
 | o :: r,cs,h=>by
  unfold iL at h;split at h
  ·rename_i k l hk hl;split at h
   ·rename_i eb;have fc:∀ d,o.dst=some d->d<nt:=fun d hd=>by rw [hd] at eb; simpa [t7] using eb
    obtain ⟨h1,h2⟩:=zN hl;have uQ:∀ c,cs=c :: l->nR P nt all.toArray o c->cs.length=(o :: r).length/\∀ (i:Nat) (o':Oper),(o :: r)[i]?=some o'->∃ c,cs[i]?=some c/\nR P nt all.toArray o' c:=fun c e hc=>by
     subst e;refine ⟨by simp [h1],fun i o' ho=>?_⟩;cases i with
     | zero=>simp at ho; subst ho; exact ⟨c,rfl,hc⟩
     | succ i=>simpa using h2 i o' (by simpa using ho)
    have eh:(match o.dst with | some d=>if boxes.contains (nt + 1 + (2 * d + 1)) then some true else if boxes.contains (nt + 1 + 2 * d) then some false else none | none=>none)≠none->o.dst≠none:=fun h e=>by rw [e] at h; exact h rfl
    have gb:(qX k=false/\((∃ cl mu b q,PR P cl mu b q o.op=some k/\(mu≠none->o.dst≠none))\/∃ cl hs L,lN P cl hs L o.op=some k))\/∃ hs,rQ nt hs o.op=some k:=by
     split at hk
     ·rename_i k' rf;injection hk with hk;exact .inr ⟨_,hk ▸ rf⟩
     ·split at hk
      ·rename_i k' rf;injection hk with hk;subst hk;exact .inl ⟨H4 rf,.inr ⟨_,_,_,rf⟩⟩
      ·obtain ⟨h1,h2⟩:=Option.filter_eq_some_iff.1 hk;exact .inl ⟨by simpa using h2,.inl ⟨_,_,_,_,h1,eh⟩⟩
    cases hg:o.guard with
    | none =>
     simp only [hg] at h;injection h with h;exact uQ _ h.symm ⟨rfl,gb,fc,by rw [hg]⟩
    | some p =>
     obtain ⟨g,want⟩:=p;simp only [hg] at h;split at h
     ·rename_i t ht;injection h with h;exact uQ _ h.symm ⟨rfl,gb,fc,by rw [hg]; exact ⟨t,by simpa using ht,rfl⟩⟩
     ·cases h
   ·cases h
  ·cases h
section
variable {D:Nat->Prop} (R:fB P O nt B F0 ga w0 D s a w) (oa:∀ f args S r,call f args S=some r->EA P O f args S r)
include D R oa
theorem IT {ops:Array Oper} {i:Nat} {o:Oper} {c:sA} (ho:ops[i]?=some o) (ok:nR P nt ops o c) (hD:∀ d,o.dst=some d->(DS c.op||ML c.op)=true->¬ D d) (gb:(∃ cl mu b q,PR P cl mu b q o.op=some c.op/\(mu≠none->o.dst≠none))\/∃ cl hs L,lN P cl hs L o.op=some c.op) (hs:c.step call s=some s')
  {Kn:Act->World->Prop} (hK:∀ a' w',fB P O nt B F0 ga w0 (fun t=>D t\/o.dst=some t) s' a' w'->Kn a' w'):wpOp P ops Q i Kn a w:=by
 obtain ⟨ι,Θ,R⟩:=R;obtain ⟨cd,cop,cg⟩:=c;have fa:cd=o.dst:=ok.dst;subst fa;have main:cop.run call s≠none->(cop.run call s).bind (sA.eff ⟨o.dst,cop,cg⟩ s)=some s'->o.wp P a w Kn Q:=fun _ h=>by
  obtain ⟨xe,hx,he⟩:=y0.1 h;rcases gb with ⟨cl,mu,b,q,gb,eh⟩ | ⟨cl,hs0,L,gb⟩
  case inr=>exact r9 R oa gb ok.lt hD hx he hK
  unfold PR at gb;split at gb
  ·rename_i k hk;injection gb with gb;subst gb;exact HZ R oa hk eh ok.lt hD hx he hK
  ·split at gb
   ·injection gb with gb;subst gb;cases hx
   ·cases gb
 have main':(cop.run call s).bind (sA.eff ⟨o.dst,cop,cg⟩ s)=some s'->o.wp P a w Kn Q:=fun h=>main (fun e=>by rw [e] at h; cases h) h
 unfold wpOp;simp only [ho];have dn:nA ι (JA ga ι Θ) (ZA ι Θ) w (.tup []) undef:=⟨#[],rfl,rfl⟩;have hg:=ok.guard;cases sj:o.guard with
 | none =>
  rw [sj] at hg;simp only at hg;subst hg;have:Region.wanted o (yielded ops a.tmps)=true:=by simp [Region.wanted,sj]
  rw [if_pos this];exact .inl (main' hs)
 | some p =>
  obtain ⟨g,want⟩:=p;rw [sj] at hg;obtain ⟨t,ht,hg⟩:=hg;simp only at hg;subst hg;unfold sA.step at hs;simp only at hs;split at hs
  ·rename_i b hb;have hr:=R.env t;rw [hb,AA] at hr;have hy:yielded ops a.tmps g=some b:=by
    unfold yielded;rw [ht];simp only [U];rw [yG] at hr;cases hh:a.tmps[t]? with
    | none=>rw [hh] at hr; simp [undef] at hr
    | some v=>rw [hh] at hr; simp only [Option.getD_some] at hr; subst hr; rfl
   have hw:Region.wanted o (yielded ops a.tmps)=(b == want):=by
    simp only [Region.wanted,sj,hy];cases b <;> cases want <;> rfl
   rw [hw];split at hs
   ·rename_i e;subst e;rw [if_pos (by simp)];exact .inl (main' hs)
   ·rename_i e;injection hs with hs;subst hs;rw [if_neg (by simpa using e)];exact hK _ _ ⟨ι,Θ,(R.putN ok.lt (x:=⟨.tup [],.no⟩) dn trivial).more fun _ h=>.inl h⟩
  ·rename_i hb;have hr:=R.env t;rw [hb] at hr;obtain ⟨us,hv,oc⟩:=hr;have hy:yielded ops a.tmps g=none:=by
    unfold yielded;rw [ht];simp only [U];rw [yG] at hv;cases hh:a.tmps[t]? with
    | none=>rfl
    | some v=>rw [hh] at hv; simp only [Option.getD_some] at hv; subst hv; rfl
   have hw:Region.wanted o (yielded ops a.tmps)=false:=by
    simp only [Region.wanted,sj,hy];cases want <;> rfl
   rw [hw];injection hs with hs;subst hs;rw [if_neg (by decide)];exact hK _ _ ⟨ι,Θ,(R.putN ok.lt (x:=⟨.tup [],.no⟩) dn trivial).more fun _ h=>.inl h⟩
  ·cases hs
theorem TN (oe:bP P O lh.h) {ops:Array Oper} {i:Nat} {o:Oper} {c:sA} (ho:ops[i]?=some o) (ok:nR P nt ops o c) (hD:∀ d,o.dst=some d->(DS c.op||ML c.op)=true->¬ D d) {k:tA->Option RV} {r:RV} (hs:c.stepK call lh s k=some r)
  {Kn:Act->World->Prop} (hK:∀ s' a' w',fB P O nt B F0 ga w0 (fun t=>D t\/o.dst=some t) s' a' w'->k s'=some r->Kn a' w'):wpOp P ops Q i Kn a w:=by
 rcases ok.op with ⟨hH,gb⟩ | ⟨nq,gb⟩
 ·have hb:(c.step call s).bind k=some r:=by
   unfold sA.stepK at hs;split at hs
   ·rename_i h; rw [h] at hH; cases hH
   ·rename_i h; rw [h] at hH; cases hH
   ·exact hs
  obtain ⟨s1,h1,h2⟩:=y0.1 hb;exact IT R oa ho ok hD gb h1 fun a' w' R'=>hK s1 a' w' R' h2
 ·obtain ⟨cd,cop,cg⟩:=c;have fa:cd=o.dst:=ok.dst;subst fa;simp only at gb;obtain ⟨ι,Θ,R⟩:=R;obtain ⟨st,dd,main'⟩:∃ st,sA.stepK call lh ⟨o.dst,cop,cg⟩ s k=QF s o.dst cg st k/\(st=some r->o.wp P a w Kn Q):=by
   have bg:=gb;unfold rQ at bg;split at bg
   ·split at bg
    ·obtain ⟨_,_,h⟩:=y8.1 bg; subst h; exact ⟨_,rfl,fun h=>kS R oe gb ok.lt h hK⟩
    ·cases bg
   ·split at bg
    ·obtain ⟨_,_,h⟩:=y8.1 bg; subst h; exact ⟨_,rfl,fun h=>kS R oe gb ok.lt h hK⟩
    ·cases bg
   ·rename_i X hox;obtain ⟨x,hx,h⟩:=y8.1 bg;subst h;exact ⟨_,rfl,fun h=>e9 R hx hox ok.lt h hK⟩
   ·cases bg
  rw [dd] at hs;unfold wpOp;simp only [ho];have dn:nA ι (JA ga ι Θ) (ZA ι Θ) w (.tup []) undef:=⟨#[],rfl,rfl⟩;have hg:=ok.guard;cases sj:o.guard with
  | none =>
   rw [sj] at hg;simp only at hg;subst hg;have:Region.wanted o (yielded ops a.tmps)=true:=by simp [Region.wanted,sj]
   rw [if_pos this];exact .inl (main' hs)
  | some p =>
   obtain ⟨g,want⟩:=p;rw [sj] at hg;obtain ⟨t,ht,hg⟩:=hg;simp only at hg;subst hg;unfold QF at hs;simp only at hs;split at hs
   ·rename_i b hb;have hr:=R.env t;rw [hb,AA] at hr;have hy:yielded ops a.tmps g=some b:=by
     unfold yielded;rw [ht];simp only [U];rw [yG] at hr;cases hh:a.tmps[t]? with
     | none=>rw [hh] at hr; simp [undef] at hr
     | some v=>rw [hh] at hr; simp only [Option.getD_some] at hr; subst hr; rfl
    have hw:Region.wanted o (yielded ops a.tmps)=(b == want):=by
     simp only [Region.wanted,sj,hy];cases b <;> cases want <;> rfl
    rw [hw];split at hs
    ·rename_i e;subst e;rw [if_pos (by simp)];exact .inl (main' hs)
    ·rename_i e;rw [if_neg (by simpa using e)];exact hK _ _ _ ⟨ι,Θ,(R.putN ok.lt (x:=⟨.tup [],.no⟩) dn trivial).more fun _ h=>.inl h⟩ hs
   ·rename_i hb;have hr:=R.env t;rw [hb] at hr;obtain ⟨us,hv,oc⟩:=hr;have hy:yielded ops a.tmps g=none:=by
     unfold yielded;rw [ht];simp only [U];rw [yG] at hv;cases hh:a.tmps[t]? with
     | none=>rfl
     | some v=>rw [hh] at hv; simp only [Option.getD_some] at hv; subst hv; rfl
    have hw:Region.wanted o (yielded ops a.tmps)=false:=by
     simp only [Region.wanted,sj,hy];cases want <;> rfl
    rw [hw];rw [if_neg (by decide)];exact hK _ _ _ ⟨ι,Θ,(R.putN ok.lt (x:=⟨.tup [],.no⟩) dn trivial).more fun _ h=>.inl h⟩ hs
   ·cases hs
end
theorem fB.next {D:Nat->Prop} (R:fB P O nt B F0 ga w0 D s a w):fB P O nt B F0 ga w0 (fun _=>False) { s with next:=s.next + 1 } a w:=by
 obtain ⟨ι,Θ,R⟩:=R;exact ⟨ι,Θ,R.defers,R.size,R.env,R.ann,R.rows,fun t n b h=>let ⟨h1,h2,h3⟩:=R.mine t n b h; ⟨h1,h2,.inl (by rcases h3 with h | h <;> simp only <;> omega)⟩,R.inj,R.tok,R.tinj,R.apart,R.out,R.pin,R.kept,R.base,R.objs,fun t n H h=>let ⟨h1,h2⟩:=R.obs t n H h; ⟨h1,.inl (by rcases h2 with h | h <;> simp only <;> omega)⟩,R.gen,R.gann⟩
theorem RO {cs:List sA} (h:jL cs=true) {i j:Nat} {x y:sA} (hx:cs[i]?=some x) (hy:cs[j]?=some y) (db:i≠j) (hA:(DS y.op||ML y.op)=true) (mh:y.dst.isSome=true):x.dst≠y.dst:=by
 have hj:=(yk.1 hy).1;have hi:=(yk.1 hx).1;have h1:=y5.1 h j (List.mem_range.2 hj);rw [hy] at h1;simp only [hA,mh,Bool.true_and,Bool.not_true,Bool.false_or] at h1;have h2:=y5.1 h1 i (List.mem_range.2 hi);rw [hx] at h2;simp only [Bool.or_eq_true] at h2;rcases h2 with h2 | h2
 ·exact absurd (by simpa using h2) db
 ·simpa using h2
theorem xQ {ops:Array Oper} {cs:List sA} (oa:∀ f args S r,call f args S=some r->EA P O f args S r) (oe:bP P O lh.h) (sa:∀ (i:Nat) (o:Oper),ops[i]?=some o->∃ c,cs[i]?=some c/\nR P nt ops o c) (da:cs.length=ops.size) (hf:jL cs=true) {k:tA->Option RV} {r:RV} :
  ∀ (n i:Nat) (s:tA) (a:Act) (w:World),i + n=ops.size->fB P O nt B F0 ga w0 (fun t=>∃ j c,j<i/\cs[j]?=some c/\c.dst=some t) s a w->AC call lh (cs.drop i) s k=some r →
   (∀ s' a' w',fB P O nt B F0 ga w0 (fun _=>True) s' a' w'->k s'=some r->Q .normal a' w')->wpOps P ops Q (List.range' i n) a w
 | 0,i,s,a,w,hi,R,hr,hQ=>by
  have:cs.drop i=[]:=yD (by omega);rw [this] at hr;obtain ⟨ι,Θ,R⟩:=R;exact hQ s a w ⟨ι,Θ,R.more fun _ _=>trivial⟩ hr
 | n + 1,i,s,a,w,hi,R,hr,hQ=>by
  have eb:i<ops.size:=by omega
  obtain ⟨c,hc,ok⟩:=sa i ops[i] (yH eb);have uc:i<cs.length:=by omega
  have hci:cs[i]=c:=(yk.1 hc).2;rw [yI uc,hci] at hr;unfold AC at hr;rw [List.range'_succ,wpOps_cons];refine TN R oa oe (yH eb) ok (fun d hd hA ⟨j,c',hj,xf,xh⟩=>?_) hr fun s' a' w' R' hk=>?_
  ·exact RO hf xf hc (by omega) hA (by rw [ok.dst,hd]; rfl) (by rw [xh,ok.dst,hd])
  ·refine xQ oa oe sa da hf n (i + 1) s' a' w' (by omega) ?_ hk hQ;obtain ⟨ι,Θ,R'⟩:=R';refine ⟨ι,Θ,R'.more fun t ht=>?_⟩;rcases ht with ⟨j,c',hj,xf,xh⟩ | ht
   ·exact ⟨j,c',by omega,xf,xh⟩
   ·exact ⟨i,c,by omega,hc,by rw [ok.dst,ht]⟩
end
end
section
open Go Go.RowKit
section
variable {P:Program} {O:OB} {nt B:Nat} {F0:DH} {ga:Av} {w0:World} {s s':tA} {a:Act} {w w':World} {call:OA} {lh:LH} {Q:Exit->Act->World->Prop}
noncomputable def eE (call:OA) (lh:LH) (cs:List sA):List Nat->tA->(tA->Option RV)->Option RV
 | [],s,k=>k s
 | i :: r,s,k=>match cs[i]? with
  | some c=>c.stepK call lh s fun s=>eE call lh cs r s k
  | none=>none
theorem jP (cs:List sA) (k:tA->Option RV):∀ (n i:Nat) (s:tA),i + n=cs.length->AC call lh (cs.drop i) s k=eE call lh cs (List.range' i n) s k
 | 0,i,s,h=>by rw [yD (by omega)]; rfl
 | n + 1,i,s,h=>by
  have eb:i<cs.length:=by omega
  rw [yI eb,List.range'_succ];unfold AC eE;rw [yn eb];simp only;congr 1;funext s1;exact jP cs k n (i + 1) s1 (by omega)
theorem lD {c:sA} (h:qX c.op=false) (s:tA) (k:tA->Option RV):c.stepK call lh s k=(c.step call s).bind k:=by
 unfold sA.stepK;split
 ·rename_i e; rw [e] at h; cases h
 ·rename_i e; rw [e] at h; cases h
 ·rfl
theorem a7 {k:K} (h:eZ k=false):qX k=false:=by
 cases k <;> first | rfl | cases h
theorem mT {x y:sA} (h:mH x y=true):qX x.op=false/\qX y.op=false:=by
 have hN:∀ {k:K},rZ k=true->qX k=false:=fun {k} h=>by cases k <;> first | rfl | cases h
 have hV:∀ {o:sA},wX o=true->qX o.op=false:=fun h=>by obtain ⟨d,z,rfl⟩:=JV h; rfl
 unfold mH at h;simp only [Bool.or_eq_true,y7] at h;rcases h with h | ((⟨h,h'⟩ | ⟨h,h'⟩) | ⟨h,h'⟩) | ⟨h,h'⟩
 ·unfold pD at h;simp only [y7] at h;exact ⟨a7 (by simpa using h.1.1.1.1.1.1.1),a7 (by simpa using h.1.1.1.1.1.1.2)⟩
 ·exact ⟨hV h,hN h'⟩
 ·exact ⟨hN h',hV h⟩
 ·refine ⟨?_,hN h'⟩;unfold wZ at h;split at h
  ·rename_i e _ _; rw [e]; rfl
  ·cases h
 ·refine ⟨hN h,?_⟩;unfold tZ at h';split at h'
  ·rename_i e _; rw [e]; rfl
  ·rename_i e _; rw [e]; rfl
  ·cases h'
theorem IV {cs:List sA} {i:Nat} {c:sA} (hc:cs[i]?=some c) (hH:qX c.op=false) {L2:List Nat} {k:tA->Option RV} {r:RV}:∀ {L1:List Nat} {s:tA},(∀ r∈L1,∃ cr,cs[r]?=some cr/\DB cr c=true/\mH cr c=true)->eE call lh cs (L1++i :: L2) s k=some r →
  ∃ s1,c.step call s=some s1/\eE call lh cs (L1++L2) s1 k=some r
 | [],s,_,h=>by
  simp only [List.nil_append,eE,hc,lD hH] at h;obtain ⟨s1,h1,h2⟩:=y0.1 h;exact ⟨s1,h1,h2⟩
 | q :: L1,s,hL,h=>by
  obtain ⟨cr,hr,ha,ho⟩:=hL q (yh);simp only [List.cons_append,eE,hr,lD (mT ho).1] at h;obtain ⟨s1,h1,h2⟩:=y0.1 h;obtain ⟨s2,h3,h4⟩:=IV hc hH (fun q hq=>hL q (yr _ hq)) h2;obtain ⟨cf,h5,h6⟩:=G4 ha ho h1 h3;refine ⟨cf,h5,?_⟩;simp only [List.cons_append,eE,hr,lD (mT ho).1,h6,U];exact h4
theorem Z7 {cs:List sA} {i:Nat} {c:sA} (hc:cs[i]?=some c) {L2:List Nat} {k:tA->Option RV} {r:RV} {L1:List Nat} {s:tA} (hL:∀ r∈L1,∃ cr,cs[r]?=some cr/\DB cr c=true/\mH cr c=true) (h:eE call lh cs (L1++i :: L2) s k=some r) :
  c.stepK call lh s (fun s1=>eE call lh cs (L1++L2) s1 k)=some r:=by
 cases L1 with
 | nil=>simpa only [List.nil_append,eE,hc] using h
 | cons q L1 =>
  obtain ⟨cr,hr,ha,ho⟩:=hL q (yh);have hH:=(mT ho).2;obtain ⟨s1,h1,h2⟩:=IV hc hH hL h;rw [lD hH,h1,U];exact h2
theorem zQ {o:Oper} {e:Nat}:e∈uE o ↔ ∃ d∈o.after,Region.binds .any d=true/\d.on=e:=by
 unfold uE;rw [List.mem_filterMap];constructor
 ·rintro ⟨d,hd,h⟩;split at h
  ·rename_i hb; injection h with h; exact ⟨d,by simpa using hd,hb,h⟩
  ·cases h
 ·rintro ⟨d,hd,hb,rfl⟩;exact ⟨d,by simpa using hd,by rw [if_pos hb]⟩
theorem TV {ops:List Oper} {bf:List Nat} (h:A4 ops bf=true) {i:Nat} {o:Oper} (ho:ops[i]?=some o):(∀ e∈uE o,e<i)/\∀ r,r<i->(bf.getD i 0).testBit r=true->∃ e∈uE o,e=r\/(r<e/\(bf.getD e 0).testBit r=true):=by
 have hi:=(yk.1 ho).1;have h1:=y5.1 h i (List.mem_range.2 hi);rw [ho] at h1;simp only [y7] at h1;refine ⟨fun e he=>by simpa using y5.1 h1.1 e he,fun r hr hb=>?_⟩;have h2:=y5.1 h1.2 r (List.mem_range.2 hr);simp only [hb,Bool.not_true,Bool.false_or,List.any_eq_true,Bool.or_eq_true,beq_iff_eq,y7,decide_eq_true_eq] at h2;exact h2
theorem qQ {ops:List Oper} {bf:List Nat} (h:A4 ops bf=true) {L:List Nat} (uc:∀ (j:Nat) (o:Oper),ops[j]?=some o->j ∉ L->∀ e∈uE o,e ∉ L):∀ (n i:Nat) (o:Oper),i<n->ops[i]?=some o->(∀ e∈uE o,e ∉ L)->∀ r,r<i->(bf.getD i 0).testBit r=true->r ∉ L
 | 0,i,o,hn,_,_,_,_,_=>by omega
 | n + 1,i,o,hn,ho,ku,r,hr,hb=>by
  obtain ⟨h1,h2⟩:=TV h ho;obtain ⟨e,he,hor⟩:=h2 r hr hb;rcases hor with rfl | ⟨fo,hbe⟩
  ·exact ku _ he
  ·have hei:=h1 e he;have eb:i<ops.length:=(yk.1 ho).1;have mq:ops[e]?=some ops[e]:=yn (by omega);exact qQ h uc n e _ (by omega) mq (uc e _ mq (ku e he)) r fo hbe
theorem SW {ops:List Oper} {cs:List sA} (h:tM ops cs=true) {i j:Nat} (hj:j<ops.length) (ou:i<j) (hb:((bJ ops).getD j 0).testBit i=false):∃ x y,cs[i]?=some x/\cs[j]?=some y/\DB x y=true/\mH x y=true:=by
 unfold tM at h;simp only [y7] at h;have h1:=y5.1 h.2 j (List.mem_range.2 hj);have h2:=y5.1 h1 i (List.mem_range.2 ou);rw [hb,Bool.false_or] at h2;split at h2
 ·rename_i x y hx hy;simp only [y7] at h2;exact ⟨x,y,hx,hy,h2.1,h2.2⟩
 ·cases h2
theorem BP {ops:Array Oper} {cs:List sA} (oa:∀ f args S r,call f args S=some r->EA P O f args S r) (oe:bP P O lh.h) (sa:∀ (i:Nat) (o:Oper),ops[i]?=some o->∃ c,cs[i]?=some c/\nR P nt ops o c) (da:cs.length=ops.size) (hf:jL cs=true) (zg:tM ops.toList cs=true) {k:tA->Option RV} {r:RV}
  (hQ:∀ s' a' w',fB P O nt B F0 ga w0 (fun _=>True) s' a' w'->k s'=some r->Q .normal a' w') :
  ∀ (fuel:Nat) (L:List Nat) (listed:Array Bool) (s:tA) (a:Act) (w:World),L.length=fuel->(∀ i,i<ops.size->(listed.getD i true=false ↔ i∈L))->listed.size=ops.size->L.Pairwise (·<·)->(∀ i∈L,i<ops.size) →
   (∀ (j:Nat) (o:Oper),ops.toList[j]?=some o->j ∉ L->∀ e∈uE o,e ∉ L)->fB P O nt B F0 ga w0 (fun t=>∃ j c,j ∉ L/\cs[j]?=some c/\c.dst=some t) s a w->eE call lh cs L s k=some r->wpAny P .any ops Q fuel listed a w
 | 0,L,listed,s,a,w,hl,hlist,rb,_,_,_,R,hr=>by
  have:L=[]:=yF hl;subst this;refine ⟨?_,?_⟩
  ·refine List.eq_nil_iff_forall_not_mem.2 fun i hi=>?_
   obtain ⟨dn,o,ho,_⟩:=mem_ready.1 hi;have bc:=(Array.getElem?_eq_some_iff.1 ho).1;have:=(hlist i bc).1 dn;cases this
  ·obtain ⟨ι,Θ,R⟩:=R;exact hQ s a w ⟨ι,Θ,R.more fun _ _=>trivial⟩ hr
 | fuel + 1,L,listed,s,a,w,hl,hlist,rb,hsort,hin,uc,R,hr=>by
  have kz:A4 ops.toList (bJ ops.toList)=true:=by
   unfold tM at zg;simp only [y7] at zg;exact zg.1
  refine ⟨fun rk=>?_,fun i hi=>?_⟩
  ·exfalso;cases L with
   | nil=>simp at hl
   | cons i0 L0 =>
    have wo:=hin i0 (yh);have ho:ops.toList[i0]?=some ops[i0]:=by simp [wo]
    have ee:i0∈Region.ready .any ops listed:=by
     refine mem_ready.2 ⟨(hlist i0 wo).2 (yh),ops[i0],yH wo,fun e he hb=>?_⟩;have eb:=(TV kz ho).1 e.on (zQ.2 ⟨e,he,hb,rfl⟩);have ox:e.on ∉ i0 :: L0:=fun hm=>by
      rcases List.mem_cons.1 hm with h | h
      ·omega
      ·have:=(List.pairwise_cons.1 hsort).1 _ h; omega
     have h1:listed.getD e.on true≠false:=fun h=>ox ((hlist e.on (by omega)).1 h)
     have hs:e.on<listed.size:=by omega
     simp only [yG,yH hs,Option.getD_some] at h1 ⊢;simpa using h1
    rw [rk] at ee;cases ee
  ·obtain ⟨dn,o,ho,ku⟩:=mem_ready.1 hi;have bc:=(Array.getElem?_eq_some_iff.1 ho).1;have hiL:=(hlist i bc).1 dn;have uz:ops.toList[i]?=some o:=by simpa using ho
   have gr:∀ e∈uE o,e ∉ L:=fun e he=>by
    obtain ⟨d,hd,hb,rfl⟩:=zQ.1 he;have h1:=ku d hd hb;intro hm;have eb:=hin _ hm;have h2:=(hlist _ eb).2 hm;have hs:d.on<listed.size:=by omega
    simp only [yG,yH hs,Option.getD_some] at h1 h2;rw [h1] at h2;cases h2
   obtain ⟨L1,L2,rfl⟩:=List.append_of_mem hiL;obtain ⟨c,hc,ok⟩:=sa i o ho;have se:=List.pairwise_append.1 hsort;have ri:∀ r∈L1,∃ cr,cs[r]?=some cr/\DB cr c=true/\mH cr c=true:=fun r hr=>by
    have xz:r<i:=se.2.2 r hr i (yh);have ew:((bJ ops.toList).getD i 0).testBit r=false:=by
     cases hb:((bJ ops.toList).getD i 0).testBit r with
     | false=>rfl
     | true=>exact absurd (List.mem_append_left _ hr) (qQ kz uc (i + 1) i o (by omega) uz gr r xz hb)
    obtain ⟨x,y,hx,hy,h1,h2⟩:=SW zg (by simpa using bc) xz ew;rw [hc] at hy;injection hy with hy;subst hy;exact ⟨x,hx,h1,h2⟩
   have h1:=Z7 hc ri hr;have xr:i ∉ L1++L2:=fun hm=>by
    rcases List.mem_append.1 hm with h | h
    ·have:=se.2.2 i h i (yh); omega
    ·have:=(List.pairwise_cons.1 se.2.1).1 i h; omega
   have ac:∀ j,j ∉ L1++i :: L2 ↔ (j ∉ L1++L2/\j≠i):=fun j=>by
    simp only [List.mem_append,List.mem_cons,not_or];exact ⟨fun ⟨h1,h2,h3⟩=>⟨⟨h1,h3⟩,h2⟩,fun ⟨⟨h1,h3⟩,h2⟩=>⟨h1,h2,h3⟩⟩
   refine TN R oa oe ho ok (fun d hd hA ⟨j,c',hj,xf,xh⟩=>?_) h1 fun s1 a' w' R' h2=>?_
   ·have:j≠i:=((ac j).1 hj).2;exact RO hf xf hc this hA (by rw [ok.dst,hd]; rfl) (by rw [xh,ok.dst,hd])
   ·refine BP oa oe sa da hf zg hQ fuel (L1++L2) (listed.setIfInBounds i true) s1 a' w' (by simp at hl ⊢; omega) (fun j hj=>?_) (by simpa using rb) ?_ (fun j hj=>hin j ?_) (fun j o' js hj e he hm=>?_) ?_ h2
    ·have hjs:j<listed.size:=by omega
     by_cases e:i=j
     ·subst e;simp only [yG,Array.getElem?_setIfInBounds,if_true,hjs,Option.getD_some];exact ⟨fun h=>by simp at h,fun h=>absurd h xr⟩
     ·simp only [yG,Array.getElem?_setIfInBounds,if_neg e];have:=hlist j hj;simp only [yG] at this;rw [this];simp only [List.mem_append,List.mem_cons];exact ⟨fun h=>by rcases h with h | h | h; exact .inl h; exact absurd h.symm e; exact .inr h,fun h=>by rcases h with h | h; exact .inl h; exact .inr (.inr h)⟩
    ·exact List.pairwise_append.2 ⟨se.1,(List.pairwise_cons.1 se.2.1).2,fun x hx y hy=>se.2.2 x hx y (yr _ hy)⟩
    ·rcases List.mem_append.1 hj with h | h
     ·exact List.mem_append_left _ h
     ·exact List.mem_append_right _ (yr _ h)
    ·have pc:e∈L1++i :: L2:=by
      rcases List.mem_append.1 hm with h | h
      ·exact List.mem_append_left _ h
      ·exact List.mem_append_right _ (yr _ h)
     by_cases e':j=i
     ·subst e';rw [uz] at js;injection js with js;subst js;exact gr e he pc
     ·exact uc j o' js ((ac j).2 ⟨hj,e'⟩) e he pc
    ·obtain ⟨ι,Θ,R'⟩:=R';refine ⟨ι,Θ,R'.more fun t ht=>?_⟩;rcases ht with ⟨j,c',hj,xf,xh⟩ | ht
     ·exact ⟨j,c',((ac j).1 hj).1,xf,xh⟩
     ·exact ⟨i,c,xr,hc,by rw [ok.dst,ht]⟩
theorem sR (hm:P.follows .mixedOrders=true) (oa:∀ f args S r,call f args S=some r->EA P O f args S r) (oe:bP P O lh.h) {boxes:List Nat} {id:Nat} {ops:Array Oper} {draw:Bool} {cs:List sA} (hc:iL P boxes nt ops.toList draw ops.toList=some cs) (hf:jL cs=true) (hd:draw=true->tM ops.toList cs=true)
  (R:fB P O nt B F0 ga w0 (fun _=>False) s a w) {k:tA->Option RV} {r:RV} (hr:AC call lh cs s k=some r) (hQ:∀ s' a' w',fB P O nt B F0 ga w0 (fun _=>False) { s' with next:=s'.next + 1 } a' w'->k s'=some r->Q .normal a' w'):(Code.region id ops draw).wp P Q a w:=by
 obtain ⟨da,pm⟩:=zN hc;have dk:cs.length=ops.size:=by simpa using da
 have sa:∀ (i:Nat) (o:Oper),ops[i]?=some o->∃ c,cs[i]?=some c/\nR P nt ops o c:=fun i o ho=>by
  have:=pm i o (by simpa using ho);rw [yE] at this;exact this
 have cz:∀ s' a' w',fB P O nt B F0 ga w0 (fun _=>True) s' a' w'->k s'=some r->Q .normal a' w':=fun s' a' w' h hk=>hQ s' a' w' h.next hk
 cases draw with
 | false =>
  refine wp_region ?_;rw [List.range_eq_range'];refine xQ oa oe sa dk hf ops.size 0 s a w (by omega) ?_ (by simpa using hr) cz;obtain ⟨ι,Θ,R⟩:=R;exact ⟨ι,Θ,R.more fun _ h=>h.elim⟩
 | true =>
  refine wp_region_any hm ?_;have aa:eE call lh cs (List.range' 0 ops.size) s k=some r:=by
   rw [<- dk,<- jP cs k cs.length 0 s (by omega)];simpa using hr
  refine BP oa oe sa dk hf (hd rfl) cz ops.size (List.range' 0 ops.size) _ s a _ (by simp) (fun i hi=>?_) (by simp) List.pairwise_lt_range' (fun i hi=>?_) (fun j o ho hj=>?_) ?_ aa
  ·simp [hi]
  ·simpa using hi
  ·have:=(yk.1 ho).1;exact absurd (by simpa using this) (by simpa using hj)
  ·obtain ⟨ι,Θ,R⟩:=R;exact ⟨ι,Θ,(R.grow (w':=w.drew) (fun _ _=>rfl) (y6 _) R.kept.drew).more fun _ h=>h.elim⟩
end
end
end Go.Proofs.YtbhbeakhognieaaGreatDoor
