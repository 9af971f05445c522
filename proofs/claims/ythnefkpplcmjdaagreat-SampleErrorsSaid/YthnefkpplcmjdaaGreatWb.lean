/- A part of the proof. -/
import Derived.Test.YthnefkpplcmjdaaGreatWa
import Derived.Laws.BytesString
import Derived.OrdersHeld
set_option linter.all false
set_option maxRecDepth 100000
set_option maxHeartbeats 8000000
open Option renaming bind_some → J, bind_eq_some_iff → y5, map_eq_some_iff → ye, map_some → yp
open List renaming map_map → y3, all_eq_true → y6, getElem?_eq_getElem → y7, getElem?_map → yb, drop_eq_getElem_cons → yc, drop_eq_nil_of_le → yf, mem_cons → yh, replicate → yj, map_cons → yk, mem_cons_self → yl, mem_cons_of_mem → ym, getElem?_eq_some_iff → yn, length_map → yo, map_nil → yq, cons_append → yv, map_congr_left → yw, mem_map → yz, flatten_cons → yA, take_of_length_le → yB, length_append → yC, mem_append → yD, length_cons → yE, nil_append → yF, getElem?_take → yI, eq_nil_of_length_eq_zero → yJ, getElem?_drop → yL, length_take → yM, getElem?_append_right → yN, mem_of_getElem? → yQ, take_append_drop → yR, getElem?_append_left → yU, getElem?_eq_none → yV
open Bool renaming and_eq_true → y9, false_eq_true → yr
open Nat renaming le_refl → yg, le_trans → yt, succ_mul → yu, zero_add → yy, eq_zero_or_pos → yG, mul_le_mul_right → yS
open Array renaming length_toList → yH, toArray_toList → yK, getD_eq_getD_getElem? → yP, getElem?_eq_getElem → yT
namespace Go.Proofs.YthnefkpplcmjdaaGreat
open Go
section
open Go Go.RowKit
section
variable {P:Program} {O:XI} {nt B:Nat} {F0:FQ} {da:Av} {w0:World} {D:Nat->Prop} {s:OC} {a:Act} {w w':World} {ι:Ix} {Θ:jM} {o:Oper}
def An.twice (A:An)(d:Nat)(x:An):An:=match A with
 |.own k _=>(x.strip k).strip d
 |_=>x.strip d
theorem Dl (A:An)(d:Nat):(s.lB A).strip d=s.wA (A.twice d):=by
 cases A with
 |own k e=>simp[OC.lB,OC.strip,OC.wA,WC.strip,An.twice,Function.comp_def]
 |no=>rfl
 |ex=>rfl
def jM.less (Θ:jM)(A:An)(d:Nat):jM:=fun j=>match A with
 |.own k _=>if j=d\/j=k then none else Θ j
 |_=>if j=d then none else Θ j
theorem DE {A:An}{d j:Nat}{o:Ow}(h:Θ.less A d j=some o):Θ j=some o/\j≠d/\∀k e,A=.own k e->j≠k:=by
 unfold jM.less at h;cases A with
 |own k e =>
  simp only at h;split at h
  ·cases h
  ·rename_i hn;exact⟨h,fun e=>hn (.inl e),fun k' e' he=>by injection he with h1;subst h1;exact fun e=>hn (.inr e)⟩
 |no =>
  simp only at h;split at h
  ·cases h
  ·rename_i hn;exact⟨h,hn,fun k' e' he=>by cases he⟩
 |ex =>
  simp only at h;split at h
  ·cases h
  ·rename_i hn;exact⟨h,hn,fun k' e' he=>by cases he⟩
theorem less_d {A:An}{d:Nat}:Θ.less A d d=none:=by
 unfold jM.less;cases A<;>simp
theorem Kr {A:An}{d:Nat}{Θ':jM}(hΘ:∀j o,Θ.less A d j=some o->Θ' j=some o)(x:An)(v:Value)(h:TM Θ x v):TM Θ' (A.twice d x) v:=by
 have h1:∀k,x.strip k=.no\/(x.strip k=x/\∀j e,x=.own j e->j≠k):=fun k=>by
  cases x with
  |no=>exact .inl rfl
  |ex=>exact .inr ⟨rfl,fun _ _ h=>by cases h⟩
  |own j e =>
   simp only[An.strip];split
   ·exact .inl rfl
   ·rename_i hn;exact .inr ⟨rfl,fun j' e' h=>by injection h with h;subst h;exact hn⟩
 have key:A.twice d x=.no\/(A.twice d x=x/\(∀j e,x=.own j e->j≠d)/\∀k e',A=.own k e'->∀j e,x=.own j e->j≠k):=by
  cases A with
  |own k e' =>
   simp only[An.twice];rcases h1 k with h2|⟨h2,h3⟩
   ·rw[h2];exact .inl rfl
   ·rw [h2];rcases h1 d with h4 | ⟨h4,h5⟩
    ·exact .inl h4
    ·exact .inr ⟨h4,h5,fun k' e'' he=>by injection he with he;subst he;exact h3⟩
  |no=>rcases h1 d with h4|⟨h4,h5⟩;exact .inl h4;exact .inr ⟨h4,h5,fun _ _ he=>by cases he⟩
  |ex=>rcases h1 d with h4|⟨h4,h5⟩;exact .inl h4;exact .inr ⟨h4,h5,fun _ _ he=>by cases he⟩
 rcases key with h2|⟨h2,h3,h4⟩
 ·rw[h2];trivial
 ·rw [h2];cases x with
  |no=>trivial
  |ex=>exact h
  |own j e =>
   refine h.imp id fun⟨ow,h5,h6⟩=>⟨ow,hΘ _ _ ?_,h6⟩
   unfold jM.less;cases A with
   |own k e'=>simp only;rw[if_neg];exact h5;rintro(e1|e1);exact h3 _ _ rfl e1;exact h4 _ _ rfl _ _ rfl e1
   |no=>simp only;rw[if_neg (h3 _ _ rfl)];exact h5
   |ex=>simp only;rw[if_neg (h3 _ _ rfl)];exact h5
theorem LD.qC (R:LD P O nt B F0 da w0 D s a w ι Θ){k:Nat}{o:Ow}{t n:Nat}{H:Nat->Prop}(h:Θ k=some o)(hH:ι.ob t n=some H):¬H o.g:=fun hb=>((R.obs t n H hH).1 _ hb).2.2.2.1 k o h rfl
theorem LD.less (R:LD P O nt B F0 da w0 D s a w ι Θ)(A:An)(d:Nat):LD P O nt B F0 da w0 D (s.wA (A.twice d)) a w ι (Θ.less A d) :=
 R.fam _ _ (fun _ _ h=>h.imp id fun⟨k,ow,h1,h2⟩=>⟨k,ow,(DE h1).1,h2⟩) (Kr fun _ _ h=>h) (fun k o h=>R.tok k o (DE h).1) (fun k k' o o' h h'=>R.OA k k' o o' (DE h).1 (DE h').1) (fun k o t n h=>R.apart k o t n (DE h).1) (fun _ _ _ _ _ h=>R.qC (DE h).1)
theorem PO {av:Av}:∀{xs ys:List AV}{us vs:List Value},JE av w xs us->JE av w ys vs->JE av w (xs++ys) (us++vs)
 | [],_,_,_,h,h'=>by simp only[JE]at h;subst h;exact h'
 |x::r,_,_,_,h,h'=>by
  simp only[JE]at h;obtain⟨u,oa,rfl,h0,h1,h⟩:=h;exact⟨u,oa++_,rfl,h0,h1,PO h h'⟩
theorem X6 {av:Av}:∀{xs:List AV}{us:List Value},JE av w xs us->∀u∈us,u.oneCell'=true
 | [],_,h,u,hu=>by simp only[JE]at h;subst h;cases hu
 |x::r,_,h,u,hu=>by
  simp only[JE]at h;obtain⟨v,oa,rfl,h0,h1,h⟩:=h;rcases yh.1 hu with rfl|hu
  ·exact h1
  ·exact X6 h u hu
theorem op_app (R:LD P O nt B F0 da w0 D s a w ι Θ){t e:TypeId}{i:TypeInfo}{z:List AV}(ht:P.underlying t=some (.slice e))(hi:P.info? e=some i)(hz:UL P e=some z)(ra:z.length=i.size)(lb:0<i.size){X Y:Operand}{x y:KD}(hx:uA X=some x)(hy:uA Y=some y)
  (ho:o.op=.call { callee:=.builtin .append,args:=#[X,Y],argTypes:=#[t,t] }) {d:Nat} (ba:o.dst=some d) (hd:d<nt) {cl:Cl} {call} {xe:WC×rF} (hr:(K.app cl e i.size i.bytes x y).run call s=some xe) {g} {s':OC} (he:JC.eff ⟨o.dst,.app cl e i.size i.bytes x y,g⟩ s xe=some s') :
  ∃v w',(execOp a.eval o).run P w=.ok (.value v) w'/\JF P O nt B F0 da w0 D s' (a.put o.dst v) w':=by
 obtain⟨zv,i',sc,ul,ug,hl⟩:=UI hz w;rw[hi]at sc;injection sc with sc;subst sc;have ij:zv.cells.size=i.size:=by
  have:=eI hl;simp only[yH]at this;omega
 have hX:=R.uA hx;have hY:=(R.uA hy).1;have oi:∀v w',(Builtin.append_ #[t,t] o.type #[a.eval X,a.eval Y]).run P w=.ok v w'->(execOp a.eval o).run P w=.ok (.value v) w':=fun v w' h=>by
  simp only[execOp,ho,resolve,invoke,builtin,Sem.run_bind,Sem.run_pure,Result.andThen_ok,List.map_toArray,yk,yq,h]
 simp only[K.run]at hr;split at hr
 ·rename_i b l m ic sb;split at hr
  ·rename_i aa;obtain ⟨ta,mb⟩:=aa;obtain ⟨md,eg⟩:=UD.1 ta;have zb:∀ c∈l++m,c.length=i.size:=fun c hc=>by simpa using y6.1 mb c hc
   have jb:∀c∈m,c.length=i.size:=fun c hc=>zb c (List.mem_append_right _ hc)
   have ck:∀c∈l,c.length=i.size:=fun c hc=>zb c (List.mem_append_left _ hc)
   obtain⟨news,td,je⟩:=oO R hY sb lb jb;rw[ic]at hX;have jt:=hX.1;rw[XF]at jt;obtain⟨xs,kc,gt⟩:=oO (cl:=cl) R hX.1 (m:=l) rfl lb ck;simp only[gG]at jt;obtain⟨A,c,hv,pt,hu,hn,hs⟩:=jt;have de:xs.length=l.length*i.size:=gt.1;have se:∀a',A=some a'->∀j u,xs[j]?=some u->w.cell? (a'.add j)=some u:=fun a' ha j u hj=>by
    obtain⟨_,A2,c2,hv2,_,h2⟩:=gt;rw[hv]at hv2;injection hv2 with e1 e2 e3;subst e1;have hp:0<l.length:=by
     rcases yG l.length with h|h
     ·rw[h]at de;have:=(yn.1 hj).1;omega
     ·exact h
    obtain⟨b',off,hA,_,_,ed⟩:=h2 hp;rw[ha]at hA;injection hA with hA;subst hA;rw[Addr.add_lit];exact ed j u hj
   have ec:news.length=m.length*i.size:=je.1;have aj:∀u∈news,u.oneCell'=true:=X6 td;have cw:∃A0,OE b (x.an s)=A0/\(A0=.ex\/∃k,A0=.own k e)/\xe=(⟨.sl (b&&m.isEmpty) (l++m),.own 0 e⟩,.app A0 0):=by
    cases jl:OE b (x.an s)with
    |no=>rw[jl]at hr;cases hr
    |ex=>rw[jl]at hr;injection hr with hr;exact⟨_,rfl,.inl rfl,hr.symm⟩
    |own k e' =>
     rw[jl]at hr;simp only at hr;split at hr
     ·rename_i hee;subst hee;injection hr with hr;exact⟨_,rfl,.inr ⟨k,rfl⟩,hr.symm⟩
     ·cases hr
   obtain⟨A0,jl,hAk,rfl⟩:=cw;simp only[JC.eff,ba]at he;injection he with he;subst he;rw[Dl,ba];have dt:TM Θ A0 (a.eval X):=by
    rw[<- jl];cases b with
    |false=>exact hX.2
    |true =>
     obtain⟨h1,h2,h3⟩:=hn rfl;exact⟨none,0,by rw[hv,h1,h2,h3]⟩
   -- what is read of the old elements and the new ones behind
   have pb:JE (uE da ι Θ) w (l++m).flatten (xs++news):=by rw[List.flatten_append];exact PO kc td
   have huni:∀c∈l++m,∀c'∈l++m,c.length=c'.length:=fun c hc c' ze=>(zb c hc).trans (zb c' ze).symm
   -- a new block
   have grow:c<l.length+m.length->∃v w',(execOp a.eval o).run P w=.ok (.value v) w'/\JF P O nt B F0 da w0 D ((s.wA (A0.twice d)).put (some d) ⟨.sl (b&&m.isEmpty) (l++m),.own d e⟩) (a.put (some d) v) w':=fun fa=>by
    have ca:=MW (P:=P) (w:=w) ht hi ul o.type de (fun hA=>by
     cases b with
     |true=>have:=hn rfl;exact⟨this.2.1,this.2.2⟩
     |false =>
      obtain⟨h1,h2⟩:=hs rfl;refine⟨?_,h1 hA⟩;rcases yG l.length with h0|h0
      ·exact h0
      ·obtain⟨_,_,ha,_⟩:=h2 h0;rw[hA]at ha;cases ha) se je fa pt eg md
    rw[<- hv]at ca;have fh:=grownCap_ge w (l.length+m.length) c e;have zp:grownCap w (l.length+m.length) c e<=maxLen:=grownCap_le_maxLen w (l.length+m.length) c e (by unfold maxLen;omega);have pg:(xs.toArray++news.toArray++Builtin.zeroCells zv.cells (grownCap w (l.length+m.length) c e-(l.length+m.length))).size=grownCap w (l.length+m.length) c e*i.size:=by
     simp only[Array.size_append,List.size_toArray,size_zeroCells,ij,de,ec,<- Nat.add_mul];congr 1;omega
    have R1:=(R.less A0 d).fresh (d:=d) less_d pg lb fh zp (e:=e) (by simp[fE,hi]);refine⟨_,_,oi _ _ ca,ι,_,R1.put hd ?_ (.inr ⟨_,if_pos rfl,rfl,rfl⟩)⟩;have hb:(b&&m.isEmpty)=false:=by
     cases b with
     |false=>rfl
     |true =>
      have:=(hn rfl);have:m≠[]:=fun h=>by subst h;simp at fa;omega
      simpa using this
    show sD _ _ _ _ (.sl (b&&m.isEmpty) (l++m)) _;rw[hb,XF];simp only[gG,yC];refine⟨_,_,rfl,fh,huni,(fun h=>by cases h),fun _=>⟨fun h=>(by cases h),fun _=>⟨w.heap.size,0,rfl,?_⟩⟩⟩;rw[TH];have sq:aD (uE da ι Θ) (uE da ι (fun j=>if j=d then some ⟨w.heap.size,l.length+m.length,grownCap w (l.length+m.length) c e,i.size,e⟩else Θ.less A0 d j)) w (Zg w xs news zv e (l.length+m.length) c):=aD.grown (fun b hb=>Below.heap_alloc w.drew _ b hb) fun b' o' na h=>h.imp id fun h=>h.imp id fun⟨k,ow,h1,h2,h3⟩=>by
     by_cases ek:k=d
     ·simp only[if_pos ek]at h1;injection h1 with h1;subst h1;simp only at h2;omega
     ·simp only[if_neg ek]at h1;exact⟨k,ow,(DE h1).1,h2,h3⟩
    refine IM (JE.held sq _ _ pb) fun j u hj=>⟨?_,fun h=>?_⟩
    ·rw[yy];rw[cell_of_row _ w.heap.size j _ e (0,0) (nT (w:=w.drew) rfl)];have zo:=(yn.1 hj).1;rw[Array.getElem?_append_left (by simp only[Array.size_append,List.size_toArray];simpa using zo)];simpa using hj
    ·rw [yy] at h;have zo:=(yn.1 hj).1;rw [yC,de,ec,<- Nat.add_mul] at zo;rcases h with h | (⟨t',n',h⟩ | ⟨t',n',H,h,na⟩) | ⟨k,ow,h1,h2,h3⟩
     ·have:=R.out _ _ h;have:=R.eC;omega
     ·have:=(R.mine _ _ _ h).2.1;omega
     ·have:=((R.obs _ _ _ h).1 _ na).2.1;omega
     ·by_cases ek:k=d
      ·simp only[if_pos ek]at h1;injection h1 with h1;subst h1;simp only at h3;omega
      ·simp only[if_neg ek]at h1;obtain⟨_,_,_,_,db,h5,_⟩:=R.tok _ _ (DE h1).1;have:=DC h5;omega
   -- nothing new
   have same:m=[]->exV (a.eval X)->∃v w',(execOp a.eval o).run P w=.ok (.value v) w'/\JF P O nt B F0 da w0 D ((s.wA (A0.twice d)).put (some d) ⟨.sl (b&&m.isEmpty) (l++m),.own d e⟩) (a.put (some d) v) w':=fun be nh=>by
    subst be;have ca:=qX (P:=P) (w:=w) ht hi o.type (A:=A) pt je;rw[<- hv]at ca;have R1:=R.less A0 d;refine⟨_,_,oi _ _ ca,ι,_,R1.put hd ?_ (.inl nh)⟩;have hb:(b&&List.isEmpty ([]:List (List AV)))=b:=by simp
    show sD _ _ _ _ (.sl (b&&List.isEmpty []) (l++[])) _;rw[hb,List.append_nil];have hless:aD (uE da ι Θ) (uE da ι (Θ.less A0 d)) w w:=aD.less fun b o h=>h.imp id fun h=>h.imp id fun⟨k,ow,h1,h2⟩=>⟨k,ow,(DE h1).1,h2⟩
    have xx:aD (zE ι Θ) (zE ι (Θ.less A0 d)) w w:=aD.less fun b o h=>h.imp id fun⟨k,ow,h1,h2⟩=>⟨k,ow,(DE h1).1,h2⟩
    exact sD.held (Ix.Le.refl _) hless xx _ _ hX.1
   have exact:exV (a.eval X)->∃v w',(execOp a.eval o).run P w=.ok (.value v) w'/\JF P O nt B F0 da w0 D ((s.wA (A0.twice d)).put (some d) ⟨.sl (b&&m.isEmpty) (l++m),.own d e⟩) (a.put (some d) v) w':=fun nh=>by
    obtain⟨A',n',hex'⟩:=nh;rw[hv]at hex';injection hex' with e1 e2 e3;rcases yG m.length with h0|h0
    ·exact same (yJ h0) ⟨A',n',by rw[hv,e1,e2,e3]⟩
    ·exact grow (by omega)
   rcases hAk with rfl|⟨k,rfl⟩
   ·exact exact dt
   ·rcases dt with dt | ⟨ow,hk,kz,dt⟩
    ·exact exact dt
    ·rw[hv]at dt;injection dt with e1 e2 e3;obtain⟨hgB,hosz,honc,hocm,cur,te,nu⟩:=R.tok k ow hk;rw[kz]at te;have jn:ow.sz=i.size:=by
      have:=nu.2;rw[kz]at this;simp[fE,hi]at this;exact this.symm
     rcases Nat.lt_or_ge c (l.length+m.length)with fa|fh
     ·exact grow fa
     ·subst e1;have ca:=N6 (P:=P) (w:=w) ht hi o.type te (by rw[nu.1,jn]) ul je aj (n:=l.length) (m:=m.length) (c:=ow.c) (by omega);have wa:l.length*i.size+news.length<=cur.toList.length:=by
       have ed:cur.toList.length=ow.c*i.size:=by rw[yH,nu.1,jn]
       rw[ec,<- Nat.add_mul,ed];exact yS _ (by omega)
      obtain⟨new,rb⟩:∃new,new=(cur.toList.take (l.length*i.size)++news++cur.toList.drop (l.length*i.size+news.length)).toArray:=⟨_,rfl⟩;rw[<- rb]at ca;have hnl:new.size=cur.size:=by
       rw[rb];simp only[List.size_toArray,yC,yM,List.length_drop];simp only[yH]at wa ⊢;omega
      have wh:ow.n*ow.sz=l.length*i.size:=by rw[<- e2,jn]
      have htk:(cur.toList.take (l.length*i.size)).length=l.length*i.size:=by rw[yM];omega
      have jr:∀j,j<l.length*i.size->new[j]?=cur[j]?:=fun j hj=>by
       rw[rb,List.getElem?_toArray,List.append_assoc,yU (by omega),yI,if_pos hj];simp
      have hxs':∀j u,(xs++news)[j]?=some u->new[j]?=some u:=fun j u hj=>by
       rcases Nat.lt_or_ge j (l.length*i.size)with zo|zo
       ·rw[jr j zo];rw[yU (by omega)]at hj;have:=se _ rfl j u hj;rw[Addr.add_lit,yy,cell_of_row w ow.g j cur e (0,0) te]at this;exact this
       ·rw[yN (by omega),de]at hj;have hjn:=(yn.1 hj).1;rw[rb,List.getElem?_toArray,List.append_assoc,yN (by omega),htk,yU hjn];exact hj
      have R1:=R.spare (new:=new) hk (by rw[kz];exact te) hnl (fun j hj=>jr j (by omega));have lq:(w.setRow ow.g new).heap[ow.g]?=some (.cells new e (0,0)):=setRow_heap w ow.g cur new e (0,0) te;have gd:∀b o,zE ι (fun j=>if j=d then some ⟨ow.g,l.length+m.length,ow.c,i.size,e⟩else Θ.less (.own k e) d j) b o->zE ι Θ b o:=fun b o h=>h.imp id fun⟨k',ow',h1,h2,h3⟩=>by
       by_cases ek:k'=d
       ·simp only[if_pos ek]at h1;injection h1 with h1;subst h1;refine⟨k,ow,hk,h2,?_⟩;simp only[Nat.add_mul]at h3;omega
       ·simp only[if_neg ek]at h1;exact⟨k',ow',(DE h1).1,h2,h3⟩
      have R2:=R1.fam (fun j=>if j=d then some ⟨ow.g,l.length+m.length,ow.c,i.size,e⟩else Θ.less (.own k e) d j) ((An.own k e).twice d) gd
       (Kr fun j o' h=>by have:=(DE h).2.1;simp only[if_neg this];exact h)
       (fun k' o' h=>by
        by_cases ek:k'=d
        ·simp only[if_pos ek]at h;injection h with h;subst h;exact⟨hgB,lb,by simp only;omega,hocm,new,lq,by rw[hnl,nu.1,jn],by simp[fE,hi]⟩
        ·simp only[if_neg ek]at h;exact R1.tok k' o' (DE h).1)
       (fun k' k'' o' o'' h h' hg=>by
        by_cases e1:k'=d<;>by_cases e2:k''=d
        ·rw[e1,e2]
        ·simp only[if_pos e1]at h;simp only[if_neg e2]at h';injection h with h;subst h;exact absurd (R.OA _ _ _ _ hk (DE h').1 hg).symm ((DE h').2.2 k e rfl)
        ·simp only[if_neg e1]at h;simp only[if_pos e2]at h';injection h' with h';subst h';exact absurd (R.OA _ _ _ _ (DE h).1 hk hg) ((DE h).2.2 k e rfl)
        ·simp only[if_neg e1]at h;simp only[if_neg e2]at h';exact R.OA _ _ _ _ (DE h).1 (DE h').1 hg)
       (fun k' o' t' n' h=>by
        by_cases ek:k'=d
        ·simp only[if_pos ek]at h;injection h with h;subst h;exact R.apart k ow t' n' hk
        ·simp only[if_neg ek]at h;exact R.apart k' o' t' n' (DE h).1)
       (fun k' o' t' n' H h hH=>by
        by_cases ek:k'=d
        ·simp only[if_pos ek]at h;injection h with h;subst h;show ¬H ow.g;exact R.qC hk hH
        ·simp only[if_neg ek]at h;exact R.qC (DE h).1 hH)
      have hv':a.eval X=.slice (some ⟨ow.g,0,none⟩) l.length ow.c:=by rw[hv,e3]
      rw[<- hv']at ca;refine⟨_,_,oi _ _ ca,ι,_,R2.put hd ?_ (.inr ⟨_,if_pos rfl,rfl,rfl⟩)⟩;show sD _ _ _ _ (.sl (b&&m.isEmpty) (l++m)) _;have hb:b=false:=by
       cases b with
       |false=>rfl
       |true=>have:=(hn rfl).1;cases this
      rw[hb,Bool.false_and,XF];simp only[gG,yC];refine⟨_,_,rfl,by omega,huni,(fun h=>by cases h),fun _=>⟨fun h=>(by cases h),fun _=>⟨ow.g,0,rfl,?_⟩⟩⟩;rw[TH];have sq:aD (uE da ι Θ) (uE da ι (fun j=>if j=d then some ⟨ow.g,l.length+m.length,ow.c,i.size,e⟩else Θ.less (.own k e) d j)) w (w.setRow ow.g new):=⟨fun b' o' u hc hna=>by
       refine⟨?_,fun h=>hna (h.imp id (gd b' o'))⟩;by_cases na:b'=ow.g
       ·subst na;rw[cell_of_row _ ow.g o' new e (0,0) lq];have:o'<l.length*i.size:=by
         rcases Nat.lt_or_ge o' (l.length*i.size)with h|h
         ·exact h
         ·exact absurd (.inr (.inr ⟨k,ow,hk,rfl,by omega⟩)) hna
        rw[jr o' this,<- cell_of_row w ow.g o' cur e (0,0) te];exact hc
       ·exact(World.cell?_of_block (w:=w) (a:=⟨b',o',none⟩) (setRow_other w ow.g b' new na)).trans hc⟩
      refine IM (JE.held sq _ _ pb) fun j u hj=>⟨?_,fun h=>?_⟩
      ·rw[yy,cell_of_row _ ow.g j new e (0,0) lq];exact hxs' j u hj
      ·rw [yy] at h;have zo:=(yn.1 hj).1;rw [yC,de,ec,<- Nat.add_mul] at zo;rcases h with h | (⟨t',n',h⟩ | ⟨t',n',H,h,na⟩) | ⟨k',ow',h1,h2,h3⟩
       ·have:=R.out _ _ h;omega
       ·exact R.apart k ow t' n' hk h
       ·exact R.qC hk h na
       ·by_cases ek:k'=d
        ·simp only[if_pos ek]at h1;injection h1 with h1;subst h1;simp only at h3;omega
        ·simp only[if_neg ek]at h1;exact absurd (R.OA _ _ _ _ (DE h1).1 hk h2) ((DE h1).2.2 k e rfl)
  ·cases hr
 ·cases hr
def Ix.del (ι:Ix)(t n:Nat):Ix:=⟨fun t' n'=>if t'=t/\n'=n then .none else ι t' n',ι.ob,ι.z⟩
theorem Ix.mA {ι:Ix}{t n t' n' b:Nat}(h:(ι.del t n) t' n'=some b):ι t' n'=some b/\¬(t'=t/\n'=n):=by
 have h':(if t'=t/\n'=n then Option.none else ι t' n')=Option.some b:=h;split at h'
 ·cases h'
 ·rename_i hn;exact⟨h',hn⟩
theorem Ix.EB (ι:Ix)(t n:Nat):Ix.Lk t n ι (ι.del t n):=⟨fun t' n' b hn h=>by
 show(if t'=t/\n'=n then Option.none else ι t' n')=Option.some b;rw[if_neg hn];exact h,fun _ _ _ _=>rfl⟩
theorem QF.kill {t n:Nat}{ι':Ix}{av za:Av}{r:List WC}{cur:Array Value}(h:QF ι Θ av w r cur)(hι:Ix.Lk t n ι ι')(hh:aD av za w w):QF ι' Θ za w (r.map (WC.kill t n)) cur:=by
 refine⟨by simpa using h.1,fun j x hx=>?_⟩;rw[yb]at hx;cases hj:r[j]? with
 |none=>rw[hj]at hx;cases hx
 |some y =>
  rw[hj]at hx;injection hx with hx;subst hx;obtain⟨u,hu,h1,hr,ha⟩:=h.2 j y hj;refine⟨u,hu,h1,?_,ha⟩;have hk:=gD.kill hι hh y.v u hr;show gD ι' za w (y.v.kill t n) u;cases hy:y.v with
  |agg cs=>rw[hy]at hr;obtain⟨us,rfl,_⟩:=hr;simp[Value.oneCell']at h1
  |sA cs=>rw[hy]at hr;obtain⟨us,rfl,_⟩:=hr;simp[Value.oneCell']at h1
  |_=>rw[hy]at hk;exact hk
theorem LD.kill (R:LD P O nt B F0 da w0 D s a w ι Θ){t n:Nat}(wh:t≠0){r:List WC}(hm:s.mem t n=some r):LD P O nt B F0 da w0 D (s.kill t n) a w (ι.del t n) Θ:=by
 have zc:=(R.rows t n r hm).1;have ii:=Ix.EB ι t n;have jh:∀b o,zE (ι.del t n) Θ b o->zE ι Θ b o:=fun b o h=>h.imp (fun h=>h.imp (fun⟨t',n',h⟩=>⟨t',n',(Ix.mA h).1⟩) id) id
 have hB:aD (zE ι Θ) (zE (ι.del t n) Θ) w w:=aD.less jh;have hA:aD (uE da ι Θ) (uE da (ι.del t n) Θ) w w:=aD.less fun b o h=>h.imp id (jh b o)
 refine⟨R.defers,R.size,fun j=>sD.kill ii hA hB _ _ (R.env j),R.ZB,fun t' n' r' hr=>?_,fun t' n' b h=>R.mine t' n' b (Ix.mA h).1,fun t1 n1 t2 n2 b h h'=>R.inj t1 n1 t2 n2 b (Ix.mA h).1 (Ix.mA h').1,R.tok,R.OA,fun k o t' n' h h'=>R.apart k o t' n' h (Ix.mA h').1,R.out,fun p h=>?_,R.kept,R.base,fun t' n' S h=>?_,fun t' n' H h=>?_,fun j=>sD.kill ii hA hB _ _ (R.gen j),R.CA⟩
 ·simp only [OC.kill] at hr;split at hr
  ·cases hr
  ·rename_i hn;cases jb:s.mem t' n' with
   |none=>rw[jb]at hr;cases hr
   |some r0 =>
    rw[jb]at hr;injection hr with hr;subst hr;obtain⟨h0,b,cur,ty,h1,h2,h3,h4⟩:=R.rows t' n' r0 jb;exact⟨h0,b,cur,ty,ii.f _ _ _ hn h1,h2,h3.kill ii hA,h4⟩
 ·obtain⟨h1,h2⟩:=R.pin p h;exact⟨ii.f _ _ _ (fun e=>wh e.1.symm) h1,h2.imp (fun g=>⟨g.1,(ii.z _ _ _ h1).trans g.2⟩) id⟩
 ·obtain ⟨p,H,h1,h2,h3,h4⟩:=R.WA t' n' S h;have zd:∀ t1 n1 b1 H1,ι t1 n1=some b1->ι.ob t1 n1=some H1->(ι.del t n) t1 n1=some b1:=fun t1 n1 b1 H1 g1 g2=>ii.f _ _ _ (fun e=>by rw [<- e.1,<- e.2,g2] at zc; cases zc) g1
  exact⟨p,H,zd _ _ _ _ h1 h2,h2,h3,h4.keep (fun t1 n1 b1 H1 g1 g2=>⟨zd _ _ _ _ g1 g2,H1,g2⟩) fun x hx=>hx⟩
 ·obtain⟨h1,h2⟩:=R.obs t' n' H h;refine⟨fun b hb=>?_,h2⟩;obtain⟨g1,g2,g3,g4,g5⟩:=h1 b hb;exact⟨g1,g2,fun t2 n2 h=>g3 t2 n2 (Ix.mA h).1,g4,g5⟩
theorem LD.ren (R:LD P O nt B F0 da w0 D s a w ι Θ){t n:Nat}(wh:t≠0){r:List WC}(hm:s.mem t n=some r)(oe:r.map (WC.kill t n)=r){d:Nat}(hd:d<nt)(hD:¬D d){x:AV}{v:Value}
  (hx:∀ι':Ix,ι' d s.next=ι t n->(∀b,ι'.z b=ι.z b)->sD ι' (uE da ι' Θ) (zE ι' Θ) w x v) :
  ∃ι',LD P O nt B F0 da w0 (fun j=>D j\/j=d) (((s.kill t n).setRow d s.next r).put (some d) ⟨x,.no⟩) (a.put (some d) v) w ι' Θ:=by
 obtain⟨zc,b0,cur0,pz,rm,sx,pk,ft,jg⟩:=R.rows t n r hm;have bd:ι d s.next=none:=by
  cases h:ι d s.next with
  |none=>rfl
  |some b =>
   rcases(R.mine _ _ _ h).2.2 with h1|h1
   ·omega
   ·exact absurd h1.2 hD
 have ad:ι.ob d s.next=none:=by
  cases h:ι.ob d s.next with
  |none=>rfl
  |some b =>
   rcases(R.obs _ _ _ h).2 with h1|h1
   ·omega
   ·exact absurd h1.2 hD
 have ua:¬(t=d/\n=s.next):=fun e=>by rw[e.1,e.2,bd]at rm;cases rm
 obtain⟨ι',hι'⟩:∃ι':Ix,ι'=⟨fun t' n'=>if t'=d/\n'=s.next then some b0 else(ι.del t n) t' n',ι.ob,ι.z⟩:=⟨_,rfl⟩;have rb:ι' d s.next=some b0:=by subst hι';show(if d=d/\s.next=s.next then some b0 else _)=_;rw[if_pos ⟨rfl,rfl⟩]
 have ee:∀t' n' b,ι' t' n'=some b->(t'=d/\n'=s.next/\b=b0)\/(ι t' n'=some b/\¬(t'=t/\n'=n)/\¬(t'=d/\n'=s.next)):=fun t' n' b h=>by
  subst hι';have h':(if t'=d/\n'=s.next then some b0 else(ι.del t n) t' n')=some b:=h;split at h'
  ·rename_i e;injection h' with h';exact .inl ⟨e.1,e.2,h'.symm⟩
  ·rename_i e;exact .inr ⟨(Ix.mA h').1,(Ix.mA h').2,e⟩
 have eb:ι'.ob=ι.ob:=by subst hι';rfl
 have ii:Ix.Lk t n ι ι':=⟨fun t' n' b hn h=>by
  subst hι';show(if t'=d/\n'=s.next then some b0 else(ι.del t n) t' n')=some b;rw[if_neg (fun e=>by rw[e.1,e.2,bd]at h;cases h)];exact(Ix.EB ι t n).f _ _ _ hn h,fun _ _ _ _=>by subst hι';rfl⟩
 have jj:∀b,ι'.z b=ι.z b:=fun b=>by subst hι';rfl
 clear hι';have jh:∀b o,zE ι' Θ b o->zE ι Θ b o:=fun b o h=>h.imp (fun h=>h.imp (fun⟨t',n',h⟩=>by
  rcases ee _ _ _ h with⟨_,_,e⟩|⟨h,_⟩
  ·exact⟨t,n,e▸rm⟩
  ·exact⟨t',n',h⟩) (fun⟨t',n',H,h,hb⟩=>⟨t',n',H,eb▸h,hb⟩)) id
 have hB:aD (zE ι Θ) (zE ι' Θ) w w:=aD.less jh;have hA:aD (uE da ι Θ) (uE da ι' Θ) w w:=aD.less fun b o h=>h.imp id (jh b o)
 refine⟨ι',LD.put (s:=(s.kill t n).setRow d s.next r) ⟨R.defers,R.size,fun j=>sD.kill ii hA hB _ _ (R.env j),R.ZB,fun t' n' r' hr=>?_,fun t' n' b h=>?_,fun t1 n1 t2 n2 b h h'=>?_,R.tok,R.OA,fun k o t' n' h h'=>?_,R.out,fun p h=>?_,R.kept,R.base,fun t' n' S h=>?_,fun t' n' H h=>?_,fun j=>sD.kill ii hA hB _ _ (R.gen j),R.CA⟩ hd (hx _ (rb.trans rm.symm) jj) trivial⟩
 ·simp only [OC.setRow] at hr;split at hr
  ·rename_i e;injection hr with hr;subst hr;refine⟨by rw[eb,e.1,e.2];exact ad,b0,cur0,pz,by rw[e.1,e.2];exact rb,sx,?_,ft,jg.trans (jj _).symm⟩;have:=pk.kill ii hA;rw[oe]at this;exact this
  ·simp only [OC.kill] at hr;split at hr
   ·cases hr
   ·rename_i hn;cases jb:s.mem t' n' with
    |none=>rw[jb]at hr;cases hr
    |some r0 =>
     rw[jb]at hr;injection hr with hr;subst hr;obtain⟨h0,b,cur,ty,h1,h2,h3,h4,h5⟩:=R.rows t' n' r0 jb;exact⟨eb▸h0,b,cur,ty,ii.f _ _ _ hn h1,h2,h3.kill ii hA,h4,h5.trans (jj _).symm⟩
 ·rcases ee _ _ _ h with ⟨e1,e2,e3⟩ | ⟨h,_⟩
  ·subst e1;subst e3;obtain⟨h1,h2,_⟩:=R.mine t n b rm;exact⟨h1,h2,.inr ⟨e2,.inr rfl⟩⟩
  ·obtain⟨h1,h2,h3⟩:=R.mine t' n' b h;exact⟨h1,h2,h3.imp id fun⟨e,d⟩=>⟨e,.inl d⟩⟩
 ·rcases ee _ _ _ h with ⟨e1,e2,e3⟩ | ⟨h,hn,_⟩ <;> rcases ee _ _ _ h' with ⟨f1,f2,f3⟩ | ⟨h',wg,_⟩
  ·exact⟨e1.trans f1.symm,e2.trans f2.symm⟩
  ·subst e3;exact absurd (R.inj _ _ _ _ _ h' rm) wg
  ·subst f3;exact absurd (R.inj _ _ _ _ _ h rm) hn
  ·exact R.inj _ _ _ _ _ h h'
 ·rcases ee _ _ _ h' with ⟨e1,e2,e3⟩ | ⟨h',_⟩
  ·exact R.apart k o t n h (e3▸rm)
  ·exact R.apart k o t' n' h h'
 ·obtain⟨h1,h2⟩:=R.pin p h;exact⟨ii.f _ _ _ (fun e=>wh e.1.symm) h1,h2.imp (fun g=>⟨g.1,(ii.z _ _ _ h1).trans g.2⟩) fun g=>eb▸g⟩
 ·obtain ⟨p,H,h1,h2,h3,h4⟩:=R.WA t' n' S h;have zd:∀ t1 n1 b1 H1,ι t1 n1=some b1->ι.ob t1 n1=some H1->ι' t1 n1=some b1:=fun t1 n1 b1 H1 g1 g2=>ii.f _ _ _ (fun e=>by rw [<- e.1,<- e.2,g2] at zc; cases zc) g1
  exact⟨p,H,zd _ _ _ _ h1 h2,eb▸h2,h3,h4.keep (fun t1 n1 b1 H1 g1 g2=>⟨zd _ _ _ _ g1 g2,H1,eb▸g2⟩) fun x hx=>hx⟩
 ·rw [eb] at h;obtain ⟨h1,h2⟩:=R.obs t' n' H h;refine ⟨fun b hb=>?_,h2.imp id fun ⟨e,d⟩=>⟨e,.inl d⟩⟩;obtain ⟨g1,g2,g3,g4,g5⟩:=h1 b hb;refine ⟨g1,g2,fun t2 n2 h'=>?_,g4,eb ▸ g5⟩;rcases ee _ _ _ h' with ⟨e1,e2,e3⟩ | ⟨h',_⟩
  ·exfalso;have e:=g3 t n (e3▸rm);rw[<- e.1,<- e.2]at h;rw[zc]at h;cases h
  ·exact g3 t2 n2 h'
theorem Ik {av:Av}{cs:List AV}{us:List Value}(h:JE av w cs us){cur:Array Value}(hc:∀(j:Nat) (u:Value),us[j]?=some u->cur[j]?=some u):QF ι Θ av w (cs.map (⟨·,.no⟩)) cur:=by
 have ja:=HE (SF (ι:=ι) h);constructor
 ·rw [yo];rcases yG cs.length with h0 | h0
  ·omega
  ·have:=hc (cs.length-1) us[cs.length-1] (y7 (by omega));have:=(Array.getElem?_eq_some_iff.1 this).1;omega
 ·intro j x hx;rw [yb] at hx;cases hj:cs[j]? with
  |none=>rw[hj]at hx;cases hx
  |some y =>
   rw[hj]at hx;injection hx with hx;subst hx;obtain⟨u,hu,h1,hr⟩:=CL (SF (ι:=ι) h) hj;exact⟨u,hc j u hu,h1,hr,trivial⟩
theorem LD.drew (R:LD P O nt B F0 da w0 D s a w ι Θ):LD P O nt B F0 da w0 D s a w.drew ι Θ:=R.grow (w':=w.drew) (fun _ _=>rfl) (yg _) R.kept.drew
theorem M8 (s:OC)(t n:Nat)(r:List WC):(s.setRow t n r).kill t n=s.kill t n:=by
 simp only[OC.setRow,OC.kill];congr 1;funext t' n';by_cases h:t'=t/\n'=n<;>simp[h]
theorem d6 {av:Av}{cs:List AV}{us:List Value}(h:iD ι av w cs us){cur:Array Value}(hc:∀(j:Nat) (u:Value),us[j]?=some u->cur[j]?=some u):QF ι Θ av w (cs.map (⟨·,.no⟩)) cur:=by
 have ja:=HE h;constructor
 ·rw [yo];rcases yG cs.length with h0 | h0
  ·omega
  ·have:=hc (cs.length-1) us[cs.length-1] (y7 (by omega));have:=(Array.getElem?_eq_some_iff.1 this).1;omega
 ·intro j x hx;rw [yb] at hx;cases hj:cs[j]? with
  |none=>rw[hj]at hx;cases hx
  |some y =>
   rw[hj]at hx;injection hx with hx;subst hx;obtain⟨u,hu,h1,hr⟩:=CL h hj;exact⟨u,hc j u hu,h1,hr,trivial⟩
theorem SU {t n:Nat}{v:AV}(h:v.gB t n=true):v.eA t n=v/\v.kill t n=v:=by
  cases v<;>first
    |exact⟨rfl,rfl⟩
    | (simp only [AV.gB,Bool.not_eq_true',Bool.and_eq_false_imp,decide_eq_true_eq,decide_eq_false_iff_not] at h
       have h':¬(_=t/\_=n):=fun e=>h e.1 e.2
       exact⟨by simp only[AV.eA,if_neg h'],by simp only[AV.kill,AV.eA,if_neg h']⟩)
    |cases h
theorem z8 {t n:Nat}{l:List AV}(h:l.all (AV.gB t n)=true):l.map (AV.eA t n)=l:=by
 have:l.map (AV.eA t n)=l.map id:=yw fun x hx=>(SU (y6.1 h x hx)).1
 rwa [List.map_id]at this
theorem l8 {t n:Nat}{l:List AV}(h:l.all (AV.gB t n)=true):(l.map (⟨·,.no⟩)).map (WC.kill t n)=l.map (⟨·,.no⟩):=by
 rw[y3];apply yw;intro x hx;show(⟨x.kill t n,.no⟩:WC)=⟨x,.no⟩;rw[(SU (y6.1 h x hx)).2]
theorem B5 (R:LD P O nt B F0 da w0 D s a w ι Θ){t e:TypeId}{i:TypeInfo}{z:List AV}(ht:P.underlying t=some (.slice e))(hi:P.info? e=some i)(hz:UL P e=some z)(ra:z.length=i.size)(lb:0<i.size){X Y:Operand}{x y:KD}(hx:uA X=some x)(hy:uA Y=some y)
  (ho:o.op=.call { callee:=.builtin .append,args:=#[X,Y],argTypes:=#[t,t] }) {d:Nat} (ba:o.dst=some d) (hd:d<nt) (hD:¬D d) {cl:Cl} {call} {xe:WC×rF} (hr:(K.qB cl e i.size i.bytes x y).run call s=some xe) {g} {s':OC} (he:JC.eff ⟨o.dst,.qB cl e i.size i.bytes x y,g⟩ s xe=some s') :
  ∃v w',(execOp a.eval o).run P w=.ok (.value v) w'/\JF P O nt B F0 da w0 (fun t=>D t\/t=d) s' (a.put o.dst v) w':=by
 obtain⟨zv,i',sc,ul,ug,hl⟩:=UI hz w;rw[hi]at sc;injection sc with sc;subst sc;have ij:zv.cells.size=i.size:=by
  have:=eI hl;simp only[yH]at this;omega
 have hX:=R.uA hx;have hY:=(R.uA hy).1;have oi:∀v w',(Builtin.append_ #[t,t] o.type #[a.eval X,a.eval Y]).run P w=.ok v w'->(execOp a.eval o).run P w=.ok (.value v) w':=fun v w' h=>by
  simp only[execOp,ho,resolve,invoke,builtin,Sem.run_bind,Sem.run_pure,Result.andThen_ok,List.map_toArray,yk,yq,h]
 -- a new block for l++m
 have grow:∀{s1:OC}{ι1:Ix}{l m:List (List AV)}{xs news:List Value}{A:Option Addr}{ln c:Nat},LD P O nt B F0 da w0 D s1 a w.drew ι1 Θ->a.eval X=.slice A ln c->xs.length=ln*i.size->(A=none->ln=0/\c=0)->(∀a',A=some a'->∀j u,xs[j]?=some u->w.cell? (a'.add j)=some u) →
   l.length=ln->Sl (fun _=>False) w i.size (a.eval Y) m.length news->c<ln+m.length->ln<=c->iD ι1 (uE da ι1 Θ) w.drew (l++m).flatten (xs++news)->aE i.bytes (ln+m.length)=true →
   ∃v w',(execOp a.eval o).run P w=.ok (.value v) w'/\JF P O nt B F0 da w0 (fun t=>D t\/t=d) ((s1.setRow d s1.next ((l++m).flatten.map (⟨·,.no⟩))).put (some d) ⟨.ref d s1.next i.size 0 (ln+m.length) (ln+m.length),.no⟩) (a.put (some d) v) w':=by
  intro s1 ι1 l m xs news A ln c R1 hv kc hA hxc ik je fa pt pb ta;obtain⟨md,eg⟩:=UD.1 ta;have ca:=MW (P:=P) (w:=w) ht hi ul o.type kc hA hxc je fa pt eg md;rw[<- hv]at ca;have fh:=grownCap_ge w (ln+m.length) c e;have hnl:news.length=m.length*i.size:=je.1;have ka:QF ι1 Θ (uE da ι1 Θ) w.drew ((l++m).flatten.map (⟨·,.no⟩)) (xs.toArray++news.toArray++Builtin.zeroCells zv.cells (grownCap w (ln+m.length) c e-(ln+m.length))):=d6 pb fun j u hj=>by
   have zo:=(yn.1 hj).1;rw[Array.getElem?_append_left (by simp only[Array.size_append,List.size_toArray];simpa using zo)];simpa using hj
  obtain⟨ι',h⟩:=R1.new hd hD e ka (x:=.ref d s1.next i.size 0 (ln+m.length) (ln+m.length)) (v:=.slice (some ⟨w.heap.size,0,none⟩) (ln+m.length) (grownCap w (ln+m.length) c e)) (fun ι' h hz=>⟨_,h,yg _,_,fh,by
   rw[show ι'.z w.drew.heap.size=_ from hz,yy];simp only[Array.size_append,List.size_toArray,size_zeroCells,ij,kc,hnl,<- Nat.add_mul];exact yS _ (by omega),rfl⟩)
  exact⟨_,_,oi _ _ ca,ι',Θ,h⟩
 have drewHeld:aD (uE da ι Θ) (uE da ι Θ) w w.drew:=aD.grown (fun _ _=>rfl) fun _ _ _ h=>h
 simp only[K.run]at hr;split at hr
 ·rename_i b l m ic sb;split at hr
  ·rename_i aa;obtain ⟨ta,mb,be⟩:=aa;have zb:∀ c∈l++m,c.length=i.size:=fun c hc=>by simpa using y6.1 mb c hc
   have jb:∀c∈m,c.length=i.size:=fun c hc=>zb c (List.mem_append_right _ hc)
   have ck:∀c∈l,c.length=i.size:=fun c hc=>zb c (List.mem_append_left _ hc)
   obtain⟨news,td,je⟩:=It R hY sb lb jb;rw[ic]at hX;have jt:=hX.1;rw[XF]at jt;obtain⟨xs,kc,gt⟩:=oO (cl:=cl) R hX.1 (m:=l) rfl lb ck;simp only[gG]at jt;obtain⟨A,c,hv,pt,hu,hn,hs⟩:=jt;have de:xs.length=l.length*i.size:=gt.1;have se:∀a',A=some a'->∀j u,xs[j]?=some u->w.cell? (a'.add j)=some u:=fun a' ha j u hj=>by
    obtain⟨_,A2,c2,hv2,_,h2⟩:=gt;rw[hv]at hv2;injection hv2 with e1 e2 e3;subst e1;have hp:0<l.length:=by
     rcases yG l.length with h|h
     ·rw[h]at de;have:=(yn.1 hj).1;omega
     ·exact h
    obtain⟨b',off,hA,_,_,ed⟩:=h2 hp;rw[ha]at hA;injection hA with hA;subst hA;rw[Addr.add_lit];exact ed j u hj
   split at hr
   ·rename_i jl;have hXe:exV (a.eval X):=by
     cases b with
     |false=>have h2:=hX.2;rw[show x.an s=.ex from jl]at h2;exact h2
     |true =>
      obtain⟨h1,h2,h3⟩:=hn rfl;exact⟨none,0,by rw[hv,h1,h2,h3]⟩
    obtain⟨A',n',nh⟩:=hXe;rw[hv]at nh;injection nh with e1 e2 e3;injection hr with hr;subst hr;simp only[JC.eff,ba]at he;injection he with he;subst he;rw[ba];exact grow R.drew hv de (fun hA=>by
     cases b with
     |true=>have:=hn rfl;exact⟨this.2.1,this.2.2⟩
     |false =>
      obtain⟨h1,h2⟩:=hs rfl;refine⟨?_,h1 hA⟩;rcases yG l.length with h0|h0
      ·exact h0
      ·obtain⟨_,_,ha,_⟩:=h2 h0;rw[hA]at ha;cases ha) se rfl je (by omega) pt (by rw[List.flatten_append];exact xJ (SF (JE.held drewHeld _ _ kc)) (iD.held (Ix.Le.refl _) drewHeld _ _ td)) ta
   ·cases hr
  ·cases hr
 ·rename_i t' n sz off ln cp m ic sb;split at hr
  ·rename_i l ik;split at hr
   ·rename_i aa;obtain ⟨rfl,rfl,ta,mb,wh,dv⟩:=aa;injection hr with hr;subst hr;have jb:∀ c∈m,c.length=i.size:=fun c hc=>by simpa using y6.1 mb c hc
    obtain⟨news,td,je⟩:=It R hY sb lb jb;rw[ic]at hX;obtain⟨b,hb,ib,cc,jf,hzb,hv⟩:=jJ.1 hX.1;simp only[AV.nB]at ik;split at ik
    ·cases hm:s.mem t' n with
     |none=>rw[hm]at ik;cases ik
     |some r =>
      rw[hm,J]at ik;obtain⟨zc,b',cur,ty,na,ia,ka,bh,mh⟩:=R.rows t' n r hm;rw[hb]at na;injection na with na;subst na;obtain⟨hln,ck,xs,kc,se⟩:=eS ka ia ik;simp only[yy]at se hzb;have pq:∀{q:List (List AV)},(∀c∈q,c.length=i.size)->q.flatten.length=q.length*i.size:=fun{q} hq=>by
       induction q with
       |nil=>simp
       |cons c r ih=>rw[yA,yC,hq c (by simp),ih (fun c hc=>hq c (by simp[hc])),yE,yu];omega
      have de:xs.length=ln*i.size:=by
       have:=HE kc;rw[this,pq ck,hln]
      have ec:news.length=m.length*i.size:=je.1;have pb:iD ι (uE da ι Θ) w (l++m).flatten (xs++news):=by rw[List.flatten_append];exact xJ kc td
      have hkill:(l++m).flatten.map (AV.eA t' n)=(l++m).flatten:=z8 dv;simp only[JC.eff,ba,OC.kA]at he;injection he with he;subst he;rw[ba];rcases Nat.lt_or_ge cc (ln+m.length)with fa|fh
      ·have ii:aD (uE da ι Θ) (uE da (ι.del t' n) Θ) w w.drew:=aD.grown (fun _ _=>rfl) fun b o _ h=>h.imp id fun h=>h.imp (fun h=>h.imp (fun ⟨t',n',h⟩=>⟨t',n',(Ix.mA h).1⟩) id) id
       exact grow (R.drew.kill wh hm) hv de (fun h=>by cases h) (fun a' ha j u hj=>by
        injection ha with ha;subst ha;rw[Addr.add_lit,yy];exact se j u hj) hln je fa (yt ib jf) (by have:=iD.kill (Ix.EB ι t' n) ii _ _ pb;rwa [hkill]at this) ta
      ·obtain⟨new,rb⟩:∃new,new=(cur.toList.take (ln*i.size)++news++cur.toList.drop (ln*i.size+news.length)).toArray:=⟨_,rfl⟩;have wa:ln*i.size+news.length<=cur.size:=by
        rw[ec,<- Nat.add_mul,mh];exact yt (yS _ fh) hzb
       have ca:(Builtin.append_ #[t,t] o.type #[a.eval X,a.eval Y]).run P w=.ok (.slice (some ⟨b,0,none⟩) (ln+m.length) cc) (w.setRow b new):=by
        rw[hv,rb];obtain⟨ot,A,c',hsv,hc,nb⟩:=je;rw[hsv];cases A with
        |none =>
         have be:m.length=0:=by
          rcases yG m.length with h|h
          ·exact h
          ·obtain⟨b,off,hA,_⟩:=nb h;cases hA
         have dv:news=[]:=yJ (by rw[ec,be,Nat.zero_mul]);subst dv;rw[be]at fh ⊢;have xr:w.setRow b (cur.toList.take (ln*i.size)++[]++cur.toList.drop (ln*i.size+([]:List Value).length)).toArray=w:=by
          simp only[List.append_nil,List.length_nil,Nat.add_zero,yR,yK];exact setRow_self w b cur ty (0,0) ia
         rw[xr];simp only[Nat.add_zero]at fh;simp[Builtin.append_,run_underlying ht,sizeOf,typeInfo,hi,Builtin.lenOf,Builtin.firstCells,fh,storeCells]
        |some a' =>
         have my:∀(j:Nat)(u:Value),news[j]?=some u->w.cell? (a'.add j)=some u:=fun j u hu=>by
          have be:0<m.length:=by
           rcases yG m.length with h|h
           ·rw[h]at ec;have:=(yn.1 hu).1;omega
           ·exact h
          obtain⟨b,off,hA,_,_,ed⟩:=nb be;injection hA with hA;subst hA;rw[Addr.add_lit];exact ed j u hu
         have af:=run_loadCells_list (P:=P) w a' news my;rw[ec]at af;have tb:=run_storeCells_at P b (ln*i.size) ty news 0 cur w ia (by simpa using wa) (WV td);simp only[Nat.add_zero]at tb;simp[Builtin.append_,run_underlying ht,sizeOf,typeInfo,hi,Builtin.lenOf,Builtin.firstCells,fh,af,Addr.add_lit,tb]
       have hns:new.size=cur.size:=by
        rw[rb];simp only[List.size_toArray,yC,yM,List.length_drop,yH];omega
       have nk:QF ι Θ (uE da ι Θ) w ((l++m).flatten.map (⟨·,.no⟩)) new:=d6 pb fun j u hj=>by
        have htk:(cur.toList.take (ln*i.size)).length=ln*i.size:=by rw[yM,yH];omega
        rw[rb,List.getElem?_toArray,List.append_assoc];rcases Nat.lt_or_ge j (ln*i.size)with h|h
        ·rw[yU (by omega)]at hj;have:=se j u hj;rw[cell_of_row w b j cur ty (0,0) ia]at this;rw[yU (by omega),yI,if_pos h];simpa using this
        ·rw[yN (by omega),de]at hj;have hjn:=(yn.1 hj).1;rw[yN (by omega),htk,yU hjn];exact hj
       have R1:=R.set hb zc ia nk bh (hns.trans mh);have R2:=R1.ren (t:=t') (n:=n) wh (d:=d) (r:=(l++m).flatten.map (⟨·,.no⟩)) (by simp[OC.setRow]) (l8 dv) hd hD (x:=.ref d s.next i.size 0 (ln+m.length) (ln+m.length)) (v:=.slice (some ⟨b,0,none⟩) (ln+m.length) cc) (fun ι' h1 h2=>⟨b,h1.trans hb,yg _,cc,fh,by rw[h2,yy];exact hzb,rfl⟩);rw[M8]at R2;obtain⟨ι',R2⟩:=R2;exact⟨_,_,oi _ _ ca,ι',Θ,R2⟩
    ·cases ik
   ·cases hr
  ·cases hr
 ·cases hr
theorem M5 {v:AV}{cl:Cl}{l:List (List AV)}(h:v.elems s cl=some l):v.nB s cl=some l:=by
 cases v with
 |ref t n sz off len cap =>
  simp only[AV.elems,AV.nB]at h ⊢;split at h
  ·rename_i hc;rw [if_pos hc];cases hm:s.mem t n with
   |none=>rw[hm]at h;cases h
   |some r =>
    rw[hm,J,bH]at h;split at h
    ·rename_i hr;rw[J,xO,if_pos hr.1];exact h
    ·cases h
  ·cases h
 |_=>exact h
theorem N4 {av:Av}(t n:Nat):∀{xs:List AV}{us:List Value},JE av w xs us->xs.all (AV.gB t n)=true
 | [],_,_=>rfl
 |x::r,_,h=>by
  simp only[JE]at h;obtain⟨u,oa,rfl,h0,h1,h⟩:=h;rw[List.all_cons,N4 t n h,Bool.and_true];cases x<;>first|rfl|(simp[gG]at h0;done)|(simp only[gG]at h0;obtain⟨us,rfl,_⟩:=h0;simp[Value.oneCell']at h1;done)
theorem Qt (R:LD P O nt B F0 da w0 D s a w ι Θ){t e:TypeId}{i:TypeInfo}{z:List AV}(ht:P.underlying t=some (.slice e))(hi:P.info? e=some i)(hz:UL P e=some z)(ra:z.length=i.size)(lb:0<i.size){X Y:Operand}{x y:KD}(hx:uA X=some x)(hy:uA Y=some y)
  (ho:o.op=.call { callee:=.builtin .append,args:=#[X,Y],argTypes:=#[t,t] }) {d:Nat} (ba:o.dst=some d) (hd:d<nt) (hD:¬D d) {cl:Cl} {call} {xe:WC×rF} (hr:(K.QB cl e i.size i.bytes x y).run call s=some xe) {g} {s':OC} (he:JC.eff ⟨o.dst,.QB cl e i.size i.bytes x y,g⟩ s xe=some s') :
  ∃v w',(execOp a.eval o).run P w=.ok (.value v) w'/\JF P O nt B F0 da w0 (fun t=>D t\/t=d) s' (a.put o.dst v) w':=by
 have hX:=R.uA hx;have hY:=(R.uA hy).1;simp only[K.run]at hr;split at hr
 ·rename_i b l m ic sb;split at hr
  ·rename_i aa;split at hr
   ·rename_i jl;split at hr
    ·rename_i ki;cases hr;have be:m=[]:=by simpa using ki
     subst be;have zb:∀c∈l,c.length=i.size:=fun c hc=>by simpa using y6.1 aa.2 c (List.mem_append_left _ hc)
     obtain⟨news,td,je⟩:=oO R hY sb lb (fun _ h=>by cases h);rw[ic]at hX;obtain⟨hX,dt⟩:=hX;obtain⟨A,c,hv,pt,_,hn,_⟩:=XF.1 hX;cases he;have ca:=qX (P:=P) (w:=w) ht hi o.type (A:=A) pt je;rw[<- hv]at ca;refine⟨_,_,by simp only[execOp,ho,resolve,invoke,builtin,Sem.run_bind,Sem.run_pure,Result.andThen_ok,List.map_toArray,yk,yq,ca],ι,Θ,(R.MA (d:=o.dst) (x:=⟨.sl b l,.ex⟩) (fun t h=>by rw[ba]at h;cases h;exact hd) hX ?_).more fun _ h=>.inl h⟩;cases b with
     |false=>rw[show x.an s=.ex from jl]at dt;exact dt
     |true=>obtain⟨h1,h2,h3⟩:=hn rfl;exact⟨none,0,by rw[hv,h1,h2,h3]⟩
    ·rename_i ki;exact B5 R ht hi hz ra lb hx hy ho ba hd hD (cl:=cl) (call:=call) (xe:=xe) (by simp only[K.run,ic,M5 sb];rw[if_pos ⟨aa.1,aa.2,by cases m<;>simp at ki ⊢⟩,jl];exact hr) (g:=g) he
   ·cases hr
  ·cases hr
 ·cases hr
theorem Nb (R:LD P O nt B F0 da w0 D s a w ι Θ){t e:TypeId}{i:TypeInfo}{z:List AV}(ht:P.underlying t=some (.slice e))(hi:P.info? e=some i)(hz:UL P e=some z)(ra:z.length=i.size)(lb:0<i.size){X Y:Operand}{x y:KD}(hx:uA X=some x)(hy:uA Y=some y)
  (ho:o.op=.call { callee:=.builtin .append,args:=#[X,Y],argTypes:=#[t,t] }) {d:Nat} (ba:o.dst=some d) (hd:d<nt) (hD:¬D d) {cl:Cl} {call} {xe:WC×rF} (hr:(K.sB cl e i.size i.bytes x y).run call s=some xe) {g} {s':OC} (he:JC.eff ⟨o.dst,.sB cl e i.size i.bytes x y,g⟩ s xe=some s') :
  ∃v w',(execOp a.eval o).run P w=.ok (.value v) w'/\JF P O nt B F0 da w0 (fun t=>D t\/t=d) s' (a.put o.dst v) w':=by
 have hX:=R.uA hx;have hY:=(R.uA hy).1;simp only[K.run]at hr;split at hr
 ·rename_i b l m ic sb;exact Qt R ht hi hz ra lb hx hy ho ba hd hD (cl:=cl) (call:=call) (xe:=xe) (by simp only[K.run,ic,sb];exact hr) (g:=g) he
 ·rename_i t' n sz off ln cp m ic sb;split at hr
  ·rename_i l ik;split at hr
   ·rename_i aa;obtain ⟨h1,h2,ta,mb,wh⟩:=aa;obtain ⟨news,td,je⟩:=oO R hY sb lb fun c hc=>by simpa using y6.1 mb c hc
    rw[ic]at hX;have zc:(l++m).flatten.all (AV.gB t' n)=true:=by
     rw[List.flatten_append,List.all_append,N4 t' n td,Bool.and_true];simp only[AV.elems]at ik;split at ik
     ·cases hm:s.mem t' n with
      |none=>rw[hm]at ik;cases ik
      |some r =>
       rw[hm,J]at ik;obtain⟨_,b',cur,ty,_,ia,ka,_⟩:=R.rows t' n r hm;obtain⟨_,_,xs,kc,_⟩:=kJ ka ia ik;exact N4 t' n kc
     ·cases ik
    exact B5 R ht hi hz ra lb hx hy ho ba hd hD (cl:=cl) (call:=call) (xe:=xe) (by simp only[K.run,ic,M5 sb,M5 ik];rw[if_pos ⟨h1,h2,ta,mb,wh,zc⟩];exact hr) (g:=g) he
   ·cases hr
  ·cases hr
 ·cases hr
theorem Qn (R:LD P O nt B F0 da w0 D s a w ι Θ){t e:TypeId}{n z:Nat}{zero:List AV}(ht:P.underlying t=some (.slice e))(hz:UL P e=some zero)(hs:fE P e=some z)(ra:zero.length=z)(lb:0<z)(ge:n*z<=16777216){ps:Array (Nat×Operand)}{ys:List (Nat×KD)}(hy:aA ps.toList=some ys)(ho:o.op=.buildSlice t n ps)
  {d:Nat} (ba:o.dst=some d) (hd:d<nt) (hD:¬D d) {call} {xe:WC×rF} (hr:(K.AB z zero n ys).run call s=some xe) {g} {s':OC} (he:JC.eff ⟨o.dst,.AB z zero n ys,g⟩ s xe=some s') :
  ∃v w',(execOp a.eval o).run P w=.ok (.value v) w'/\JF P O nt B F0 da w0 (fun t=>D t\/t=d) s' (a.put o.dst v) w':=by
 obtain⟨zv,i',sc,ul,ug,hl⟩:=UI hz w;have hisz:i'.size=z:=by simp[fE,sc]at hs;exact hs
 have ij:zv.cells.size=z:=by
  have:=eI hl;simp only[yH]at this;omega
 simp only[K.run]at hr;split at hr
 ·rename_i aa;obtain⟨bg,mb,_,_⟩:=aa;injection hr with hr;subst hr;simp only[JC.eff,ba]at he;injection he with he;subst he;have zb:∀p∈ys,(p.2.get s).whole=true/\(p.2.get s).cells.length=zero.length:=fun p hp=>by
   have:=y6.1 mb p hp;simpa using this
  have hn:ys.length=n:=by
   have:=congrArg List.length bg;simpa using this
  have ri:=SV (s:=s) z ys 0 [] (yj n zero).flatten (by rw[bg,List.range_eq_range',hn]) (by simp) (by simp[hn,ra]) (fun p hp=>by rw[(zb p hp).2,ra]);rw[yF,yF]at ri;have hp:=HT z ys;have ui:((Array.range (n*z)).map (((if n*z=0 then(#[]:Array Value)else zv.cells)[· % (if n*z=0 then(#[]:Array Value)else zv.cells).size]!))).toList=(yj n zv.cells.toList).flatten:=by
   rcases yG n with h0|h0
   ·subst h0;simp
   ·have:¬ n * z=0:=by have:=Nat.mul_pos h0 lb; omega
    simp only[if_neg this];rw[<- ij];exact mS zv.cells n
  obtain⟨oa,h1,h2⟩:=lU (pl:=fun i=>some (i*z,z)) (ι:=ι) (av:=uE da ι Θ) (avb:=zE ι Θ) (w:=w) (s:=s) (a:=a) rfl (fun X y h=>(R.uA h).1) hy hp (fun p hp=>by
   obtain⟨q,hq,rfl⟩:=yz.1 hp;exact(zb q hq).1) (by rw[y3];exact ri) (us:=(Array.range (n*z)).map (((if n*z=0 then(#[]:Array Value)else zv.cells)[· % (if n*z=0 then(#[]:Array Value)else zv.cells).size]!))) (by
    rw[ui];exact QS _ _ (TK hl _ _) n)
  have ca:(execOp a.eval o).run P w=.ok (.value (.slice (some ⟨w.heap.size,0,none⟩) n n)) (w.alloc (.cells oa e)):=by
   have h3:Instr.fill (fun i=>some (i*z,z)) ((Array.range (n*z)).map (((if n*z=0 then(#[]:Array Value)else zv.cells)[· % (if n*z=0 then(#[]:Array Value)else zv.cells).size]!))) (ps.map fun(i,x)=>(i,a.eval x)).toList=some oa:=by
    rw[Array.toList_map];exact h1
   have ib:¬(n*z > 2 ^ 24):=by omega
   by_cases h0:n*z=0
   ·simp only[if_pos h0]at h3;simp only[execOp,ho,Instr.buildSlice,Sem.run_bind,run_underlying ht,Result.andThen_ok,EE hs,if_neg ib,if_pos h0,Sem.run_pure,h3,newRow,run_newObj_alloc]
   ·simp only[if_neg h0]at h3;simp only[execOp,ho,Instr.buildSlice,Sem.run_bind,run_underlying ht,Result.andThen_ok,EE hs,if_neg ib,if_neg h0,Sem.run_pure,ug,h3,newRow,run_newObj_alloc]
  refine⟨_,_,ca,?_⟩;rw[ba];have ja:=HE h2;have bi:(ys.map fun p=>(p.2.get s).cells).flatten.length=n*z:=by
   rw[<- hn];clear ri h2 ja h1 bg mb hp hy ge ui hn
   induction ys with
   |nil=>simp
   |cons p r ih=>rw[yk,yA,yC,(zb p (by simp)).2,ih (fun q hq=>zb q (by simp[hq])),ra,yE,yu];omega
  have tc:oa.size=n*z:=by
   rw[bi,yH]at ja;exact ja
  have ka:QF ι Θ (uE da ι Θ) w (HC (ys.map fun p=>(p.2.get s).cells)) oa:=d6 h2 fun j u hj=>by simpa using hj
  obtain⟨ι',h⟩:=R.new hd hD e ka (x:=.ref d s.next z 0 n n) (v:=.slice (some ⟨w.heap.size,0,none⟩) n n) (fun ι' h hz=>⟨_,h,yg _,_,yg _,by
   rw[show ι'.z w.heap.size=_ from hz,yy,tc];exact yg _,rfl⟩)
  exact⟨ι',Θ,h⟩
 ·cases hr
end
end
section
open Go Go.RowKit
section
variable {P:Program} {O:XI} {nt B:Nat} {F0:FQ} {da:Av} {w0:World} {D:Nat->Prop} {s:OC} {a:Act} {w w':World} {ι:Ix} {Θ:jM} {o:Oper}
def KK (ι:Ix)(av avl:Av)(w:World):List AV->List Value->Prop
 | [],us=>us=[]
 |x::r,us=>∃u oa,us=u::oa/\sD ι av avl w x u/\KK ι av avl w r oa
def Ix.one (p:Nat):Ix:=⟨fun t n=>if t=0/\n=0 then some p else .none,fun _ _=>.none,fun _=>0⟩
def EV (p:Nat)(av:Av)(w:World)(x:AV)(v:Value):Prop:=if x.SA then v=.pointer (some ⟨p,0,none⟩)else gG av w x v
def LN (p:Nat)(av:Av)(w:World):List AV->List Value->Prop
 | [],us=>us=[]
 |x::r,us=>∃u oa,us=u::oa/\EV p av w x u/\LN p av w r oa
def E9 (p:Nat)(av:Av)(w:World):AV->Value->Prop
 |.sA vs,v=>∃us,v=.tuple us/\LN p av w vs us.toList
 |x,v=>EV p av w x v
def OwnV (base:Nat)(H:Nat->Prop)(w:World)(l:List (List AV))(v:Value):Prop :=
 (l=[]/\∃A c,v=.slice A 0 c/\(A=none->c=0))\/∃g c cur ty,v=.slice (some ⟨g,0,none⟩) l.length c/\base<=g/\¬H g/\w.heap[g]?=some (.cells cur ty (0,0))/\l.length<=c/\(∀sz,PD sz l=true->0<l.length->c*sz<=cur.size)/\∀(j:Nat)(x:AV),l.flatten[j]?=some x->cur[j]?=some x.IA
def OwnL (w:World)(g0:Nat->Prop)(z:Nat)(av:Av)(w':World)(l:List (List AV))(v:Value):Prop :=
 ∃g c cur ty,v=.slice (some ⟨g,0,none⟩) l.length c/\(w.heap.size<=g\/g0 g/\∃cur0 pz,w.heap[g]?=some (.cells cur0 pz (0,0))/\cur.size=cur0.size)/\w'.heap[g]?=some (.cells cur ty (0,0))/\l.length<=c/\c*z<=cur.size/\JE (fun b o=>av b o\/b=g) w' l.flatten (cur.toList.take l.flatten.length)
def Ia (z:Nat)(av:Av)(w:World)(b:Bool)(l:List (List AV))(v:Value)(g0:Nat->Prop):Prop :=
 (l=[]/\(∃A,v=.slice A 0 0)/\(b=true->v=.slice none 0 0)/\∀g,¬g0 g)\/(b=false/\∃g c cur ty,v=.slice (some ⟨g,0,none⟩) l.length c/\(∀g',g0 g'↔g'=g)/\w.heap[g]?=some (.cells cur ty (0,0))/\l.length<=c/\c*z<=cur.size/\(∀o,av g o)/\JE av w l.flatten (cur.toList.take l.flatten.length))
def UO (P:Program)(O:XI)(f:FuncId)(args:List AV)(S0:Option AV)(r:RV):Prop :=
 (∀xs w,(callFunc f xs).run P w=.ok (.enter f xs) w) ∧
 match r,S0 with
 |(.sl nl l,none),none=>∀(av:Av)(w:World)(vs:List Value),O.low (fun _=>False) av w->KK Ix.none av (fun _ _=>False) w args vs →
  Calls P f vs.toArray w fun e w'=>∃v,e=.returned v/\(if l=[]then gG av w' (.sl nl []) v/\∃A,v=.slice A 0 0 else ∀z,PD z l=true->OwnL w (fun _=>False) z av w' l v)/\Below w.heap.size w w'
 |(.sl false l,none),some (.int _ z)=>match args with
  |.sl nl l0::rest=>∀(av:Av)(w:World)(v0:Value)(vs:List Value)(g0:Nat->Prop),O.low g0 av w->KK Ix.none av (fun _ _=>False) w rest vs->Ia z.toNat av w nl l0 v0 g0 →
   Calls P f (v0::vs).toArray w fun e w'=>∃v,e=.returned v/\OwnL w g0 z.toNat av w' l v/\cE g0 w w'
  |_=>True
 |(.sl false l,some S'),some S=>∀(av:Av)(w:World)(vs:List Value)(p:Nat)(H:Nat->Prop),O.low H av w->(∀b o,H b->av b o)->O.at_ S H p w->KK (Ix.one p) av (fun b _=>H b) w args vs →
  Calls P f vs.toArray w fun e w'=>∃v H',e=.returned v/\OwnV w.heap.size H' w' l v/\O.at_ S' H' p w'/\(∀b,H' b->H b\/w.heap.size<=b)/\cE H w w'
 |_,_=>True
def L4 (P:Program)(O:XI)(f:FuncId)(args:List AV)(S0:Option AV)(r:RV):Prop :=
 (∀xs w,(callFunc f xs).run P w=.ok (.enter f xs) w) ∧
 match S0,r.2 with
 |none,none=>∀(av:Av)(w:World)(vs:List Value),O.low (fun _=>False) av w->KK Ix.none av (fun _ _=>False) w args vs →
  Calls P f vs.toArray w fun e w'=>∃v,e=.returned v/\gG av w' r.1 v/\Below w.heap.size w w'
 |some S,some S'=>∀(av:Av)(w:World)(vs:List Value)(p:Nat)(H:Nat->Prop),O.low H av w->(∀b o,H b->av b o)->O.at_ S H p w->KK (Ix.one p) av (fun b _=>H b) w args vs →
  Calls P f vs.toArray w fun e w'=>∃v H',e=.returned v/\gG (fun b o=>av b o\/H' b) w' r.1 v/\O.at_ S' H' p w'/\(∀b,H' b->H b\/w.heap.size<=b)/\cE H w w'
 |none,some S'=>∀(av:Av)(w:World)(vs:List Value),O.low (fun _=>False) av w->KK Ix.none av (fun _ _=>False) w args vs →
  Calls P f vs.toArray w fun e w'=>∃v p H',e=.returned v/\E9 p (fun b o=>av b o\/H' b) w' r.1 v/\O.at_ S' H' p w'/\(∀b,H' b->w.heap.size<=b)/\Below w.heap.size w w'
 |some _,none=>True
def Ix.row (p z:Nat):Ix:=⟨fun t n=>if t=0/\n=0 then some p else .none,fun _ _=>.none,fun _=>z⟩
def Z4 (P:Program)(O:XI)(f:FuncId)(args:List AV)(S0:Option AV)(r:RV):Prop :=
 (∀xs w,(callFunc f xs).run P w=.ok (.enter f xs) w) ∧
 match S0,r with
 |some (.agg cs),(r1,some (.agg xt))=>∀(av:Av)(w:World)(vs:List Value)(p:Nat)(cur:Array Value)(ty:TypeId),O.low (fun b=>b=p) av w->(∀o,av p o)->w.heap[p]?=some (.cells cur ty (0,0))->cs.length<=cur.size->JE av w cs (cur.toList.take cs.length)->KK (Ix.row p cur.size) av (fun b _=>b=p) w args vs →
  Calls P f vs.toArray w fun e w'=>∃v db gl,e=.returned v/\gG av w' r1 v/\w'.heap[p]?=some (.cells db gl (0,0))/\db.size=cur.size/\JE av w' xt (db.toList.take xt.length)/\cE (fun b=>b=p) w w'
 |_,_=>True
def gE (P:Program)(O:XI)(f:FuncId)(args:List AV)(S0:Option AV)(r:RV):Prop:=match args with
 |.undef :: .undef::rest=>Z4 P O f rest S0 r
 |.undef::rest=>UO P O f rest S0 r
 |_=>L4 P O f args S0 r
theorem gE.of {P:Program}{O:XI}{f:FuncId}{args:List AV}{S0:Option AV}{r:RV}(hm:PI args=false):gE P O f args S0 r↔L4 P O f args S0 r:=by
 unfold gE;split
 ·cases hm
 ·cases hm
 ·simp_all
theorem gE.own {P:Program}{O:XI}{f:FuncId}{args:List AV}{S0:Option AV}{r:RV}(hm:PI args=false)(h:gE P O f (.undef::args) S0 r):UO P O f args S0 r:=by
 cases args with
 |nil=>exact h
 |cons x r=>cases x<;>first|exact h|(simp[PI]at hm;done)
theorem DY {ι':Ix}{av avb avl:Av}{x:AV}{v:Value}(h:sD ι av avb w x v)(hx:x.free=true):sD ι' av avl w x v:=by
  cases x<;>first
    |exact h
    |(simp[AV.free,AV.iA]at hx;done)
    | (obtain ⟨us,hv,hc⟩:=h
       exact⟨us,hv,SF (cJ hc fun y hy=>y6.1 hx y hy)⟩)
theorem QV {av avb:Av}:∀{cs:List AV}{us:List Value}{b off:Nat},JE av w cs us->(∀(j:Nat)(u:Value),us[j]?=some u->w.cell? ⟨b,off+j,none⟩=some u/\¬avb b (off+j))->WE av avb w cs b off
 | [],_,_,_,_,_=>by simp[WE]
 |x::r,_,b,off,h,hj=>by
  simp only[JE]at h;obtain⟨u,oa,rfl,h0,h1,h⟩:=h;simp only[WE];have h2:=hj 0 u rfl;refine⟨⟨u,h2.1,h0,h1⟩,h2.2,QV h fun j v hv=>?_⟩;have:=hj (j+1) v (by simpa using hv);rw[show off+1+j=off+(j+1)from by omega];exact this
section
variable (R:LD P O nt B F0 da w0 D s a w ι Θ) {avl:Av}
include R avl
theorem qW {cl:Cl}{y x:AV}(hB:∀b o,avl b o->zE ι Θ b o)(hsep:∀t n b o,ι t n=some b->ι.ob t n=none->(∃sz off len cap,y=.ref t n sz off len cap)->¬avl b o){v:Value}{ι':Ix}(hY:sD ι (uE da ι Θ) (zE ι Θ) w y v)(h:EU s cl y=some x)(eb:∀t n,y=.ptr t n 0->ι' 0 0=ι t n):sD ι' (uE da ι Θ) avl w x v:=by
 unfold EU at h;split at h
 ·rename_i t n sz off len cap;split at h
  ·cases hm:s.mem t n with
   |none=>rw[hm]at h;cases h
   |some r =>
    rw[hm,J]at h;cases hr:bH r sz off len with
    |none=>rw[hr]at h;cases h
    |some m =>
     rw[hr]at h;cases h;obtain⟨b,hb,ib,cc,jf,_,hv⟩:=jJ.1 hY;obtain⟨zc,b',cur,ty,na,ia,ka,_⟩:=R.rows t n r hm;rw[hb]at na;injection na with na
     subst na;obtain⟨h1,h2,us,hl,tc⟩:=kJ ka ia hr;subst h1;exact⟨_,cc,hv,yt ib jf,fun c hc c' ze=>(h2 c hc).trans (h2 c' ze).symm,fun _=>⟨b,off,rfl,BL.2 (QV hl fun j u hj=>⟨tc j u hj,hsep t n b _ hb zc ⟨_,_,_,_,rfl⟩⟩)⟩⟩
  ·cases h
 ·cases h;obtain⟨a',c,hv,hc,hu,hs⟩:=hY;refine⟨a',c,hv,hc,hu,fun h0=>?_⟩;obtain⟨b,off,ha,hr⟩:=hs h0;exact⟨b,off,ha,ZN.held (aD.refl _ _) (aD.less hB) _ _ _ hr⟩
 ·cases h;obtain⟨b,off,hv,hc⟩:=hY;exact⟨b,off,hv,WE.held (aD.refl _ _) (aD.less hB) _ _ _ hc⟩
 ·rename_i t n off;split at h
  ·rename_i hc;cases h;obtain⟨h0,_,_⟩:=hc;subst h0;obtain⟨b,hb,hv⟩:=lH.1 hY;exact⟨b,(eb t n rfl).trans hb,hv⟩
  ·cases h
 ·split at h
  ·rename_i hf;cases h;exact DY hY hf
  ·cases h
theorem Hh (nf:∀b o,avl b o->∃t n H,ι.ob t n=some H/\H b){cl:Cl}{y x:AV}{v:Value}{ι':Ix}(hY:sD ι (uE da ι Θ) (zE ι Θ) w y v)(h:EU s cl y=some x)(eb:∀t n,y=.ptr t n 0->ι' 0 0=ι t n):sD ι' (uE da ι Θ) avl w x v :=
 qW R (fun b o h=>.inl (.inr (nf b o h))) (fun t n b o hb zc _ h=>by
  obtain⟨t',n',H,ho,hH⟩:=nf _ _ h;obtain⟨e1,e2⟩:=((R.obs _ _ _ ho).1 _ hH).2.2.1 _ _ hb;rw[e1,e2,ho]at zc;cases zc) hY h eb
theorem Hi (nf:∀b o,avl b o->∃t n H,ι.ob t n=some H/\H b){cl:Cl}{y x:AV}{v:Value}{ι':Ix}(hY:lX ι (uE da ι Θ) (zE ι Θ) w y v)(h:PR s cl y=some x):lX ι' (uE da ι Θ) avl w x v:=by
 have hB:∀b o,avl b o->zE ι Θ b o:=fun b o h=>.inl (.inr (nf b o h))
 unfold PR at h;split at h
 ·rename_i t n off;split at h
  ·split at h
   ·rename_i r hm;split at h
    ·rename_i mb;cases h;obtain ⟨b,hb,hv⟩:=hY;obtain ⟨zc,b',cur,ty,na,ia,ka,_⟩:=R.rows t n r hm;rw [hb] at na;injection na with na
     subst na;have pb:=xH off ka.rep;rw[<- List.map_drop]at pb;have oe:∀x∈(r.drop off).map (·.v),x.iA=true:=fun x hx=>by
      grind
     refine⟨b,off,hv,QV (cJ pb oe) fun j u hu=>⟨?_,fun h=>?_⟩⟩
     ·rw[yL]at hu;have hj:off+j<r.length:=by
       grind
      rw[List.getElem?_take_of_lt hj]at hu;simp only[World.cell?,ia];simp_all
     ·obtain⟨t',n',H,ho,hH⟩:=nf _ _ h;obtain⟨e1,e2⟩:=((R.obs _ _ _ ho).1 _ hH).2.2.1 _ _ hb;simp_all
    ·cases h
   ·cases h
  ·cases h
 ·cases h;obtain⟨b,off,hv,hc⟩:=hY;exact⟨b,off,hv,WE.held (aD.refl _ _) (aD.less hB) _ _ _ hc⟩
 ·cases h;exact hY
 ·cases h
end
theorem zT (R:LD P O nt B F0 da w0 D s a w ι Θ){avl:Av}(nf:∀b o,avl b o->∃t n H,ι.ob t n=some H/\H b){cl:Cl}{ι':Ix}:∀{ys xs:List AV}{us:List Value},CI ι (uE da ι Θ) (zE ι Θ) w ys us->KF s cl ys=some xs->CI ι' (uE da ι Θ) avl w xs us
 | [],xs,us,hY,h=>by
  injection h with h;subst h;exact hY
 |y::r,xs,us,hY,h=>by
  obtain⟨u,oa,rfl,h0,hY⟩:=hY;unfold KF at h;split at h
  ·rename_i v vs hv hr;injection h with h;subst h;exact⟨u,oa,rfl,Hi R nf h0 hv,zT R nf hY hr⟩
  ·cases h
theorem Gi (R:LD P O nt B F0 da w0 D s a w ι Θ){avl:Av}(nf:∀b o,avl b o->∃t n H,ι.ob t n=some H/\H b){cl:Cl}{y x:AV}{v:Value}{ι':Ix}(hY:sD ι (uE da ι Θ) (zE ι Θ) w y v)(h:qI s cl y=some x)(eb:∀t n,y=.ptr t n 0->ι' 0 0=ι t n):sD ι' (uE da ι Θ) avl w x v:=by
 unfold qI at h;split at h
 ·rename_i f cs;obtain⟨ws,hw,h⟩:=ye.1 h;subst h;obtain⟨us,hv,hc⟩:=hY;exact⟨us,hv,zT R nf hc hw⟩
 ·exact Hh R nf hY h eb
theorem N2 {ι':Ix}{av avl:Av}:∀{xs:List AV}{us:List Value},(∀x∈xs,x.bB=true)->CI ι' av avl w xs us->KK ι' av avl w xs us
 | [],_,_,h=>h
 |x::r,_,hc,h=>by
  obtain⟨u,oa,rfl,h0,h⟩:=h;refine⟨u,oa,rfl,?_,N2 (fun y hy=>hc y (ym _ hy)) h⟩;have:=hc x (yl);cases x<;>first|(simp[AV.bB]at this;done)|exact h0
theorem ZW {ι':Ix}{av avl:Av}:∀{xs ys:List AV}{us vs:List Value},KK ι' av avl w xs us->KK ι' av avl w ys vs->KK ι' av avl w (xs++ys) (us++vs)
 | [],_,_,_,h,h'=>by cases h;exact h'
 |x::r,_,_,_,h,h'=>by
  obtain⟨u,oa,rfl,h0,h⟩:=h;exact⟨u,oa++_,rfl,h0,ZW h h'⟩
theorem MV {cl:Cl}:∀{ys xs:List AV},KF s cl ys=some xs->∀x∈xs,x.bB=true
 | [],xs,h=>by injection h with h;subst h;intro x hx;cases hx
 |y::r,xs,h=>by
  unfold KF at h;split at h
  ·rename_i v vs hv hr;injection h with h;subst h;intro x hx;rcases yh.1 hx with rfl | hx
   ·unfold PR at hv;split at hv
    ·split at hv
     ·split at hv
      ·split at hv
       ·injection hv with hv;subst hv;rfl
       ·cases hv
      ·cases hv
     ·cases hv
    ·injection hv with hv;subst hv;rfl
    ·injection hv with hv;subst hv;rfl
    ·cases hv
   ·exact MV hr x hx
  ·cases h
theorem dJ (R:LD P O nt B F0 da w0 D s a w ι Θ){avl:Av}(nf:∀b o,avl b o->∃t n H,ι.ob t n=some H/\H b){cl:Cl}{ι':Ix}:∀{Xs:List Operand}{xs:List KD}{vs:List AV},NH Xs=some xs->pG s cl xs=some vs->(∀x∈xs,∀t n,x.get s=.ptr t n 0->ι' 0 0=ι t n)->KK ι' (uE da ι Θ) avl w vs (Xs.map a.eval)
 | [],xs,vs,h,hl,_=>by
  injection h with h;subst h;injection hl with hl;subst hl;rfl
 |X::Xs,xs,vs,h,hl,eb=>by
  unfold NH at h;split at h
  ·rename_i x l hx hr;injection h with h;subst h;unfold pG at hl;split at hl
   ·rename_i v wt hv py;injection hl with hl;subst hl;exact⟨_,_,rfl,Gi R nf (R.uA hx).1 hv (eb x (yl)),dJ R nf hr py fun y hy=>eb y (ym _ hy)⟩
   ·cases hl
  ·cases h
theorem Mi {p d n:Nat}{ι':Ix}{av avb:Av}{x:AV}{v:Value}(h:E9 p av w x v)(hp:ι' d n=some p)(hx:x.uC=true):sD ι' av avb w (x.named d n) v:=by
 have one:∀{x:AV}{u:Value},EV p av w x u->gD ι' av w (if x.SA then .ptr d n 0 else x) u:=fun{x u} h=>by
  unfold EV at h;split at h
  ·rename_i ho;rw[if_pos ho];exact⟨p,hp,h⟩
  ·rename_i ho;rw[if_neg ho];exact PM h
 have oneU:∀{x:AV}{u:Value},EV p av w x u->jR ι' av w (if x.SA then .ptr d n 0 else x) u:=fun{x u} h=>by
  unfold EV at h;split at h
  ·rename_i ho;rw[if_pos ho];exact⟨p,hp,h⟩
  ·rename_i ho;rw[if_neg ho];exact BI h
 have all:∀{xs:List AV}{us:List Value},LN p av w xs us->DI ι' av w (xs.map fun v=>if v.SA then .ptr d n 0 else v) us:=by
  intro xs
  induction xs with
  |nil=>intro us h;simpa [LN,DI]using h
  |cons x r ih =>
   intro us h;simp only[LN]at h;obtain⟨u,oa,rfl,h0,h⟩:=h;exact⟨u,oa,rfl,oneU h0,ih h⟩
 cases x with
 |sA vs =>
  obtain⟨us,hv,hc⟩:=h;exact⟨us,hv,all hc⟩
 |ptr t' n' off =>
  have h1:=one (x:=.ptr t' n' off) h;have h2:(AV.ptr t' n' off).SA=true:=hx;simp only[h2,if_true]at h1;show sD ι' av avb w (if(AV.ptr t' n' off).SA then .ptr d n 0 else .ptr t' n' off) v;rw[if_pos h2];exact h1
 |_=>simp[AV.uC,AV.SA]at hx
theorem EV.held {p:Nat}{av za:Av}{w w':World}(h:aD av za w w'){x:AV}{v:Value}(hr:EV p av w x v):EV p za w' x v:=by
 unfold EV at hr ⊢;split at hr
 ·rename_i ho;rw[if_pos ho];exact hr
 ·rename_i ho;rw[if_neg ho];exact gG.held h _ _ hr
theorem E9.held {p:Nat}{av za:Av}{w w':World}(h:aD av za w w'){x:AV}{v:Value}(hr:E9 p av w x v):E9 p za w' x v:=by
 have all:∀{xs:List AV}{us:List Value},LN p av w xs us->LN p za w' xs us:=by
  intro xs
  induction xs with
  |nil=>intro us h;exact h
  |cons x r ih =>
   intro us h';simp only[LN]at h' ⊢;obtain⟨u,oa,rfl,h0,h'⟩:=h';exact⟨u,oa,rfl,EV.held h h0,ih h'⟩
 cases x<;>first|exact EV.held h hr|(obtain⟨us,hv,hc⟩:=hr;exact⟨us,hv,all hc⟩)
theorem LD.DB (R:LD P O nt B F0 da w0 D s a w ι Θ){t n p:Nat}{H H':Nat->Prop}{S':AV}(hp:ι t n=some p)(eb:ι.ob t n=some H)(bc:O.at_ S' H' p w')(bj:S6 ι S' p w')(hH:∀b,H' b->H b\/w.heap.size<=b)(hk:cE H w w'):
  ∃ι':Ix,LD P O nt B F0 da w0 D (s.setObj t n S') a w' ι' Θ/\aD (fun b o=>uE da ι Θ b o\/H' b) (uE da ι' Θ) w' w':=by
 obtain⟨dm,nr⟩:=R.obs t n H eb;have rh:∀t' n' H1,(if t'=t/\n'=n then some H' else ι.ob t' n')=some H1->(t'=t/\n'=n/\H1=H')\/(¬(t'=t/\n'=n)/\ι.ob t' n'=some H1):=fun t' n' H1 h=>by
  grind
 have jh:∀b o,b<w.heap.size->zE ⟨ι.f,fun t' n'=>if t'=t/\n'=n then some H' else ι.ob t' n',ι.z⟩ Θ b o->zE ι Θ b o:=fun b o hb h=>h.imp (fun h=>h.imp id fun⟨t',n',H1,h1,h2⟩=>by
  rcases rh _ _ _ h1 with⟨e1,e2,e3⟩|⟨_,h1⟩
  ·subst e3;rcases hH b h2 with h3 | h3
   ·exact⟨t,n,H,eb,h3⟩
   ·omega
  ·exact⟨t',n',H1,h1,h2⟩) id
 have rg:∀t1 n1 b1 H1,ι t1 n1=some b1->ι.ob t1 n1=some H1->(⟨ι.f,fun t' n'=>if t'=t/\n'=n then some H' else ι.ob t' n',ι.z⟩:Ix) t1 n1=some b1/\∃H2,(⟨ι.f,fun t' n'=>if t'=t/\n'=n then some H' else ι.ob t' n',ι.z⟩:Ix).ob t1 n1=some H2:=fun t1 n1 b1 H1 g1 g2=>⟨g1,by
  by_cases e:t1=t/\n1=n
  ·exact⟨H',by simp only[if_pos e]⟩
  ·exact⟨H1,by simp only[if_neg e];exact g2⟩⟩
 have nb:∀b o u,w.cell? ⟨b,o,none⟩=some u->¬H b->w'.cell? ⟨b,o,none⟩=some u:=fun b o u hc hn=>(World.cell?_of_block (w:=w) (a:=⟨b,o,none⟩) (hk.block b (MG hc) hn)).trans hc
 have hB:aD (zE ι Θ) (zE ⟨ι.f,fun t' n'=>if t'=t/\n'=n then some H' else ι.ob t' n',ι.z⟩ Θ) w w':=⟨fun b o u hc hn=>⟨nb b o u hc fun h=>hn (.inl (.inr ⟨t,n,H,eb,h⟩)),fun h=>hn (jh b o (MG hc) h)⟩⟩;have hA:aD (uE da ι Θ) (uE da ⟨ι.f,fun t' n'=>if t'=t/\n'=n then some H' else ι.ob t' n',ι.z⟩ Θ) w w':=⟨fun b o u hc hn=>⟨nb b o u hc fun h=>hn (.inr (.inl (.inr ⟨t,n,H,eb,h⟩))),fun h=>hn (h.imp id (jh b o (MG hc)))⟩⟩;have rd:=R.eC;have ra:=hk.size;have pu:∀t1,sD ⟨ι.f,fun t' n'=>if t'=t/\n'=n then some H' else ι.ob t' n',ι.z⟩ (uE da ⟨ι.f,fun t' n'=>if t'=t/\n'=n then some H' else ι.ob t' n',ι.z⟩ Θ) (zE ⟨ι.f,fun t' n'=>if t'=t/\n'=n then some H' else ι.ob t' n',ι.z⟩ Θ) w' (s.env t1).v (a.tmps.getD t1 undef):=fun t1=>sD.held (ι:=ι) (ι':=⟨ι.f,fun t' n'=>if t'=t/\n'=n then some H' else ι.ob t' n',ι.z⟩) ⟨fun _ _ _ h=>h,fun _ _ _ _=>rfl⟩ hA hB _ _ (R.env t1)
 have hgen:∀t1,sD ⟨ι.f,fun t' n'=>if t'=t/\n'=n then some H' else ι.ob t' n',ι.z⟩ (uE da ⟨ι.f,fun t' n'=>if t'=t/\n'=n then some H' else ι.ob t' n',ι.z⟩ Θ) (zE ⟨ι.f,fun t' n'=>if t'=t/\n'=n then some H' else ι.ob t' n',ι.z⟩ Θ) w' (s.gh t1).v (F0.g t1):=fun t1=>sD.held (ι:=ι) (ι':=⟨ι.f,fun t' n'=>if t'=t/\n'=n then some H' else ι.ob t' n',ι.z⟩) ⟨fun _ _ _ h=>h,fun _ _ _ _=>rfl⟩ hA hB _ _ (R.gen t1)
 refine⟨⟨ι.f,fun t' n'=>if t'=t/\n'=n then some H' else ι.ob t' n',ι.z⟩,⟨R.defers,R.size,pu,R.ZB,fun t' n' r hr=>?_,fun t' n' b h=>?_,R.inj,fun k o h=>?_,R.OA,R.apart,R.out,(fun p' h=>⟨(R.pin p' h).1,by
  rcases(R.pin p' h).2 with ry|⟨H1,h1⟩
  ·exact .inl ry
  refine .inr ?_;show ∃H2,(if 0=t/\0=n then some H' else ι.ob 0 0)=some H2;split
  ·exact⟨_,rfl⟩
  ·exact⟨H1,h1⟩⟩),?_,R.base,fun t' n' S1 h=>?_,fun t' n' H1 h=>?_,hgen,R.CA⟩,?_⟩
 ·obtain ⟨h0,b,cur,ty,h1,h2,h3,h8⟩:=R.rows t' n' r hr;have ua:¬ (t'=t/\n'=n):=fun e=>by rw [e.1,e.2,eb] at h0; cases h0
  have hbn:¬H b:=fun hb=>ua ((dm b hb).2.2.1 t' n' h1)
  exact⟨by simp only[if_neg ua];exact h0,b,cur,ty,h1,(hk.block b (DC h2) hbn).trans h2,h3.held ⟨fun _ _ _ h=>h,fun _ _ _ _=>rfl⟩ hA (fun _ _ h=>h),h8⟩
 ·obtain⟨h1,h2,h3⟩:=R.mine t' n' b h;exact⟨h1,by omega,h3⟩
 ·obtain⟨h1,h2,h3,h4,db,h5,h6⟩:=R.tok k o h;exact⟨h1,h2,h3,h4,db,(hk.block _ (DC h5) (R.qC h eb)).trans h5,h6⟩
 ·refine R.kept.trans hk fun i hi h=>?_
  have:=R.base.1
  grind
 ·simp only [OC.setObj] at h;split at h
  ·rename_i e;injection h with h;subst h;exact⟨p,H',by rw[e.1,e.2];exact hp,by simp only[if_pos e],bc,bj.keep rg fun x hx=>hx⟩
  ·rename_i e;obtain ⟨p1,H1,h1,h2,h3,h4⟩:=R.WA t' n' S1 h;have cn:∀ b,H1 b->¬ H b:=fun b hb na=>e ((dm b na).2.2.2.2 t' n' H1 h2 hb)
   exact⟨p1,H1,h1,by simp only[if_neg e];exact h2,O.keep h3 (fun b hb=>hk.block b (O.lt h3 hb) (cn b hb)) ra,h4.keep rg fun x hx=>(hk.block _ (DC hx) (cn _ (O.main h3))).trans hx⟩
 ·rcases rh _ _ _ h with ⟨e1,e2,e3⟩ | ⟨e,h⟩
  ·subst e1; subst e2; subst e3;refine ⟨fun b hb=>?_,nr⟩;rcases hH b hb with h1 | h1
   ·grind
   ·refine ⟨.inl (by omega),O.lt bc hb,fun t1 n1 h2=>?_,fun k o h2 e=>?_,fun t1 n1 H2 h2 h3=>?_⟩
    ·have:=(R.mine _ _ _ h2).2.1;omega
    ·obtain⟨_,_,_,_,db,h5,_⟩:=R.tok k o h2;have:=DC h5;omega
    ·rcases rh _ _ _ h2 with ⟨e1,e2,_⟩ | ⟨_,h2⟩
     ·omega
     ·have:=((R.obs _ _ _ h2).1 b h3).2.1;omega
  ·obtain ⟨h1,h2⟩:=R.obs t' n' H1 h;refine ⟨fun b hb=>?_,h2⟩;obtain ⟨g1,g2,g3,g4,g5⟩:=h1 b hb;refine ⟨g1,by omega,g3,g4,fun t1 n1 H2 h2 h3=>?_⟩;rcases rh _ _ _ h2 with ⟨e1,e2,e3⟩ | ⟨_,h2⟩
   ·subst e3;rcases hH b h3 with h4 | h4
    ·have:=g5 t n H eb h4;omega
    ·omega
   ·exact g5 t1 n1 H2 h2 h3
 ·refine aD.less fun b o h=>?_
  rcases h with h|h|h
  ·exact .inl (.inl h)
  ·rcases h with h | ⟨t1,n1,H2,h2,h3⟩
   ·exact .inl (.inr (.inl (.inl h)))
   ·rcases rh _ _ _ h2 with ⟨_,_,e3⟩ | ⟨_,h2⟩
    ·grind
    ·exact .inl (.inr (.inl (.inr ⟨t1,n1,H2,h2,h3⟩)))
  ·exact .inl (.inr (.inr h))
theorem LD.newObj (R:LD P O nt B F0 da w0 D s a w ι Θ){d p:Nat}{H:Nat->Prop}{S:AV}(hb:Below w.heap.size w w')(hD:¬D d)(bc:O.at_ S H p w')(bj:S6 ι S p w')(hH:∀b,H b->w.heap.size<=b):
  ∃ι':Ix,LD P O nt B F0 da w0 (fun t=>D t\/t=d) (s.setObj d s.next S) a w' ι' Θ/\ι' d s.next=some p/\aD (fun b o=>uE da ι Θ b o\/H b) (uE da ι' Θ) w' w':=by
 have rd:=R.eC;have ra:=hb.size;have hpH:=hH p (O.main bc);have bd:ι d s.next=none:=by
  cases h:ι d s.next with
  |none=>rfl
  |some b =>
   rcases(R.mine _ _ _ h).2.2 with h1|h1
   ·omega
   ·simp_all
 have ad:ι.ob d s.next=none:=by
  cases h:ι.ob d s.next with
  |none=>rfl
  |some b =>
   rcases(R.obs _ _ _ h).2 with h1|h1
   ·omega
   ·simp_all
 have hmemn:s.mem d s.next=none:=by
  cases h:s.mem d s.next with
  |none=>rfl
  |some r=>obtain⟨_,b,cur,ty,h1,_⟩:=R.rows _ _ _ h;rw[bd]at h1;cases h1
 obtain⟨ι',hι'⟩:∃ι':Ix,ι'=⟨fun t' n'=>if t'=d/\n'=s.next then some p else ι t' n',fun t' n'=>if t'=d/\n'=s.next then some H else ι.ob t' n',ι.z⟩:=⟨_,rfl⟩;have hf:∀t' n' b,ι' t' n'=some b->(t'=d/\n'=s.next/\b=p)\/(¬(t'=d/\n'=s.next)/\ι t' n'=some b):=fun t' n' b h=>by
  subst hι'
  grind
 have ho:∀t' n' H1,ι'.ob t' n'=some H1->(t'=d/\n'=s.next/\H1=H)\/(¬(t'=d/\n'=s.next)/\ι.ob t' n'=some H1):=fun t' n' H1 h=>by
  subst hι'
  grind
 have nc:∀t n b,ι t n=some b->ι' t n=some b:=fun t n b h=>by
  subst hι'
  grind
 have zn:∀t n H1,¬(t=d/\n=s.next)->ι.ob t n=H1->ι'.ob t n=H1:=fun t n H1 e h=>by
  simp_all
 have rb:ι' d s.next=some p:=by
  simp_all
 have kr:ι'.ob d s.next=some H:=by subst hι';simp
 have rg:∀t1 n1 b1 H1,ι t1 n1=some b1->ι.ob t1 n1=some H1->ι' t1 n1=some b1/\∃H2,ι'.ob t1 n1=some H2:=fun t1 n1 b1 H1 g1 g2=>⟨nc _ _ _ g1,H1,zn _ _ _ (fun e=>by rw[e.1,e.2,ad]at g2;cases g2) g2⟩
 have jj:∀b,ι'.z b=ι.z b:=fun b=>by subst hι';rfl
 have ib:Ix.Le ι ι':=⟨nc,fun _ _ _ _=>jj _⟩;clear hι';have jh:∀b o,b<w.heap.size->zE ι' Θ b o->zE ι Θ b o:=fun b o lj h=>h.imp (fun h=>by
  rcases h with⟨t',n',h⟩|⟨t',n',H1,h,h2⟩
  ·rcases hf _ _ _ h with ⟨_,_,e⟩ | ⟨_,h⟩
   ·omega
   ·exact .inl ⟨t',n',h⟩
  ·rcases ho _ _ _ h with ⟨_,_,e⟩ | ⟨_,h⟩
   ·subst e;have:=hH b h2;omega
   ·exact .inr ⟨t',n',H1,h,h2⟩) id
 have hB:aD (zE ι Θ) (zE ι' Θ) w w':=aD.grown (fun b na=>hb.block b na) jh;have hA:aD (uE da ι Θ) (uE da ι' Θ) w w':=aD.grown (fun b na=>hb.block b na) fun b o lj h=>h.imp id (jh b o lj)
 refine⟨ι',⟨R.defers,R.size,fun t=>sD.held ib hA hB _ _ (R.env t),R.ZB,fun t' n' r hr=>?_,fun t' n' b h=>?_,fun t n t' n' b h h'=>?_,fun k o h=>?_,R.OA,fun k o t n h h'=>?_,R.out,fun p h=>⟨nc _ _ _ (R.pin p h).1,by
  rcases(R.pin p h).2 with ry|⟨H1,h1⟩
  ·exact .inl ⟨ry.1,(ib.z _ _ _ (R.pin p h).1).trans ry.2⟩
  refine .inr ?_;by_cases e:0=d/\0=s.next
  ·exact⟨H,by rw[<- e.1,<- e.2]at kr;exact kr⟩
  ·exact⟨H1,zn _ _ _ e h1⟩⟩,R.kept.FA hb,R.base,fun t' n' S1 h=>?_,fun t' n' H1 h=>?_,fun t=>sD.held ib hA hB _ _ (R.gen t),R.CA⟩,rb,?_⟩
 ·obtain⟨h0,b,cur,ty,h1,h2,h3,h8,h9⟩:=R.rows t' n' r hr;have ua:¬(t'=d/\n'=s.next):=fun e=>by
   simp_all
  exact⟨zn _ _ _ ua h0,b,cur,ty,nc _ _ _ h1,(hb.block b (DC h2)).trans h2,h3.held ib hA (fun _ _ h=>h),h8,h9.trans (jj _).symm⟩
 ·rcases hf _ _ _ h with ⟨e1,e2,e⟩ | ⟨_,h⟩
  ·subst e;exact⟨.inl (by omega),O.lt bc (O.main bc),.inr ⟨e2,.inr e1⟩⟩
  ·obtain⟨h1,h2,h3⟩:=R.mine t' n' b h;exact⟨h1,by omega,h3.imp id fun⟨e,d⟩=>⟨e,.inl d⟩⟩
 ·rcases hf _ _ _ h with ⟨e1,e2,e⟩ | ⟨_,h⟩ <;> rcases hf _ _ _ h' with ⟨g1,g2,g⟩ | ⟨_,h'⟩
  ·omega
  ·have:=(R.mine _ _ _ h').2.1;omega
  ·have:=(R.mine _ _ _ h).2.1;omega
  ·exact R.inj t n t' n' b h h'
 ·obtain⟨h1,h2,h3,h4,db,h5,h6⟩:=R.tok k o h;exact⟨h1,h2,h3,h4,db,(hb.block _ (DC h5)).trans h5,h6⟩
 ·obtain ⟨_,_,_,_,db,h5,_⟩:=R.tok k o h;have fa:=DC h5;rcases hf _ _ _ h' with ⟨_,_,e⟩ | ⟨_,h'⟩
  ·omega
  ·exact R.apart k o t n h h'
 ·simp only [OC.setObj] at h;split at h
  ·rename_i e;injection h with h;subst h;exact⟨p,H,by rw[e.1,e.2];exact rb,by rw[e.1,e.2];exact kr,bc,bj.keep rg fun x hx=>hx⟩
  ·rename_i e;obtain⟨p1,H1,h1,h2,h3,h4⟩:=R.WA t' n' S1 h;exact⟨p1,H1,nc _ _ _ h1,zn _ _ _ e h2,O.keep h3 (fun b na=>hb.block b (O.lt h3 na)) ra,h4.keep rg fun x hx=>(hb.block _ (DC hx)).trans hx⟩
 ·rcases ho _ _ _ h with ⟨e1,e2,e⟩ | ⟨_,h⟩
  ·subst e;refine ⟨fun b na=>⟨.inl (by have:=hH b na; omega),O.lt bc na,fun t1 n1 h2=>?_,fun k o h2 e=>?_,fun t1 n1 H2 h2 h3=>?_⟩,.inr ⟨e2,.inr e1⟩⟩
   ·have:=hH b na;rcases hf _ _ _ h2 with ⟨g1,g2,_⟩ | ⟨_,h2⟩
    ·omega
    ·have:=(R.mine _ _ _ h2).2.1;omega
   ·have:=hH b na;obtain⟨_,_,_,_,db,h5,_⟩:=R.tok k o h2;have:=DC h5;omega
   ·have:=hH b na;rcases ho _ _ _ h2 with ⟨g1,g2,_⟩ | ⟨_,h2⟩
    ·omega
    ·have:=((R.obs _ _ _ h2).1 b h3).2.1;omega
  ·obtain ⟨h1,h2⟩:=R.obs t' n' H1 h;refine ⟨fun b na=>?_,h2.imp id fun ⟨e,d⟩=>⟨e,.inl d⟩⟩;obtain ⟨g1,g2,g3,g4,g5⟩:=h1 b na;refine ⟨g1,by omega,fun t1 n1 h2=>?_,g4,fun t1 n1 H2 h2 h3=>?_⟩
   ·grind
   ·grind
 ·refine aD.less fun b o h=>?_
  rcases h with h|h|h
  ·exact .inl (.inl h)
  ·rcases h with ⟨t',n',h⟩ | ⟨t',n',H1,h,h2⟩
   ·rcases hf _ _ _ h with ⟨_,_,e⟩ | ⟨_,h⟩
    ·subst e;exact .inr (O.main bc)
    ·exact .inl (.inr (.inl (.inl ⟨t',n',h⟩)))
   ·rcases ho _ _ _ h with ⟨_,_,e⟩ | ⟨_,h⟩
    ·simp_all
    ·exact .inl (.inr (.inl (.inr ⟨t',n',H1,h,h2⟩)))
  ·exact .inl (.inr (.inr h))
theorem IP {s:OC}{cl:Cl}:∀{xs:List KD}{vs:List AV},pG s cl xs=some vs->PI vs=false
 | [],vs,h=>by injection h with h;subst h;rfl
 |x::r,vs,h=>by
  unfold pG at h;split at h
  ·rename_i v us hv hr;injection h with h;subst h;cases v with
   |undef =>
    exfalso;unfold qI at hv;split at hv
    ·obtain⟨_,_,hv⟩:=ye.1 hv;cases hv
    unfold EU at hv;split at hv
    ·split at hv
     ·obtain⟨_,_,hv⟩:=ye.1 hv;cases hv
     ·cases hv
    ·injection hv with hv;cases hv
    ·injection hv with hv;cases hv
    ·split at hv
     ·injection hv with hv;cases hv
     ·cases hv
    ·split at hv
     ·rename_i hf;injection hv with hv;rw[hv]at hf;cases hf
     ·cases hv
   |_=>rfl
  ·cases h
theorem LD.wd (R:LD P O nt B F0 da w0 D s a w ι Θ):O.wd w:=O.wdk R.base.2.1 R.kept R.base.2.2
theorem LD.lo (R:LD P O nt B F0 da w0 D s a w ι Θ){b:Nat}(h:B<=b\/F0.b b):O.lo<=b:=by
 rcases h with h|h
 ·have:=O.wdl R.base.2.1;have:=R.base.1;omega
 ·exact R.base.2.2 b h
section
variable (R:LD P O nt B F0 da w0 D s a w ι Θ)
include R
theorem LD.MB:O.low (fun _=>False) (uE da ι Θ) w:=⟨⟨R.wd,fun _ h=>h.elim⟩,fun b o h=>R.low h⟩
theorem LD.lowH {t n:Nat}{H:Nat->Prop}(h:ι.ob t n=some H):O.low H (uE da ι Θ) w:=⟨⟨R.wd,fun b hb=>R.lo (((R.obs t n H h).1 b hb).1)⟩,fun b o h=>R.low h⟩
theorem LD.lowR {t n p:Nat}(h:ι t n=some p):O.low (fun b=>b=p) (uE da ι Θ) w:=⟨⟨R.wd,fun b hb=>by subst hb;exact R.lo (R.mine t n b h).1⟩,fun b o h=>R.low h⟩
theorem Wn {call:DD}(ma:∀f args S r,call f args S=some r->gE P O f args S r){f:FuncId}{Xs:Array Operand}{ts:Array TypeId}{xs:List KD}(hx:NH Xs.toList=some xs)(ho:o.op=.call { callee:=.value (.func f),args:=Xs,argTypes:=ts })(hd:∀d,o.dst=some d->d<nt)(hD:∀d,o.dst=some d->¬D d){cl:Cl}{xe:WC×rF}(hr:(K.call cl f xs).run call s=some xe) {g} {s':OC} (he:JC.eff ⟨o.dst,.call cl f xs,g⟩ s xe=some s')
  {Kn:Act->World->Prop} {Q:Exit->Act->World->Prop} (hK:∀a' w',JF P O nt B F0 da w0 (fun t=>D t\/o.dst=some t) s' a' w'->Kn a' w'):o.wp P a w Kn Q:=by
 simp only[K.run]at hr;obtain⟨vs,hl,hr⟩:=y5.1 hr;have le:(Xs.toList.map a.eval).toArray=Xs.map a.eval:=by rw[<- Array.toList_map,yK]
 have run:∀{S0:Option AV}{r:RV},L4 P O f vs S0 r->(execOp a.eval o).run P w=.ok (.enter f (Xs.map a.eval)) w:=fun h=>by
  simp only[execOp,ho,resolve,Act.eval,Deferred.ofValue,Sem.run_bind,Sem.run_pure,Result.andThen_ok,invoke];have:=h.1 (#[]++Xs.map a.eval++#[]) w;simp_all
 have ar:∀b o,uE da ι Θ b o->b<w.heap.size:=fun b o h=>R.low h
 split at hr
 ·rename_i sf;have nob:∀x∈xs,∀t n,x.get s=.ptr t n 0->False:=fun x hx t n h=>by
   have:(t,n)∈SI s xs:=List.mem_filterMap.2 ⟨x,hx,by rw[h]⟩;simp_all
  have gb:=dJ (ι':=Ix.none) (avl:=fun _ _=>False) R (fun _ _ h=>h.elim) hx hl fun x hx t n h=>(nob x hx t n h).elim
  obtain⟨r,hc,hr⟩:=y5.1 hr;have la:=(gE.of (IP hl)).1 (ma f vs none r hc);obtain⟨r1,r2⟩:=r;unfold Oper.wp;rw[run la,Oper.upon_enter];cases r2 with
  |none =>
   simp only at hr;split at hr
   ·cases hr;simp only[JC.eff]at he;cases he;have hC:=la.2 (uE da ι Θ) w _ R.MB gb;rw[le]at hC;refine hC.mono ?_;rintro e w' ⟨v,rfl,hv,hb⟩;have R':LD P O nt B F0 da w0 D s a w' ι Θ:=R.grow (fun b na=>hb.block b na) hb.size (R.kept.FA hb);exact hK _ _ ⟨ι,Θ,(R'.MA (x:=⟨_,.no⟩) hd (AM hv) trivial).more fun _ h=>.inl h⟩
   ·cases hr
  |some S' =>
   simp only at hr;split at hr
   ·rename_i sm;cases hr;simp only [JC.eff] at he;split at he
    ·cases he
    ·rename_i d ba;cases he;have hC:=la.2 (uE da ι Θ) w _ R.MB gb;rw[le]at hC;refine hC.mono ?_;rintro e w' ⟨v,p,H',rfl,hv,bc,hH,hb⟩;obtain⟨ι',R2,hι,gd⟩:=R.newObj (d:=d) hb (hD d ba) bc (S6.no sm.2.2) hH;rw[ba];refine hK _ _ ⟨ι',Θ,(R2.put (x:=⟨_,.no⟩) (hd d ba) (Mi (E9.held gd hv) hι sm.1) trivial).more fun t h=>h.imp id fun e=>by rw[ba,e]⟩
   ·cases hr
 ·rename_i t n aj;obtain ⟨r,hc,hr⟩:=y5.1 hr;obtain ⟨r1,r2⟩:=r;cases r2 with
  |none=>cases hr
  |some S' =>
   simp only at hr;split at hr
   ·rename_i aa;cases hr;simp only[JC.eff]at he;cases he;obtain⟨S,hS⟩:=Option.isSome_iff_exists.1 aa.2.1;rw[hS]at hc;have la:=(gE.of (IP hl)).1 (ma f vs (some S) _ hc);obtain⟨p,H,hp,eb,bc,_⟩:=R.WA t n S hS;have gb:=dJ (ι':=Ix.one p) (avl:=fun b _=>H b) R (fun b _ h=>⟨t,n,H,eb,h⟩) hx hl fun x hx t' n' h=>by
     have:(t',n')∈SI s xs:=List.mem_filterMap.2 ⟨x,hx,by rw[h]⟩;rw[aj]at this;have:=List.mem_singleton.1 this;injection this with e1 e2;rw[e1,e2,hp];rfl
    unfold Oper.wp;rw[run la,Oper.upon_enter];have hC:=la.2 (uE da ι Θ) w _ p H (R.lowH eb) (fun b o h=>.inr (.inl (.inr ⟨t,n,H,eb,h⟩))) bc gb;rw[le]at hC;refine hC.mono ?_;rintro e w' ⟨v,H',rfl,hv,ai,hH,hk⟩;obtain⟨ι',R',gd⟩:=R.DB hp eb ai (S6.no aa.2.2) hH hk;refine hK _ _ ⟨ι',Θ,(R'.MA (x:=⟨_,.no⟩) hd (AM (gG.held gd _ _ hv)) trivial).more fun _ h=>.inl h⟩
   ·cases hr
 ·cases hr
theorem Aj {call:DD}(ma:∀f args S r,call f args S=some r->gE P O f args S r){tf:Nat}{Xs:Array Operand}{ts:Array TypeId}{xs:List KD}(hx:NH Xs.toList=some xs)(ho:o.op=.call { callee:=.value (.tmp tf),args:=Xs,argTypes:=ts })(hd:∀d,o.dst=some d->d<nt){cl:Cl}{xe:WC×rF}(hr:(K.RA cl (.t tf) xs).run call s=some xe) {g} {s':OC} (he:JC.eff ⟨o.dst,.RA cl (.t tf) xs,g⟩ s xe=some s')
  {Kn:Act->World->Prop} {Q:Exit->Act->World->Prop} (hK:∀a' w',JF P O nt B F0 da w0 (fun t=>D t\/o.dst=some t) s' a' w'->Kn a' w'):o.wp P a w Kn Q:=by
 simp only[K.run,KD.get]at hr;have hF:=R.env tf;split at hr
 ·rename_i f cs rl;rw [rl] at hF;obtain ⟨us,dd,uh⟩:=hF;split at hr
  ·rename_i vs ws hl hw sf;have ar:∀ b o,uE da ι Θ b o->b<w.heap.size:=fun b o h=>R.low h
   have nob:∀x∈xs,∀t n,x.get s=.ptr t n 0->False:=fun x hx t n h=>by
    have:(t,n)∈SI s xs:=List.mem_filterMap.2 ⟨x,hx,by rw[h]⟩;simp_all
   have gb:=dJ (ι':=Ix.none) (avl:=fun _ _=>False) R (fun _ _ h=>h.elim) hx hl fun x hx t n h=>(nob x hx t n h).elim
   have hcaps:=N2 (MV hw) (zT (ι':=Ix.none) (avl:=fun _ _=>False) R (fun _ _ h=>h.elim) uh hw);have mb:=ZW gb hcaps;obtain⟨r,hc,hr⟩:=y5.1 hr;have hm:PI (vs++ws)=false:=by
    cases vs with
    |cons v r=>have:=IP hl;cases v<;>first|rfl|exact this
    |nil =>
     cases ws with
     |nil=>rfl
     |cons v r =>
      have:=MV hw v (yl);cases v<;>first|rfl|(simp[AV.bB]at this;done)
   have la:=(gE.of hm).1 (ma f (vs++ws) none r hc);obtain⟨r1,r2⟩:=r;cases r2 with
   |some S'=>cases hr
   |none =>
    simp only at hr;split at hr
    ·cases hr;simp only[JC.eff]at he;cases he;have le:(Xs.toList.map a.eval++us.toList).toArray=Xs.map a.eval++us:=by
      simp_all
     have run:(execOp a.eval o).run P w=.ok (.enter f (Xs.map a.eval++us)) w:=by
      have hev:a.eval (.tmp tf)=.func (.func f) #[] us:=dd;simp only[execOp,ho,resolve,hev,Deferred.ofValue,Sem.run_bind,Sem.run_pure,Result.andThen_ok,invoke];have:=la.1 (#[]++Xs.map a.eval++us) w;simp_all
     unfold Oper.wp;rw[run,Oper.upon_enter];have hC:=la.2 (uE da ι Θ) w _ R.MB mb;rw[le]at hC;refine hC.mono ?_;rintro e w' ⟨v,rfl,hv,hb⟩;have R':LD P O nt B F0 da w0 D s a w' ι Θ:=R.grow (fun b na=>hb.block b na) hb.size (R.kept.FA hb);exact hK _ _ ⟨ι,Θ,(R'.MA (x:=⟨_,.no⟩) hd (AM hv) trivial).more fun _ h=>.inl h⟩
    ·cases hr
  ·cases hr
 ·cases hr
theorem Qz {t t':TypeId}{k:IntKind}(ht:P.underlying t=some (.int k))(mz:P.underlying t'=some .string){X:Operand}{x:KD}(hx:uA X=some x)(ho:o.op=.convert t t' X)
  {call} {y:WC} {e:rF} (hr:(K.BB x).run call s=some (y,e)):e=.none/\BT P da a w ι Θ o y:=by
 have hX:=(R.uA hx).1;simp only[K.run]at hr;split at hr
 ·rename_i k' n hy;injection hr with hr;injection hr with h1 h2;subst h1;subst h2;rw[hy,QD]at hX;exact⟨rfl,.string (Utf8.encode n),by simp[execOp,ho,convert,run_underlying ht,run_underlying mz,hX,Conv.intToString],by rw[mI],trivial⟩
 ·cases hr
end
theorem qU {av:Av}:∀{m:List (List AV)}{bs:List UInt8}{us:List Value},bytesOf m=some bs->JE av w m.flatten us->∃ns:List Int,us=ns.map (Value.int .u8)/\bs=ns.map (fun n=>UInt8.ofNat n.toNat)/\∀c∈m,c.length=1
 | [],bs,us,hb,h=>by
  injection hb with hb;subst hb;cases h;exact⟨[],rfl,rfl,by simp⟩
 |c::r,bs,us,hb,h=>by
  unfold bytesOf at hb;split at hb
  ·rename_i n l hr;injection hb with hb;subst hb;simp only [yA,yv,yF,JE] at h;obtain ⟨u,oa,rfl,h0,_,h⟩:=h;obtain ⟨ns,e1,e2,e3⟩:=qU hr h;refine ⟨n :: ns,?_,by rw [e2]; rfl,?_⟩
   ·simp only[gG]at h0;rw[h0,e1];rfl
   ·intro c hc;rcases yh.1 hc with rfl | hc
    ·rfl
    ·exact e3 c hc
  ·cases hb
theorem j4:∀(ns:List Int)(acc:ByteArray),ns.foldl (fun r n=>r.push (UInt8.ofNat n.toNat)) acc=⟨acc.data++(ns.map fun n=>UInt8.ofNat n.toNat).toArray⟩
 | [],acc=>by simp
 |n::r,acc=>by
  rw[List.foldl_cons,j4 r];congr 1;apply Array.ext';simp[ByteArray.push]
theorem Zl (R:LD P O nt B F0 da w0 D s a w ι Θ){t t' e':TypeId}(ht:P.underlying t=some (.slice e'))(fg:P.underlying e'=some (.int .u8))(mz:P.underlying t'=some .string){X:Operand}{x:KD}(hx:uA X=some x)(ho:o.op=.convert t t' X)
  {call} {cl:Cl} {y:WC} {e:rF} (hr:(K.xB cl x).run call s=some (y,e)):e=.none/\BT P da a w ι Θ o y:=by
 have hX:=(R.uA hx).1;simp only[K.run]at hr;split at hr
 ·rename_i m hm;obtain⟨bs,mo,hr⟩:=ye.1 hr;injection hr with h1 h2;subst h1;subst h2;have hlen1:∀c∈m,c.length=1:=by
   clear hX hm hr
   induction m generalizing bs with
   |nil=>simp
   |cons c r ih =>
    unfold bytesOf at mo
    grind
  obtain⟨us,pb,hl,A,c,hv,hc,nb⟩:=oO R hX hm (sz:=1) (by omega) hlen1;obtain⟨ns,e1,e2,_⟩:=qU mo pb;refine⟨rfl,.string ⟨bs.toArray⟩,?_,by rw[mI],trivial⟩;have hns:ns.length=m.length:=by rw[e1]at hl;simpa using hl
  simp only[execOp,ho,hv,Sem.run_bind];rw[run_convert_bytes_string w t t' e' A m.length c ht fg mz];cases A with
  |none =>
   rcases yG m.length with h0|h0
   ·have:ns=[]:=yJ (by omega);subst this;subst e2;simp[Conv.bytesToString];rfl
   ·simp_all
  |some a' =>
   have af:(loadCells a' m.length).run P w=.ok (ns.map (Value.int .u8)).toArray w:=by
    have:=run_loadCells_list (P:=P) w a' (ns.map (Value.int .u8)) (fun j v hj=>by
     have zo:j<m.length:=by
      grind
     obtain⟨b,off,hA,_,_,ed⟩:=nb (by omega);cases hA;rw[Addr.add_lit];rw[<- e1]at hj;exact ed j v hj)
    simp_all
   rw[run_bytesToString w a' m.length c ns af,j4];simp_all
 ·cases hr
theorem K2 {t e:TypeId}{z n:Nat}(ht:P.underlying t=some (.array n e))(hz:fE P e=some z){b off:Nat}{L H:Option Operand}{l h:Nat}(hl:OY a 0 L (L.map a.eval,l))(hh:OY a n H (H.map a.eval,h))(h1:l<=h)(h2:h<=n):
  (Instr.sliceAt t (.pointer (some ⟨b,off,none⟩)) (L.map a.eval) (H.map a.eval) none).run P w=.ok (.slice (some (if n=l then⟨b,off,none⟩else⟨b,off+l*z,none⟩)) (h-l) (n-l)) w:=by
 cases L with
 |none =>
  obtain⟨_,rfl⟩:=hl;cases H with
  |none =>
   obtain⟨_,rfl⟩:=hh;simp[Instr.sliceAt,Instr.sureAddr,Instr.sliceBounds,run_underlying ht,EE hz,Addr.add_lit]
  |some x =>
   obtain⟨_,k,i,hx,h0,rfl⟩:=hh;have:0<=i/\i<=(n:Int):=⟨h0,by omega⟩;simp[Instr.sliceAt,Instr.sureAddr,Instr.sliceBounds,Instr.sliceBound,run_underlying ht,EE hz,hx,asIntOf,this,Addr.add_lit]
 |some y =>
  obtain⟨_,k',i',hy,cf,rfl⟩:=hl;cases H with
  |none =>
   obtain⟨_,rfl⟩:=hh;have:0<=i'/\i'<=(h:Int):=⟨cf,by omega⟩;simp[Instr.sliceAt,Instr.sureAddr,Instr.sliceBounds,Instr.sliceBound,run_underlying ht,EE hz,hy,asIntOf,this,Addr.add_lit]
  |some x =>
   obtain⟨_,k,i,hx,h0,rfl⟩:=hh;have h3:0<=i/\i<=(n:Int):=⟨h0,by omega⟩;have h4:0<=i'/\i'<=i:=⟨cf,by omega⟩;have h5:((i.toNat:Nat):Int)=i:=by omega
   simp[Instr.sliceAt,Instr.sureAddr,Instr.sliceBounds,Instr.sliceBound,run_underlying ht,EE hz,hy,hx,asIntOf,h3,h4,h5,Addr.add_lit]
section
variable (R:LD P O nt B F0 da w0 D s a w ι Θ)
include R
theorem Ll {t e':TypeId}{n z:Nat}(ht:P.underlying t=some (.array n e'))(hz:fE P e'=some z){X:Operand}{L H:Option Operand}{x:KD}{l h:Option KD}(hx:uA X=some x)(hl:BX L=some l)(hh:BX H=some h)
  (ho:o.op=.slice t X L H none) {call} {cl:Cl} {y:WC} {e:rF} (hr:(K.PB cl n z x l h).run call s=some (y,e)):e=.none/\BT P da a w ι Θ o y:=by
 have hX:=(R.uA hx).1;simp only[K.run]at hr;split at hr
 ·rename_i t' n' off hy;split at hr
  ·rename_i lo hi r ey ro hm;have hL:=sM R hl ey;have hH:=sM R hh ro;rw [hy,lH] at hX;obtain ⟨b,hb,hv⟩:=hX;obtain ⟨_,b',cur,ty,na,ia,ka,_,mh⟩:=R.rows t' n' r hm;rw [hb] at na;injection na with na;subst na;split at hr
   ·rename_i aa;obtain ⟨h1,h2,jg,h3,_⟩:=aa;have ca:=K2 (w:=w) (b:=b) (off:=off) ht hz hL hH h1 h2;split at hr
    ·rename_i heq;injection hr with hr;injection hr with e1 e2;subst e1;subst e2;refine⟨rfl,.slice (some (if n=lo then⟨b,off,none⟩else⟨b,off+lo*z,none⟩)) (hi-lo) (n-lo),by simp only[execOp,ho,hv,Option.map_none,Sem.run_bind,ca,Result.andThen_ok,Sem.run_pure],?_,trivial⟩;simp only[XF,gG];refine⟨some (if n=lo then⟨b,off,none⟩else⟨b,off+lo*z,none⟩),n-lo,by rw[heq];simp,by simp,by simp,by simp,fun _=>⟨by simp,by simp⟩⟩
    ·rename_i ua;injection hr with hr; injection hr with e1 e2; subst e1; subst e2;refine ⟨rfl,.slice (some (if n=lo then ⟨b,off,none⟩ else ⟨b,off + lo * z,none⟩)) (hi - lo) (n - lo),by simp only [execOp,ho,hv,Option.map_none,Sem.run_bind,ca,Result.andThen_ok,Sem.run_pure],?_,trivial⟩;rw [jJ];refine ⟨b,hb,by omega,n - lo,yg _,?_,by rw [if_neg (by omega)]⟩;have:(n - lo) * z + lo * z=n * z:=by rw [<- Nat.add_mul]; congr 1; omega
     have:=ka.1;omega
   ·cases hr
  ·cases hr
 ·cases hr
theorem val_mkf {f:FuncId}{fs Xs:Array Operand}(hfs:fs.size=0){xs:List KD}(hx:NH Xs.toList=some xs)(ho:o.op=.makeFunc (.func f) fs Xs)
  {call} {y:WC} {e:rF} (hr:(K.jC f xs).run call s=some (y,e)):e=.none/\BT P da a w ι Θ o y:=by
 simp only[K.run]at hr;split at hr
 ·rename_i mb;injection hr with hr;injection hr with e1 e2;subst e1;subst e2;have key:∀{Xs:List Operand}{xs:List KD},NH Xs=some xs->xs.all (fun x=>(x.get s).bB)=true->CI ι (uE da ι Θ) (zE ι Θ) w (xs.map (·.get s)) (Xs.map a.eval):=by
   intro Xs
   induction Xs with
   |nil=>intro xs h _;injection h with h;subst h;rfl
   |cons X r ih =>
    intro xs h hc;unfold NH at h;split at h
    ·rename_i x l h1 h2;cases h;simp only[List.all_cons,y9]at hc;refine⟨_,_,rfl,?_,ih h2 hc.2⟩;have hX:=(R.uA h1).1;have hk:=hc.1;show lX ι (uE da ι Θ) (zE ι Θ) w (x.get s) (a.eval X);cases hg:x.get s<;>rw[hg]at hX hk<;>first|exact hX|(simp[AV.bB]at hk;done)
    ·cases h
  have hfs0:fs=#[]:=Array.eq_empty_of_size_eq_zero hfs;refine⟨rfl,.func (.func f) #[] (Xs.map a.eval),by simp[execOp,ho,Instr.makeFunc,hfs0],⟨Xs.map a.eval,rfl,?_⟩,trivial⟩;simp_all
 ·cases hr
theorem LD.turnRow {t n b:Nat}(hb:ι t n=some b)(zc:ι.ob t n=none){r:List WC}{new:Array Value}{gl:TypeId}(bc:w'.heap[b]?=some (.cells new gl (0,0)))(hk:cE (fun k=>k=b) w w')(ka:QF ι Θ (uE da ι Θ) w' r new)(bh:B<=b\/F0.r b)(hnz:new.size=ι.z b):
  LD P O nt B F0 da w0 D (s.setRow t n r) a w' ι Θ:=by
 have ua:∀b',b'<w.heap.size->b'≠b->w'.heap[b']?=w.heap[b']?:=fun b' h1 h=>hk.block b' h1 h
 have hB:aD (zE ι Θ) (zE ι Θ) w w':=⟨fun b' o u hc hn=>by
  have:b'≠b:=fun e=>hn (.inl (.inl ⟨t,n,e▸hb⟩))
  exact⟨(World.cell?_of_block (w:=w) (a:=⟨b',o,none⟩) (ua b' (MG hc) this)).trans hc,hn⟩⟩
 have hA:aD (uE da ι Θ) (uE da ι Θ) w w':=⟨fun b' o u hc hn=>by
  have:b'≠b:=fun e=>hn (.inr (.inl (.inl ⟨t,n,e▸hb⟩)))
  exact⟨(World.cell?_of_block (w:=w) (a:=⟨b',o,none⟩) (ua b' (MG hc) this)).trans hc,hn⟩⟩
 have ir:=R.mine t n b hb;have ra:=hk.size;refine⟨R.defers,R.size,fun t=>sD.held (Ix.Le.refl _) hA hB _ _ (R.env t),R.ZB,fun t' n' r' hr=>?_,fun t n b h=>?_,R.inj,fun k o h=>?_,R.OA,R.apart,R.out,R.pin,?_,R.base,fun t' n' S h=>?_,fun t n H h=>(R.obs t n H h).grow ra,fun t=>sD.held (Ix.Le.refl _) hA hB _ _ (R.gen t),R.CA⟩
 ·simp only [OC.setRow] at hr;split at hr
  ·rename_i e;simp_all
  ·rename_i e;obtain ⟨h0,b',db,gl,h1,h2,h3,h4⟩:=R.rows t' n' r' hr;have:b'≠b:=fun e'=>e (R.inj _ _ _ _ _ (e' ▸ h1) hb)
   exact⟨h0,b',db,gl,h1,(ua b' (DC h2) this).trans h2,h3.held (Ix.Le.refl _) hA (fun _ _ h=>h),h4⟩
 ·obtain⟨h1,h2,h3⟩:=R.mine t n b h;exact⟨h1,by omega,h3⟩
 ·obtain ⟨h1,h2,h3,h4,db,h5,h6⟩:=R.tok k o h;have:o.g≠b:=fun e=>R.apart k o t n h (e ▸ hb)
  grind
 ·refine R.kept.trans hk fun i hi h=>?_
  subst h;rcases ir.1 with h|h
  ·have:=R.base.1;omega
  ·exact h
 ·obtain⟨p,H,h1,h2,h3,h4⟩:=R.WA t' n' S h;have cn:∀b',H b'->b'≠b:=fun b' hH e=>by
   subst e;have:=((R.obs _ _ _ h2).1 _ hH).2.2.1 t n hb;simp_all
  exact⟨p,H,h1,h2,O.keep h3 (fun b' hH=>ua b' (O.lt h3 hH) (cn b' hH)) ra,h4.keep (fun t n b H h g=>⟨h,H,g⟩) fun x hx=>(ua _ (DC hx) (cn _ (O.main h3))).trans hx⟩
end
theorem pZ (R:LD P O nt B F0 da w0 D s a w ι Θ){t n p z:Nat}(hp:ι t n=some p)(hz:ι.z p=z){cl:Cl}:∀{Xs:List Operand}{xs:List KD}{vs:List AV},NH Xs=some xs->SE s cl t n xs=some vs->KK (Ix.row p z) (uE da ι Θ) (fun b _=>b=p) w vs (Xs.map a.eval)
 | [],xs,vs,h,hl=>by
  injection h with h;subst h;injection hl with hl;subst hl;rfl
 |X::Xs,xs,vs,h,hl=>by
  unfold NH at h;split at h
  ·rename_i x l hx hr;injection h with h;subst h;unfold SE at hl;split at hl
   ·rename_i v wt hv py;injection hl with hl;subst hl;refine ⟨_,_,rfl,?_,pZ R hp hz hr py⟩;have hX:=(R.uA hx).1;have hB:∀ (b o:Nat),b=p->zE ι Θ b o:=fun b o h=>.inl (.inl ⟨t,n,h ▸ hp⟩)
    unfold eH at hv;split at hv
    ·rename_i t' n' off hg;split at hv
     ·rename_i e;injection hv with hv;subst hv;rw[hg,e.1,e.2]at hX;obtain⟨b,hb,hv⟩:=lH.1 hX;rw[hp]at hb;injection hb with hb;subst hb;exact⟨p,rfl,hv⟩
     ·cases hv
    ·rename_i t' n' sz off len cap hg;split at hv
     ·rename_i e;injection hv with hv;subst hv;rw[hg,e.1,e.2]at hX;obtain⟨b,hb,h1,c,h2,h3,hv⟩:=jJ.1 hX;rw[hp]at hb;injection hb with hb;subst hb;exact⟨p,rfl,h1,c,h2,by rw[hz]at h3;exact h3,hv⟩
     ·rename_i e;rw [hg] at hX;refine qW R hB (fun t1 n1 b o ju _ ⟨sz1,off1,len1,cap1,hy⟩ h=>e ?_) hX hv fun t n h=>by cases h
      injection hy with e1 e2;subst h;exact R.inj _ _ _ _ _ (by rw[e1,e2];exact ju) hp
    ·rename_i f cs hg;split at hv
     ·rename_i hc;injection hv with hv;subst hv;rw[hg,List.isEmpty_iff.1 hc]at hX;exact hX
     ·cases hv
    ·rename_i y h1 h2 h3;exact qW R hB (fun t1 n1 b o _ _ ⟨sz1,off1,len1,cap1,hy⟩=>absurd hy (h2 _ _ _ _ _ _)) hX hv fun t n h=>absurd h (h1 _ _ _)
   ·cases hl
  ·cases h
theorem Ht {av:Av}{cs:List AV}{us:List Value}(h:JE av w cs us){cur:Array Value}(hc:∀(j:Nat) (u:Value),us[j]?=some u->cur[j]?=some u):QF ι Θ av w (cs.map fun v=>⟨v,lD v⟩) cur:=by
 have h0:=Ik (ι:=ι) (Θ:=Θ) h hc;refine⟨by simpa using h0.1,fun j x hx=>?_⟩;rw[yb]at hx;obtain⟨v,hv,rfl⟩:=ye.1 hx;obtain⟨u,h1,h2,h3,_⟩:=h0.2 j ⟨v,.no⟩ (by rw[yb,hv];rfl);refine⟨u,h1,h2,h3,?_⟩;unfold lD;split
 ·rename_i b l hh;simp only at h3;obtain⟨A,c,hv,_,_,hn,_⟩:=(by simpa [gD,gG]using h3:gG av w (.sl true _) u);obtain⟨rfl,e1,rfl⟩:=hn rfl;exact⟨none,0,by rw[hv,e1]⟩
 ·trivial
theorem Pj (R:LD P O nt B F0 da w0 D s a w ι Θ){call:DD}(ma:∀f args S r,call f args S=some r->gE P O f args S r){f:FuncId}{Xs:Array Operand}{ts:Array TypeId}{xs:List KD}(hx:NH Xs.toList=some xs)(ho:o.op=.call { callee:=.value (.func f),args:=Xs,argTypes:=ts })(hd:∀d,o.dst=some d->d<nt){cl:Cl}{xe:WC×rF}(hr:(K.dA cl f xs).run call s=some xe) {g} {s':OC} (he:JC.eff ⟨o.dst,.dA cl f xs,g⟩ s xe=some s')
  {Kn:Act->World->Prop} {Q:Exit->Act->World->Prop} (hK:∀a' w',JF P O nt B F0 da w0 (fun t=>D t\/o.dst=some t) s' a' w'->Kn a' w'):o.wp P a w Kn Q:=by
 simp only[K.run]at hr;split at hr
 ·rename_i t n _;split at hr
  ·split at hr
   ·rename_i r vs hm hl;split at hr
    ·rename_i mb;obtain ⟨q,hc,hr⟩:=y5.1 hr;split at hr
     ·rename_i cs hq;split at hr
      ·rename_i aa;cases hr;simp only[JC.eff]at he;cases he;obtain⟨q1,q2⟩:=q;simp only at hq;subst hq;obtain⟨zc,p,cur,ty,hp,ia,ka,bh,mh⟩:=R.rows t n r hm;have la:Z4 P O f vs (some (.agg (r.map (·.v)))) (q1,some (.agg cs)):=ma f (.undef :: .undef::vs) _ _ hc;have oe:∀x∈r.map (·.v),x.iA=true:=fun x hx=>by
        grind
       have le:(Xs.toList.map a.eval).toArray=Xs.map a.eval:=by rw[<- Array.toList_map,yK]
       have run:(execOp a.eval o).run P w=.ok (.enter f (Xs.map a.eval)) w:=by
        simp only[execOp,ho,resolve,Act.eval,Deferred.ofValue,Sem.run_bind,Sem.run_pure,Result.andThen_ok,invoke];have:=la.1 (#[]++Xs.map a.eval++#[]) w;simp_all
       unfold Oper.wp;rw[run,Oper.upon_enter];have hC:=la.2 (uE da ι Θ) w _ p cur ty (R.lowR hp) (fun o=>.inr (.inl (.inl ⟨t,n,hp⟩))) ia (by simpa using ka.1) (by simpa using cJ ka.rep oe) (pZ R hp mh.symm hx hl);rw[le]at hC;refine hC.mono ?_;rintro e w' ⟨v,db,gl,rfl,hv,tl,ra,pb,hk⟩;have nk:QF ι Θ (uE da ι Θ) w' (cs.map fun v=>⟨v,lD v⟩) db:=Ht pb fun j u hu=>by
        grind
       have R':=R.turnRow hp zc tl hk nk bh (ra.trans mh);exact hK _ _ ⟨ι,Θ,(R'.MA (x:=⟨_,.no⟩) hd (AM hv) trivial).more fun _ h=>.inl h⟩
      ·cases hr
     ·cases hr
    ·cases hr
   ·cases hr
  ·cases hr
 ·cases hr
end
end
section
open Go Go.RowKit
section
variable {P:Program} {O:XI} {nt B:Nat} {F0:FQ} {da:Av} {w0:World} {D:Nat->Prop} {s:OC} {a:Act} {w w':World} {ι:Ix} {Θ:jM} {o:Oper}
theorem LP {av:Av}{x:AV}(h:x.TA=true):gG av w x x.IA/\x.IA.oneCell'=true:=by
 cases x<;>first|(simp[AV.TA]at h;done)|exact⟨rfl,rfl⟩
theorem FW {av:Av}:∀{cs:List AV},cs.all AV.TA=true->JE av w cs (cs.map AV.IA)
 | [],_=>rfl
 |x::r,h=>by
  simp only[List.all_cons,y9]at h;exact⟨_,_,rfl,(LP h.1).1,(LP (av:=av) (w:=w) h.1).2,FW h.2⟩
theorem TP {av:Av}{x:AV}(h:x.flat=true):gG av w x x.bA:=by
 cases x with
 |agg cs=>exact⟨_,rfl,by simpa using FW (av:=av) (w:=w) h⟩
 |int k n=>exact(LP (x:=.int k n) rfl).1
 |bool b=>exact(LP (x:=.bool b) rfl).1
 |str b=>exact(LP (x:=.str b) rfl).1
 |_=>simp[AV.flat,AV.TA]at h
theorem flat_S {av avb:Av}{x:AV}(h:x.flat=true):sD ι av avb w x x.bA:=by
 have h1:=TP (av:=av) (w:=w) h;cases x with
 |agg cs=>obtain⟨us,hv,hc⟩:=h1;exact⟨us,hv,SF hc⟩
 |_=>first|exact h1|(simp[AV.flat,AV.TA]at h;done)
theorem zU {av avb:Av}{x:AV}{v:Value}(hf:x.flat=true)(h:sD ι av avb w x v):v=x.bA:=by
 cases x with
 |agg cs =>
  obtain⟨us,hv,hc⟩:=h;subst hv;have key:∀{cs:List AV}{us:List Value},cs.all AV.TA=true->iD ι av w cs us->us=cs.map AV.IA:=by
   intro cs
   induction cs with
   |nil=>intro us _ h;simpa [iD]using h
   |cons x r ih =>
    intro us hf h;simp only[iD]at h;obtain⟨u,oa,rfl,h0,_,h⟩:=h;simp only[List.all_cons,y9]at hf;rw[yk,ih hf.2 h];congr 1;cases x<;>first|exact h0|(simp[AV.TA]at hf;done)
  have:=key hf hc;show Value.agg us=.agg (cs.map AV.IA).toArray;rw[<- this,yK]
 |int k n=>exact h
 |bool b=>exact h
 |str b=>exact h
 |_=>simp[AV.flat,AV.TA]at hf
theorem Na {v:Value}{x:AV}(h:Ba v=some x)(hf:x.flat=true):v=x.bA :=
 zU (ι:=Ix.none) (av:=fun _ _=>False) (avb:=fun _ _=>False) (w:=default) hf (Jw h _ _ _ _)
theorem I9 (a b:ByteArray):(a == b)=decide (a=b):=by
 obtain⟨a⟩:=a;obtain⟨b⟩:=b;rw[Bool.eq_iff_iff];simp only[decide_eq_true_eq,ByteArray.mk.injEq];exact beq_iff_eq (α:=Array UInt8)
def cI {κ:Type}[DecidableEq κ](L:List (κ×Value))(n:κ)(m:Nat):Option (Nat×Value):=((L.map (·.1)).idxOf? n).bind fun i=>(L[i]?).map fun p=>(m+i,p.2)
theorem tP {κ:Type}[DecidableEq κ](p:κ×Value)(L:List (κ×Value))(n:κ)(m:Nat):cI (p::L) n m=if n=p.1 then some (m,p.2)else cI L n (m+1):=by
 unfold cI;simp only[yk,List.idxOf?_cons];by_cases hk:n=p.1
 ·subst hk;simp
 ·have hb:(p.1 == n)=false:=by simpa using fun e:p.1=n=>hk e.symm
  simp only[hb,hk,if_false];cases hi:List.idxOf? n (List.map (fun x=>x.1) L)with
  |none=>simp
  |some i=>simp[Nat.add_assoc,Nat.add_comm 1 i]
theorem iX (k:IntKind)(n:Int):∀(es:List MapEntry)(L:List (Int×Value))(m:Nat),es.map (fun e=>(e.key,e.val))=L.map (fun p=>(Value.int k p.1,p.2)) →
   Instr.findNow (.int k) (.int k n) es m=some (cI L n m)
 | [],[],m,_=>by simp[Instr.findNow,cI]
 | [],_::_,_,h=>by simp at h
 |_::_,[],_,h=>by simp at h
 |e::es,p::L,m,h=>by
  simp only[yk,List.cons.injEq,Prod.mk.injEq]at h;obtain⟨⟨h1,h2⟩,h3⟩:=h;have ih:=iX k n es L (m+1) h3;have hs:Instr.sameNow (.int k) (.int k n) e.key=some (n == p.1):=by rw[h1];simp[Instr.sameNow]
  simp only[Instr.findNow,hs,tP];by_cases hk:n=p.1
  ·subst hk;simp[h2]
  ·have na:(n == p.1)=false:=by simpa using hk
   simp only[na,ih,hk,if_false]
theorem pX (n:ByteArray):∀(es:List MapEntry)(L:List (ByteArray×Value))(m:Nat),es.map (fun e=>(e.key,e.val))=L.map (fun p=>(Value.string p.1,p.2)) →
   Instr.findNow .string (.string n) es m=some (cI L n m)
 | [],[],m,_=>by simp[Instr.findNow,cI]
 | [],_::_,_,h=>by simp at h
 |_::_,[],_,h=>by simp at h
 |e::es,p::L,m,h=>by
  simp only[yk,List.cons.injEq,Prod.mk.injEq]at h;obtain⟨⟨h1,h2⟩,h3⟩:=h;have ih:=pX n es L (m+1) h3;have hs:Instr.sameNow .string (.string n) e.key=some (decide (n=p.1)):=by
   rw[h1];simp only[Instr.sameNow,I9]
  simp only[Instr.findNow,hs,tP];by_cases hk:n=p.1
  ·subst hk;simp[h2]
  ·simp only[hk,decide_false,ih,if_false]
theorem S5 {T:TypeId}{k:IntKind}(u:P.underlying T=some (.int k)):gR P T (fun n:Int=>Value.int k n) where
 check empty n w:=by
  have hq:∀(d:Nat),(Instr.checkKey empty (d+1) T (.int k n)).run P w=.ok () w:=fun d=>by simp[Instr.checkKey,run_underlying u]
  exact hq 9999
 find n es L w h:=by
  simp only[Instr.findKey,Sem.run_bind,run_underlying u,Result.andThen_ok,iX k n es L 0 h,cI,yy,Sem.run_pure]
 same n:=by
  have hq:∀(d:Nat),Instr.sameBits (d+1) (.int k n) (.int k n)=true:=fun d=>by simp[Instr.sameBits]
  exact hq 9999
theorem D5 {T:TypeId}(u:P.underlying T=some .string):gR P T Value.string where
 check empty n w:=by
  have hq:∀(d:Nat),(Instr.checkKey empty (d+1) T (.string n)).run P w=.ok () w:=fun d=>by simp[Instr.checkKey,run_underlying u]
  exact hq 9999
 find n es L w h:=by
  simp only[Instr.findKey,Sem.run_bind,run_underlying u,Result.andThen_ok,pX n es L 0 h,cI,yy,Sem.run_pure]
 same n:=by
  have hq:∀(d:Nat),Instr.sameBits (d+1) (.string n) (.string n)=true:=fun d=>by simp[Instr.sameBits,I9]
  exact hq 9999
structure JS (ty:Oa)(κ:Type)[DecidableEq κ](ke:κ->Value)(kx:κ->AV):Prop where
 val:∀a,(kx a).bA=ke a
 eq:∀a b,uT (kx a) (kx b)=decide (a=b)
 of:∀x,PK ty x=true->∃a,x=kx a
 flat:∀a,(kx a).flat=true
section
variable {κ:Type} [DecidableEq κ] {ke:κ->Value} {kx:κ->AV} {ty:Oa}
theorem Z3 (K:JS ty κ ke kx)(n:κ):∀M:List (κ×AV),uM (M.map fun p=>[kx p.1,p.2]) (kx n)=pN M n
 | []=>rfl
 |p::r=>by
  simp only[yk,uM,pN,K.eq,decide_eq_true_eq,Z3 K n r];by_cases h:p.1=n
  ·rw[if_pos h,if_pos h.symm]
  ·rw[if_neg h,if_neg fun e=>h e.symm]
theorem X3 (K:JS ty κ ke kx)(n:κ)(v:AV):∀M:List (κ×AV),EK (M.map fun p=>[kx p.1,p.2]) (kx n) v=(J2 M n v).map fun p=>[kx p.1,p.2]
 | []=>rfl
 |p::r=>by
  simp only[yk,EK,J2,K.eq,decide_eq_true_eq,X3 K n v r];by_cases h:p.1=n
  ·rw[if_pos h,if_pos h.symm];rfl
  ·rw[if_neg h,if_neg fun e=>h e.symm];rfl
theorem GY (g:AV->Value)(n:κ):∀M:List (κ×AV),pN (M.map fun p=>(p.1,g p.2)) n=(pN M n).map g
 | []=>rfl
 |p::r=>by
  simp only[yk,pN,GY g n r];split<;>rfl
theorem B8 (g:AV->Value)(n:κ)(v:AV):∀M:List (κ×AV),J2 (M.map fun p=>(p.1,g p.2)) n (g v)=(J2 M n v).map fun p=>(p.1,g p.2)
 | []=>rfl
 |p::r=>by
  simp only[yk,J2,B8 g n v r];split<;>rfl
theorem K3 (K:JS ty κ ke kx):∀L:List (List AV),uP ty L=true->∃M:List (κ×AV),L=M.map (fun p=>[kx p.1,p.2])/\∀p∈M,p.2.flat=true
 | [],_=>⟨[],rfl,fun _ h=>by cases h⟩
 |e::r,h=>by
  unfold uP at h;simp only[List.all_cons,y9]at h;obtain⟨M,hM,hf⟩:=K3 K r h.2;have h1:=h.1;split at h1
  ·rename_i k v;simp only[y9]at h1;obtain⟨n,rfl⟩:=K.of k h1.1;exact⟨(n,v)::M,by rw[hM];rfl,fun p hp=>by
    rcases yh.1 hp with rfl|hp
    ·exact h1.2
    ·exact hf p hp⟩
  ·cases h1
theorem L3 (K:JS ty κ ke kx)(M:List (κ×AV)):(M.map fun p=>[kx p.1,p.2]).map Ef=(M.map fun p=>(p.1,p.2.bA)).map fun p=>(ke p.1,p.2):=by
 rw[y3,y3];apply yw;intro p _;simp[Ef,K.val]
end
theorem CV (k:IntKind):JS (.some k) Int (fun n=>Value.int k n) (fun n=>.int k n) where
 val _:=rfl
 eq a b:=by simp[uT]
 of x h:=by
  cases x<;>first|(simp[PK]at h;done)|(simp only[PK,decide_eq_true_eq]at h;subst h;exact⟨_,rfl⟩)
 flat _:=rfl
theorem BV:JS .none ByteArray Value.string AV.str where
 val _:=rfl
 eq a b:=by simp[uT]
 of x h:=by
  cases x<;>first|(simp[PK]at h;done)|exact⟨_,rfl⟩
 flat _:=rfl
inductive KV where
 |i (k:IntKind) (n:Int)
 |s (b:ByteArray)
 deriving DecidableEq
def KV.av:KV->AV
 |.i k n=>.int k n
 |.s b=>.str b
def KV.kd:KV->Option IntKind
 |.i k _=>some k
 |.s _=>none
abbrev Sy (l:List (Option IntKind)):={ a:List KV // a.map KV.kd=l }
theorem J3:∀a b:List KV,wZ (a.map KV.av) (b.map KV.av)=decide (a=b)
 | [],[]=>rfl
 | [],b::r=>by cases b<;>rfl
 |a::r,[]=>by cases a<;>rfl
 |a::r,b::r'=>by
  have ih:=J3 r r';cases a<;>cases b<;>simp[KV.av,wZ,ih,Bool.decide_and]
theorem ZV:∀(l:List (Option IntKind))(cs:List AV),UR l cs=true->∃a:List KV,a.map KV.kd=l/\cs=a.map KV.av
 | [],[],_=>⟨[],rfl,rfl⟩
 | [],_::_,h=>by simp[UR]at h
 |k::r,[],h=>by cases k<;>simp[UR]at h
 |k::r,c::cs,h=>by
  cases k with
  |none =>
   cases c<;>simp only[UR]at h<;>first|(cases h;done)|skip
   rename_i b;obtain⟨a,h1,h2⟩:=ZV r cs h;exact⟨.s b::a,by simp[KV.kd,h1],by simp[KV.av,h2]⟩
  |some k =>
   cases c<;>simp only[UR]at h<;>first|(cases h;done)|skip
   rename_i k' n;simp only[y9,decide_eq_true_eq]at h;obtain⟨rfl,h⟩:=h;obtain⟨a,h1,h2⟩:=ZV r cs h;exact⟨.i k n::a,by simp[KV.kd,h1],by simp[KV.av,h2]⟩
theorem Jr (a:List KV):(a.map KV.av).all AV.TA=true:=by
 simp only[List.all_map,y6];intro x _;cases x<;>rfl
theorem XV (l:List (Option IntKind)):JS (.agg l) (Sy l) (fun a=>.agg ((a.1.map KV.av).map AV.IA).toArray) (fun a=>.agg (a.1.map KV.av)) where
 val _:=rfl
 eq a b:=by
  simp only[uT,J3];by_cases h:a.1=b.1
  ·rw[decide_eq_true h,decide_eq_true (Subtype.ext h)]
  ·rw[decide_eq_false h,decide_eq_false fun e=>h (congrArg Subtype.val e)]
 of x h:=by
  cases x<;>first|(simp[PK]at h;done)|skip
  rename_i cs;obtain⟨a,h1,h2⟩:=ZV l cs h;exact⟨⟨a,h1⟩,by rw[h2]⟩
 flat a:=Jr a.1
theorem Tf:∀a b:List KV,a.map KV.kd=b.map KV.kd->iN ((a.map KV.kd).map EM) (a.map KV.av) (b.map KV.av)=some (decide (a=b))
 | [],[],_=>rfl
 | [],_::_,h=>by simp at h
 |_::_,[],h=>by simp at h
 |a::r,b::r',h=>by
  simp only[yk,List.cons.injEq]at h;have ih:=Tf r r' h.2;cases a<;>cases b<;>simp only[KV.kd,reduceCtorEq,Option.some.injEq,false_and]at h
  ·obtain ⟨rfl,h⟩:=h;rename_i n m;by_cases e:n=m
   ·subst e;simp[KV.kd,KV.av,EM,iN,ih,-y3]
   ·simp[KV.kd,KV.av,EM,iN,e]
  ·rename_i n m;by_cases e:n=m
   ·subst e;simp[KV.kd,KV.av,EM,iN,ih,-y3]
   ·simp[KV.kd,KV.av,EM,iN,e]
theorem iS {t:TypeId}{ks:List Nat}(h:dT P t=some ks):sJ P 8 t=some ks/\TL P t=some true:=by
 unfold dT at h;split at h
 ·cases h
 ·split at h
  ·rename_i kp;exact⟨h,by simp[TL,kp]⟩
  ·rename_i kp;exact⟨h,by simp[TL,kp]⟩
  ·cases h
theorem Pf {T:TypeId}{l:List (Option IntKind)}(ht:dT P T=some (l.map EM))(a b:Sy l)(w:World):
  (Op.equal T (.agg ((a.1.map KV.av).map AV.IA).toArray) (.agg ((b.1.map KV.av).map AV.IA).toArray)).run P w=.ok (decide (a=b)) w:=by
 obtain⟨hk,hA⟩:=iS ht;have he:=Tf a.1 b.1 (a.2.trans b.2.symm);rw[a.2]at he;have hd:decide (a.1=b.1)=decide (a=b):=by
  by_cases h:a.1=b.1
  ·rw[decide_eq_true h,decide_eq_true (Subtype.ext h)]
  ·rw[decide_eq_false h,decide_eq_false fun e=>h (congrArg Subtype.val e)]
 rw[hd]at he;have hl:∀c:Sy l,iD Ix.none (fun _ _=>False) w (c.1.map KV.av) (((c.1.map KV.av).map AV.IA).toArray.toList.take (l.map EM).length):=fun c=>by
  rw[yB (by simp[<- c.2])];exact SF (FW (Jr c.1))
 exact(KW (ι:=Ix.none) (av:=fun _ _=>False) (fun t ks h=>NV 7 t ks h) 9992 hk hA (hl a) (hl b) he).2
theorem uQ (em:Bool)(w:World):∀(n:Nat)(t:TypeId)(ks:List Nat),sJ P n t=some ks->∀(d:Nat)(us:Array Value)(off:Nat),off+ks.length<=us.size->(∃a,(part t us off).run P w=.ok a w/\(Instr.checkKey em (d+n) t a).run P w=.ok () w)/\(TL P t=some true->off=0->(Instr.checkKey em (d+n) t (.agg us)).run P w=.ok () w)
 |0,_,_,h=>by cases h
 |n+1,t,ks,hk=>by
  intro d us off ib;have whole:TL P t=some true->∀vs:Array Value,ks.length<=vs.size->fE P t=some ks.length/\(Instr.checkKey em (d+(n+1)) t (.agg vs)).run P w=.ok () w:=by
   intro hA vs hvs;unfold sJ at hk;split at hk
   ·rename_i k ah;unfold TL at hA;unfold C0 at ah;split at ah<;>first|(cases ah;done)|(rename_i ht _;rw[ht]at hA;injection hA with hA;cases hA)|(rename_i ht;rw[ht]at hA;injection hA with hA;cases hA)
   ·split at hk
    ·rename_i m e ht;obtain ⟨l,hl,hk⟩:=y5.1 hk;split at hk
     ·rename_i hc;injection hk with hk;subst hk;obtain⟨i,hi⟩:=QU hc.2.1;refine⟨hc.2.2,?_⟩;have ra:i.size=l.length:=by
       have:=hc.2.1;simp only[fE,hi,yp,Option.some.injEq]at this;exact this
      have bi:(yj m l).flatten.length=m*l.length:=by simp
      rw[show d+(n+1)=(d+n)+1 from rfl,Instr.checkKey];simp only[Sem.run_bind,run_underlying ht,Result.andThen_ok];simp only[Std.Legacy.Range.forIn_eq_forIn_range',Std.Legacy.Range.size,Nat.sub_zero,Nat.add_one_sub_one,Nat.div_one];have each:∀j∈List.range' 0 m,∃a,(part e vs (j*P.cellsOf e)).run P w=.ok a w/\(Instr.checkKey em (d+n) e a).run P w=.ok () w:=fun j hj=>by
       have fq:j<m:=by simpa using hj
       refine(uQ em w n e l hl d vs (j*P.cellsOf e) ?_).1;rw[hc.1,<- yu];rw[bi]at hvs;exact yt (yS _ fq) hvs
      generalize List.range' 0 m=is at each
      induction is with
      |nil=>simp
      |cons j is ih =>
       obtain⟨a,p1,p2⟩:=each j (by simp);simp only[List.forIn_cons,Sem.run_bind,run_sizeOf w hi,Result.andThen_ok,p1,p2,Sem.run_pure];exact ih (fun y hy=>each y (by simp[hy]))
     ·cases hk
    ·rename_i fs ht;split at hk
     ·cases hk
     ·obtain ⟨l,hl,hk⟩:=y5.1 hk;split at hk
      ·rename_i hc;injection hk with hk;subst hk;refine ⟨hc,?_⟩;rw [show d + (n + 1)=(d + n) + 1 from rfl,Instr.checkKey];simp only [Sem.run_bind,run_underlying ht,Result.andThen_ok];rw [<- Array.forIn_toList];have go:∀ (L:List Field) (i:Nat) (l:List Nat),zS (sJ P n) i L=some l->i + l.length<=vs.size->∀ f∈L,f.name≠"_"/\∃ a,(part f.type vs f.offset).run P w=.ok a w/\(Instr.checkKey em (d + n) f.type a).run P w=.ok () w:=by
        intro L
        induction L with
        |nil=>intro i l _ _ f hf;cases hf
        |cons g L ih =>
         intro i l hl ib f hf;unfold zS at hl;obtain⟨l1,h1,hl⟩:=y5.1 hl;split at hl
         ·rename_i hn;obtain ⟨l2,h2,rfl⟩:=ye.1 hl;rw [yC] at ib;rcases yh.1 hf with rfl | hf
          ·exact⟨hn.1,(uQ em w n _ l1 h1 d vs f.offset (by rw[hn.2];omega)).1⟩
          ·exact ih (i+l1.length) l2 h2 (by omega) f hf
         ·cases hl
       have each:=go fs.toList 0 l hl (by omega);clear go hl;generalize fs.toList=L at each
       induction L with
       |nil=>simp
       |cons f L ih =>
        obtain⟨hn,a,p1,p2⟩:=each f (by simp);simp only[List.forIn_cons,Sem.run_bind,hn,ne_eq,not_false_eq_true,if_true,Result.andThen_ok,p1,p2,Sem.run_pure];exact ih (fun y hy=>each y (by simp[hy]))
      ·cases hk
    ·cases hk
  refine⟨?_,fun hA h0=>(whole hA us (by omega)).2⟩;by_cases hA:TL P t=some true
  ·obtain⟨h1,h2⟩:=whole hA (us.extract off (off+ks.length)) (by simp;omega);exact⟨_,(GT hA h1 us off).1,h2⟩
  ·have jc:=hk;unfold sJ at hk;split at hk
   ·rename_i k ah;injection hk with hk;subst hk;simp only [yE,List.length_nil] at ib;have hu:us[off]?=some us[off]:=yT (by omega);have hp:=(o9 (w:=w) 0 ah hu hu).1;refine ⟨_,hp,?_⟩;unfold C0 at ah;rw [show d + (n + 1)=(d + n) + 1 from rfl];split at ah
    ·rename_i ht _;simp[Instr.checkKey,run_underlying ht]
    ·rename_i ht _;simp[Instr.checkKey,run_underlying ht]
    ·rename_i ht _;simp[Instr.checkKey,run_underlying ht]
    ·cases ah
   ·split at hk
    ·rename_i ht;exact absurd (by simp[TL,ht]) hA
    ·rename_i ht;exact absurd (by simp[TL,ht]) hA
    ·cases hk
theorem Ur {T:TypeId}{l:List (Option IntKind)}(ht:dT P T=some (l.map EM))(a:Sy l)(w:World):∀(es:List MapEntry)(L:List (Sy l×Value))(m:Nat),es.map (fun e=>(e.key,e.val))=L.map (fun p=>(Value.agg ((p.1.1.map KV.av).map AV.IA).toArray,p.2)) →
  (Instr.findAsking T (.agg ((a.1.map KV.av).map AV.IA).toArray) es m).run P w=.ok (cI L a m) w
 | [],[],m,_=>by simp[Instr.findAsking,cI]
 | [],_::_,_,h=>by simp at h
 |_::_,[],_,h=>by simp at h
 |e::es,p::L,m,h=>by
  simp only[yk,List.cons.injEq,Prod.mk.injEq]at h;obtain⟨⟨h1,h2⟩,h3⟩:=h;have ih:=Ur ht a w es L (m+1) h3;have he:=Pf (P:=P) ht a p.1 w;simp only[Instr.findAsking,Sem.run_bind,h1,he,Result.andThen_ok,tP,Sem.run_ite];by_cases hk:a=p.1
  ·simp[hk,h2]
  ·simp[hk,ih,-y3]
theorem A5 {T:TypeId}{l:List (Option IntKind)}(ht:dT P T=some (l.map EM)):gR P T (fun a:Sy l=>Value.agg ((a.1.map KV.av).map AV.IA).toArray) where
 check empty a w:=by
  obtain⟨hk,hA⟩:=iS ht;exact(uQ empty w 8 T _ hk 9992 _ 0 (by simp[<- a.2])).2 hA rfl
 find a es L w h:=by
  have hu:∃desc,P.underlying T=some desc/\∀x e,Instr.sameNow desc (.agg x) e=none:=by
   obtain⟨hk,hA⟩:=iS ht;unfold TL at hA;cases hd:P.underlying T with
   |none=>rw[hd]at hA;cases hA
   |some desc =>
    refine⟨desc,rfl,fun x e=>?_⟩;cases desc<;>rfl
  obtain⟨desc,hu,hn⟩:=hu;cases es with
  |nil =>
   cases L with
   |nil=>simp[Instr.findKey,run_underlying hu,Instr.findNow]
   |cons=>simp at h
  |cons e es =>
   have:=Ur ht a w (e::es) L 0 h;simp only[Instr.findKey,Sem.run_bind,run_underlying hu,Result.andThen_ok,Instr.findNow,hn,this,cI,yy]
 same a:=by
  have hq:∀l:List KV,(((l.map KV.av).map AV.IA).zip ((l.map KV.av).map AV.IA)).all (fun(x,y)=>Instr.sameBits 9999 x y)=true:=by
   intro l
   induction l with
   |nil=>rfl
   |cons c r ih =>
    simp only[yk,List.zip_cons_cons,List.all_cons,ih,Bool.and_true];cases c<;>simp[KV.av,AV.IA,Instr.sameBits,I9]
  show Instr.sameBits (9999+1) _ _=true;simp only[Instr.sameBits,beq_self_eq_true,Bool.true_and];exact hq a.1
theorem Tz {e:TypeId}{z:AV}(h:((P.info? e).bind (·.zero)).bind Ba=some z)(w:World):∃zv,(zeroValue e).run P w=.ok zv w/\Ba zv=some z:=by
 obtain⟨zv,h1,h2⟩:=y5.1 h;obtain⟨i,hi,hz⟩:=y5.1 h1;exact⟨zv,by simp[zeroValue,typeInfo,hi,hz],h2⟩
theorem s8 {κ:Type}[DecidableEq κ]{ke:κ->Value}{kx:κ->AV}{ty:Oa}(R:LD P O nt B F0 da w0 D s a w ι Θ)(K:JS ty κ ke kx){t n:Nat}{v:Value}(hv:sD ι (uE da ι Θ) (zE ι Θ) w (.mp t n) v){L:List (List AV)}(hL:(s.obj t n).bind SK=some L)(hk:uP ty L=true):
  ∃(b:Nat)(H:Nat->Prop)(M:List (κ×AV)),v=.map (some b)/\ι t n=some b/\ι.ob t n=some H/\(∀x,H x↔x=b)/\L=M.map (fun p=>[kx p.1,p.2])/\(∀p∈M,p.2.flat=true)/\DQ ke w b (M.map fun p=>(p.1,p.2.bA))/\∃es clock,w.heap[b]?=some (.map es clock)/\M4 es clock:=by
 obtain⟨b,hb,rfl⟩:=hv;obtain⟨S,hS,hm⟩:=y5.1 hL;obtain⟨p,H,hp,eb,bc,_⟩:=R.WA t n S hS;rw[hb]at hp;injection hp with hp;subst hp;have fu:S=fJ L:=by
  unfold SK at hm;split at hm
  ·injection hm with hm;subst hm;rfl
  ·cases hm
 subst fu;obtain⟨hH,es,clock,he,pf,tb⟩:=(O.maps L H b w).1 bc;obtain⟨M,rfl,hf⟩:=K3 K L hk;exact⟨b,H,M,rfl,hb,eb,hH,rfl,hf,⟨es,clock,he,pf.trans (L3 K M)⟩,es,clock,he,tb⟩
theorem H3 {κ:Type}[DecidableEq κ]:∀{M:List (κ×AV)}{n:κ}{x:AV},(∀p∈M,p.2.flat=true)->pN M n=some x->x.flat=true
 | [],_,_,_,h=>by cases h
 |p::r,n,x,hf,h=>by
  unfold pN at h;split at h
  ·injection h with h;subst h;exact hf p yl
  ·exact H3 (fun q hq=>hf q (ym _ hq)) h
theorem lZ {κ:Type}[DecidableEq κ]{ke:κ->Value}{kx:κ->AV}{ty:Oa}(R:LD P O nt B F0 da w0 D s a w ι Θ)(K:JS ty κ ke kx){T kT eT:TypeId}(KL:gR P kT ke)(hT:P.underlying T=some (.map kT eT)){zero:AV}(hz:((P.info? eT).bind (·.zero)).bind Ba=some zero)(hzf:zero.flat=true)
  {X I:Operand} {y i:KD} (hx:uA X=some y) (hi:uA I=some i) {ok:Bool} (ho:o.op=.lookup T X I ok) {t n:Nat} (hy:y.get s=.mp t n) {L:List (List AV)} (hL:(s.obj t n).bind SK=some L) (hk:uP ty L=true) (uq:PK ty (i.get s)=true) :
  BT P da a w ι Θ o ⟨if ok then .sA [(uM L (i.get s)).getD zero,.bool (uM L (i.get s)).isSome]else(uM L (i.get s)).getD zero,.no⟩:=by
 have hX:=(R.uA hx).1;have hI:=(R.uA hi).1;rw[hy]at hX;obtain⟨b,H,M,hv,hb,eb,hH,rfl,hf,bc,_⟩:=s8 R K hX hL hk;obtain⟨k,hkx⟩:=K.of _ uq;rw[hkx]at hI ⊢;have hkf:(kx k).flat=true:=K.flat k;have hIv:a.eval I=ke k:=(zU hkf hI).trans (K.val k);obtain⟨zv,hzr,hzc⟩:=Tz hz w;have hzv:=Na hzc hzf;rw[Z3 K];have pe:(pN (M.map fun p=>(p.1,p.2.bA)) k).getD zv=((pN M k).getD zero).bA:=by
  rw[GY,hzv];cases pN M k<;>rfl
 have si:((pN M k).getD zero).flat=true:=by
  cases hg:pN M k with
  |none=>exact hzf
  |some x=>exact H3 hf hg
 cases ok with
 |false =>
  have ca:=bc.lookup KL hT hzr k;rw[pe]at ca;refine⟨((pN M k).getD zero).bA,by simp only[execOp,ho,hv,hIv,Sem.run_bind,ca,Result.andThen_ok,Sem.run_pure],?_,trivial⟩;exact flat_S si
 |true =>
  have ca:=bc.aC KL hT hzr k;rw[pe]at ca;have tk:(pN (M.map fun p=>(p.1,p.2.bA)) k).isSome=(pN M k).isSome:=by rw[GY];cases pN M k<;>rfl
  rw[tk]at ca;refine⟨.tuple #[((pN M k).getD zero).bA,.bool (pN M k).isSome],by simp only[execOp,ho,hv,hIv,Sem.run_bind,ca,Result.andThen_ok,Sem.run_pure],?_,trivial⟩;refine⟨_,rfl,_,_,rfl,?_,_,_,rfl,rfl,rfl⟩;exact BI (TP si)
theorem DQ.updateS {κ:Type}[DecidableEq κ]{P:Program}{T kT eT:TypeId}{ke:κ->Value}{w:World}{m:Nat}{L:List (κ×Value)}(h:DQ ke w m L)(K:gR P kT ke)(hT:P.underlying T=some (.map kT eT)){es0:Array MapEntry}{cl0:Nat}(h0:w.heap[m]?=some (.map es0 cl0))(tb:M4 es0 cl0)(k:κ)(v:Value):
  ∃es clock,(Instr.mapUpdate T (.map (some m)) (ke k) v).run P w=.ok () { w with heap:=w.heap.setIfInBounds m (.map es clock) }/\es.toList.map (fun e=>(e.key,e.val))=(J2 L k v).map (fun p=>(ke p.1,p.2))/\M4 es clock:=by
 obtain⟨es,clock,h1,h2⟩:=h;rw[h1]at h0;injection h0 with h0;injection h0 with e1 e2;subst e1;subst e2;obtain⟨s1,s2⟩:=tb;have hg:(getObj m).run P w=.ok (.map es clock) w:=by simp[getObj,Sem.run,h1]
 have hf:=K.find k es.toList L w h2;have hi:=Tv L k v;have hl:es.toList.length=L.length:=by simpa using congrArg List.length h2
 cases hq:(L.map (·.1)).idxOf? k with
 |none =>
  rw[hq]at hf hi;refine⟨es.push { key:=ke k,val:=v,born:=clock },clock+1,?_,by rw[hi];simp[h2],by simp[s1],fun i h=>?_⟩
  case refine_2 =>
   simp only[Array.size_push]at h;simp only[Array.getElem_push];split
   ·exact s2 _ _
   ·show clock=i;omega
  case refine_1 =>
   simp only[Instr.mapUpdate,Sem.run_bind,run_underlying hT,Result.andThen_ok,hg,K.check,hf,Option.bind_none];simp[setObj,Sem.run,h1]
 |some i =>
  rw[hq]at hf hi;have tq:i<L.length:=by have:=List.idxOf?_eq_some_iff.1 hq;simpa using this.1
  have hk:(L[i]).1=k:=by have:=List.idxOf?_eq_some_iff.1 hq;simpa using this.2.1
  have hie:i<es.size:=by
   have:es.size=L.length:=by simpa using hl
   omega
  have uq:(es[i]).key=ke k:=by
   have:=congrArg (fun l=>(l[i]?).map (·.1)) h2;simp only[yb,Array.getElem?_toList,yT hie,yp,y7 tq,hk,Option.some.injEq]at this;exact this
  refine⟨es.modify i fun e=>{ e with key:=ke k,val:=v },clock,?_,?_,by simp[s1],fun j h=>?_⟩
  case refine_3 =>
   simp only[Array.getElem_modify];split<;>exact s2 _ _
  case refine_1 =>
   have hL:L[i]?=some L[i]:=y7 tq;have he:es[i]?=some es[i]:=yT hie;simp only[Instr.mapUpdate,Sem.run_bind,run_underlying hT,Result.andThen_ok,hg,K.check,hf,J,hL,yp,he,Option.getD_some,uq];simp[Instr.keyThatStays,K.same,setObj,Sem.run,h1]
  case refine_2 =>
   rw[hi];apply List.ext_getElem?;intro j;have hj:=congrArg (fun l=>l[j]?) h2;simp only[yb,Array.getElem?_toList]at hj;simp only[yb,Array.getElem?_toList,Array.getElem?_modify,List.getElem?_set];by_cases hij:i=j
   ·subst hij;simp[yT hie,tq]
   ·simp only[if_neg hij];exact hj
theorem OP {κ:Type}[DecidableEq κ]{ke:κ->Value}{kx:κ->AV}{ty:Oa}(R:LD P O nt B F0 da w0 D s a w ι Θ)(K:JS ty κ ke kx){T kT eT:TypeId}(KL:gR P kT ke)(hT:P.underlying T=some (.map kT eT))
  {X I Y:Operand} {x i y:KD} (hx:uA X=some x) (hi:uA I=some i) (hyo:uA Y=some y) (ho:o.op=.mapUpdate T X I Y\/o.op=.insert T X I Y) (hd:∀d,o.dst=some d->d<nt) {t n:Nat} (ic:x.get s=.mp t n) {L:List (List AV)} (hL:(s.obj t n).bind SK=some L) (hk:uP ty L=true) (uq:PK ty (i.get s)=true) (hvf:(y.get s).flat=true) :
  ∃w',(execOp a.eval o).run P w=.ok .skip w'/\JF P O nt B F0 da w0 D ((s.setObj t n (fJ (EK L (i.get s) (y.get s)))).put o.dst ⟨.undef,.no⟩) (a.put o.dst undef) w':=by
 have hX:=(R.uA hx).1;have hI:=(R.uA hi).1;have hY:=zU hvf (R.uA hyo).1;rw[ic]at hX;obtain⟨b,H,M,hv,hb,eb,hH,rfl,hf,bc,es0,cl0,hes0,hst0⟩:=s8 R K hX hL hk;obtain⟨k,hkx⟩:=K.of _ uq;rw[hkx]at hI ⊢;have hkf:(kx k).flat=true:=K.flat k;have hIv:a.eval I=ke k:=(zU hkf hI).trans (K.val k);have fa:=bc.lt;obtain⟨es,clock,ca,pf,tb⟩:=bc.updateS KL hT hes0 hst0 k (y.get s).bA;rw[B8]at pf;have ai:O.at_ (fJ (EK (M.map fun p=>[kx p.1,p.2]) (kx k) (y.get s))) H b { w with heap:=w.heap.setIfInBounds b (.map es clock) }:=by
  refine(O.maps _ _ _ _).2 ⟨hH,es,clock,by simp[fa],?_,tb⟩;rw[X3 K,L3 K];exact pf
 have fe:cE H w { w with heap:=w.heap.setIfInBounds b (.map es clock) }:=⟨rfl,rfl,rfl,by simp,fun j _ hn=>by
  have:j≠b:=fun e=>hn ((hH j).2 e)
  simp only[Array.getElem?_setIfInBounds];rw[if_neg fun e:b=j=>this e.symm]⟩
 obtain⟨ι',R2,_⟩:=R.DB hb eb ai (S6.no rfl) (fun x hx=>.inl hx) fe;refine⟨_,by rcases ho with ho|ho<;>simp only[execOp,ho,hv,hIv,hY,Sem.run_bind,ca,Result.andThen_ok,Sem.run_pure],ι',Θ,R2.MA (x:=⟨.undef,.no⟩) hd trivial trivial⟩
section
variable (R:LD P O nt B F0 da w0 D s a w ι Θ)
include R
theorem op_mkm {T:TypeId}(ho:o.op=.makeMap T none){d:Nat}(ba:o.dst=some d)(hd:d<nt)(hD:¬D d):
  ∃v w',(execOp a.eval o).run P w=.ok (.value v) w'/\JF P O nt B F0 da w0 (fun t=>D t\/t=d) ((s.setObj d s.next (fJ [])).put (some d) ⟨.mp d s.next,.no⟩) (a.put o.dst v) w':=by
 have ca:(execOp a.eval o).run P w=.ok (.value (.map (some w.heap.size))) (w.alloc (.map #[] 0)):=by
  simp[execOp,ho,Instr.makeMap]
 have hb:Below w.heap.size w (w.alloc (.map #[] 0)):=Below.alloc (Below.refl _ _) (yg _) _;obtain⟨ι',R2,hι,_⟩:=R.newObj (d:=d) (p:=w.heap.size) (H:=fun b=>b=w.heap.size) (S:=fJ []) hb hD ((O.maps _ _ _ _).2 ⟨fun b=>Iff.rfl,#[],0,nT rfl,rfl,rfl,fun i h=>absurd h (by simp)⟩) (S6.no rfl) (fun b h=>Nat.le_of_eq h.symm);rw[ba];exact⟨_,_,ca,ι',Θ,R2.put (x:=⟨.mp d s.next,.no⟩) hd ⟨_,hι,rfl⟩ trivial⟩
theorem op_rng {T kT eT:TypeId}(hT:P.underlying T=some (.map kT eT)){X:Operand}{x:KD}(hx:uA X=some x)(ho:o.op=.range T X){t n:Nat}(ic:x.get s=.mp t n){L:List (List AV)}(hL:(s.obj t n).bind SK=some L){d:Nat}(ba:o.dst=some d)(hd:d<nt)(hD:¬D d):
  ∃v w',(execOp a.eval o).run P w=.ok (.value v) w'/\JF P O nt B F0 da w0 (fun t=>D t\/t=d) ((s.setObj d s.next (U5 t n L.length [])).put (some d) ⟨.ptr d s.next 0,.no⟩) (a.put o.dst v) w':=by
 have hX:=(R.uA hx).1;rw[ic]at hX;obtain⟨b,hb,hv⟩:=hX;obtain⟨S,hS,hm⟩:=y5.1 hL;obtain⟨p,H,hp,eb,bc,_⟩:=R.WA t n S hS;rw[hb]at hp;injection hp with hp;subst hp;have fu:S=fJ L:=by
  unfold SK at hm;split at hm
  ·injection hm with hm;subst hm;rfl
  ·cases hm
 subst fu;obtain⟨hH,es,clock,he,pf,hc,_⟩:=(O.maps L H b w).1 bc;have ja:es.size=L.length:=by simpa using congrArg List.length pf
 have hg:(getObj b).run P w=.ok (.map es clock) w:=by simp[getObj,Sem.run,he]
 have ca:(execOp a.eval o).run P w=.ok (.value (.pointer (some ⟨w.heap.size,0,none⟩))) (w.alloc (.mapIter (some b) clock #[] clock)):=by
  simp only[execOp,ho,hv,Instr.range,Sem.run_bind,run_underlying hT,Result.andThen_ok,hg,Sem.run_pure,run_newObj_alloc]
 have lj:Below w.heap.size w (w.alloc (.mapIter (some b) clock #[] clock)):=Below.alloc (Below.refl _ _) (yg _) _;obtain⟨ι',R2,hι,_⟩:=R.newObj (d:=d) (p:=w.heap.size) (H:=fun b=>b=w.heap.size) (S:=U5 t n L.length []) lj hD ((O.pC _ _ _ _ (by rw[iY];rfl)).2 ⟨fun b=>Iff.rfl,by simp⟩) (fun tm nm N seen e=>by
  rw[iY]at e;injection e with e;injection e with g1 e;injection e with g2 e;injection e with g3 g4;subst g1;subst g2;subst g3;subst g4;exact⟨b,H,hb,eb,by rw[<- ja,<- hc];exact nT rfl⟩) (fun b h=>Nat.le_of_eq h.symm)
 rw[ba];exact⟨_,_,ca,ι',Θ,R2.put (x:=⟨.ptr d s.next 0,.no⟩) hd ⟨_,hι,rfl⟩ trivial⟩
theorem val_ent {X:Operand}{x:KD}(hx:uA X=some x)(ho:o.op=.entry X){t n tm nm N:Nat}{seen:List Nat}(ic:x.get s=.ptr t n 0)(hi:(s.obj t n).bind NY=some (tm,nm,N,seen)){L:List (List AV)}(hL:(s.obj tm nm).bind SK=some L){i:Nat}(hl:seen.getLast?=some i)(hN:L.length=N){y v:AV}(zj:L[i]?=some [y,v])(bi:(y.flat&&v.flat)=true):
  BT P da a w ι Θ o ⟨.sA [y,v],.no⟩:=by
 have hX:=(R.uA hx).1;rw[ic]at hX;obtain⟨q,hq,hv⟩:=hX;obtain⟨S,hS,kf⟩:=y5.1 hi;obtain⟨p,H,hp,eb,bc,bj⟩:=R.WA t n S hS;rw[hq]at hp;injection hp with hp;subst hp;obtain⟨m,Hm,hm,hobm,ia⟩:=bj tm nm N seen kf;obtain⟨S2,hS2,ep⟩:=y5.1 hL;obtain⟨p2,H2,sj,nr,fx,_⟩:=R.WA tm nm S2 hS2;rw[hm]at sj;injection sj with sj;subst sj;have fu:S2=fJ L:=by
  unfold SK at ep;split at ep
  ·injection ep with ep;subst ep;rfl
  ·cases ep
 subst fu;obtain⟨hH2,es,clock,he,pf,hc,tb⟩:=(O.maps L H2 m w).1 fx;have hes:es.size=N:=by rw[<- hN];simpa using congrArg List.length pf
 have hgq:(getObj q).run P w=.ok (.mapIter (some m) N seen.toArray N) w:=by simp[getObj,Sem.run,ia]
 have hgm:(getObj m).run P w=.ok (.map es clock) w:=by simp[getObj,Sem.run,he]
 have ci:i<es.size:=by
  have:=(yn.1 zj).1;omega
 have sm:seen.toArray.back?=some i:=by simpa using hl
 have hfind:es.find? (fun e=>e.born == i)=some es[i]:=by
  rw[Array.find?_eq_some_iff_getElem];refine⟨by simp[tb i ci],i,ci,rfl,fun j hj=>?_⟩;simp only[tb j (by omega),Bool.not_eq_true'];simp;omega
 have hkv:es[i].key=y.bA/\es[i].val=v.bA:=by
  have:=congrArg (fun l=>l[i]?) pf;simp only[yb,zj,Array.getElem?_toList,yT ci,yp,Option.some.injEq,Ef]at this;exact⟨congrArg Prod.fst this,congrArg Prod.snd this⟩
 rw[y9]at bi;have ed:(clock != N)=false:=by simp[hc,hes]
 refine⟨.tuple #[y.bA,v.bA],?_,?_,trivial⟩
 ·simp only[execOp,ho,hv,Instr.entry,Sem.run_bind,hgq,hgm,sm,Result.andThen_ok,ed,yr,if_false,hfind,hkv.1,hkv.2,Sem.run_pure]
 ·exact⟨_,rfl,_,_,rfl,BI (TP bi.1),_,_,rfl,BI (TP bi.2),rfl⟩
end
theorem Zy {v:Value}(h:O1 v=some .QA):v=.pointer none:=by
 unfold O1 at h;split at h<;>first|rfl|(injection h with h;cases h;done)|(cases h;done)
theorem Ma {v:Value}(h:O1 v=some (.sl true [])):v=.slice none 0 0:=by
 unfold O1 at h;split at h<;>first|rfl|(injection h with h;cases h;done)|(cases h;done)
theorem Mg {l:List AV}(h:Sr l=true):l=[.QA,.sl true []]:=by
 unfold Sr at h;split at h
 ·rfl
 ·cases h
theorem Ly {vs:List Value}(h:DM vs=some [.QA,.sl true []]):vs=[.pointer none,.slice none 0 0]:=by
 cases vs with
 |nil=>cases h
 |cons v r =>
  simp only[DM]at h;split at h
  ·rename_i x l hx hl;injection h with h;injection h with h1 h2;subst h1;subst h2;cases r with
   |nil=>cases hl
   |cons v' r' =>
    simp only[DM]at hl;split at hl
    ·rename_i x' l' cj ck;injection hl with hl;injection hl with h1 h2;subst h1;subst h2;cases r' with
     |nil=>rw[Zy hx,Ma cj]
     |cons v'' r'' =>
      simp only[DM]at ck;split at ck<;>cases ck
    ·cases hl
  ·cases h
section
variable (R:LD P O nt B F0 da w0 D s a w ι Θ)
include R
theorem op_mkb {T e:TypeId}(sb:Rd P T=some e)(ho:o.op=.alloc T){d:Nat}(ba:o.dst=some d)(hd:d<nt)(hD:¬D d):
  ∃v w',(execOp a.eval o).run P w=.ok (.value v) w'/\JF P O nt B F0 da w0 (fun t=>D t\/t=d) ((s.setObj d s.next (NI T e ⟨#[]⟩)).put (some d) ⟨.ptr d s.next 0,.no⟩) (a.put o.dst v) w':=by
 obtain⟨l,hl,hb⟩:∃l,UL P T=some l/\Sr l=true:=by
  unfold Rd at sb;split at sb
  ·rename_i h;exact ye.1 h
  ·cases sb
 obtain⟨z,i,hi,ul,hrz,xv⟩:=UI hl w;rw[Mg hb]at xv;have hzc:z.cells=#[.pointer none,.slice none 0 0]:=by
  apply Array.ext';exact Ly xv
 have ca:(execOp a.eval o).run P w=.ok (.value (.pointer (some ⟨w.heap.size,0,none⟩))) (w.alloc (.cells #[.pointer none,.slice none 0 0] T)):=by
  simp[execOp,ho,Instr.alloc,newVar,newRow,hrz,hzc]
 have hb:Below w.heap.size w (w.alloc (.cells #[.pointer none,.slice none 0 0] T)):=Below.alloc (Below.refl _ _) (yg _) _;obtain⟨ι',R2,hι,_⟩:=R.newObj (d:=d) (p:=w.heap.size) (H:=fun b=>b=w.heap.size) (S:=NI T e ⟨#[]⟩) hb hD ((O.sC _ _ _ _ _ _).2 ⟨.slice none 0 0,.pointer none,nT rfl,.inl rfl,World.ownsRowF_nil _ _ _ _,by simp[Value.ownBlock],fun b=>by simp[Value.ownBlock]⟩) (S6.no rfl) (fun b h=>Nat.le_of_eq h.symm);rw[ba];exact⟨_,_,ca,ι',Θ,R2.put (x:=⟨.ptr d s.next 0,.no⟩) hd ⟨_,hι,rfl⟩ trivial⟩
theorem Rn {T:TypeId}{kT eT:TypeId}(hT:P.underlying T=some (.map kT eT)){X:Operand}{x:KD}(hx:uA X=some x)(ho:o.op=.call { callee:=.builtin .len,args:=#[X],argTypes:=#[T] }){t n:Nat}(ic:x.get s=.mp t n){L:List (List AV)}(hL:(s.obj t n).bind SK=some L):
  BT P da a w ι Θ o ⟨.int .i64 L.length,.no⟩:=by
 have hX:=(R.uA hx).1;rw[ic]at hX;obtain⟨b,hb,hv⟩:=hX;obtain⟨S,hS,hm⟩:=y5.1 hL;obtain⟨p,H,hp,eb,bc,_⟩:=R.WA t n S hS;rw[hb]at hp;injection hp with hp;subst hp;have fu:S=fJ L:=by
  unfold SK at hm;split at hm
  ·injection hm with hm;subst hm;rfl
  ·cases hm
 subst fu;obtain⟨hH,es,clock,he,pf,_⟩:=(O.maps L H b w).1 bc;have ja:es.size=L.length:=by simpa using congrArg List.length pf
 have hg:(getObj b).run P w=.ok (.map es clock) w:=by simp[getObj,Sem.run,he]
 refine⟨.int .i64 L.length,?_,by rw[QD],trivial⟩;simp[execOp,ho,resolve,invoke,builtin,Builtin.len_,run_underlying hT,hv,hg,goInt,ja]
theorem LD.turnNew {t n p:Nat}{H H':Nat->Prop}{S':AV}(hp:ι t n=some p)(eb:ι.ob t n=some H)(bc:O.at_ S' H' p w')(bj:S6 ι S' p w')(hH:∀b,H' b->H b\/w.heap.size<=b)(hk:cE H w w')
  {d g:Nat} (hD:¬D d) (hg:w.heap.size<=g) (hgH:¬H' g) {cur:Array Value} {ty:TypeId} (hgw:w'.heap[g]?=some (.cells cur ty (0,0))) {l:List AV} (hl:l.all AV.TA=true) (te:∀(j:Nat)(x:AV),l[j]?=some x->cur[j]?=some x.IA) (uh:l.length<=cur.size) :
  ∃ι':Ix,LD P O nt B F0 da w0 (fun j=>D j\/j=d) ((s.setObj t n S').setRow d s.next (l.map (⟨·,.no⟩))) a w' ι' Θ/\ι' d s.next=some g/\ι'.z g=cur.size:=by
 obtain⟨dm,nr⟩:=R.obs t n H eb;have hgl:=DC hgw;have bd:ι d s.next=none:=by
  cases h:ι d s.next with
  |none=>rfl
  |some b =>
   rcases(R.mine _ _ _ h).2.2 with h1|h1
   ·omega
   ·exact absurd h1.2 hD
 have ad:ι.ob d s.next=none:=by
  cases h:ι.ob d s.next with
  |none=>rfl
  |some b =>
   rcases(R.obs _ _ _ h).2 with h1|h1
   ·omega
   ·exact absurd h1.2 hD
 have hnd:¬(t=d/\n=s.next):=fun e=>by rw[e.1,e.2,bd]at hp;cases hp
 obtain⟨ι',hι'⟩:∃ι':Ix,ι'=⟨fun t' n'=>if t'=d/\n'=s.next then some g else ι t' n',fun t' n'=>if t'=t/\n'=n then some H' else ι.ob t' n',fun b=>if b=g then cur.size else ι.z b⟩:=⟨_,rfl⟩;have hf:∀t' n' b,ι' t' n'=some b->(t'=d/\n'=s.next/\b=g)\/(¬(t'=d/\n'=s.next)/\ι t' n'=some b):=fun t' n' b h=>by
  subst hι';have h':(if t'=d/\n'=s.next then some g else ι t' n')=some b:=h;split at h'
  ·rename_i e;injection h' with h';exact .inl ⟨e.1,e.2,h'.symm⟩
  ·rename_i e;exact .inr ⟨e,h'⟩
 have rh:∀t' n' H1,ι'.ob t' n'=some H1->(t'=t/\n'=n/\H1=H')\/(¬(t'=t/\n'=n)/\ι.ob t' n'=some H1):=fun t' n' H1 h=>by
  subst hι';simp only at h;split at h
  ·rename_i e;injection h with h;exact .inl ⟨e.1,e.2,h.symm⟩
  ·rename_i e;exact .inr ⟨e,h⟩
 have nc:∀t n b,ι t n=some b->ι' t n=some b:=fun t n b h=>by
  subst hι';show(if t=d/\n=s.next then some g else ι t n)=some b;split
  ·rename_i e;rw[e.1,e.2,bd]at h;cases h
  ·exact h
 have rb:ι' d s.next=some g:=by subst hι';show(if d=d/\s.next=s.next then some g else ι d s.next)=_;rw[if_pos ⟨rfl,rfl⟩]
 have cv:ι'.ob t n=some H':=by subst hι';simp
 have pr:∀t' n',¬(t'=t/\n'=n)->ι'.ob t' n'=ι.ob t' n':=fun t' n' e=>by subst hι';simp only[if_neg e]
 have oz:ι'.z g=cur.size:=by subst hι';simp
 have rg:∀t1 n1 b1 H1,ι t1 n1=some b1->ι.ob t1 n1=some H1->ι' t1 n1=some b1/\∃H2,ι'.ob t1 n1=some H2:=fun t1 n1 b1 H1 g1 g2=>⟨nc _ _ _ g1,by
  by_cases e:t1=t/\n1=n
  ·exact⟨H',by rw[e.1,e.2];exact cv⟩
  ·exact⟨H1,by rw[pr _ _ e];exact g2⟩⟩
 have ib:Ix.Le ι ι':=⟨nc,fun t n b h=>by
  have:=(R.mine t n b h).2.1;subst hι';show(if b=g then cur.size else ι.z b)=ι.z b;rw[if_neg (by omega)]⟩
 clear hι';have ra:=hk.size;have rd:=R.eC;have jh:∀b o,b<w.heap.size->zE ι' Θ b o->zE ι Θ b o:=fun b o hb h=>h.imp (fun h=>h.imp (fun⟨t',n',h⟩=>by
  rcases hf _ _ _ h with⟨_,_,e⟩|⟨_,h⟩
  ·omega
  ·exact⟨t',n',h⟩) fun⟨t',n',H1,h1,h2⟩=>by
  rcases rh _ _ _ h1 with⟨e1,e2,e3⟩|⟨_,h1⟩
  ·subst e3;rcases hH b h2 with h3 | h3
   ·exact⟨t,n,H,eb,h3⟩
   ·omega
  ·exact⟨t',n',H1,h1,h2⟩) id
 have nb:∀b o u,w.cell? ⟨b,o,none⟩=some u->¬H b->w'.cell? ⟨b,o,none⟩=some u:=fun b o u hc hn=>(World.cell?_of_block (w:=w) (a:=⟨b,o,none⟩) (hk.block b (MG hc) hn)).trans hc
 have hB:aD (zE ι Θ) (zE ι' Θ) w w':=⟨fun b o u hc hn=>⟨nb b o u hc fun h=>hn (.inl (.inr ⟨t,n,H,eb,h⟩)),fun h=>hn (jh b o (MG hc) h)⟩⟩;have hA:aD (uE da ι Θ) (uE da ι' Θ) w w':=⟨fun b o u hc hn=>⟨nb b o u hc fun h=>hn (.inr (.inl (.inr ⟨t,n,H,eb,h⟩))),fun h=>hn (h.imp id (jh b o (MG hc)))⟩⟩;refine⟨ι',⟨R.defers,R.size,fun j=>sD.held ib hA hB _ _ (R.env j),R.ZB,fun t' n' r hr=>?_,fun t' n' b h=>?_,fun t1 n1 t2 n2 b h h'=>?_,fun k o h=>?_,R.OA,fun k o t' n' h h'=>?_,R.out,fun p' h=>⟨nc _ _ _ (R.pin p' h).1,?_⟩,?_,R.base,fun t' n' S1 h=>?_,fun t' n' H1 h=>?_,fun j=>sD.held ib hA hB _ _ (R.gen j),R.CA⟩,rb,oz⟩
 ·simp only [OC.setRow] at hr;split at hr
  ·rename_i e;injection hr with hr;subst hr;have hoo:ι'.ob t' n'=none:=by
    rw[pr t' n' (fun e'=>hnd ⟨e'.1.symm.trans e.1,e'.2.symm.trans e.2⟩),e.1,e.2];exact ad
   refine⟨hoo,g,cur,ty,by rw[e.1,e.2];exact rb,hgw,⟨by simpa using uh,fun j x hx=>?_⟩,by omega,oz.symm⟩;rw[yb]at hx;cases hj:l[j]? with
   |none=>rw[hj]at hx;cases hx
   |some y =>
    rw[hj]at hx;injection hx with hx;subst hx;have hy:=y6.1 hl y (yQ hj);have hr:=LP (av:=uE da ι' Θ) (w:=w') hy;exact⟨_,te j y hj,hr.2,PM hr.1,trivial⟩
  ·have py:s.mem t' n'=some r:=hr;obtain ⟨h0,b,db,gl,h1,h2,h3,h8,h9⟩:=R.rows t' n' r py;have ua:¬ (t'=t/\n'=n):=fun e=>by rw [e.1,e.2,eb] at h0; cases h0
   have hbn:¬H b:=fun hb=>ua ((dm b hb).2.2.1 t' n' h1)
   exact⟨by rw[pr _ _ ua];exact h0,b,db,gl,nc _ _ _ h1,(hk.block b (DC h2) hbn).trans h2,h3.held ib hA (fun _ _ h=>h),h8,h9.trans (ib.z _ _ _ h1).symm⟩
 ·rcases hf _ _ _ h with ⟨e1,e2,e3⟩ | ⟨_,h⟩
  ·subst e3;exact⟨.inl (by omega),hgl,.inr ⟨e2,.inr e1⟩⟩
  ·obtain⟨h1,h2,h3⟩:=R.mine t' n' b h;exact⟨h1,by omega,h3.imp id fun⟨e,d⟩=>⟨e,.inl d⟩⟩
 ·rcases hf _ _ _ h with ⟨e1,e2,e3⟩ | ⟨_,h⟩ <;> rcases hf _ _ _ h' with ⟨f1,f2,f3⟩ | ⟨_,h'⟩
  ·exact⟨e1.trans f1.symm,e2.trans f2.symm⟩
  ·have:=(R.mine _ _ _ h').2.1;omega
  ·have:=(R.mine _ _ _ h).2.1;omega
  ·exact R.inj _ _ _ _ _ h h'
 ·obtain⟨h1,h2,h3,h4,db,h5,h6⟩:=R.tok k o h;exact⟨h1,h2,h3,h4,db,(hk.block _ (DC h5) (R.qC h eb)).trans h5,h6⟩
 ·obtain ⟨_,_,_,_,db,h5,_⟩:=R.tok k o h;have fa:=DC h5;rcases hf _ _ _ h' with ⟨_,_,e⟩ | ⟨_,h'⟩
  ·omega
  ·exact R.apart k o t' n' h h'
 ·rcases (R.pin p' h).2 with ry | ⟨H1,h1⟩
  ·exact .inl ⟨ry.1,(ib.z _ _ _ (R.pin p' h).1).trans ry.2⟩
  refine .inr ?_;by_cases e:0=t/\0=n
  ·exact⟨H',by rw[<- e.1,<- e.2]at cv;exact cv⟩
  ·exact⟨H1,by rw[pr _ _ e];exact h1⟩
 ·refine R.kept.trans hk fun i hi h=>?_
  have:=R.base.1;rcases(dm i h).1 with h1|h1
  ·omega
  ·exact h1
 ·simp only [OC.setRow,OC.setObj] at h;split at h
  ·rename_i e;injection h with h;subst h;exact⟨p,H',by rw[e.1,e.2];exact nc _ _ _ hp,by rw[e.1,e.2];exact cv,bc,bj.keep rg fun x hx=>hx⟩
  ·rename_i e;obtain ⟨p1,H1,h1,h2,h3,h4⟩:=R.WA t' n' S1 h;have cn:∀ b,H1 b->¬ H b:=fun b hb na=>e ((dm b na).2.2.2.2 t' n' H1 h2 hb)
   exact⟨p1,H1,nc _ _ _ h1,by rw[pr _ _ e];exact h2,O.keep h3 (fun b hb=>hk.block b (O.lt h3 hb) (cn b hb)) ra,h4.keep rg fun x hx=>(hk.block _ (DC hx) (cn _ (O.main h3))).trans hx⟩
 ·rcases rh _ _ _ h with ⟨e1,e2,e3⟩ | ⟨e,h⟩
  ·subst e1; subst e2; subst e3;refine ⟨fun b hb=>?_,nr.imp id fun ⟨e,d⟩=>⟨e,.inl d⟩⟩;have ax:b≠g:=fun e=>hgH (e ▸ hb)
   rcases hH b hb with h1|h1
   ·obtain ⟨g1,g2,g3,g4,g5⟩:=dm b h1;refine ⟨g1,by omega,fun t1 n1 h2=>?_,g4,fun t1 n1 H2 h2 h3=>?_⟩
    ·rcases hf _ _ _ h2 with ⟨_,_,e⟩ | ⟨_,h2⟩
     ·exact absurd e ax
     ·exact g3 t1 n1 h2
    ·rcases rh _ _ _ h2 with ⟨e1,e2,_⟩ | ⟨_,h2⟩
     ·exact⟨e1,e2⟩
     ·exact g5 t1 n1 H2 h2 h3
   ·refine ⟨.inl (by omega),O.lt bc hb,fun t1 n1 h2=>?_,fun k o h2 e=>?_,fun t1 n1 H2 h2 h3=>?_⟩
    ·rcases hf _ _ _ h2 with ⟨_,_,e⟩ | ⟨_,h2⟩
     ·exact absurd e ax
     ·have:=(R.mine _ _ _ h2).2.1;omega
    ·obtain⟨_,_,_,_,db,h5,_⟩:=R.tok k o h2;have:=DC h5;omega
    ·rcases rh _ _ _ h2 with ⟨e1,e2,_⟩ | ⟨_,h2⟩
     ·exact⟨e1,e2⟩
     ·have:=((R.obs _ _ _ h2).1 b h3).2.1;omega
  ·obtain ⟨h1,h2⟩:=R.obs t' n' H1 h;refine ⟨fun b hb=>?_,h2.imp id fun ⟨e,d⟩=>⟨e,.inl d⟩⟩;obtain ⟨g1,g2,g3,g4,g5⟩:=h1 b hb;refine ⟨g1,by omega,fun t1 n1 h2=>?_,g4,fun t1 n1 H2 h2 h3=>?_⟩
   ·rcases hf _ _ _ h2 with ⟨_,_,e'⟩ | ⟨_,h2⟩
    ·omega
    ·exact g3 t1 n1 h2
   ·rcases rh _ _ _ h2 with ⟨e1,e2,e3⟩ | ⟨_,h2⟩
    ·subst e3;rcases hH b h3 with h4 | h4
     ·have:=g5 t n H eb h4;exact absurd ⟨this.1.symm,this.2.symm⟩ e
     ·omega
    ·exact g5 t1 n1 H2 h2 h3
theorem Oj {call:DD}(ma:∀f args S r,call f args S=some r->gE P O f args S r){f:FuncId}{Xs:Array Operand}{ts:Array TypeId}{xs:List KD}(hx:NH Xs.toList=some xs)(ho:o.op=.call { callee:=.value (.func f),args:=Xs,argTypes:=ts })(hd:∀d,o.dst=some d->d<nt)(hD:∀d,o.dst=some d->¬D d){cl:Cl}{sz:Nat}(ra:0<sz){xe:WC×rF}(hr:(K.LA cl f sz xs).run call s=some xe) {g} {s':OC} (he:JC.eff ⟨o.dst,.LA cl f sz xs,g⟩ s xe=some s')
  {Kn:Act->World->Prop} {Q:Exit->Act->World->Prop} (hK:∀a' w',JF P O nt B F0 da w0 (fun t=>D t\/o.dst=some t) s' a' w'->Kn a' w'):o.wp P a w Kn Q:=by
 simp only[K.run]at hr;obtain⟨vs,hl,hr⟩:=y5.1 hr;have le:(Xs.toList.map a.eval).toArray=Xs.map a.eval:=by rw[<- Array.toList_map,yK]
 have ar:∀b o,uE da ι Θ b o->b<w.heap.size:=fun b o h=>R.low h
 split at hr
 ·rename_i t n aj;obtain ⟨r,hc,hr⟩:=y5.1 hr;split at hr
  ·rename_i l S';split at hr
   ·rename_i aa;obtain⟨tk,ue,hscal,jz⟩:=aa;obtain⟨S,hS⟩:=Option.isSome_iff_exists.1 tk;rw[hS]at hc;have la:UO P O f vs (some S) (.sl false l,some S'):=gE.own (IP hl) (ma f (.undef::vs) (some S) _ hc);obtain⟨p,H,hp,eb,bc,_⟩:=R.WA t n S hS;have gb:=dJ (ι':=Ix.one p) (avl:=fun b _=>H b) R (fun b _ h=>⟨t,n,H,eb,h⟩) hx hl fun x hx t' n' h=>by
     have:(t',n')∈SI s xs:=List.mem_filterMap.2 ⟨x,hx,by rw[h]⟩;rw[aj]at this;have:=List.mem_singleton.1 this;injection this with e1 e2;rw[e1,e2,hp];rfl
    have ca:(execOp a.eval o).run P w=.ok (.enter f (Xs.map a.eval)) w:=by
     simp only[execOp,ho,resolve,Act.eval,Deferred.ofValue,Sem.run_bind,Sem.run_pure,Result.andThen_ok,invoke];have:=la.1 (#[]++Xs.map a.eval++#[]) w;simp only[Array.empty_append,Array.append_empty]at this ⊢;exact this
    unfold Oper.wp;rw[ca,Oper.upon_enter];have hC:=la.2 (uE da ι Θ) w _ p H (R.lowH eb) (fun b o h=>.inr (.inl (.inr ⟨t,n,H,eb,h⟩))) bc gb;rw[le]at hC;refine hC.mono ?_;rintro e w' ⟨v,H',rfl,hv,ai,hH,hk⟩;split at hr
    ·rename_i zi;injection hr with hr;subst hr;simp only [JC.eff] at he;injection he with he;subst he;have ot:l=[]:=by simpa using zi
     subst ot;obtain⟨ι',R',gd⟩:=R.DB hp eb ai (S6.no jz) hH hk;have hv':∃A c,v=.slice A 0 c/\(A=none->c=0):=by
      rcases hv with⟨_,A,c,h1,h2⟩|⟨g,c,cur,ty,h1,_⟩
      ·exact⟨A,c,h1,h2⟩
      ·exact⟨_,c,h1,fun h=>by cases h⟩
     obtain⟨A,c,rfl,hA⟩:=hv';refine hK _ _ ⟨ι',Θ,(R'.MA (x:=⟨.sl false [],.no⟩) hd ?_ trivial).more fun _ h=>.inl h⟩;rw[XF];simp only[gG,List.length_nil];exact⟨A,c,rfl,Nat.zero_le _,(fun x hx=>by cases hx),(fun h=>by cases h),fun _=>⟨hA,fun h=>absurd h (Nat.lt_irrefl 0)⟩⟩
    ·rename_i zi;injection hr with hr;subst hr;cases ba:o.dst with
     |none=>simp[JC.eff,ba]at he
     |some d =>
      simp only[JC.eff,ba]at he;injection he with he;subst he;have ua:l≠[]:=fun h=>zi (by simp[h])
      have lb:0<l.length:=List.length_pos_iff.2 ua;rcases hv with⟨h0,_⟩|⟨g,c,cur,ty,rfl,h2,h3,h4,h5,h6,h7⟩
      ·exact absurd h0 ua
      ·have mh:=h6 sz ue lb;have bi:l.flatten.length=l.length*sz:=by
        have hind:∀q:List (List AV),PD sz q=true->q.flatten.length=q.length*sz:=fun q=>by
         induction q with
         |nil=>simp
         |cons c r ih =>
          intro h;rw[pQ]at h;simp only[y9,decide_eq_true_eq]at h;rw[yA,yC,ih h.2,h.1,yE,yu];omega
        exact hind l ue
       have hsc:l.flatten.all AV.TA=true:=by
        rw[List.all_flatten];exact hscal
       obtain⟨ι',R',hι,hz⟩:=R.turnNew (d:=d) (g:=g) hp eb ai (S6.no jz) hH hk (hD d ba) h2 h3 h4 hsc h7 (by rw[bi];exact yt (yS _ h5) mh);refine hK _ _ ⟨ι',Θ,?_⟩;rw[ba];exact(R'.put (x:=⟨.ref d s.next sz 0 l.length l.length,.no⟩) (hd d ba) ⟨g,hι,yg _,c,h5,by rw[hz,yy];exact mh,rfl⟩ trivial).more fun t h=>h.imp id fun e=>by rw[e]
   ·cases hr
  ·cases hr
 ·cases hr
end
end
end
section
open Go Go.RowKit
section
variable {P:Program} {O:XI} {nt B:Nat} {F0:FQ} {da:Av} {w0:World} {D:Nat->Prop} {s:OC} {a:Act} {w w':World} {ι:Ix} {Θ:jM} {o:Oper}
def Kw (s:OC)(av:Av)(ι:Ix):Av:=fun b o=>av b o/\¬ ∃t n r,s.mem t n=some r/\ι t n=some b
theorem gD.wB {D:Nat->Prop}{ι:Ix}{Θ:jM}(R:LD P O nt B F0 da w0 D s a w ι Θ){x:AV}{u:Value}(h:gD ι (uE da ι Θ) w x u):gD ι (Kw s (uE da ι Θ) ι) w (x.wB s) u:=by
 have less:aD (uE da ι Θ) (Kw s (uE da ι Θ) ι) w w:=aD.less fun b o h=>h.1
 have same:=gD.held (Ix.Le.refl ι) less x u h;cases x with
 |ref t n sz off len c =>
  simp only[AV.wB];split
  ·rename_i l hl;obtain⟨r,hm,hl⟩:=y5.1 hl;obtain⟨b,hb,ib,cc,jf,hz,hv⟩:=h;obtain⟨zc,b',cur,ty,na,ia,ka,_⟩:=R.rows t n r hm;rw[hb]at na;injection na with na;subst na;obtain⟨h1,h2,us,hL,tc⟩:=kJ ka ia hl;subst h1;show gG _ w (.sl false l) u;simp only[gG];refine⟨_,cc,hv,yt ib jf,fun x hx y hy=>(h2 x hx).trans (h2 y hy).symm,(fun h=>by cases h),fun _=>⟨fun h=>(by cases h),fun _=>⟨b,off,rfl,?_⟩⟩⟩;rw[TH];exact IM (JE.held less _ _ hL) fun j u hj=>⟨tc j u hj,fun h=>h.2 ⟨t,n,r,hm,hb⟩⟩
  ·exact same
 |_=>exact same
theorem iD.wB {D:Nat->Prop}{ι:Ix}{Θ:jM}(R:LD P O nt B F0 da w0 D s a w ι Θ):∀{xs:List AV}{us:List Value},iD ι (uE da ι Θ) w xs us->iD ι (Kw s (uE da ι Θ) ι) w (xs.map (AV.wB s)) us
 | [],_,h=>h
 |x::r,_,h=>by
  simp only[iD]at h;obtain⟨u,oa,rfl,h0,h1,h⟩:=h;exact⟨u,oa,rfl,h0.wB R,h1,h.wB R⟩
theorem gD.uB {D:Nat->Prop}{ι:Ix}{Θ:jM}(R:LD P O nt B F0 da w0 D s a w ι Θ){x:AV}{u:Value}(h:gD ι (uE da ι Θ) w x u):gD ι (Kw s (uE da ι Θ) ι) w (x.DA s) u:=by
 have less:aD (uE da ι Θ) (Kw s (uE da ι Θ) ι) w w:=aD.less fun b o h=>h.1
 have same:=gD.held (Ix.Le.refl ι) less x u h;cases x with
 |ref t n sz off len c =>
  simp only[AV.DA];split
  ·rename_i l hl;obtain⟨r,hm,hl⟩:=y5.1 hl;obtain⟨b,hb,ib,cc,jf,hz,hv⟩:=h;obtain⟨zc,b',cur,ty,na,ia,ka,_⟩:=R.rows t n r hm;rw[hb]at na;injection na with na;subst na;obtain⟨h1,h2,us,hL,tc⟩:=kJ ka ia hl;subst h1;show gG _ w (.sl false l) u;simp only[gG];refine⟨_,cc,hv,yt ib jf,fun x hx y hy=>(h2 x hx).trans (h2 y hy).symm,(fun h=>by cases h),fun _=>⟨fun h=>(by cases h),fun _=>⟨b,off,rfl,?_⟩⟩⟩;rw[TH];exact IM (JE.held less _ _ hL) fun j u hj=>⟨tc j u hj,fun h=>h.2 ⟨t,n,r,hm,hb⟩⟩
  ·split
   ·rename_i l hl;obtain ⟨r,hm,hl⟩:=y5.1 hl;obtain ⟨l0,ot,hl⟩:=y5.1 hl;split at hl
    ·rename_i oe;injection hl with hl;subst hl;obtain ⟨b,hb,ib,cc,jf,hz,hv⟩:=h;obtain ⟨zc,b',cur,ty,na,ia,ka,_⟩:=R.rows t n r hm;rw [hb] at na;injection na with na;subst na;obtain ⟨h1,h2,us,hL,tc⟩:=eS ka ia ot;subst h1;have xp:=iD.wB R hL;rw [List.map_flatten] at xp;have hL2:=cJ xp fun x hx=>y6.1 oe x hx
     show gG _ w (.sl false _) u;simp only[gG];refine⟨_,cc,by rw[yo];exact hv,by rw[yo];exact yt ib jf,fun x hx y hy=>?_,(fun h=>by cases h),fun _=>⟨fun h=>(by cases h),fun _=>⟨b,off,rfl,?_⟩⟩⟩
     ·obtain⟨x',cj,rfl⟩:=yz.1 hx;obtain⟨y',wv,rfl⟩:=yz.1 hy;rw[yo,yo,h2 x' cj,h2 y' wv]
     ·rw[TH];exact IM hL2 fun j u hj=>⟨tc j u hj,fun h=>h.2 ⟨t,n,r,hm,hb⟩⟩
    ·cases hl
   ·exact same
 |_=>exact same
theorem iD.uB {D:Nat->Prop}{ι:Ix}{Θ:jM}(R:LD P O nt B F0 da w0 D s a w ι Θ):∀{xs:List AV}{us:List Value},iD ι (uE da ι Θ) w xs us->iD ι (Kw s (uE da ι Θ) ι) w (xs.map (AV.DA s)) us
 | [],_,h=>h
 |x::r,_,h=>by
  simp only[iD]at h;obtain⟨u,oa,rfl,h0,h1,h⟩:=h;exact⟨u,oa,rfl,h0.uB R,h1,h.uB R⟩
theorem sD.uB {D:Nat->Prop}{ι:Ix}{Θ:jM}(R:LD P O nt B F0 da w0 D s a w ι Θ){x:AV}{u:Value}(h:sD ι (uE da ι Θ) (zE ι Θ) w x u):sD ι (Kw s (uE da ι Θ) ι) (zE ι Θ) w (x.uB s) u:=by
 have less:aD (uE da ι Θ) (Kw s (uE da ι Θ) ι) w w:=aD.less fun b o h=>h.1
 have same:=sD.held (Ix.Le.refl ι) less (aD.refl _ _) x u h;cases x with
 |agg cs=>obtain⟨us,hv,hc⟩:=h;exact⟨us,hv,hc.uB R⟩
 |ref t n sz off len c =>
  have:=gD.uB R (x:=.ref t n sz off len c) h;show sD _ _ _ w (AV.DA s (.ref t n sz off len c)) u;generalize hy:AV.DA s (.ref t n sz off len c)=y at this ⊢;simp only[AV.DA]at hy;split at hy
  ·subst hy;exact this
  ·split at hy<;>(subst hy;exact this)
 |_=>exact same
def AV.kA (q:Option (Nat×Nat))(x:AV):AV:=match q with
 |none=>x
 |some p=>x.kill p.1 p.2
def Ix.CB (ι:Ix):Option (Nat×Nat)->Ix
 |.none=>ι
 |.some p=>ι.del p.1 p.2
theorem QF.killW {t n:Nat}{ι':Ix}{av za:Av}{r:List WC}{cur:Array Value}(h:QF ι Θ av w r cur)(hι:Ix.Lk t n ι ι')(hh:aD av za w w'):QF ι' Θ za w' (r.map (WC.kill t n)) cur:=by
 refine⟨by simpa using h.1,fun j x hx=>?_⟩;rw[yb]at hx;cases hj:r[j]? with
 |none=>rw[hj]at hx;cases hx
 |some y =>
  rw[hj]at hx;injection hx with hx;subst hx;obtain⟨u,hu,h1,hr,ha⟩:=h.2 j y hj;refine⟨u,hu,h1,?_,ha⟩;have hk:=gD.kill hι hh y.v u hr;show gD ι' za w' (y.v.kill t n) u;cases hy:y.v with
  |agg cs=>rw[hy]at hr;obtain⟨us,rfl,_⟩:=hr;simp[Value.oneCell']at h1
  |sA cs=>rw[hy]at hr;obtain⟨us,rfl,_⟩:=hr;simp[Value.oneCell']at h1
  |_=>rw[hy]at hk;exact hk
theorem LD.swap (R:LD P O nt B F0 da w0 D s a w ι Θ){q:Option (Nat×Nat)}{g0:Nat->Prop}
  (hq:match q with
   |none=>∀b,¬g0 b
   |some p=>p.1≠0/\∃r b,s.mem p.1 p.2=some r/\ι p.1 p.2=some b/\∀b',g0 b'↔b'=b)
  (hk:cE g0 w w') {d:Nat} (hd:d<nt) (hD:¬D d) {l:List AV} {g:Nat} {cur:Array Value} {ty:TypeId}
  (hg:w.heap.size<=g\/g0 g/\∃cur0 pz,w.heap[g]?=some (.cells cur0 pz (0,0))/\cur.size=cur0.size) (ia:w'.heap[g]?=some (.cells cur ty (0,0)))
  (pb:JE (fun b o=>uE da ι Θ b o\/b=g) w' l (cur.toList.take l.length)) {x:AV} {v:Value}
  (hx:∀ι':Ix,ι' d s.next=some g->ι'.z g=cur.size->sD ι' (uE da ι' Θ) (zE ι' Θ) w' x v) :
  ∃ι',LD P O nt B F0 da w0 (fun j=>D j\/j=d) (((s.kA q).setRow d s.next (l.map (⟨·,.no⟩))).put (some d) ⟨x,.no⟩) (a.put (some d) v) w' ι' Θ:=by
 have bd:ι d s.next=none:=by
  cases h:ι d s.next with
  |none=>rfl
  |some b =>
   rcases(R.mine _ _ _ h).2.2 with h1|h1
   ·omega
   ·exact absurd h1.2 hD
 have ad:ι.ob d s.next=none:=by
  cases h:ι.ob d s.next with
  |none=>rfl
  |some b =>
   rcases(R.obs _ _ _ h).2 with h1|h1
   ·omega
   ·exact absurd h1.2 hD
 -- the given block's name
 have gi:∀b,g0 b->∃p,q=some p/\ι p.1 p.2=some b/\ι.ob p.1 p.2=none/\(B<=b\/F0.r b)/\p.1≠0:=fun b hb=>by
  cases q with
  |none=>exact absurd hb (hq b)
  |some p =>
   obtain⟨h0,r,b',h1,h2,h3⟩:=hq;have e:=(h3 b).1 hb;subst e;obtain⟨g1,b2,_,_,g2,_,_,g3,_⟩:=R.rows _ _ _ h1;rw[h2]at g2;injection g2 with g2;subst g2;exact⟨p,rfl,h2,g1,g3,h0⟩
 have ra:=hk.size;have rd:=R.eC;have hgl:g<w'.heap.size:=DC ia
 -- blocks that are known stay
 have del:∀t n b,(ι.CB q) t n=some b->ι t n=some b/\¬g0 b/\b≠g:=fun t n b h=>by
  have h1:ι t n=some b/\¬g0 b:=by
   cases q with
   |none=>exact⟨h,hq b⟩
   |some p =>
    obtain⟨h1,h2⟩:=Ix.mA h;exact⟨h1,fun hb=>by
     obtain⟨p',e,h3,_⟩:=gi b hb;injection e with e;subst e;have:=R.inj _ _ _ _ _ h1 h3;exact h2 ⟨this.1,this.2⟩⟩
  refine⟨h1.1,h1.2,fun e=>?_⟩;rcases hg with hg|hg
  ·have:=(R.mine _ _ _ h1.1).2.1;omega
  ·exact h1.2 (e▸hg.1)
 obtain⟨ι',hι'⟩:∃ι':Ix,ι'=⟨fun t n=>if t=d/\n=s.next then some g else(ι.CB q) t n,ι.ob,fun b=>if b=g then cur.size else ι.z b⟩:=⟨_,rfl⟩;have rb:ι' d s.next=some g:=by subst hι';show(if d=d/\s.next=s.next then some g else _)=_;rw[if_pos ⟨rfl,rfl⟩]
 have ee:∀t n b,ι' t n=some b->(t=d/\n=s.next/\b=g)\/((ι.CB q) t n=some b/\¬(t=d/\n=s.next)):=fun t n b h=>by
  subst hι';have h':(if t=d/\n=s.next then some g else(ι.CB q) t n)=some b:=h;split at h'
  ·rename_i e;injection h' with h';exact .inl ⟨e.1,e.2,h'.symm⟩
  ·rename_i e;exact .inr ⟨h',e⟩
 have fe:∀t n b,(ι.CB q) t n=some b->ι' t n=some b:=fun t n b h=>by
  subst hι';show(if t=d/\n=s.next then some g else(ι.CB q) t n)=some b;rw[if_neg (fun e=>by have:=(del _ _ _ h).1;rw[e.1,e.2,bd]at this;cases this)];exact h
 have eb:ι'.ob=ι.ob:=by subst hι';rfl
 have oz:ι'.z g=cur.size:=by subst hι';exact if_pos rfl
 have hzo:∀b,b≠g->ι'.z b=ι.z b:=fun b h=>by subst hι';exact if_neg h
 have jj:∀t n b,ι t n=some b->ι'.z b=ι.z b:=fun t n b h=>by
  by_cases e:b=g
  ·subst e;rcases hg with hg | ⟨hg,cur0,pz,h1,h2⟩
   ·have:=(R.mine _ _ _ h).2.1;omega
   ·obtain ⟨p,e,h3,h4,_⟩:=gi b hg;cases q with
    |none=>cases e
    |some p' =>
     injection e with e;subst e;obtain⟨_,r,b',g1,g2,_⟩:=hq;obtain⟨_,b2,cur2,ty2,g3,g4,_,_,g5⟩:=R.rows _ _ _ g1;rw[h3]at g3;injection g3 with g3;subst g3;rw[h1]at g4;injection g4 with g4;injection g4 with g4;subst g4;rw[oz,h2,g5]
  ·exact hzo b e
 clear hι';have blk:∀b,b<w.heap.size->¬g0 b->w'.heap[b]?=w.heap[b]?:=fun b h1 h2=>hk.block b h1 h2
 have jh:∀b o,b<w.heap.size->b≠g->zE ι' Θ b o->zE ι Θ b o:=fun b o _ ua h=>h.imp (fun h=>h.imp (fun⟨t,n,h⟩=>by
  rcases ee _ _ _ h with⟨_,_,e⟩|⟨h,_⟩
  ·exact absurd e ua
  ·exact⟨t,n,(del _ _ _ h).1⟩) (fun⟨t,n,H,h,hb⟩=>⟨t,n,H,eb▸h,hb⟩)) id
 have away:∀b o,¬zE ι Θ b o->¬g0 b:=fun b o h hb=>by
  obtain⟨p,_,h1,_⟩:=gi b hb;exact h (.inl (.inl ⟨p.1,p.2,h1⟩))
 have ng:∀b o,b<w.heap.size->¬zE ι Θ b o->b≠g:=fun b o h1 h2 e=>by
  rcases hg with hg|hg
  ·omega
  ·exact away b o h2 (e▸hg.1)
 have hB:aD (zE ι Θ) (zE ι' Θ) w w':=⟨fun b o u hc hn=>⟨(World.cell?_of_block (w:=w) (a:=⟨b,o,none⟩) (blk b (MG hc) (away b o hn))).trans hc,fun h=>hn (jh b o (MG hc) (ng b o (MG hc) hn) h)⟩⟩;have hA:aD (uE da ι Θ) (uE da ι' Θ) w w':=⟨fun b o u hc hn=>by
  have wg:¬zE ι Θ b o:=fun h=>hn (.inr h)
  exact⟨(World.cell?_of_block (w:=w) (a:=⟨b,o,none⟩) (blk b (MG hc) (away b o wg))).trans hc,fun h=>hn (h.imp id (jh b o (MG hc) (ng b o (MG hc) wg)))⟩⟩
 have ib:q=none->Ix.Le ι ι':=fun e=>⟨fun t n b h=>fe t n b (by rw[e];exact h),jj⟩
 have ii:∀p,q=some p->Ix.Lk p.1 p.2 ι ι':=fun p e=>⟨fun t n b hn h=>fe t n b (by rw[e];exact(Ix.EB ι p.1 p.2).f _ _ _ hn h),jj⟩
 have hS:∀X V,sD ι (uE da ι Θ) (zE ι Θ) w X V->sD ι' (uE da ι' Θ) (zE ι' Θ) w' (X.kA q) V:=fun X V h=>by
  cases dq:q with
  |none=>exact sD.held (ib dq) hA hB _ _ h
  |some p=>exact sD.kill (ii p dq) hA hB _ _ h
 have pu:∀j,(s.kA q).env j=⟨(s.env j).v.kA q,(s.env j).a⟩:=fun j=>by cases q<;>rfl
 have hgh:∀j,(s.kA q).gh j=⟨(s.gh j).v.kA q,(s.gh j).a⟩:=fun j=>by cases q<;>rfl
 have hnx:(s.kA q).next=s.next:=by cases q<;>rfl
 have hobj:(s.kA q).obj=s.obj:=by cases q<;>rfl
 have hRe:JE (uE da ι' Θ) w' l (cur.toList.take l.length):=JE.held (aD.less fun b o h=>by
  by_cases e:b=g
  ·exact .inr e
  ·refine .inl (h.imp id fun h=>h.imp (fun h=>h.imp (fun ⟨t,n,h⟩=>?_) (fun ⟨t,n,H,h,hb⟩=>⟨t,n,H,eb ▸ h,hb⟩)) id);rcases ee _ _ _ h with ⟨_,_,e'⟩ | ⟨h,_⟩
   ·exact absurd e' e
   ·exact⟨t,n,(del _ _ _ h).1⟩) _ _ pb
 refine⟨ι',LD.put (s:=(s.kA q).setRow d s.next (l.map (⟨·,.no⟩))) ⟨R.defers,R.size,fun j=>?_,fun j=>?_,fun t' n' r' hr=>?_,fun t' n' b h=>?_,fun t1 n1 t2 n2 b h h'=>?_,fun k o h=>?_,R.OA,fun k o t' n' h h'=>?_,R.out,fun p h=>?_,?_,R.base,fun t' n' S h=>?_,fun t' n' H h=>?_,fun j=>?_,fun j=>?_⟩ hd (hx _ rb oz) trivial⟩
 ·show sD ι' _ _ w' ((s.kA q).env j).v _;rw[pu];exact hS _ _ (R.env j)
 ·show TM Θ ((s.kA q).env j).a _;rw[pu];exact R.ZB j
 ·simp only [OC.setRow] at hr;split at hr
  ·rename_i e;injection hr with hr;subst hr;refine ⟨by rw [eb,e.1,e.2]; exact ad,g,cur,ty,by rw [e.1,e.2]; exact rb,ia,Ik hRe (fun j u hj=>?_),?_,oz.symm⟩
   ·rw [yI] at hj;split at hj
    ·simpa using hj
    ·cases hj
   ·rcases hg with hg | hg
    ·exact .inl (by omega)
    ·obtain⟨p,_,_,_,h4,_⟩:=gi g hg.1;exact h4
  ·have key:∃r0,s.mem t' n'=some r0/\(ι.CB q) t' n'=ι t' n'/\r'=r0.map (fun x=>⟨x.v.kA q,x.a⟩):=by
    cases q with
    |none=>exact⟨r',hr,rfl,by simp[AV.kA]⟩
    |some p =>
     simp only[OC.kA,OC.kill]at hr;split at hr
     ·cases hr
     ·rename_i hn;cases jb:s.mem t' n' with
      |none=>rw[jb]at hr;cases hr
      |some r0 =>
       rw[jb]at hr;injection hr with hr;exact⟨r0,rfl,if_neg hn,hr.symm⟩
   obtain⟨r0,jb,ll,rfl⟩:=key;obtain⟨h0,b,db,gl,h1,h2,h3,h4,h5⟩:=R.rows t' n' r0 jb;have hdl:(ι.CB q) t' n'=some b:=ll.trans h1;obtain⟨_,hng,_⟩:=del _ _ _ hdl;refine⟨eb▸h0,b,db,gl,fe _ _ _ hdl,(blk b (DC h2) hng).trans h2,?_,h4,h5.trans (jj _ _ _ h1).symm⟩;cases dq:q with
   |none =>
    have:r0.map (fun x:WC=>(⟨x.v.kA none,x.a⟩:WC))=r0:=by simp[AV.kA]
    rw[this];exact h3.held (ib dq) hA (fun _ _ h=>h)
   |some p=>exact h3.killW (ii p dq) hA
 ·rcases ee _ _ _ h with ⟨e1,e2,e3⟩ | ⟨h,_⟩
  ·subst e3;refine ⟨?_,hgl,.inr ⟨by rw [e2]; exact hnx.symm,.inr e1⟩⟩;rcases hg with hg | hg
   ·exact .inl (by omega)
   ·obtain⟨p,_,h3,_⟩:=gi b hg.1;exact(R.mine _ _ _ h3).1
  ·obtain⟨h1,h2,h3⟩:=R.mine t' n' b (del _ _ _ h).1;refine⟨h1,by omega,?_⟩;show n'<(s.kA q).next\/n'=(s.kA q).next/\_;rw[hnx];exact h3.imp id fun⟨e,d⟩=>⟨e,.inl d⟩
 ·rcases ee _ _ _ h with ⟨e1,e2,e3⟩ | ⟨h,hn⟩ <;> rcases ee _ _ _ h' with ⟨f1,f2,f3⟩ | ⟨h',wg⟩
  ·exact⟨e1.trans f1.symm,e2.trans f2.symm⟩
  ·exact absurd e3 (del _ _ _ h').2.2
  ·exact absurd f3 (del _ _ _ h).2.2
  ·exact R.inj _ _ _ _ _ (del _ _ _ h).1 (del _ _ _ h').1
 ·obtain⟨h1,h2,h3,h4,db,h5,h6⟩:=R.tok k o h;exact⟨h1,h2,h3,h4,db,(blk _ (DC h5) fun hb=>by
   obtain⟨p,_,h7,_⟩:=gi _ hb;exact R.apart k o _ _ h h7).trans h5,h6⟩
 ·rcases ee _ _ _ h' with ⟨e1,e2,e3⟩ | ⟨h',_⟩
  ·obtain ⟨_,_,_,_,db,h5,_⟩:=R.tok k o h;rcases hg with hg | hg
   ·have:=DC h5;omega
   ·obtain⟨p,_,h7,_⟩:=gi _ hg.1;exact R.apart k o _ _ h (e3▸h7)
  ·exact R.apart k o t' n' h (del _ _ _ h').1
 ·obtain⟨h1,h2⟩:=R.pin p h;have hdl:(ι.CB q) 0 0=some p:=by
   cases dq:q with
   |none=>exact h1
   |some p' =>
    subst dq;exact(Ix.EB ι p'.1 p'.2).f _ _ _ (fun e=>hq.1 e.1.symm) h1
  exact⟨fe _ _ _ hdl,h2.imp (fun g=>⟨g.1,(jj _ _ _ h1).trans g.2⟩) fun g=>eb▸g⟩
 ·exact R.kept.trans hk fun i hi hb=>by
   obtain⟨p,_,h3,_⟩:=gi i hb;rcases(R.mine _ _ _ h3).1 with h|h
   ·have:=R.base.1;omega
   ·exact h
 ·have h:s.obj t' n'=some S:=by
   have:((s.kA q).setRow d s.next (l.map (⟨·,.no⟩))).obj=s.obj:=hobj;rw[this]at h;exact h
  obtain⟨p,H,h1,h2,h3,h4⟩:=R.WA t' n' S h;have zd:∀t1 n1 b1 H1,ι t1 n1=some b1->ι.ob t1 n1=some H1->ι' t1 n1=some b1:=fun t1 n1 b1 H1 g1 g2=>by
   refine fe _ _ _ ?_;cases dq:q with
   |none=>exact g1
   |some p' =>
    refine(Ix.EB ι p'.1 p'.2).f _ _ _ (fun e=>?_) g1;subst dq;obtain⟨_,r,b,m1,m2,m3⟩:=hq;have:=(R.rows _ _ _ m1).1;rw[e.1,e.2,this]at g2;cases g2
  have hHb:∀b,H b->¬g0 b:=fun b hb h=>by
   obtain⟨p',e,h5,h6,_⟩:=gi b h;have e2:=((R.obs _ _ _ h2).1 b hb).2.2.1 _ _ h5;rw[e2.1,e2.2,h2]at h6;cases h6
  exact⟨p,H,zd _ _ _ _ h1 h2,eb▸h2,O.keep h3 (fun b hb=>blk b (O.lt h3 hb) (hHb b hb)) ra,h4.keep (fun t1 n1 b1 H1 g1 g2=>⟨zd _ _ _ _ g1 g2,H1,eb▸g2⟩) fun x hx=>(blk _ (DC hx) (hHb _ (O.main h3))).trans hx⟩
 ·rw [eb] at h;obtain ⟨h1,h2⟩:=R.obs t' n' H h;refine ⟨fun b hb=>?_,?_⟩
  ·obtain ⟨g1,g2,g3,g4,g5⟩:=h1 b hb;refine ⟨g1,by omega,fun t2 n2 h'=>?_,g4,eb ▸ g5⟩;rcases ee _ _ _ h' with ⟨e1,e2,e3⟩ | ⟨h',_⟩
   ·exfalso;rcases hg with hg | hg
    ·omega
    ·obtain⟨p',e,h5,h6,_⟩:=gi g hg.1;have e4:=g3 _ _ (e3▸h5);rw[e4.1,e4.2,h]at h6;cases h6
   ·exact g3 t2 n2 (del _ _ _ h').1
  ·show n'<(s.kA q).next\/n'=(s.kA q).next/\_;rw[hnx];exact h2.imp id fun⟨e,d⟩=>⟨e,.inl d⟩
 ·show sD ι' _ _ w' ((s.kA q).gh j).v _;rw[hgh];exact hS _ _ (R.gen j)
 ·show TM Θ ((s.kA q).gh j).a _;rw[hgh];exact R.CA j
theorem Oc {cl:Cl}{hs:Nat->Bool}{L:List Nat}{op:Go.Op}{k:K}(h:eX P cl hs L op=some k):Ti k=false:=by
 unfold eX at h;split at h
 ·split at h
  ·obtain⟨_,_,rfl⟩:=ye.1 h;rfl
  ·split at h
   ·split at h
    ·split at h
     ·split at h
      ·split at h
       ·split at h
        ·split at h
         ·injection h with h;subst h;rfl
         ·split at h
          ·injection h with h;subst h;rfl
          ·cases h
        ·cases h
       ·cases h
      ·cases h
     ·cases h
    ·cases h
   ·cases h
 ·cases h
theorem Nt {av:Av}{cs:List AV}{us:List Value}(h:JE av w cs us){cur:Array Value}(hc:∀(j:Nat) (u:Value),us[j]?=some u->cur[j]?=some u):us=cur.toList.take cs.length:=by
 have hl:=HE (SF (ι:=Ix.none) h);refine List.ext_getElem? fun j=>?_
 rw[yI];split
 ·rename_i hj;have hu:us[j]?=some us[j]:=y7 (by omega);rw[hu,Array.getElem?_toList,hc j _ hu]
 ·exact yV (by omega)
theorem op_own (R:LD P O nt B F0 da w0 D s a w ι Θ){call:DD}(ma:∀f args S r,call f args S=some r->gE P O f args S r){cl:Cl}{hs:Nat->Bool}{L:List Nat}{k:K}(hk:eX P cl hs L o.op=some k)(hd:∀d,o.dst=some d->d<nt)(hD:∀d,o.dst=some d->(n9 k||nV k)=true->¬D d)
  {xe:WC×rF} (hr:k.run call s=some xe) {g} {s':OC} (he:JC.eff ⟨o.dst,k,g⟩ s xe=some s')
  {Kn:Act->World->Prop} {Q:Exit->Act->World->Prop} (hK:∀a' w',JF P O nt B F0 da w0 (fun t=>D t\/o.dst=some t) s' a' w'->Kn a' w'):o.wp P a w Kn Q:=by
 unfold eX at hk;split at hk
 case h_2=>cases hk
 rename_i f Xs ts ho;have le:(Xs.toList.map a.eval).toArray=Xs.map a.eval:=by rw[<- Array.toList_map,yK]
 have run:(∀xs w,(callFunc f xs).run P w=.ok (.enter f xs) w)->(execOp a.eval o).run P w=.ok (.enter f (Xs.map a.eval)) w:=fun h=>by
  simp only[execOp,ho,resolve,Act.eval,Deferred.ofValue,Sem.run_bind,Sem.run_pure,Result.andThen_ok,invoke];have:=h (#[]++Xs.map a.eval++#[]) w;simp_all
 have ar:∀b o,uE da ι Θ b o->b<w.heap.size:=fun b o h=>R.low h
 obtain⟨x,e⟩:=xe;split at hk
 ·-- numbers and letters,by what the memory of the arguments sr
  obtain⟨xs,kc,rfl⟩:=ye.1 hk;simp only[K.run]at hr;split at hr
  case isFalse=>cases hr
  rename_i aa;obtain⟨r,hc,hr⟩:=y5.1 hr;split at hr
  case h_2=>cases hr
  rename_i v;split at hr
  case isFalse=>cases hr
  rename_i tj;injection hr with hr;injection hr with h1 h2;subst h1;subst h2;have hm:PI (xs.map fun x=>(x.get s).uB s)=false:=by
   cases hv:xs.map fun x=>(x.get s).uB s with
   |nil=>rfl
   |cons y ys =>
    have:=y6.1 aa.2 y (by rw[hv];exact yl);cases y<;>first|rfl|(simp[AV.free,AV.iA]at this;done)
  have la:=(gE.of hm).1 (ma f _ none _ hc);have gb:∀{Xs:List Operand}{xs:List KD},NH Xs=some xs->(xs.map fun x=>(x.get s).uB s).all AV.free=true->KK Ix.none (Kw s (uE da ι Θ) ι) (fun _ _=>False) w (xs.map fun x=>(x.get s).uB s) (Xs.map a.eval):=by
   intro Xs
   induction Xs with
   |nil=>intro xs h _;injection h with h;subst h;rfl
   |cons X Xr ih =>
    intro xs h hf;unfold NH at h;split at h
    ·rename_i y ys hy hys;injection h with h;subst h;simp only[yk,List.all_cons,y9]at hf ⊢;exact⟨_,_,rfl,DY ((R.uA hy).1.uB R) hf.1,ih hys hf.2⟩
    ·cases h
  simp only[JC.eff]at he;injection he with he;subst he;have hC:=la.2 (Kw s (uE da ι Θ) ι) w _ ⟨⟨R.wd,fun _ h=>h.elim⟩,fun b o h=>ar b o h.1⟩ (gb kc aa.2);rw[le]at hC;unfold Oper.wp;rw[run la.1,Oper.upon_enter];refine hC.mono ?_;rintro e w' ⟨u,rfl,hv,hb⟩;have R':LD P O nt B F0 da w0 D s a w' ι Θ:=R.grow (fun b na=>hb.block b na) hb.size (R.kept.FA hb);refine hK _ _ ⟨ι,Θ,(R'.MA (x:=⟨v,.no⟩) hd ?_ trivial).more fun _ h=>.inl h⟩;refine AM ?_;cases v with
  |sA vs =>
   obtain⟨us,hu,ht⟩:=hv;refine⟨us,hu,?_⟩;have key:∀{vs:List AV}{us:List Value},vs.all AV.TA=true->WO (Kw s (uE da ι Θ) ι) w' vs us->WO (uE da ι Θ) w' vs us:=by
    intro vs
    induction vs with
    |nil=>intro us _ h;exact h
    |cons y r ih =>
     intro us hs h;simp only[List.all_cons,y9]at hs;simp only[WO]at h ⊢;obtain⟨u,oa,rfl,h0,h⟩:=h;refine⟨u,oa,rfl,?_,ih hs.2 h⟩;cases y<;>first|exact h0|(simp[AV.TA]at hs;done)
   exact key tj ht
  |_=>first|exact hv|(simp[AV.plain,AV.TA]at tj;done)
 ·split at hk
  case isFalse=>cases hk
  split at hk
  case h_2=>cases hk
  split at hk
  case h_2=>cases hk
  split at hk
  case h_2=>cases hk
  split at hk
  case h_2=>cases hk
  rename_i z ys hz kc;split at hk
  case isFalse=>cases hk
  split at hk
  ·-- a new slice
   injection hk with hk;subst hk;simp only[K.run]at hr;split at hr
   case h_2=>cases hr
   rename_i vs hl sf;obtain⟨r,hc,hr⟩:=y5.1 hr;split at hr
   case h_2=>cases hr
   rename_i b l;split at hr
   case isFalse=>cases hr
   rename_i aa;have la:UO P O f vs none (.sl b l,none):=gE.own (IP hl) (ma f (.undef::vs) none _ hc);have nob:∀x∈ys,∀t n,x.get s=.ptr t n 0->False:=fun x hx t n h=>by
    have:(t,n)∈SI s ys:=List.mem_filterMap.2 ⟨x,hx,by rw[h]⟩;rw[sf]at this;cases this
   have gb:=dJ (ι':=Ix.none) (avl:=fun _ _=>False) R (fun _ _ h=>h.elim) kc hl fun x hx t n h=>(nob x hx t n h).elim
   have hC:=la.2 (uE da ι Θ) w _ R.MB gb;rw[le]at hC;unfold Oper.wp;rw[run la.1,Oper.upon_enter];refine hC.mono ?_;rintro e' w' ⟨u,rfl,hv,hb⟩;split at hr
   ·rename_i zi;have ot:l=[]:=by simpa using zi
    subst ot;injection hr with hr;injection hr with h1 h2;subst h1;subst h2;simp only[JC.eff]at he;injection he with he;subst he;rw[if_pos rfl]at hv;have R':LD P O nt B F0 da w0 D s a w' ι Θ:=R.grow (fun b na=>hb.block b na) hb.size (R.kept.FA hb);exact hK _ _ ⟨ι,Θ,(R'.MA (x:=⟨.sl b [],.ex⟩) hd (AM hv.1) (hv.2.imp fun A h=>⟨0,h⟩)).more fun _ h=>.inl h⟩
   ·rename_i zi;have ua:l≠[]:=fun h=>zi (by simp [h])
    split at hr
    case isTrue=>cases hr
    injection hr with hr;injection hr with h1 h2;subst h1;subst h2;cases ba:o.dst with
    |none=>simp[JC.eff,ba]at he
    |some d =>
     simp only[JC.eff,ba]at he;injection he with he;subst he;rw[if_neg ua]at hv;obtain⟨g',c,cur,ty,rfl,hg,ia,ib,mh,pb⟩:=hv z aa.1;obtain⟨ι',R'⟩:=R.swap (q:=none) (g0:=fun _=>False) (fun _ h=>h) (cE.of_below hb _) (hd d ba) (hD d ba rfl) (l:=l.flatten) (hg.imp id fun h=>h.1.elim) ia pb (x:=.ref d s.next z 0 l.length l.length) (v:=.slice (some ⟨g',0,none⟩) l.length c) fun ι' h1 h2=>⟨g',h1,yg _,c,ib,by rw[h2,yy];exact mh,rfl⟩
     refine hK _ _ ⟨ι',Θ,?_⟩;rw[ba];exact R'.more fun t h=>h.imp id fun e=>by rw[e]
  ·split at hk
   case h_2=>cases hk
   rename_i y rest;injection hk with hk;subst hk
   -- the first argument is the row
   cases jt:Xs.toList with
   |nil=>rw[jt]at kc;cases kc
   |cons X Xr =>
    rw[jt]at kc le;unfold NH at kc;split at kc
    case h_2=>cases kc
    rename_i y' rest' hy hrest;injection kc with kc;injection kc with e1 e2;subst e1;subst e2;simp only[K.run]at hr;split at hr
    case h_2=>cases hr
    rename_i vs hl sf;split at hr
    case isFalse=>cases hr
    have nob:∀x∈rest',∀t n,x.get s=.ptr t n 0->False:=fun x hx t n h=>by
     have:(t,n)∈SI s rest':=List.mem_filterMap.2 ⟨x,hx,by rw[h]⟩;rw[sf]at this;cases this
    have gb:=dJ (ι':=Ix.none) (avl:=fun _ _=>False) R (fun _ _ h=>h.elim) hrest hl fun x hx t n h=>(nob x hx t n h).elim
    have hY:=(R.uA hy).1;have fin:∀{q:Option (Nat×Nat)}{g0:Nat->Prop}{l':List (List AV)}{nl:Bool}{l0:List (List AV)},(match q with
      |none=>∀b,¬g0 b
      |some p=>p.1≠0/\∃r b,s.mem p.1 p.2=some r/\ι p.1 p.2=some b/\∀b',g0 b'↔b'=b)->UO P O f (.sl nl l0::vs) (some (.int .i64 z)) (.sl false l',none)->Ia z (uE da ι Θ) w nl l0 (a.eval X) g0 →
      (∀d,o.dst=some d->s'=(((s.kA q).setRow d s.next (HC l')).put (some d) ⟨.ref d s.next z 0 l'.length l'.length,.no⟩))->(o.dst=none->False)->o.wp P a w Kn Q:=fun{q g0 l' nl l0} hq la hgi uj zc=>by
     have hC:=la.2 (uE da ι Θ) w (a.eval X) _ g0 ⟨⟨R.wd,fun b hb=>by
      cases q with
      |none=>exact(hq b hb).elim
      |some p =>
       obtain⟨_,r,b',_,h1,h2⟩:=hq;rw[(h2 b).1 hb];exact R.lo (R.mine _ _ _ h1).1⟩,ar⟩ gb (by simpa using hgi)
     have he1:(a.eval X::Xr.map a.eval).toArray=Xs.map a.eval:=by rw[<- le];rfl
     rw[he1]at hC;unfold Oper.wp;rw[run la.1,Oper.upon_enter];refine hC.mono ?_;rintro e' w' ⟨u,rfl,⟨g',c,cur,ty,rfl,hg,ia,ib,mh,pb⟩,hkp⟩;cases ba:o.dst with
     |none=>exact(zc ba).elim
     |some d =>
      obtain⟨ι',R'⟩:=R.swap (q:=q) hq hkp (hd d ba) (hD d ba rfl) (l:=l'.flatten) hg ia pb (x:=.ref d s.next z 0 l'.length l'.length) (v:=.slice (some ⟨g',0,none⟩) l'.length c) fun ι' h1 h2=>⟨g',h1,yg _,c,ib,by rw[h2,yy];simpa using mh,rfl⟩
      refine hK _ _ ⟨ι',Θ,?_⟩;rw[uj d ba,ba];exact R'.more fun t h=>h.imp id fun e=>by rw[e]
    split at hr
    ·rename_i t n z' off ln cap zj;split at hr
     case h_2=>cases hr
     rename_i l0 sb;split at hr
     case isFalse=>cases hr
     rename_i aa;obtain⟨rfl,rfl,ab,hLt⟩:=aa;obtain⟨r,hc,hr⟩:=y5.1 hr;split at hr
     case h_2=>cases hr
     rename_i l';split at hr
     case isFalse=>cases hr
     injection hr with hr;injection hr with h1 h2;subst h1;subst h2;have la:UO P O f (.sl false l0::vs) (some (.int .i64 z')) (.sl false l',none):=gE.own rfl (ma f (.undef :: .sl false l0::vs) _ _ hc);rw[zj]at hY;obtain⟨b,hb,ib,cc,jf,jj,hv⟩:=hY;simp only[AV.elems]at sb;split at sb
     case isFalse=>cases sb
     obtain⟨row,hm,sb⟩:=y5.1 sb;obtain⟨zc,b',cur,ty,na,ia,ka,_,mh⟩:=R.rows t n row hm;rw[hb]at na;injection na with na;subst na;obtain⟨q1,q2,us,q3,q4⟩:=kJ ka ia sb;have tc:us=cur.toList.take l0.flatten.length:=Nt q3 fun j u hj=>by
      have:=q4 j u hj;simpa [World.cell?,ia]using this
     rw[tc]at q3;subst q1;refine fin (q:=some (t,n)) (g0:=fun x=>x=b) ⟨ab,row,b,hm,hb,fun _=>Iff.rfl⟩ la (.inr ⟨rfl,b,cc,cur,ty,hv,fun _=>Iff.rfl,ia,yt ib jf,by rw[mh];simpa using jj,fun o=>.inr (.inl (.inl ⟨t,n,hb⟩)),q3⟩) (fun d ba=>?_) fun ba=>by simp[JC.eff,ba]at he
     simp only[JC.eff,ba]at he;injection he with he;exact he.symm
    ·rename_i b zj;split at hr
     case isFalse=>cases hr
     rename_i nh;obtain⟨r,hc,hr⟩:=y5.1 hr;split at hr
     case h_2=>cases hr
     rename_i l';split at hr
     case isFalse=>cases hr
     injection hr with hr;injection hr with h1 h2;subst h1;subst h2;have la:UO P O f (.sl b []::vs) (some (.int .i64 z)) (.sl false l',none):=gE.own rfl (ma f (.undef :: .sl b []::vs) _ _ hc);have hYa:=(R.uA hy).2;rw[zj]at hY;obtain⟨A,c,hv,_,_,h3,_⟩:=hY;obtain⟨ku,ev⟩:c=0/\(b=true->A=none):=by
      cases b with
      |true =>
       obtain⟨rfl,_,rfl⟩:=h3 rfl;exact⟨rfl,fun _=>rfl⟩
      |false =>
       refine⟨?_,fun h=>by cases h⟩;unfold exB OE at nh;cases ha:y'.an s with
       |ex =>
        rw[ha,hv]at hYa;obtain⟨A',n',h⟩:=hYa;injection h with _ h1 h2;rw[h2,<- h1];rfl
       |no=>rw[ha]at nh;cases nh
       |own k e=>rw[ha]at nh;cases nh
     refine fin (q:=none) (g0:=fun _=>False) (fun _ h=>h) la (.inl ⟨rfl,⟨A,by rw[hv,ku];rfl⟩,fun h=>by rw[hv,ku,ev h];rfl,fun _ h=>h⟩) (fun d ba=>?_) fun ba=>by simp[JC.eff,ba]at he
     simp only[JC.eff,ba]at he;injection he with he;exact he.symm
    ·cases hr
end
end
section
open Go Go.RowKit
section
variable {P:Program} {O:XI} {nt B:Nat} {F0:FQ} {da:Av} {w0:World} {D:Nat->Prop} {s:OC} {a:Act} {w w':World} {ι:Ix} {Θ:jM} {o:Oper}
theorem sE (R:LD P O nt B F0 da w0 D s a w ι Θ){x:WC}{e:rF}(hv:e=.none/\BT P da a w ι Θ o x)(hd:∀d,o.dst=some d->d<nt){k:K} {g} {s':OC} (he:JC.eff ⟨o.dst,k,g⟩ s (x,e)=some s')
  {Kn:Act->World->Prop} {Q:Exit->Act->World->Prop} (hK:∀a' w',JF P O nt B F0 da w0 D s' a' w'->Kn a' w'):o.wp P a w Kn Q:=by
 obtain⟨rfl,v,ca,hS,hA⟩:=hv;simp only[JC.eff]at he;cases he;unfold Oper.wp;rw[ca,Oper.upon_value];exact hK _ _ ⟨ι,Θ,R.MA hd hS hA⟩
theorem Qw {s':OC}(h:∃v w',(execOp a.eval o).run P w=.ok (.value v) w'/\JF P O nt B F0 da w0 D s' (a.put o.dst v) w')
  {Kn:Act->World->Prop} {Q:Exit->Act->World->Prop} (hK:∀a' w',JF P O nt B F0 da w0 D s' a' w'->Kn a' w'):o.wp P a w Kn Q:=by
 obtain⟨v,w',ca,hR⟩:=h;unfold Oper.wp;rw[ca,Oper.upon_value];simp_all
theorem pF {α β:Type}{x:Option α}{f:α->β}{z:β}(h:x.map f=some z):∃a,x=some a/\f a=z:=by
 simp_all
theorem Wt {xs:Array Operand}{x':KD}(hx:NH xs.toList=some [x']):∃X,xs=#[X]/\uA X=some x':=by
 obtain⟨l⟩:=xs
 match l,hx with
 | [X],hx =>
  unfold NH at hx
  grind
 | [],hx=>simp[NH]at hx
 |X::Y::r,hx =>
  unfold NH at hx;split at hx
  ·rename_i y l hy hl;injection hx with hx;injection hx with h1 h2;subst h2;unfold NH at hl
   grind
  ·cases hx
theorem Sj (R:LD P O nt B F0 da w0 D s a w ι Θ){call:DD}(ma:∀f args S r,call f args S=some r->gE P O f args S r){cl:Cl}{mu:Option Bool}{nest:Bool}{k:K}(hk:F9 P cl mu o.op nest=some k)(rj:mu≠none->o.dst≠none)(hd:∀d,o.dst=some d->d<nt)(hD:∀d,o.dst=some d->(n9 k||nV k)=true->¬D d)
  {xe:WC×rF} (hr:k.run call s=some xe) {g} {s':OC} (he:JC.eff ⟨o.dst,k,g⟩ s xe=some s')
  {Kn:Act->World->Prop} {Q:Exit->Act->World->Prop} (hK:∀a' w',JF P O nt B F0 da w0 (fun t=>D t\/o.dst=some t) s' a' w'->Kn a' w'):o.wp P a w Kn Q:=by
 have pd:∀a' w',JF P O nt B F0 da w0 D s' a' w'->Kn a' w':=fun a' w' ⟨ι',Θ',h⟩=>hK a' w' ⟨ι',Θ',h.more fun _ h=>.inl h⟩
 have rb:∀d,o.dst=some d->(∃v w',(execOp a.eval o).run P w=.ok (.value v) w'/\JF P O nt B F0 da w0 (fun t=>D t\/t=d) s' (a.put o.dst v) w')->o.wp P a w Kn Q:=fun d ba h =>
  Qw h fun a' w' ⟨ι',Θ',h⟩=>hK a' w' ⟨ι',Θ',h.more fun t h=>h.imp id fun e=>by rw[ba,e]⟩
 obtain⟨x,e⟩:=xe;cases fb:o.op<;>rw[fb]at hk<;>simp only[F9]at hk
 case move X=>obtain⟨y,hy,rfl⟩:=pF hk;simp only[K.run]at hr;injection hr with hr;injection hr with h1 h2;subst h1;subst h2;exact sE R ⟨rfl,Nl R hy (.inl fb)⟩ hd he pd
 case assign X=>obtain⟨y,hy,rfl⟩:=pF hk;simp only[K.run]at hr;injection hr with hr;injection hr with h1 h2;subst h1;subst h2;exact sE R ⟨rfl,Nl R hy (.inr fb)⟩ hd he pd
 case pick C X Y =>
  split at hk
  ·rename_i c x' y' hc hx hy;cases hk;simp only [K.run] at hr;split at hr
   ·rename_i t ht;injection hr with hr;injection hr with h1 h2;subst h1;subst h2;exact sE R ⟨rfl,Ml R hc hx hy fb ht⟩ hd he pd
   ·cases hr
  ·cases hk
 case alloc t =>
  split at hk
  case h_2 =>
   obtain⟨el,sb,rfl⟩:=pF hk;simp only[K.run]at hr;injection hr with hr;injection hr with h1 h2;subst h1;subst h2;cases ba:o.dst with
   |none=>simp[JC.eff,ba]at he
   |some d =>
    simp only[JC.eff,ba]at he;cases he;exact rb d ba (op_mkb R sb fb ba (hd d ba) (hD d ba rfl))
  obtain⟨z,hz,rfl⟩:=pF hk;cases ba:o.dst with
  |none=>simp[K.run]at hr;obtain⟨rfl,rfl⟩:=hr;simp[JC.eff,ba]at he
  |some d=>exact rb d ba (Ij R hz fb ba (hd d ba) (hD d ba rfl) hr he)
 case box t X =>
  split at hk
  ·rename_i z x' hz hx;cases hk;cases ba:o.dst with
   |none =>
    simp only[K.run]at hr;split at hr
    ·split at hr
     ·injection hr with hr;injection hr with h1 h2;subst h1;subst h2;simp[JC.eff,ba]at he
     ·cases hr
    ·split at hr
     ·injection hr with hr;injection hr with h1 h2;subst h1;subst h2;simp[JC.eff,ba]at he
     ·cases hr
   |some d=>exact rb d ba (Mb R hx fb ba (hd d ba) (hD d ba rfl) hr he)
  ·cases hk
 case build t ps =>
  split at hk
  ·rename_i fs z ys ht hz hy;split at hk
   ·rename_i pl tj;obtain⟨zs,ij,rfl⟩:=pF hk;obtain⟨zv,i,hi,ul,_,hl⟩:=UI hz w;refine sE R (G4 R hl (pl:=(pl.toArray[·]?)) ?_ hy ij fb hr) hd he pd;simp[Program.built,hi,ht,ul,tj]
   ·cases hk
  ·rename_i n el z ys ht hz hy;split at hk
   ·rename_i ie hie;obtain⟨zs,ij,rfl⟩:=pF hk;obtain⟨zv,i,hi,ul,_,hl⟩:=UI hz w;refine sE R (G4 R hl (pl:=fun i=>some (i*ie.size,ie.size)) ?_ hy ij fb hr) hd he pd;simp[Program.built,hi,ht,ul,hie]
   ·cases hk
  ·cases hk
 case buildSlice t n ps =>
  split at hk
  ·rename_i el ys ht hy;split at hk
   ·rename_i z kk hz hs;split at hk
    ·rename_i hc;cases mu with
     |none =>
      simp only at hk;cases hk;obtain⟨rfl,v,w',ca,R',hS,hA⟩:=op_bsl R ht hz hs hc.1 hc.2.1 hc.2.2 hy fb hr;simp only[JC.eff]at he;cases he;unfold Oper.wp;rw[ca,Oper.upon_value];exact pd _ _ ⟨ι,Θ,R'.MA hd hS hA⟩
     |some m =>
      simp only at hk;cases hk;cases ba:o.dst with
      |none=>exact absurd ba (rj (by simp))
      |some d=>exact rb d ba (Qn R ht hz hs hc.1 hc.2.1 hc.2.2 hy fb ba (hd d ba) (hD d ba rfl) hr he)
    ·cases hk
   ·cases hk
  ·cases hk
 case load t X =>
  split at hk
  ·rename_i ag z y hA hz hx;cases hk;exact sE R (Xl R hA hz hx fb hr) hd he pd
  ·cases hk
 case store t X Y =>
  split at hk
  ·rename_i ag z x' y' hA hz hx hy;split at hk
   ·rename_i hag;cases hk;obtain⟨w',ca,hR⟩:=Dj R hz (by simpa using hag) hx hy fb hd hr he;unfold Oper.wp;rw[ca,Oper.upon_skip];simp_all
   ·cases hk
  ·cases hk
 case nilCheck X=>obtain⟨y,hy,rfl⟩:=pF hk;exact sE R (Iw R hy fb hr) hd he pd
 case binOp op t X Y t' =>
  split at hk
  ·rename_i x' y' hx hy;split at hk
   ·cases hk;simp only [K.run] at hr;obtain ⟨v,hv,hr⟩:=pF hr;injection hr with h1 h2; subst h1; subst h2
    refine sE R ⟨rfl,Mm R (fun hb=>?_) hx hy fb hv⟩ hd he pd
    grind
   ·split at hk
    ·split at hk
     ·rename_i el ht;injection hk with hk;subst hk;exact sE R (fY R (neg:=false) (ptr:=false) ⟨el,ht⟩ hx hy fb hr) hd he pd
     ·rename_i el ht;injection hk with hk;subst hk;exact sE R (fY R (neg:=false) (ptr:=true) ⟨el,ht⟩ hx hy fb hr) hd he pd
     ·obtain⟨ks,ht,rfl⟩:=pF hk;exact sE R (Ry R (neg:=false) ht hx hy fb hr) hd he pd
    ·split at hk
     ·rename_i el ht;injection hk with hk;subst hk;exact sE R (fY R (neg:=true) (ptr:=false) ⟨el,ht⟩ hx hy fb hr) hd he pd
     ·rename_i el ht;injection hk with hk;subst hk;exact sE R (fY R (neg:=true) (ptr:=true) ⟨el,ht⟩ hx hy fb hr) hd he pd
     ·obtain⟨ks,ht,rfl⟩:=pF hk;exact sE R (Ry R (neg:=true) ht hx hy fb hr) hd he pd
    ·cases hk
  ·cases hk
 case unOp op t X =>
  split at hk
  ·obtain⟨y,hy,rfl⟩:=pF hk;exact sE R (val_un R hy fb hr) hd he pd
  ·cases hk
 case convert t t' X =>
  split at hk
  ·rename_i j kk x' h1 h2 hx;injection hk with hk;subst hk;exact sE R (j9 R (k:=some kk) ⟨⟨j,h1⟩,h2⟩ hx fb hr) hd he pd
  ·rename_i x' h1 h2 hx;injection hk with hk;subst hk;exact sE R (j9 R (k:=none) ⟨h1,h2⟩ hx fb hr) hd he pd
  ·rename_i j x' h1 h2 hx;injection hk with hk;subst hk;exact sE R (Qz R h1 h2 hx fb hr) hd he pd
  ·rename_i el x' h1 h2 hx;split at hk
   ·rename_i h3;split at hk
    ·injection hk with hk;subst hk;exact sE R (Zl R h1 h3 h2 hx fb hr) hd he pd
    ·cases hk
   ·cases hk
  ·cases hk
 case makeSlice t L C =>
  split at hk
  ·rename_i el l c ht hl hc;split at hk
   ·rename_i z i hz hi;split at hk
    ·rename_i aa;cases hk;cases ba:o.dst with
     |none =>
      simp only[K.run]at hr;split at hr
      ·split at hr
       ·injection hr with hr;injection hr with h1 h2;subst h1;subst h2;simp[JC.eff,ba]at he
       ·cases hr
      ·cases hr
     |some d=>exact rb d ba (op_mks R ht hi hz aa.1 hl hc fb ba (hd d ba) (hD d ba rfl) hr he)
    ·cases hk
   ·cases hk
  ·cases hk
 case slice t X L H M =>
  split at hk
  ·rename_i x' l h m hx hl hh hm;split at hk
   ·rename_i ht;cases hk;cases M with
    |none=>injection hm with hm;subst hm;exact sE R (Iy R (str:=true) ht hx hl hh fb hr) hd he pd
    |some M=>simp only[BX]at hm;obtain⟨m',_,rfl⟩:=pF hm;simp[K.run]at hr
   ·rename_i el ht;split at hk
    ·rename_i jj;obtain⟨z,hz,rfl⟩:=pF hk;rw[y9]at jj;exact sE R (val_slz R ht hz jj.1 jj.2 hx fb hr) hd he pd
    ·obtain ⟨z,hz,rfl⟩:=pF hk;cases M with
     |none=>injection hm with hm;subst hm;exact sE R (Iy R (str:=false) ⟨el,ht,hz⟩ hx hl hh fb hr) hd he pd
     |some M=>simp only[BX]at hm;obtain⟨m',_,rfl⟩:=pF hm;simp[K.run]at hr
   ·rename_i n' el ht;cases M with
    |none =>
     injection hm with hm;subst hm;obtain⟨z,hz,rfl⟩:=pF hk;exact sE R (Ll R ht hz hx hl hh fb hr) hd he pd
    |some M=>simp only[BX]at hm;obtain⟨m',_,rfl⟩:=pF hm;cases hk
   ·cases hk
  ·cases hk
 case fieldAddr t X i =>
  split at hk
  ·rename_i fs x' ht hx;split at hk
   ·rename_i f hf;split at hk
    ·rename_i n hn;injection hk with hk;subst hk;exact sE R (Zp R ht hf hn hx fb hr) hd he pd
    ·cases hk
   ·cases hk
  ·cases hk
 case field t X i =>
  split at hk
  ·rename_i fs x' ht hx;split at hk
   ·rename_i f hf;split at hk
    ·rename_i ag z hA hz;injection hk with hk;subst hk;exact sE R (Xp R ht hf hA hz hx fb hr) hd he pd
    ·cases hk
   ·cases hk
  ·cases hk
 case indexAddr t X I =>
  split at hk
  ·rename_i el x' i' ht hx hi;obtain⟨z,hz,rfl⟩:=pF hk;exact sE R (Cp R ht hz hx hi fb hr) hd he pd
  ·rename_i n' e x' i' ht hx hi;obtain⟨z,hz,rfl⟩:=pF hk;exact sE R (Lp R ht hz hx hi fb hr) hd he pd
  ·cases hk
 case index t X I =>
  split at hk
  ·rename_i x' i' ht hx hi;cases hk;exact sE R (Bp R ht hx hi fb hr) hd he pd
  ·cases hk
 case makeMap t r =>
  split at hk
  ·rename_i kT eT ht;obtain ⟨ty,oc,rfl⟩:=pF hk;simp only [K.run] at hr;injection hr with hr; injection hr with h1 h2; subst h1; subst h2;cases ba:o.dst with
   |none=>simp[JC.eff,ba]at he
   |some d =>
    simp only[JC.eff,ba]at he;cases he;have h:=op_mkm R fb ba (hd d ba) (hD d ba rfl);exact rb d ba h
  ·cases hk
 case entry X =>
  obtain⟨x',hx,rfl⟩:=pF hk;simp only[K.run]at hr;split at hr
  ·rename_i t' n ic;split at hr
   ·rename_i tm nm N seen hi;split at hr
    ·rename_i L i hL hl;split at hr
     ·rename_i hN;split at hr
      ·rename_i y v zj;split at hr
       ·rename_i bi;injection hr with hr;injection hr with h1 h2;subst h1;subst h2;exact sE R ⟨rfl,val_ent R hx fb ic hi hL hl hN zj bi⟩ hd he pd
       ·cases hr
      ·cases hr
     ·cases hr
    ·cases hr
   ·cases hr
  ·cases hr
 case range t X =>
  split at hk
  ·rename_i kT eT ht;obtain ⟨x',hx,rfl⟩:=pF hk;simp only [K.run] at hr;split at hr
   ·rename_i t' n ic;split at hr
    ·rename_i L hL;injection hr with hr; injection hr with h1 h2; subst h1; subst h2;cases ba:o.dst with
     |none=>simp[JC.eff,ba]at he
     |some d =>
      simp only[JC.eff,ba]at he;cases he;have h:=op_rng R ht hx fb ic hL ba (hd d ba) (hD d ba rfl);exact rb d ba h
    ·cases hr
   ·cases hr
  ·cases hk
 case lookup t X I ok =>
  split at hk
  ·rename_i kT eT x' i' ht hx hi;split at hk
   ·rename_i ty z oc hz;cases hk;simp only [K.run] at hr;split at hr
    ·rename_i t' n ic;split at hr
     ·rename_i L hL;split at hr
      ·rename_i aa;injection hr with hr; injection hr with h1 h2; subst h1; subst h2;unfold eZ at oc;split at oc
       ·rename_i kk wb;cases oc;exact sE R ⟨rfl,lZ R (CV kk) (S5 wb) ht hz aa.2.2 hx hi fb ic hL aa.1 aa.2.1⟩ hd he pd
       ·rename_i wb;cases oc;exact sE R ⟨rfl,lZ R BV (D5 wb) ht hz aa.2.2 hx hi fb ic hL aa.1 aa.2.1⟩ hd he pd
       ·obtain ⟨l,_,oc⟩:=y5.1 oc;split at oc
        ·rename_i bi;cases oc;exact sE R ⟨rfl,lZ R (XV l) (A5 bi.1) ht hz aa.2.2 hx hi fb ic hL aa.1 aa.2.1⟩ hd he pd
        ·cases oc
      ·cases hr
     ·cases hr
    ·cases hr
   ·cases hk
  ·cases hk
 case mapUpdate t X I Y =>
  split at hk
  ·rename_i kT eT x' i' y' ht hx hi hy;obtain ⟨ty,oc,rfl⟩:=pF hk;simp only [K.run] at hr;split at hr
   ·rename_i t' n ic;split at hr
    ·rename_i L hL;split at hr
     ·rename_i aa;injection hr with hr;injection hr with h1 h2;subst h1;subst h2;simp only[JC.eff]at he;cases he;have key:∃w',(execOp a.eval o).run P w=.ok .skip w'/\JF P O nt B F0 da w0 D ((s.setObj t' n (fJ (EK L (i'.get s) (y'.get s)))).put o.dst ⟨.undef,.no⟩) (a.put o.dst undef) w':=by
       unfold eZ at oc;split at oc
       ·rename_i kk wb;cases oc;exact OP R (CV kk) (S5 wb) ht hx hi hy (.inl fb) hd ic hL aa.1 aa.2.1 aa.2.2
       ·rename_i wb;cases oc;exact OP R BV (D5 wb) ht hx hi hy (.inl fb) hd ic hL aa.1 aa.2.1 aa.2.2
       ·obtain ⟨l,_,oc⟩:=y5.1 oc;split at oc
        ·rename_i bi;cases oc;exact OP R (XV l) (A5 bi.1) ht hx hi hy (.inl fb) hd ic hL aa.1 aa.2.1 aa.2.2
        ·cases oc
      obtain⟨w',ca,hR⟩:=key;unfold Oper.wp;rw[ca,Oper.upon_skip];simp_all
     ·cases hr
    ·cases hr
   ·cases hr
  ·cases hk
 case insert t X I Y =>
  split at hk
  ·rename_i kT eT x' i' y' ht hx hi hy;obtain ⟨ty,oc,rfl⟩:=pF hk;simp only [K.run] at hr;split at hr
   ·rename_i t' n ic;split at hr
    ·rename_i L hL;split at hr
     ·rename_i aa;injection hr with hr;injection hr with h1 h2;subst h1;subst h2;simp only[JC.eff]at he;cases he;have key:∃w',(execOp a.eval o).run P w=.ok .skip w'/\JF P O nt B F0 da w0 D ((s.setObj t' n (fJ (EK L (i'.get s) (y'.get s)))).put o.dst ⟨.undef,.no⟩) (a.put o.dst undef) w':=by
       unfold eZ at oc;split at oc
       ·rename_i kk wb;cases oc;exact OP R (CV kk) (S5 wb) ht hx hi hy (.inr fb) hd ic hL aa.1 aa.2.1 aa.2.2
       ·rename_i wb;cases oc;exact OP R BV (D5 wb) ht hx hi hy (.inr fb) hd ic hL aa.1 aa.2.1 aa.2.2
       ·obtain ⟨l,_,oc⟩:=y5.1 oc;split at oc
        ·rename_i bi;cases oc;exact OP R (XV l) (A5 bi.1) ht hx hi hy (.inr fb) hd ic hL aa.1 aa.2.1 aa.2.2
        ·cases oc
      obtain⟨w',ca,hR⟩:=key;unfold Oper.wp;rw[ca,Oper.upon_skip];simp_all
     ·cases hr
    ·cases hr
   ·cases hr
  ·cases hk
 case extract X i=>obtain⟨y,hy,rfl⟩:=pF hk;exact sE R (val_ext R hy fb hr) hd he pd
 case call c =>
  obtain⟨callee,xs,ts⟩:=c;cases callee with
  |invoke r m=>cases hk
  |value f =>
   cases f with
   |func f =>
    have plain:(NH xs.toList).map (.call cl f)=some k->o.wp P a w Kn Q:=fun hk=>by
     obtain⟨ys,hy,rfl⟩:=pF hk;exact Wn R ma hy fb hd (fun d h=>hD d h rfl) hr he hK
    cases mu with
    |none=>exact plain hk
    |some b =>
     cases b with
     |true =>
      obtain⟨ys,hy,rfl⟩:=pF (show(NH xs.toList).map (.dA cl f)=some k from hk);exact Pj R ma hy fb hd hr he hK
     |false =>
      have jc:(match P.funcs[f]? with
       |some fn=>(match fn.resultTypes.toList with
        | [t]=>(match P.underlying t with
         |some (.slice e)=>(match fE P e,NH xs.toList with
          |some z,some xs=>if 0<z then some (K.LA cl f z xs)else none
          |_,_=>none)
         |_=>none)
        |_=>none)
       |none=>none)=some k:=hk
      clear hk;split at jc
      ·split at jc
       ·split at jc
        ·split at jc
         ·rename_i z ys hz hy;split at jc
          ·rename_i lb;injection jc with jc;subst jc;exact Oj R ma hy fb hd (fun d h=>hD d h rfl) lb hr he hK
          ·cases jc
         ·cases jc
        ·cases jc
       ·cases jc
      ·cases jc
   |tmp tf =>
    obtain⟨ys,hy,rfl⟩:=pF hk;exact Aj R ma hy fb hd hr he hK
   |_=>cases hk
  |builtin b =>
  cases b
  case len =>
   simp only at hk;split at hk
   ·rename_i x' t hx kp;have hts:ts=#[t]:=by have h0:=congrArg List.toArray kp; rwa [yK] at h0
    subst hts;obtain⟨X,hX,cj⟩:=Wt hx;subst hX;split at hk
    ·rename_i ht;injection hk with hk;subst hk;exact sE R (Uy R (str:=true) ht cj fb hr) hd he pd
    ·rename_i el ht;injection hk with hk;subst hk;exact sE R (Uy R (str:=false) ⟨el,ht⟩ cj fb hr) hd he pd
    ·rename_i kT eT ht;cases hk;simp only [K.run] at hr;split at hr
     ·rename_i t n ic;split at hr
      ·rename_i L hL;injection hr with hr;injection hr with h1 h2;subst h1;subst h2;exact sE R ⟨rfl,Rn R ht cj fb ic hL⟩ hd he pd
      ·cases hr
     ·cases hr
    ·cases hk
   ·cases hk
  case clear =>
   simp only at hk;split at hk
   ·rename_i x' t hx kp;have hts:ts=#[t]:=by have h0:=congrArg List.toArray kp; rwa [yK] at h0
    subst hts;obtain⟨X,hX,cj⟩:=Wt hx;subst hX;split at hk
    ·rename_i el ht;obtain⟨z,hz,rfl⟩:=pF hk;exact Qw (op_clr R ht hz cj fb hd hr he) pd
    ·cases hk
   ·cases hk
  case max =>
   simp only at hk;split at hk
   ·rename_i X Y kc;have hX:xs=#[X,Y]:=by rw [<- yK (xs:=xs),kc]
    subst hX;split at hk
    ·rename_i x' y' hx hy;injection hk with hk;subst hk;simp only[K.run]at hr;obtain⟨v,hv,hr⟩:=pF hr;injection hr with h1 h2;subst h1;subst h2;exact sE R ⟨rfl,Bl R (mx:=true) hx hy fb hv⟩ hd he pd
    ·cases hk
   ·cases hk
  case min =>
   simp only at hk;split at hk
   ·rename_i X Y kc;have hX:xs=#[X,Y]:=by rw [<- yK (xs:=xs),kc]
    subst hX;split at hk
    ·rename_i x' y' hx hy;injection hk with hk;subst hk;simp only[K.run]at hr;obtain⟨v,hv,hr⟩:=pF hr;injection hr with h1 h2;subst h1;subst h2;exact sE R ⟨rfl,Bl R (mx:=false) hx hy fb hv⟩ hd he pd
    ·cases hk
   ·cases hk
  case append =>
   simp only at hk;split at hk
   ·rename_i x' y' t t' hx kp;split at hk
    ·rename_i htt';subst htt';have hts:ts=#[t,t]:=by have h0:=congrArg List.toArray kp; rwa [yK] at h0
     subst hts;obtain⟨X,Y,hX,cj,wv⟩:∃X Y,xs=#[X,Y]/\uA X=some x'/\uA Y=some y':=by
      obtain⟨l⟩:=xs;have key:∀{r:List Operand}{ys:List KD},NH r=some ys->r.length=ys.length/\∀j (h:j<r.length),uA r[j]=ys[j]?:=by
       intro r
       induction r with
       |nil=>intro ys h;injection h with h;subst h;exact⟨rfl,fun j h=>by simp at h⟩
       |cons X r ih =>
        intro ys h;unfold NH at h
        grind
      obtain⟨h1,h2⟩:=key hx
      match l,h1,h2 with
      | [X,Y],_,h2=>exact⟨X,Y,rfl,h2 0 (by simp),h2 1 (by simp)⟩
     subst hX;split at hk
     ·rename_i el ht;split at hk
      ·rename_i i z hi hz;split at hk
       ·rename_i aa;injection hk with hk;cases mu with
        |some m =>
         cases ba:o.dst with
         |none=>exact absurd ba (rj (by simp))
         |some d =>
          cases m with
          |true =>
           cases nest with
           |true=>simp only[if_true]at hk;subst hk;exact rb d ba (B5 R ht hi hz aa.1 aa.2 cj wv fb ba (hd d ba) (hD d ba rfl) hr he)
           |false=>simp only[yr,if_false]at hk;subst hk;exact rb d ba (Nb R ht hi hz aa.1 aa.2 cj wv fb ba (hd d ba) (hD d ba rfl) hr he)
          |false=>simp only at hk;subst hk;exact rb d ba (Qt R ht hi hz aa.1 aa.2 cj wv fb ba (hd d ba) (hD d ba rfl) hr he)
        |none =>
        simp only at hk;subst hk;cases ba:o.dst with
        |none =>
         have:∃A,e=.app A 0:=by
          simp only[K.run]at hr
          grind
         obtain⟨A,rfl⟩:=this;simp[JC.eff,ba]at he
        |some d=>exact Qw (op_app R ht hi hz aa.1 aa.2 cj wv fb ba (hd d ba) hr he) pd
       ·cases hk
      ·cases hk
     ·cases hk
    ·cases hk
   ·cases hk
  all_goals cases hk
 case makeFunc fn fs Xs =>
  cases fn with
  |func f =>
   simp only at hk;split at hk
   ·rename_i h0;obtain⟨ys,hy,rfl⟩:=pF hk;exact sE R (val_mkf R h0 hy fb hr) hd he pd
   ·cases hk
  |_=>cases hk
 all_goals cases hk
end
end
section
section
variable {call:DD} {s s' s1 s2:OC}
inductive Tr where
 |id
 |row (t n:Nat) (r:List WC)
 |an (A:An) (d:Nat)
 |obj (t n:Nat) (S:AV)
 |rn (k:Option (Nat×Nat)) (t n:Nat) (r:List WC)
 |zB (t n:Nat) (S:AV) (d m:Nat) (r:List WC)
def Tr.ap:Tr->OC->OC
 |.id,s=>s
 |.row t n r,s=>s.setRow t n r
 |.an A d,s=>(s.lB A).strip d
 |.obj t n S,s=>s.setObj t n S
 |.rn k t n r,s=>(s.kA k).setRow t n r
 |.zB t n S d m r,s=>(s.setObj t n S).setRow d m r
def Tr.f:Tr->An->An
 |.an A d,x=>match A with
  |.own k _=>(x.strip k).strip d
  |_=>x.strip d
 |_,x=>x
theorem Tr.ends (T:Tr):C4 T.f:=by
 cases T with
 |an A d =>
  have h:∀k j e,(An.own j e).strip k≠.ex:=fun k j e=>by simp only[An.strip];split<;>simp
  have h':∀k k' j e,((An.own j e).strip k).strip k'≠.ex:=fun k k' j e=>by
   by_cases hj:j=k
   ·simp[An.strip,hj]
   ·rw[show(An.own j e).strip k=An.own j e from if_neg hj];exact h k' j e
  cases A with
  |own k e=>exact⟨rfl,rfl,fun j e=>h' k d j e⟩
  |no=>exact⟨rfl,rfl,fun j e=>h d j e⟩
  |ex=>exact⟨rfl,rfl,fun j e=>h d j e⟩
 |_=>exact⟨rfl,rfl,fun _ _ h=>by cases h⟩
theorem Tr.cB (A:An)(d:Nat)(s:OC):(Tr.an A d).ap s=s.wA (Tr.an A d).f:=by
 cases A with
 |own k e=>simp[Tr.ap,OC.lB,OC.strip,OC.wA,WC.strip,Tr.f,Function.comp_def]
 |no=>rfl
 |ex=>rfl
def JC.GA (call:DD)(o:JC)(s:OC):Option (WC×rF) :=
 match o.guard with
 |none=>o.op.run call s
 |some (t,want)=>match(s.env t).v with
  |.bool b=>if b=want then o.op.run call s else some (⟨.sA [],.no⟩,.none)
  |.sA []=>some (⟨.sA [],.no⟩,.none)
  |_=>none
def JC.gA (o:JC)(next:Nat):WC×rF->Option (Tr×WC)
 |(x,.none)=>some (.id,x)
 |(x,.new r)=>match o.dst with
  |none=>none
  |some d=>some (.row d next r,⟨match x.v with|.ref _ _ sz off l c=>.ref d next sz off l c|_=>.ptr d next 0,.no⟩)
 |(x,.set t n r)=>some (.row t n r,x)
 |(x,.app a _)=>match o.dst with
  |none=>none
  |some d=>some (.an a d,⟨x.v,match x.a with|.own _ e=>.own d e|a=>a⟩)
 |(x,.obj t n S)=>some (.obj t n S,x)
 |(x,.mk S)=>match o.dst with
  |none=>none
  |some d=>some (.obj d next S,⟨x.v.named d next,.no⟩)
 |(x,.zB t n S r)=>match o.dst with
  |none=>none
  |some d=>some (.zB t n S d next r,⟨match x.v with|.ref _ _ sz off l c=>.ref d next sz off l c|_=>.ptr d next 0,.no⟩)
 |(x,.rn k r)=>match o.dst with
  |none=>none
  |some d=>some (.rn k d next r,⟨match x.v with|.ref _ _ sz off l c=>.ref d next sz off l c|_=>.ptr d next 0,.no⟩)
theorem RL (o:JC)(s:OC):o.step call s=(o.GA call s).bind fun p=>(o.gA s.next p).map fun q=>(q.1.ap s).put o.dst q.2:=by
 have h:∀p,o.eff s p=(o.gA s.next p).map fun q=>(q.1.ap s).put o.dst q.2:=by
  rintro⟨x,e⟩;cases e with
  |none=>rfl
  |new r=>simp only[JC.eff,JC.gA];cases o.dst<;>rfl
  |set t n r=>rfl
  |app a k=>simp only[JC.eff,JC.gA];cases o.dst<;>rfl
  |obj t n S=>rfl
  |mk S=>simp only[JC.eff,JC.gA];cases o.dst<;>rfl
  |rn k r=>simp only[JC.eff,JC.gA];cases o.dst<;>rfl
  |zB t n S r=>simp only[JC.eff,JC.gA];cases o.dst<;>rfl
 have hf:o.eff s=fun p=>(o.gA s.next p).map fun q=>(q.1.ap s).put o.dst q.2:=funext h
 unfold JC.step JC.GA;rw[<- hf];cases o.guard with
 |none=>rfl
 |some p =>
  obtain⟨t,want⟩:=p;simp only;generalize(s.env t).v=y;cases y with
  |bool b=>simp only;split<;>rfl
  |sA l=>cases l<;>rfl
  |_=>rfl
theorem PQ (k:K){x:WC}{e:rF}(h:k.run call s=some (x,e)):match e with
    |.none=>True
    |.new _=>n9 k=true
    |.set t _ _=>isS k=true/\∃c,k.cl=some c/\c.cA t=true
    |.app _ _=>Ta k=true
    |.obj _ _ _=>nV k=true/\Th k=false
    |.mk _=>nV k=true/\Th k=false
    |.rn _ _=>Wh k=true
    |.zB _ _ _ _=>nV k=true/\Th k=false/\n9 k=true:=by
  have hn:e=.none->(match e with
    |.none=>True
    |.new _=>n9 k=true
    |.set t _ _=>isS k=true/\∃c,k.cl=some c/\c.cA t=true
    |.app _ _=>Ta k=true
    |.obj _ _ _=>nV k=true/\Th k=false
    |.mk _=>nV k=true/\Th k=false
    |.rn _ _=>Wh k=true
    |.zB _ _ _ _=>nV k=true/\Th k=false/\n9 k=true):=fun h=>by subst h;trivial
  cases k with
  |lA nt x xs=>cases h
  |dB x=>cases h
  | ent x =>
    simp only[K.run]at h;split at h
    · split at h
      · split at h
        · split at h
          · split at h
            · split at h
              · injection h with h;injection h with _ h;exact hn h.symm
              · cases h
            · cases h
          · cases h
        · cases h
      · cases h
    · cases h
  | slz x =>
    simp only[K.run]at h;split at h<;>first|(cases h;done)|(injection h with h;injection h with _ h;exact hn h.symm)
  | kB x =>
    simp only[K.run]at h;split at h
    · split at h
      · injection h with h;injection h with _ h;subst h;exact⟨rfl,rfl⟩
      · cases h
    · cases h
  |alloc z=>simp only[K.run]at h;injection h with h;injection h with _ h;subst h;rfl
  | box z x =>
    simp only[K.run]at h;split at h<;>split at h<;>first|(cases h;done)|(injection h with h;injection h with _ h;subst h;rfl)
  | wC z b zs l c =>
    simp only[K.run]at h;split at h
    · split at h
      · injection h with h;injection h with _ h;subst h;rfl
      · cases h
    · cases h
  | dC cl z x =>
    simp only[K.run]at h;split at h
    · injection h with h;injection h with _ h;subst h;trivial
    · rename_i t n sz off ln _ _
      split at h
      · rename_i la
        obtain⟨r,_,h⟩:=ye.1 h;injection h with _ h;subst h;exact⟨rfl,cl,rfl,la.1⟩
      · cases h
    · cases h
  | store cl g z x y =>
    simp only[K.run]at h;split at h
    · split at h
      · rename_i t n off _ la
        obtain⟨r,_,h⟩:=ye.1 h;injection h with _ h;subst h;exact⟨rfl,cl,rfl,la⟩
      · cases h
    · cases h
  | app cl e z b x y =>
    simp only[K.run]at h;split at h
    · split at h
      · split at h
        · cases h
        · split at h
          · injection h with h;injection h with _ h;subst h;rfl
          · cases h
        · injection h with h;injection h with _ h;subst h;rfl
      · cases h
    · cases h
  | QB cl e z b x y =>
    simp only[K.run]at h;split at h
    · split at h
      · split at h
        · split at h
          · injection h with h;injection h with _ h;exact hn h.symm
          · injection h with h;injection h with _ h;subst h;rfl
        · cases h
      · cases h
    · cases h
  | sB cl e z b x y =>
    simp only[K.run]at h;split at h
    · split at h
      · split at h
        · split at h
          · injection h with h;injection h with _ h;exact hn h.symm
          · injection h with h;injection h with _ h;subst h;rfl
        · cases h
      · cases h
    · split at h
      · split at h
        · injection h with h;injection h with _ h;subst h;rfl
        · cases h
      · cases h
    · cases h
  | qB cl e z b x y =>
    simp only[K.run]at h;split at h
    · split at h
      · split at h
        · injection h with h;injection h with _ h;subst h;rfl
        · cases h
      · cases h
    · split at h
      · split at h
        · injection h with h;injection h with _ h;subst h;rfl
        · cases h
      · cases h
    · cases h
  | AB sz z n ps =>
    simp only[K.run]at h;split at h
    · injection h with h;injection h with _ h;subst h;rfl
    · cases h
  |bad=>simp only[K.run]at h;cases h
  |fC=>simp only[K.run]at h;injection h with h;injection h with _ h;subst h;exact⟨rfl,rfl⟩
  |bC T e=>simp only[K.run]at h;injection h with h;injection h with _ h;subst h;exact⟨rfl,rfl⟩
  | OB ok ty z x k =>
    simp only[K.run]at h;split at h
    · split at h
      · split at h
        · injection h with h;injection h with _ h;exact hn h.symm
        · cases h
      · cases h
    · cases h
  | SB ty x k v =>
    simp only[K.run]at h;split at h
    · split at h
      · split at h
        · injection h with h;injection h with _ h;subst h;exact⟨rfl,rfl⟩
        · cases h
      · cases h
    · cases h
  | LB x =>
    simp only[K.run]at h;split at h
    · split at h
      · injection h with h;injection h with _ h;exact hn h.symm
      · cases h
    · cases h
  |mv x=>simp only[K.run]at h;injection h with h;injection h with _ h;exact hn h.symm
  | pick c a b =>
    simp only[K.run]at h;split at h
    · injection h with h;injection h with _ h;exact hn h.symm
    · cases h
  | build z ps =>
    simp only[K.run]at h;split at h
    · obtain⟨r,_,h⟩:=ye.1 h;injection h with _ h;exact hn h.symm
    · cases h
  | XA z n ps =>
    simp only[K.run]at h;split at h
    · injection h with h;injection h with _ h;exact hn h.symm
    · cases h
  | load cl g z x =>
    simp only[K.run]at h;split at h
    · split at h
      · obtain⟨r,_,h⟩:=ye.1 h;injection h with _ h;exact hn h.symm
      · cases h
    · split at h
      · cases h
      · obtain⟨r,_,h⟩:=ye.1 h;injection h with _ h;exact hn h.symm
    · split at h
      · cases h
      · obtain⟨r,_,h⟩:=ye.1 h;injection h with _ h;exact hn h.symm
    · cases h
  |mm b x y=>simp only[K.run]at h;obtain⟨r,_,h⟩:=ye.1 h;injection h with _ h;exact hn h.symm
  |bin op b x y=>simp only[K.run]at h;obtain⟨r,_,h⟩:=ye.1 h;injection h with _ h;exact hn h.symm
  | iC n ks x y =>
    simp only[K.run]at h;split at h
    · obtain⟨r,_,h⟩:=ye.1 h;injection h with _ h;exact hn h.symm
    · cases h
  | gC n p x y =>
    simp only[K.run]at h;split at h<;>first|(cases h;done)|(obtain⟨r,_,h⟩:=ye.1 h;injection h with _ h;exact hn h.symm)
  | un op x =>
    simp only[K.run]at h;split at h<;>first|(cases h;done)|(injection h with h;injection h with _ h;exact hn h.symm)
  | conv o x =>
    simp only[K.run]at h;split at h<;>first|(cases h;done)|(injection h with h;injection h with _ h;exact hn h.symm)
  | slc st z x lo hi mx =>
    cases mx with
    |some m=>simp[K.run]at h
    | none =>
      simp only[K.run]at h;split at h
      · cases h
      · split at h<;>first
          |(cases h;done)
          | (split at h
             · split at h
               · (try split at h)<;>(injection h with h;injection h with _ h;exact hn h.symm)
               · cases h
             · cases h)
  | tB o x =>
    simp only[K.run]at h;split at h<;>first|(cases h;done)|(injection h with h;injection h with _ h;exact hn h.symm)
  | field g o z x =>
    simp only[K.run]at h;split at h
    · obtain⟨r,_,h⟩:=ye.1 h;injection h with _ h;exact hn h.symm
    · cases h
  | pB l z x i =>
    simp only[K.run]at h;split at h
    · split at h
      · split at h<;>first|(cases h;done)|(injection h with h;injection h with _ h;exact hn h.symm)
      · cases h
    · cases h
  | nA z x i =>
    simp only[K.run]at h;split at h
    · split at h
      · obtain⟨r,_,h⟩:=y5.1 h;split at h<;>first|(cases h;done)|(injection h with h;injection h with _ h;exact hn h.symm)
      · obtain⟨r,_,h⟩:=y5.1 h;split at h<;>first|(cases h;done)|(injection h with h;injection h with _ h;exact hn h.symm)
      · split at h<;>first|(cases h;done)|(injection h with h;injection h with _ h;exact hn h.symm)
      · cases h
    · cases h
  | index x i =>
    simp only[K.run]at h;split at h
    · obtain⟨r,_,h⟩:=ye.1 h;injection h with _ h;exact hn h.symm
    · cases h
  | ext x i =>
    simp only[K.run]at h;split at h
    · obtain⟨r,_,h⟩:=ye.1 h;injection h with _ h;exact hn h.symm
    · cases h
  | call cl f xs =>
    simp only[K.run]at h;obtain⟨vs,_,h⟩:=y5.1 h;split at h
    · obtain ⟨r,_,h⟩:=y5.1 h
      split at h
      · split at h<;>first|(cases h;done)|(injection h with h;injection h with _ h;exact hn h.symm)
      · split at h<;>first|(cases h;done)|(injection h with h;injection h with _ h;subst h;exact⟨rfl,rfl⟩)
    · obtain ⟨r,_,h⟩:=y5.1 h
      split at h
      · cases h
      · split at h<;>first|(cases h;done)|(injection h with h;injection h with _ h;subst h;exact⟨rfl,rfl⟩)
    · cases h
  | LA cl f z xs =>
    simp only[K.run]at h;obtain⟨vs,_,h⟩:=y5.1 h;split at h
    · obtain ⟨r,_,h⟩:=y5.1 h
      split at h
      · split at h
        · split at h
          · injection h with h;injection h with _ h;subst h;exact⟨rfl,rfl⟩
          · injection h with h;injection h with _ h;subst h;exact⟨rfl,rfl,rfl⟩
        · cases h
      · cases h
    · cases h
  | iB cl f z xs =>
    simp only[K.run]at h;split at h
    · obtain ⟨r,_,h⟩:=y5.1 h
      split at h
      · split at h
        · split at h
          · injection h with h;injection h with _ h;exact hn h.symm
          · split at h
            · cases h
            · injection h with h;injection h with _ h;subst h;rfl
        · cases h
      · cases h
    · cases h
  | PA cl f z L x xs =>
    simp only[K.run]at h;split at h
    · split at h
      · split at h
        · split at h
          · split at h
            · obtain ⟨r,_,h⟩:=y5.1 h
              split at h
              · split at h
                · injection h with h;injection h with _ h;subst h;rfl
                · cases h
              · cases h
            · cases h
          · cases h
        · split at h
          · obtain ⟨r,_,h⟩:=y5.1 h
            split at h
            · split at h
              · injection h with h;injection h with _ h;subst h;rfl
              · cases h
            · cases h
          · cases h
        · cases h
      · cases h
    · cases h
  | jB cl f xs =>
    simp only[K.run]at h;split at h
    · obtain ⟨r,_,h⟩:=y5.1 h
      split at h
      · split at h
        · injection h with h;injection h with _ h;exact hn h.symm
        · cases h
      · cases h
    · cases h
  | dA cl f xs =>
    simp only[K.run]at h;split at h
    · split at h
      · rename_i la
        split at h
        · split at h
          · obtain ⟨q,_,h⟩:=y5.1 h
            split at h
            · split at h
              · injection h with h; injection h with _ h; subst h
                exact⟨rfl,cl,rfl,la⟩
              · cases h
            · cases h
          · cases h
        · cases h
      · cases h
    · cases h
  | BB x =>
    simp only[K.run]at h;split at h<;>first|(cases h;done)|(injection h with h;injection h with _ h;exact hn h.symm)
  | xB cl x =>
    simp only[K.run]at h;split at h
    · obtain⟨r,_,h⟩:=ye.1 h;injection h with _ h;exact hn h.symm
    · cases h
  | PB cl l z x lo hi =>
    simp only[K.run]at h;split at h
    · split at h
      · split at h
        · split at h<;>(injection h with h;injection h with _ h;exact hn h.symm)
        · cases h
      · cases h
    · cases h
  | jC f xs =>
    simp only[K.run]at h;split at h
    · injection h with h;injection h with _ h;exact hn h.symm
    · cases h
  | RA cl x xs =>
    simp only[K.run]at h;split at h
    · split at h
      · obtain ⟨r,_,h⟩:=y5.1 h
        split at h
        · split at h<;>first|(cases h;done)|(injection h with h;injection h with _ h;exact hn h.symm)
        · cases h
      · cases h
    · cases h
  | len st x =>
    simp only[K.run]at h;split at h<;>first
      |(cases h;done)
      |(split at h<;>first|(cases h;done)|(injection h with h;injection h with _ h;exact hn h.symm))
  | AA x =>
    simp only[K.run]at h;split at h<;>first|(cases h;done)|(injection h with h;injection h with _ h;exact hn h.symm)
def Tr.of (T:Tr)(o:JC):Prop:=match T with
 |.id=>True
 |.row t _ _=>(n9 o.op=true/\o.dst=some t)\/(isS o.op=true/\∃c,o.op.cl=some c/\c.cA t=true)
 |.an _ d=>Ta o.op=true/\o.dst=some d
 |.obj _ _ _=>nV o.op=true/\Th o.op=false
 |.rn ..=>Wh o.op=true
 |.zB _ _ _ d _ _=>(nV o.op=true/\Th o.op=false/\n9 o.op=true)/\o.dst=some d
theorem X8 (o:JC){x:WC}{e:rF}(h:o.GA call s=some (x,e)){n:Nat}{T:Tr}{v:WC}(ht:o.gA n (x,e)=some (T,v)):T.of o:=by
 have key:o.op.run call s=some (x,e)\/e=.none:=by
  unfold JC.GA at h;split at h
  ·exact .inl h
  ·split at h
   ·split at h
    ·exact .inl h
    ·injection h with h;injection h with _ h;exact .inr h.symm
   ·injection h with h;injection h with _ h;exact .inr h.symm
   ·cases h
 cases e with
 |none=>simp only[JC.gA]at ht;injection ht with ht;injection ht with h1 _;subst h1;trivial
 |new r =>
  have:=PQ o.op (key.resolve_right (by simp));simp only[JC.gA]at ht;split at ht
  ·cases ht
  ·rename_i d hd;injection ht with ht;injection ht with h1 _;subst h1;exact .inl ⟨this,hd⟩
 |set t n r =>
  have:=PQ o.op (key.resolve_right (by simp));simp only[JC.gA]at ht;injection ht with ht;injection ht with h1 _;subst h1;exact .inr this
 |app a k =>
  have:=PQ o.op (key.resolve_right (by simp));simp only[JC.gA]at ht;split at ht
  ·cases ht
  ·rename_i d hd;injection ht with ht;injection ht with h1 _;subst h1;exact⟨this,hd⟩
 |obj t n S =>
  have:=PQ o.op (key.resolve_right (by simp));simp only[JC.gA]at ht;injection ht with ht;injection ht with h1 _;subst h1;exact this
 |mk S =>
  have:=PQ o.op (key.resolve_right (by simp));simp only[JC.gA]at ht;split at ht
  ·cases ht
  ·injection ht with ht;injection ht with h1 _;subst h1;exact this
 |rn k r =>
  have:=PQ o.op (key.resolve_right (by simp));simp only[JC.gA]at ht;split at ht
  ·cases ht
  ·injection ht with ht;injection ht with h1 _;subst h1;exact this
 |zB t n S r =>
  have:=PQ o.op (key.resolve_right (by simp));simp only[JC.gA]at ht;split at ht
  ·cases ht
  ·rename_i d hd;injection ht with ht;injection ht with h1 _;subst h1;exact⟨this,hd⟩
theorem Wv {o:KD}{d:Option Nat}{x:WC}(h:∀n,o=.t n->d≠some n):o.get (s.put d x)=o.get s/\o.an (s.put d x)=o.an s:=by
 cases d with
 |none=>exact⟨rfl,rfl⟩
 |some d =>
  cases o with
  |c v=>exact⟨rfl,by cases v<;>first|rfl|(rename_i b l;cases b<;>rfl)⟩
  |t n =>
   have:n≠d:=fun e=>h n rfl (by rw[e])
   simp[KD.get,KD.an,OC.put,this]
theorem Iq {o:JC}{n:Nat}{x:KD}(h:x∈o.op.aA)(hx:x=.t n):n∈o.looks:=by
 unfold JC.looks;refine List.mem_append_left _ (List.mem_filterMap.2 ⟨x,h,?_⟩);rw[hx]
theorem iJ {x y:JC}(h:x.clear y=true):(∀n,x.dst=some n->n ∉ y.looks)/\(∀n,x.dst=some n->y.dst≠some n):=by
 unfold JC.clear at h;constructor
 ·intro n hn;rw[hn]at h;simp at h;exact h.1
 ·intro n hn;rw[hn]at h;simp at h;exact h.2
theorem KP {y:JC}{d:Option Nat}{v:WC}(h:∀n,d=some n->n ∉ y.looks):y.GA call (s.put d v)=y.GA call s:=by
 have h1:y.op.run call (s.put d v)=y.op.run call s:=RS _ (fun o ho=>Wv fun n hn hd=>h n hd (Iq ho hn)) (fun t n _=>by cases d<;>rfl) (fun _=>by cases d<;>rfl);unfold JC.GA;rw[h1];cases hg:y.guard with
 |none=>rfl
 |some p =>
  obtain⟨t,want⟩:=p;have:t∈y.looks:=by unfold JC.looks;rw[hg];simp
  have he:((s.put d v).env t)=s.env t:=by
   cases d with
   |none=>rfl
   |some d =>
    have:t≠d:=fun e=>h d rfl (e▸this)
    simp[OC.put,this]
  simp only[he]
def Tr.off (T:Tr)(o:JC):Prop:=match T with
 |.id=>True
 |.row t _ _=>¬o.op.reads t
 |.an _ _=>Ta o.op=false
 |.obj _ _ _=>nV o.op=false
 |.rn ..=>False
 |.zB _ _ _ d _ _=>nV o.op=false/\¬o.op.reads d
def Tr.act (T:Tr)(p:WC×rF):WC×rF:=match T with
 |.an _ _=>(p.1.wA T.f,p.2.wA T.f)
 |_=>p
theorem Jt {y:JC}{T:Tr}(h:T.off y):y.GA call (T.ap s)=(y.GA call s).map T.act:=by
 cases T with
 |rn=>exact absurd h id
 |zB t n S d m r =>
  have h1:y.op.run call ((s.setObj t n S).setRow d m r)=y.op.run call s:=RS _ (fun o ho=>by
   cases o with
   |t n=>exact⟨rfl,rfl⟩
   |c v=>exact⟨rfl,by cases v<;>first|rfl|(rename_i b l;cases b<;>rfl)⟩) (fun t' n' hr=>by
   simp only[OC.setRow,OC.setObj];rw[if_neg];rintro⟨e,_⟩;exact h.2 (e▸hr)) (fun ho=>by
    have h':nV y.op=false:=h.1;rw[h']at ho;cases ho)
  have:y.GA call ((Tr.zB t n S d m r).ap s)=y.GA call s:=by
   unfold JC.GA Tr.ap;rw[h1];rfl
  have h2:(Tr.act (.zB t n S d m r):WC×rF->WC×rF)=id:=rfl;rw[this,h2,Option.map_id];rfl
 |id =>
  have:(Tr.act .id:WC×rF->WC×rF)=id:=rfl;rw[this,Option.map_id];rfl
 |row t n r =>
  have h1:y.op.run call (s.setRow t n r)=y.op.run call s:=RS _ (fun o ho=>by
   cases o with
   |t n=>exact⟨rfl,rfl⟩
   |c v=>exact⟨rfl,by cases v<;>first|rfl|(rename_i b l;cases b<;>rfl)⟩) (fun t' n' hr=>by
   simp only[OC.setRow];rw[if_neg];rintro⟨e,_⟩;exact h (e▸hr)) (fun _=>rfl)
  have:y.GA call ((Tr.row t n r).ap s)=y.GA call s:=by
   unfold JC.GA Tr.ap;rw[h1];rfl
  have h2:(Tr.act (.row t n r):WC×rF->WC×rF)=id:=rfl;rw[this,h2,Option.map_id];rfl
 |obj t n S =>
  have h1:y.op.run call (s.setObj t n S)=y.op.run call s:=RS _ (fun o ho=>by
   cases o with
   |t n=>exact⟨rfl,rfl⟩
   |c v=>exact⟨rfl,by cases v<;>first|rfl|(rename_i b l;cases b<;>rfl)⟩) (fun t' n' hr=>rfl) (fun ho=>by
    have h':nV y.op=false:=h;rw[h']at ho;cases ho)
  have:y.GA call ((Tr.obj t n S).ap s)=y.GA call s:=by
   unfold JC.GA Tr.ap;rw[h1];rfl
  have h2:(Tr.act (.obj t n S):WC×rF->WC×rF)=id:=rfl;rw[this,h2,Option.map_id];rfl
 |an A d =>
  rw[Tr.cB];have h1:=Lo (call:=call) (s:=s) (Tr.ends (.an A d)) y.op h;unfold JC.GA;rw[h1];cases y.guard with
  |none=>rfl
  |some p =>
   obtain⟨t,want⟩:=p;simp only[OC.wA];generalize(s.env t).v=y;cases y with
   |bool b =>
    simp only;split
    ·rfl
    ·simp[Tr.act,WC.wA,rF.wA,(Tr.ends (.an A d)).no]
   |sA l=>cases l<;>simp[Tr.act,WC.wA,rF.wA,(Tr.ends (.an A d)).no]
   |_=>rfl
theorem c8 {x y:JC}(h:cK x y=true):cK y x=true:=by
 unfold cK at h ⊢;simp only[y9]at h ⊢;obtain⟨⟨⟨⟨⟨⟨⟨m1,m2⟩,h1⟩,h0⟩,h2⟩,h3⟩,h4⟩,h5⟩:=h;refine⟨⟨⟨⟨⟨⟨⟨m2,m1⟩,by rw[Bool.or_comm];exact h1⟩,by rw[Bool.or_comm (!nV y.op),Bool.and_comm];exact h0⟩,?_⟩,h4⟩,h3⟩,?_⟩
 ·cases hc:x.op.cl with
  |none=>cases y.op.cl<;>rfl
  |some c =>
   cases hd:y.op.cl with
   |none=>rfl
   |some d =>
    rw[hc,hd]at h2;simp only[Bool.or_eq_true]at h2 ⊢;refine h2.imp (fun h=>by rw[Bool.or_comm];exact h) fun h=>?_
    cases c<;>cases d<;>first|rfl|exact h|(simp at h ⊢;exact fun e=>h e.symm)|(simp at h)
 ·simp only [Bool.or_eq_true] at h5 ⊢;rcases h5 with (h | h) | h
  ·exact .inl (.inr h)
  ·exact .inl (.inl h)
  ·exact .inr (by simp at h ⊢;exact fun e=>h e.symm)
theorem Rj {T:Tr}{x y:JC}(h:T.of x)(la:cK x y=true):T.off y:=by
 unfold cK at la;simp only[y9]at la;obtain⟨⟨⟨⟨⟨⟨⟨m1,m2⟩,h1⟩,h0⟩,h2⟩,h3⟩,h4⟩,h5⟩:=la;cases T with
 |id=>trivial
 |rn k t n r =>
  have h':Wh x.op=true:=h;rw[h']at m1;cases m1
 |zB t n S d m r =>
  obtain⟨⟨g1,g2,ha⟩,hd⟩:=h;rw[g1,g2]at h0;refine⟨by simpa using h0,fun hr=>?_⟩;unfold K.reads at hr;rw[ha,hd]at h3;cases ed:y.op.cl with
  |none=>rw[ed]at hr;exact hr
  |some c =>
   rw[ed]at hr h3;cases c with
   |any=>simp at h3
   |RB=>exact hr
   |root r=>simp at h3;exact h3 hr
   |out L=>simp only[Bool.not_true,Bool.false_or]at h3 hr;rw[h3]at hr;cases hr
 |an A d =>
  have:=h.1;rw[this]at h1;show Ta y.op=false;simpa using h1
 |obj t n S =>
  obtain⟨g1,g2⟩:nV x.op=true/\Th x.op=false:=h;rw[g1,g2]at h0;show nV y.op=false;simpa using h0
 |row t n r =>
  intro hr;unfold K.reads at hr;rcases h with⟨ha,hd⟩|⟨hs,hc⟩
  ·rw [ha,hd] at h3;cases ed:y.op.cl with
   |none=>rw[ed]at hr;exact hr
   |some c =>
    rw[ed]at hr h3;cases c with
    |any=>simp at h3
    |RB=>exact hr
    |root r=>simp at h3;exact h3 hr
    |out L=>simp only[Bool.not_true,Bool.false_or]at h3 hr;rw[h3]at hr;cases hr
  ·cases ed:y.op.cl with
   |none=>rw[ed]at hr;exact hr
   |some c =>
    rw[ed]at hr;obtain⟨c0,hc,hp⟩:=hc;rw[hc,ed,hs]at h2;cases c0 with
    |RB=>simp[Cl.cA]at hp
    |any=>cases c<;>first|exact hr|(simp at h2)
    |root r0 =>
     simp[Cl.cA]at hp;subst hp;cases c with
     |RB=>exact hr
     |any=>simp at h2
     |root r=>simp at h2;exact h2 hr
     |out L=>simp at h2 hr;exact hr h2
    |out L0 =>
     simp[Cl.cA]at hp;cases c with
     |RB=>exact hr
     |any=>simp at h2
     |root r=>simp at h2 hr;subst hr;exact hp h2
     |out L=>simp at h2
theorem Mq {t n t' n':Nat}{r r':List WC}{x y:JC}(h:(Tr.row t n r).of x)(h':(Tr.row t' n' r').of y)(la:cK x y=true):t≠t':=by
 unfold cK at la;simp only[y9]at la;obtain⟨⟨⟨⟨⟨⟨⟨m1,m2⟩,h1⟩,h0⟩,h2⟩,h3⟩,h4⟩,h5⟩:=la;rintro rfl;rcases h with⟨ha,hd⟩|⟨hs,hc⟩<;>rcases h' with⟨cz,ll⟩|⟨uj,ze⟩
 ·rw[ha,cz,hd,ll]at h5;simp at h5
 ·rw[ha,hd]at h3;obtain⟨c,ze,hp⟩:=ze;rw[ze]at h3;cases c<;>simp[Cl.cA]at h3 hp<;>first|exact h3 hp.symm|exact hp h3
 ·rw[cz,ll]at h4;obtain⟨c,hc,hp⟩:=hc;rw[hc]at h4;cases c<;>simp[Cl.cA]at h4 hp<;>first|exact h4 hp.symm|exact hp h4
 ·obtain ⟨c,hc,hp⟩:=hc;obtain ⟨c',ze,hp'⟩:=ze;rw [hc,ze,hs] at h2;cases c <;> cases c' <;> simp [Cl.cA] at h2 hp hp'
  ·subst hp;subst hp';exact h2 rfl
  ·subst hp;exact hp' h2
  ·subst hp';exact hp h2
def Tr.HA (T:Tr):Tr->Tr
 |.row t n r=>match T with
  |.an A d=>.row t n (r.map (WC.wA (Tr.an A d).f))
  |_=>.row t n r
 |.zB t n S d m r=>match T with
  |.an A d'=>.zB t n S d m (r.map (WC.wA (Tr.an A d').f))
  |_=>.zB t n S d m r
 |T'=>T'
def Tr.JA (T:Tr)(v:WC):WC:=match T with
 |.an A d=>v.wA (Tr.an A d).f
 |_=>v
theorem n7 {T:Tr}{o:JC}{n:Nat}{p:WC×rF}{T':Tr}{v:WC}(h:o.gA n p=some (T',v))(hT:(∃A d,T=.an A d)->∀A d,T'≠.an A d)(hR:∀k t m r,T'≠.rn k t m r):o.gA n (T.act p)=some (T.HA T',T.JA v):=by
 obtain⟨x,e⟩:=p;cases T with
 |id=>rw[show Tr.id.act (x,e)=(x,e)from rfl,h];cases T'<;>rfl
 |row t m r=>rw[show(Tr.row t m r).act (x,e)=(x,e)from rfl,h];cases T'<;>rfl
 |obj t m S=>rw[show(Tr.obj t m S).act (x,e)=(x,e)from rfl,h];cases T'<;>rfl
 |rn k t m r=>rw[show(Tr.rn k t m r).act (x,e)=(x,e)from rfl,h];cases T'<;>rfl
 |zB t n S d m r=>rw[show(Tr.zB t n S d m r).act (x,e)=(x,e)from rfl,h];cases T'<;>rfl
 |an A d =>
  cases e with
  |none=>simp only[JC.gA]at h;injection h with h;injection h with h1 h2;subst h1;subst h2;rfl
  |new r =>
   simp only[JC.gA]at h;split at h
   ·cases h
   ·rename_i d' hd;injection h with h;injection h with h1 h2;subst h1;subst h2;simp only[Tr.act,JC.gA,rF.wA,hd,Tr.HA,Tr.JA,WC.wA,(Tr.ends (.an A d)).no]
  |set t m r =>
   simp only[JC.gA]at h;injection h with h;injection h with h1 h2;subst h1;subst h2;simp only[Tr.act,JC.gA,rF.wA,Tr.HA,Tr.JA,WC.wA,(Tr.ends (.an A d)).no]
  |app a k =>
   simp only[JC.gA]at h;split at h
   ·cases h
   ·injection h with h;injection h with h1 h2;subst h1;exact absurd rfl (hT ⟨A,d,rfl⟩ _ _)
  |obj t m S =>
   simp only[JC.gA]at h;injection h with h;injection h with h1 h2;subst h1;subst h2;rfl
  |mk S =>
   simp only[JC.gA]at h;split at h
   ·cases h
   ·rename_i d' hd;injection h with h;injection h with h1 h2;subst h1;subst h2;simp only[Tr.act,JC.gA,rF.wA,hd,Tr.HA,Tr.JA,WC.wA,(Tr.ends (.an A d)).no]
  |rn k r =>
   simp only[JC.gA]at h;split at h
   ·cases h
   ·injection h with h;injection h with h1 h2;exact absurd h1.symm (hR _ _ _ _)
  |zB t n S r =>
   simp only[JC.gA]at h;split at h
   ·cases h
   ·rename_i d' hd;injection h with h;injection h with h1 h2;subst h1;subst h2;simp only[Tr.act,JC.gA,rF.wA,hd,Tr.HA,Tr.JA,WC.wA,(Tr.ends (.an A d)).no]
theorem XE {d d':Option Nat}(h:∀n,d=some n->d'≠some n)(v v':WC):(s.put d v).put d' v'=(s.put d' v').put d v:=by
 cases d with
 |none=>rfl
 |some d =>
  cases d' with
  |none=>rfl
  |some d' =>
   have:d≠d':=fun e=>h d rfl (by rw[e])
   simp only[OC.put];congr 1;funext t;by_cases h1:t=d'
   ·by_cases h2:t=d
    ·exact absurd (h2.symm.trans h1) this
    ·rw[h1];simp only[if_true];rw[if_neg (fun e=>this e.symm)]
   ·simp[h1]
theorem AK (f:An->An)(d:Option Nat)(v:WC):(s.put d v).wA f=(s.wA f).put d (v.wA f):=by
 cases d with
 |none=>rfl
 |some d =>
  simp only[OC.put,OC.wA];congr 1;funext t;by_cases h:t=d<;>simp[h,WC.wA]
theorem IN (f:An->An)(t n:Nat)(r:List WC):(s.setRow t n r).wA f=(s.wA f).setRow t n (r.map (WC.wA f)):=by
 simp only[OC.setRow,OC.wA];congr 1;funext t' n';by_cases h:t'=t/\n'=n
 ·simp only[h,and_self,if_true,yp];rfl
 ·simp[h]
theorem NE (d:Option Nat)(v:WC)(t n:Nat)(r:List WC):(s.put d v).setRow t n r=(s.setRow t n r).put d v:=by cases d<;>rfl
theorem rS {t n t' n':Nat}(h:t≠t')(r r':List WC):(s.setRow t n r).setRow t' n' r'=(s.setRow t' n' r').setRow t n r:=by
 simp only[OC.setRow];congr 1;funext a b;by_cases h1:a=t'
 ·have:¬ (a=t/\b=n):=fun e=>h (e.1.symm.trans h1)
  simp[this]
 ·have:¬ (a=t'/\b=n'):=fun e=>h1 e.1
  simp[this]
theorem mG (d:Option Nat)(v:WC)(t n:Nat)(S:AV):(s.put d v).setObj t n S=(s.setObj t n S).put d v:=by cases d<;>rfl
theorem UN (f:An->An)(t n:Nat)(S:AV):(s.setObj t n S).wA f=(s.wA f).setObj t n S:=rfl
theorem sT (t n:Nat)(r:List WC)(t' n':Nat)(S:AV):(s.setRow t n r).setObj t' n' S=(s.setObj t' n' S).setRow t n r:=rfl
theorem C6 {t n:Nat}{S:AV}{d m:Nat}{r:List WC}{o:JC}(h:(Tr.zB t n S d m r).of o):(Tr.row d m r).of o:=.inl ⟨h.1.2.2,h.2⟩
theorem Nr (T:Tr)(s:OC)(d:Option Nat)(v:WC):((T.ap s).put d v).next=s.next:=by
 have:(T.ap s).next=s.next:=by
  cases T with
  |an A d=>rw[Tr.cB];rfl
  |rn k t n r=>cases k<;>rfl
  |_=>rfl
 cases d<;>exact this
theorem Ld {x y:JC}(we:UH x y=true)(la:cK x y=true)(h1:x.step call s=some s1)(h2:y.step call s1=some s2):∃eh,y.step call s=some eh/\x.step call eh=some s2:=by
 unfold UH at we;simp only[y9]at we;obtain⟨a1,a2⟩:=iJ we.1;obtain⟨a3,a4⟩:=iJ we.2;rw[RL]at h1 h2;obtain⟨p,hp,h1⟩:=y5.1 h1;obtain⟨⟨Tx,vx⟩,hx,h1⟩:=ye.1 h1;obtain⟨q,hq,h2⟩:=y5.1 h2;obtain⟨⟨Ty,vy⟩,hy,h2⟩:=ye.1 h2;simp only at h1 h2;subst h1;have ofx:Tx.of x:=X8 x (x:=p.1) (e:=p.2) hp hx;have offy:=Rj ofx la;rw[KP a1,Jt offy]at hq;obtain⟨q0,hq0,rfl⟩:=ye.1 hq;rw[Nr]at hy
 -- y in the first state
 have tg:∃Ty0 vy0,y.gA s.next q0=some (Ty0,vy0):=by
  obtain⟨u,e⟩:=q0;cases e with
  |none=>exact⟨_,_,rfl⟩
  |new r =>
   cases hd:y.dst with
   |none =>
    exfalso;cases Tx<;>simp[Tr.act,JC.gA,rF.wA,hd]at hy
   |some d=>exact⟨.row d s.next r,_,by simp only[JC.gA,hd];rfl⟩
  |set t n r=>exact⟨_,_,rfl⟩
  |obj t n S=>exact⟨_,_,rfl⟩
  |mk S =>
   cases hd:y.dst with
   |none =>
    exfalso;cases Tx<;>simp[Tr.act,JC.gA,rF.wA,hd]at hy
   |some d=>exact⟨.obj d s.next S,_,by simp only[JC.gA,hd];rfl⟩
  |app a k =>
   cases hd:y.dst with
   |none =>
    exfalso;cases Tx<;>simp[Tr.act,JC.gA,rF.wA,hd]at hy
   |some d=>exact⟨.an a d,_,by simp only[JC.gA,hd];rfl⟩
  |rn k r =>
   cases hd:y.dst with
   |none =>
    exfalso;cases Tx<;>simp[Tr.act,JC.gA,rF.wA,hd]at hy
   |some d=>exact⟨.rn k d s.next r,_,by simp only[JC.gA,hd];rfl⟩
  |zB t n S r =>
   cases hd:y.dst with
   |none =>
    exfalso;cases Tx<;>simp[Tr.act,JC.gA,rF.wA,hd]at hy
   |some d=>exact⟨.zB t n S d s.next r,_,by simp only[JC.gA,hd];rfl⟩
 obtain⟨Ty0,vy0,tg⟩:=tg;have ofy:Ty0.of y:=X8 y (x:=q0.1) (e:=q0.2) hq0 tg;have offx:=Rj ofy (c8 la);have notT:∀A d A' d',Tx=.an A d->Ty0=.an A' d'->False:=fun A d A' d' e e'=>by
  subst e;subst e';have:=ofy.1;rw[show Ta y.op=false from offy]at this;cases this
 have noM:∀{T:Tr}{o:JC},T.of o->Wh o.op=false->∀k t m r,T≠.rn k t m r:=fun h hm k t m r e=>by
  subst e;have h':Wh _=true:=h;rw[hm]at h';cases h'
 have hMx:Wh x.op=false:=by unfold cK at la;simp only[y9]at la;simpa using la.1.1.1.1.1.1.1
 have hMy:Wh y.op=false:=by unfold cK at la;simp only[y9]at la;simpa using la.1.1.1.1.1.1.2
 have nx:=noM ofx hMx;have ny:=noM ofy hMy;have hyc:=n7 (T:=Tx) tg (hR:=ny) (fun⟨A,d,e⟩ A' d' e'=>notT A d A' d' e e');rw[hyc]at hy;injection hy with hy;injection hy with e1 e2;subst e1;subst e2;have hxc:=n7 (T:=Ty0) hx (hR:=nx) (fun⟨A,d,e⟩ A' d' e'=>notT A' d' A d e' e);refine⟨(Ty0.ap s).put y.dst vy0,by rw[RL,hq0,J,tg];rfl,?_⟩;rw[RL,KP a3,Jt offx,hp];simp only[yp,J,Nr,hxc];rw[<- h2];congr 1;have notO:∀t n S t' n' S',Tx=.obj t n S->Ty0=.obj t' n' S'->False:=fun t n S t' n' S' e e'=>by
  subst e;subst e';have h1:nV y.op=true:=ofy.1;rw[show nV y.op=false from offy]at h1;cases h1
 cases Tx with
 |rn=>exact absurd rfl (nx _ _ _ _)
 |id =>
  cases Ty0 with
  |rn=>exact absurd rfl (ny _ _ _ _)
  |zB t n S d m r=>simp only[Tr.ap,Tr.HA,Tr.JA];rw[mG,NE];exact(XE a2 _ _).symm
  |id=>exact(XE a2 _ _).symm
  |row t n r=>simp only[Tr.ap,Tr.HA,Tr.JA];rw[NE];exact(XE a2 _ _).symm
  |an A d =>
   simp only[Tr.HA,Tr.JA,Tr.cB,AK];exact(XE a2 _ _).symm
  |obj t n S=>simp only[Tr.ap,Tr.HA,Tr.JA];rw[mG];exact(XE a2 _ _).symm
 |row t n r =>
  cases Ty0 with
  |rn=>exact absurd rfl (ny _ _ _ _)
  |zB t' n' S d m r' =>
   have ua:=Mq (x:=x) (y:=y) ofx (C6 ofy) la;simp only[Tr.ap,Tr.HA,Tr.JA];rw[NE,mG,NE,sT,rS ua];exact(XE a2 _ _).symm
  |id=>simp only[Tr.ap,Tr.HA,Tr.JA];rw[NE];exact(XE a2 _ _).symm
  |row t' n' r' =>
   simp only[Tr.ap,Tr.HA,Tr.JA];rw[NE,NE,rS (Mq ofx ofy la)];exact(XE a2 _ _).symm
  |an A d =>
   simp only[Tr.HA,Tr.JA,Tr.cB,AK];simp only[Tr.ap,IN,NE];exact(XE a2 _ _).symm
  |obj t' n' S =>
   simp only[Tr.ap,Tr.HA,Tr.JA];rw[mG,NE];exact(XE a2 _ _).symm
 |an A d =>
  cases Ty0 with
  |rn=>exact absurd rfl (ny _ _ _ _)
  |zB t' n' S d' m r' =>
   simp only[Tr.HA,Tr.JA,Tr.cB,AK];simp only[Tr.ap,IN,UN,mG,NE];exact(XE a2 _ _).symm
  |id =>
   simp only[Tr.HA,Tr.JA,Tr.cB,AK];exact(XE a2 _ _).symm
  |row t' n' r' =>
   simp only[Tr.HA,Tr.JA,Tr.cB,AK];simp only[Tr.ap,IN,NE];exact(XE a2 _ _).symm
  |an A' d'=>exact(notT A d A' d' rfl rfl).elim
  |obj t' n' S =>
   simp only[Tr.HA,Tr.JA,Tr.cB,AK];simp only[Tr.ap,UN,mG];exact(XE a2 _ _).symm
 |obj t n S =>
  cases Ty0 with
  |rn=>exact absurd rfl (ny _ _ _ _)
  |zB t' n' S' d m r'=>exact absurd ofy.1.1 (by rw[show nV y.op=false from offy];decide)
  |id=>simp only[Tr.ap,Tr.HA,Tr.JA];rw[mG];exact(XE a2 _ _).symm
  |row t' n' r' =>
   simp only[Tr.ap,Tr.HA,Tr.JA];rw[NE,mG];exact(XE a2 _ _).symm
  |an A d =>
   simp only[Tr.HA,Tr.JA,Tr.cB,AK];simp only[Tr.ap,UN,mG];exact(XE a2 _ _).symm
  |obj t' n' S'=>exact(notO t n S t' n' S' rfl rfl).elim
 |zB t n S d m r =>
  have hyO:nV y.op=false:=offy.1;cases Ty0 with
  |rn=>exact absurd rfl (ny _ _ _ _)
  |id=>simp only[Tr.ap,Tr.HA,Tr.JA];rw[mG,NE];exact(XE a2 _ _).symm
  |row t' n' r' =>
   have ua:=Mq (x:=x) (y:=y) (C6 ofx) ofy la;simp only[Tr.ap,Tr.HA,Tr.JA];rw[NE,mG,NE,<- sT,rS ua];exact(XE a2 _ _).symm
  |an A d' =>
   simp only[Tr.HA,Tr.JA,Tr.cB,AK];simp only[Tr.ap,IN,UN,mG,NE];exact(XE a2 _ _).symm
  |obj t' n' S'=>exact absurd ofy.1 (by rw[hyO];decide)
  |zB t' n' S' d' m' r'=>exact absurd ofy.1.1 (by rw[hyO];decide)
def Tr.kl (T:Tr)(w:WC):WC:=match T with
 |.rn (some p) _ _ _=>w.kill p.1 p.2
 |_=>w
theorem Fr {k:K}(hk:Eh k=true){v:WC}{e:rF}(h:k.run call s=some (v,e)):e=.none\/(∃r,e=.new r)\/∃q r,e=.rn q r:=by
 cases k with
 |sB cl e' z b x y =>
  simp only[K.run]at h;split at h
  ·split at h
   ·split at h
    ·split at h
     ·injection h with h;injection h with _ h;exact .inl h.symm
     ·injection h with h;injection h with _ h;exact .inr (.inl ⟨_,h.symm⟩)
    ·cases h
   ·cases h
  ·split at h
   ·split at h
    ·injection h with h;injection h with _ h;exact .inr (.inr ⟨_,_,h.symm⟩)
    ·cases h
   ·cases h
  ·cases h
 |qB cl e' z b x y =>
  simp only[K.run]at h;split at h
  ·split at h
   ·split at h
    ·injection h with h;injection h with _ h;exact .inr (.inl ⟨_,h.symm⟩)
    ·cases h
   ·cases h
  ·split at h
   ·split at h
    ·injection h with h;injection h with _ h;exact .inr (.inr ⟨_,_,h.symm⟩)
    ·cases h
   ·cases h
  ·cases h
 |PA cl f z L x xs =>
  simp only[K.run]at h;split at h
  ·split at h
   ·split at h
    ·split at h
     ·split at h
      ·obtain ⟨r,_,h⟩:=y5.1 h;split at h
       ·split at h
        ·injection h with h;injection h with _ h;exact .inr (.inr ⟨_,_,h.symm⟩)
        ·cases h
       ·cases h
      ·cases h
     ·cases h
    ·split at h
     ·obtain ⟨r,_,h⟩:=y5.1 h;split at h
      ·split at h
       ·injection h with h;injection h with _ h;exact .inr (.inl ⟨_,h.symm⟩)
       ·cases h
      ·cases h
     ·cases h
    ·cases h
   ·cases h
  ·cases h
 |_=>cases hk
theorem T5 {x:JC}(hk:Eh x.op=true){p:WC×rF}(hp:x.GA call s=some p){n:Nat}{T:Tr}{v:WC}(ht:x.gA n p=some (T,v)):T=.id\/(∃t m r,T=.row t m r)\/∃q t m r,T=.rn q t m r:=by
 have he:p.2=.none\/(∃r,p.2=.new r)\/∃q r,p.2=.rn q r:=by
  unfold JC.GA at hp;split at hp
  ·exact Fr hk (v:=p.1) (e:=p.2) hp
  ·split at hp
   ·split at hp
    ·exact Fr hk (v:=p.1) (e:=p.2) hp
    ·injection hp with hp;subst hp;exact .inl rfl
   ·injection hp with hp;subst hp;exact .inl rfl
   ·cases hp
 obtain⟨v0,e⟩:=p;rcases he with he|⟨r,he⟩|⟨q,r,he⟩
 ·simp only at he;subst he;injection ht with ht;injection ht with h1 _;exact .inl h1.symm
 ·simp only at he;subst he;simp only [JC.gA] at ht;split at ht
  ·cases ht
  ·injection ht with ht;injection ht with h1 _;exact .inr (.inl ⟨_,_,_,h1.symm⟩)
 ·simp only at he;subst he;simp only [JC.gA] at ht;split at ht
  ·cases ht
  ·injection ht with ht;injection ht with h1 _;exact .inr (.inr ⟨_,_,_,_,h1.symm⟩)
theorem eP {T:Tr}(h:T=.id\/(∃t m r,T=.row t m r)\/∃q t m r,T=.rn q t m r)(s:OC)(d:Nat)(w:WC):T.ap (s.put (some d) w)=(T.ap s).put (some d) (T.kl w)/\∀z,(T.ap s).env z=T.kl (s.env z):=by
 rcases h with rfl|⟨t,m,r,rfl⟩|⟨q,t,m,r,rfl⟩
 ·exact⟨rfl,fun _=>rfl⟩
 ·exact⟨rfl,fun _=>rfl⟩
 ·cases q with
  |none=>exact⟨rfl,fun _=>rfl⟩
  |some p =>
   refine⟨?_,fun _=>rfl⟩;simp only[Tr.ap,OC.kA,OC.kill,OC.put,OC.setRow,Tr.kl];congr 1;funext j;by_cases hj:j=d<;>simp[hj]
theorem Dr {y:JC}(h:Ui y=true):∃d z,y=⟨d,.mv (.t z),none⟩:=by
 obtain⟨d,k,g⟩:=y;unfold Ui at h;simp only at h;split at h
 ·exact⟨_,_,rfl⟩
 ·cases h
theorem j7 {x y:JC}(we:UH x y=true)(hx:Eh x.op=true)(hy:Ui y=true):(∀s s1 s2,x.step call s=some s1->y.step call s1=some s2->∃eh,y.step call s=some eh/\x.step call eh=some s2)/\∀s s1 s2,y.step call s=some s1->x.step call s1=some s2->∃eh,x.step call s=some eh/\y.step call eh=some s2:=by
 obtain⟨d,z,rfl⟩:=Dr hy;unfold UH at we;simp only[y9]at we;obtain⟨a1,a2⟩:=iJ we.1;obtain⟨a3,a4⟩:=iJ we.2;have hz:∀n,x.dst=some n->n≠z:=fun n hn e=>a1 n hn (by subst e;simp[JC.looks,K.aA])
 have nz:∀s:OC,(⟨d,.mv (.t z),none⟩:JC).step call s=some (s.put d ⟨(s.env z).v,(s.env z).a⟩):=fun _=>rfl
 have key:∀(s:OC)(p:WC×rF)(T:Tr)(v:WC),x.GA call s=some p->x.gA s.next p=some (T,v)->(T.ap (s.put d (s.env z))).put x.dst v=((T.ap s).put x.dst v).put d ((((T.ap s).put x.dst v).env z))/\x.step call (s.put d (s.env z))=some ((T.ap (s.put d (s.env z))).put x.dst v):=fun s p T v hp hT=>by
  have hk:=T5 hx hp hT;constructor
  ·have he:((T.ap s).put x.dst v).env z=T.kl (s.env z):=by
    cases hd:x.dst with
    |none=>exact(eP hk s 0 v).2 z
    |some n =>
     simp only[OC.put];rw[if_neg (fun e=>hz n hd e.symm)];exact(eP hk s 0 v).2 z
   rw[he];cases d with
   |none=>rfl
   |some d =>
    rw[(eP hk s d _).1];exact(XE (fun n hn e=>a4 n hn e) _ _)
  ·rw [RL,KP (fun n hn=>a3 n hn),hp];have hn:(s.put d (s.env z)).next=s.next:=by cases d <;> rfl
   simp only[J,hn,hT,yp]
 refine⟨fun s s1 s2 h1 h2=>?_,fun s s1 s2 h1 h2=>?_⟩
 ·rw[RL]at h1;obtain⟨p,hp,h1⟩:=y5.1 h1;obtain⟨⟨T,v⟩,hT,h1⟩:=ye.1 h1;simp only at h1;rw[nz]at h2;injection h2 with h2;refine⟨_,nz s,?_⟩;obtain⟨k1,k2⟩:=key s p T v hp hT;have k2':x.step call (s.put d ⟨(s.env z).v,(s.env z).a⟩)=some ((T.ap (s.put d (s.env z))).put x.dst v):=k2;rw[k2',k1,<- h2,<- h1]
 ·rw [nz] at h1;injection h1 with h1;subst h1;have tn:x.step call (s.put d (s.env z))=some s2:=h2;rw [RL,KP (fun n hn=>a3 n hn)] at tn;obtain ⟨p,hp,tn⟩:=y5.1 tn;obtain ⟨⟨T,v⟩,hT,tn⟩:=ye.1 tn;have hn:(s.put d (s.env z)).next=s.next:=by cases d <;> rfl
  rw[hn]at hT;obtain⟨k1,_⟩:=key s p T v hp hT;refine⟨(T.ap s).put x.dst v,by rw[RL,hp];simp only[J,hT,yp],?_⟩;rw[nz,<- tn];simp only;rw[k1]
theorem g7 {x y:JC}(we:UH x y=true)(hx:Eh x.op=true)(fy:OC->Option WC)(hy:∀s,y.step call s=(fy s).map fun w=>s.put y.dst w):
  ((∀s p T v,x.GA call s=some p->x.gA s.next p=some (T,v)->∀w',fy ((T.ap s).put x.dst v)=some w'->∃w,fy s=some w/\T.kl w=w')->∀s s1 s2,x.step call s=some s1->y.step call s1=some s2->∃eh,y.step call s=some eh/\x.step call eh=some s2) ∧
  ((∀s p T v,x.GA call s=some p->x.gA s.next p=some (T,v)->∀w,fy s=some w->fy ((T.ap s).put x.dst v)=some (T.kl w))->∀s s1 s2,y.step call s=some s1->x.step call s1=some s2->∃eh,x.step call s=some eh/\y.step call eh=some s2):=by
 unfold UH at we;simp only[y9]at we;obtain⟨a1,a2⟩:=iJ we.1;obtain⟨a3,a4⟩:=iJ we.2;have key:∀(s:OC)(p:WC×rF)(T:Tr)(v w:WC),x.GA call s=some p->x.gA s.next p=some (T,v)->x.step call (s.put y.dst w)=some (((T.ap s).put x.dst v).put y.dst (T.kl w)):=fun s p T v w hp hT=>by
  have hk:=T5 hx hp hT;have hn:(s.put y.dst w).next=s.next:=by cases y.dst<;>rfl
  rw[RL,KP (fun n hn=>a3 n hn),hp];simp only[J,hn,hT,yp];congr 1;cases hd:y.dst with
  |none=>rfl
  |some d =>
   rw[(eP hk s d w).1];exact XE (fun n hn e=>by
    injection hn with hn;exact a4 n (by rw[hd,hn]) e) _ _
 refine⟨fun H s s1 s2 h1 h2=>?_,fun H s s1 s2 h1 h2=>?_⟩
 ·rw[RL]at h1;obtain⟨p,hp,h1⟩:=y5.1 h1;obtain⟨⟨T,v⟩,hT,h1⟩:=ye.1 h1;simp only at h1;subst h1;rw[hy]at h2;obtain⟨w',sg,h2⟩:=ye.1 h2;obtain⟨w,hw,e⟩:=H s p T v hp hT w' sg;refine⟨s.put y.dst w,by rw[hy,hw];rfl,?_⟩;rw[key s p T v w hp hT,e,<- h2]
 ·rw [hy] at h1;obtain ⟨w,hw,h1⟩:=ye.1 h1;subst h1;have di:=h2;rw [RL,KP (fun n hn=>a3 n hn)] at di;obtain ⟨p,hp,di⟩:=y5.1 di;obtain ⟨⟨T,v⟩,hT,_⟩:=ye.1 di;have hn:(s.put y.dst w).next=s.next:=by cases y.dst <;> rfl
  rw[hn]at hT;have h3:=key s p T v w hp hT;rw[h2]at h3;injection h3 with h3;refine⟨(T.ap s).put x.dst v,by rw[RL,hp];simp only[J,hT,yp],?_⟩;rw[hy,H s p T v hp hT w hw,h3];rfl
def Bn (off:Option Nat)(v:AV):Option WC:=match off,v with
 |none,.ptr t n o=>some ⟨.ptr t n o,.no⟩
 |none,.ip cs=>some ⟨.ip cs,.no⟩
 |none,.bp cs=>some ⟨.bp cs,.no⟩
 |some k,.ptr t n o=>some ⟨.ptr t n (o+k),.no⟩
 |some k,.ip cs=>some ⟨.ip (cs.drop k),.no⟩
 |some k,.bp cs=>some ⟨.bp (cs.drop k),.no⟩
 |_,_=>none
theorem Dv {y:JC}(h:Rh y=true):∃off z,(∀s,y.step call s=(Bn off (s.env z).v).map fun w=>s.put y.dst w)/\z∈y.looks:=by
 obtain⟨d,k,g⟩:=y;unfold Rh at h;simp only at h;split at h
 ·rename_i z;refine⟨none,z,fun s=>?_,by simp[JC.looks,K.aA]⟩;simp only[JC.step,K.run,KD.get,Bn];cases(s.env z).v<;>rfl
 ·rename_i k z;refine⟨some k,z,fun s=>?_,by simp[JC.looks,K.aA]⟩;simp only[JC.step,K.run,KD.get,Bn];cases(s.env z).v<;>rfl
 ·cases h
theorem Cj {off:Option Nat}{v:AV}{t n:Nat}{w':WC}(h:Bn off (v.kill t n)=some w'):∃w,Bn off v=some w/\w.kill t n=w':=by
 cases v with
 |ptr t' n' o =>
  simp only[AV.kill,AV.eA]at h;by_cases hn:t'=t/\n'=n
  ·rw[if_pos hn]at h;cases off<;>cases h
  ·rw[if_neg hn]at h;cases off<;>(simp only[Bn]at h;injection h with h;subst h;exact⟨_,rfl,by simp only[WC.kill,AV.kill,AV.eA,if_neg hn]⟩)
 |ip cs=>cases off<;>(simp only[AV.kill,AV.eA,Bn]at h;injection h with h;subst h;exact⟨_,rfl,rfl⟩)
 |bp cs=>cases off<;>(simp only[AV.kill,AV.eA,Bn]at h;injection h with h;subst h;exact⟨_,rfl,rfl⟩)
 |ref t' n' sz o l c =>
  simp only[AV.kill,AV.eA]at h;split at h<;>cases off<;>cases h
 |mp t' n' =>
  simp only[AV.kill,AV.eA]at h;split at h<;>cases off<;>cases h
 |_=>cases off<;>cases h
theorem Xd {x y:JC}(we:UH x y=true)(hx:Eh x.op=true)(hy:Rh y=true){s1 s2:OC}(h1:x.step call s=some s1)(h2:y.step call s1=some s2):∃eh,y.step call s=some eh/\x.step call eh=some s2:=by
 obtain⟨off,z,nz,hz⟩:=Dv (call:=call) hy;refine(g7 we hx (fun s=>Bn off (s.env z).v) nz).1 (fun s p T v hp hT w' sg=>?_) s s1 s2 h1 h2;have zw:=we;unfold UH at zw;simp only[y9]at zw;obtain⟨a1,a2⟩:=iJ zw.1;have hk:=T5 hx hp hT;have he:(((T.ap s).put x.dst v).env z)=T.kl (s.env z):=by
  cases hd:x.dst with
  |none=>exact(eP hk s 0 v).2 z
  |some n =>
   simp only[OC.put];rw[if_neg (show ¬z=n from fun e=>a1 n hd (e▸hz))];exact(eP hk s 0 v).2 z
 rw[he]at sg;rcases hk with rfl|⟨t,m,r,rfl⟩|⟨q,t,m,r,rfl⟩
 ·exact⟨w',sg,rfl⟩
 ·exact⟨w',sg,rfl⟩
 ·cases q with
  |none=>exact⟨w',sg,rfl⟩
  |some p=>exact Cj sg
def ldF (r size:Nat)(s:OC)(v:AV):Option WC:=match v with
 |.ptr t n o=>if r == t then(s.mem t n).bind (kD false size o)else none
 |_=>none
theorem Sv {y x:JC}(h:Qh y x=true):∃r size z,(∀s,y.step call s=(ldF r size s (s.env z).v).map fun w=>s.put y.dst w)/\z∈y.looks/\x.dst≠some r/\∃cl f sz L a ws,x.op=.PA cl f sz L a ws/\L.contains r=true:=by
 obtain⟨d,k,g⟩:=y;unfold Qh at h;simp only at h;split at h
 ·rename_i r size z cl f sz L a ws hxo;simp only [y9,bne_iff_ne,ne_eq] at h;refine ⟨r,size,z,fun s=>?_,by simp [JC.looks,K.aA],h.2,cl,f,sz,L,a,ws,hxo,h.1⟩;simp only [JC.step,K.run,KD.get,ldF,Cl.cA];cases (s.env z).v <;> try rfl
  rename_i t n o;simp only;by_cases xy:(r == t)=true
  ·simp only[xy,if_true];cases(s.mem t n).bind (kD false size o)<;>rfl
  ·simp[xy]
 ·cases h
theorem R3 {cl:Cl}{f sz:Nat}{L:List Nat}{a:KD}{ws:List KD}{v:WC}{e:rF}(h:(K.PA cl f sz L a ws).run call s=some (v,e)):(∃r,e=.new r)\/∃t n r,e=.rn (some (t,n)) r/\L.contains t=false:=by
 simp only[K.run]at h;split at h
 ·split at h
  ·split at h
   ·split at h
    ·split at h
     ·rename_i hc;obtain ⟨r,_,h⟩:=y5.1 h;split at h
      ·split at h
       ·injection h with h;injection h with _ h;exact .inr ⟨_,_,_,h.symm,hc.2.2.2⟩
       ·cases h
      ·cases h
     ·cases h
    ·cases h
   ·split at h
    ·obtain ⟨r,_,h⟩:=y5.1 h;split at h
     ·split at h
      ·injection h with h;injection h with _ h;exact .inl ⟨_,h.symm⟩
      ·cases h
     ·cases h
    ·cases h
   ·cases h
  ·cases h
 ·cases h
theorem Zd {x y:JC}(we:UH x y=true)(hx:Qh x y=true)(hy:Eh y.op=true){s1 s2:OC}(h1:x.step call s=some s1)(h2:y.step call s1=some s2):∃eh,y.step call s=some eh/\x.step call eh=some s2:=by
 obtain⟨r,size,z,hxr,hz,iw,cl,f,sz,L,a,ws,fb,hL⟩:=Sv (call:=call) hx;have hap0:=we;unfold UH at we;simp only[y9]at we;obtain⟨a3,a4⟩:=iJ we.2;refine(g7 (x:=y) (y:=x) (by unfold UH;rw[Bool.and_comm];exact hap0) hy (fun s=>ldF r size s (s.env z).v) hxr).2 (fun s p T v hp hT w hw=>?_) s s1 s2 h1 h2;have hk:=T5 hy hp hT;have he:(((T.ap s).put y.dst v).env z)=T.kl (s.env z):=by
  cases hd:y.dst with
  |none=>exact(eP hk s 0 v).2 z
  |some n =>
   simp only[OC.put];rw[if_neg (show ¬z=n from fun e=>a3 n hd (e▸hz))];exact(eP hk s 0 v).2 z
 have hm:∀t n,((T.ap s).put y.dst v).mem t n=(T.ap s).mem t n:=fun t n=>by cases y.dst<;>rfl
 rw[he]
 -- what the call does to memory
 have du:T=.id\/(∃d m row,T=.row d m row/\y.dst=some d)\/∃t n d m row,T=.rn (some (t,n)) d m row/\y.dst=some d/\L.contains t=false:=by
  obtain⟨v0,e⟩:=p;have hpe:(e=.none)\/(∃row,e=.new row)\/∃t n row,e=.rn (some (t,n)) row/\L.contains t=false:=by
   unfold JC.GA at hp;rw[fb]at hp;split at hp
   ·exact .inr (R3 hp)
   ·split at hp
    ·split at hp
     ·exact .inr (R3 hp)
     ·injection hp with hp;injection hp with _ hp;exact .inl hp.symm
    ·injection hp with hp;injection hp with _ hp;exact .inl hp.symm
    ·cases hp
  rcases hpe with rfl|⟨row,rfl⟩|⟨t,n,row,rfl,ht⟩
  ·injection hT with hT;injection hT with h1 _;exact .inl h1.symm
  ·simp only [JC.gA] at hT;split at hT
   ·cases hT
   ·rename_i d hd;injection hT with hT;injection hT with h1 _;exact .inr (.inl ⟨_,_,_,h1.symm,hd⟩)
  ·simp only [JC.gA] at hT;split at hT
   ·cases hT
   ·rename_i d hd;injection hT with hT;injection hT with h1 _;exact .inr (.inr ⟨_,_,_,_,_,h1.symm,hd,ht⟩)
 have sg:=hw;simp only[ldF]at sg ⊢;cases hv:(s.env z).v with
 |ptr t n o =>
  rw[hv]at sg;simp only at sg;split at sg
  case isFalse=>cases sg
  rename_i xy;have hrt':r=t:=by simpa using xy
  subst hrt';obtain⟨row,ka,hl⟩:=y5.1 sg;simp only[kD,yr,if_false]at hl;rcases du with rfl|⟨d,m,et,rfl,hd⟩|⟨t',n',d,m,et,rfl,hd,ht⟩
  ·simp only[Tr.kl,hv,xy,if_true,hm];show((Tr.id.ap s).mem r n).bind _=_;rw[show(Tr.id.ap s).mem r n=some row from ka];simp[kD,hl]
  ·simp only[Tr.kl,hv,xy,if_true,hm];have:((Tr.row d m et).ap s).mem r n=some row:=by
    show(if r=d/\n=m then some et else s.mem r n)=some row;rw[if_neg (fun e=>iw (by rw[hd,e.1]))];exact ka
   rw[this];simp[kD,hl]
  ·have ua:¬ (r=t'/\n=n'):=fun e=>by rw [<- e.1] at ht; rw [hL] at ht; cases ht
   have hvk:(WC.kill t' n' (s.env z)).v=.ptr r n o:=by
    show(s.env z).v.kill t' n'=_;rw[hv];simp only[AV.kill,AV.eA,if_neg ua]
   simp only[Tr.kl,hvk,xy,if_true,hm];have:((Tr.rn (some (t',n')) d m et).ap s).mem r n=some (row.map (WC.kill t' n')):=by
    show(if r=d/\n=m then some et else(s.kill t' n').mem r n)=_;rw[if_neg (fun e=>iw (by rw[hd,e.1]))];show(if r=t'/\n=n' then none else(s.mem r n).map (·.map (WC.kill t' n')))=_;rw[if_neg ua,ka];rfl
   rw[this];simp[kD,hl]
 |_=>rw[hv]at sg;cases sg
theorem B6 {x y:JC}(h:UH x y=true):UH y x=true:=by
 unfold UH at h ⊢;rw[Bool.and_comm];exact h
theorem Ic {x y:JC}(we:UH x y=true)(la:jQ x y=true)(h1:x.step call s=some s1)(h2:y.step call s1=some s2):∃eh,y.step call s=some eh/\x.step call eh=some s2:=by
 unfold jQ at la;simp only[Bool.or_eq_true,y9]at la;rcases la with h|((⟨h,h'⟩|⟨h,h'⟩)|⟨h,h'⟩)|⟨h,h'⟩
 ·exact Ld we h h1 h2
 ·exact(j7 (B6 we) h' h).2 s s1 s2 h1 h2
 ·exact(j7 we h' h).1 s s1 s2 h1 h2
 ·exact Zd we h h' h1 h2
 ·exact Xd we h h' h1 h2
end
end
section
open Go Go.RowKit
section
variable {P:Program} {O:XI} {nt B:Nat} {F0:FQ} {da:Av} {w0:World} {s s':OC} {a:Act} {w w':World} {ι:Ix} {Θ:jM} {call:DD} {lh:LH} {Q:Exit->Act->World->Prop}
def gsh (nt:Nat)(a:Act)(g:Nat->Value):Nat->Value:=fun t=>if t<nt then a.tmps.getD t undef else g (t-nt)
def FQ.wait (F0:FQ)(nt:Nat)(a:Act):FQ:=⟨F0.b,F0.p,F0.r,F0.z,gsh nt a F0.g⟩
def OC.bare (s:OC):OC:={ s with env:=fun _=>⟨.undef,.no⟩ }
def L6 (P:Program)(O:XI)(B:Nat)(F0:FQ)(da:Av)(w0:World)(s:OC)(w:World)(ι:Ix)(Θ:jM):Prop:=LD P O 0 B F0 da w0 (fun _=>False) s.bare ⟨#[],[]⟩ w ι Θ
def gI (ι:Ix)(Θ:jM)(av avb:Av)(w:World):List WC->List Value->Prop
 | [],us=>us=[]
 |x::r,us=>∃u oa,us=u::oa/\sD ι av avb w x.v u/\TM Θ x.a u/\gI ι Θ av avb w r oa
theorem CT {av avb:Av}:∀{xs ys:List WC}{us vs:List Value},gI ι Θ av avb w xs us->gI ι Θ av avb w ys vs->gI ι Θ av avb w (xs++ys) (us++vs)
 | [],_,_,_,h,h'=>by simp only[gI]at h;subst h;exact h'
 |x::r,_,_,_,h,h'=>by
  simp only[gI]at h;obtain⟨u,oa,rfl,h0,h1,h⟩:=h;exact⟨u,oa++_,rfl,h0,h1,CT h h'⟩
def T1 (P:Program)(O:XI)(hp:HpT):Prop:=∀f xs s k r,hp f xs s k=some r->(∀vs w,(callFunc f vs).run P w=.ok (.enter f vs) w) ∧
 ∀(B:Nat)(F0:FQ)(da:Av)(w0 w:World)(ι:Ix)(Θ:jM)(us:List Value)(E:Ending->World->Prop),L6 P O B F0 da w0 s w ι Θ->gI ι Θ (uE da ι Θ) (zE ι Θ) w xs us →
  (∀y s' w' ι' Θ' v,L6 P O B F0 da w0 s' w' ι' Θ'->sD ι' (uE da ι' Θ') (zE ι' Θ') w' y.v v->TM Θ' y.a v->k y s'=some r->E (.returned v) w')->Calls P f us.toArray w E
theorem LD.wait {D:Nat->Prop}(R:LD P O nt B F0 da w0 D s a w ι Θ):L6 P O B (F0.wait nt a) da w0 (s.enter nt) w ι Θ :=
 ⟨rfl,rfl,fun _=>trivial,fun _=>trivial,R.rows,fun t n b h=>let⟨h1,h2,h3⟩:=R.mine t n b h;⟨h1,h2,.inl (by simp only[OC.bare,OC.enter];rcases h3 with h|h<;>omega)⟩,R.inj,R.tok,R.OA,R.apart,R.out,R.pin,R.kept,R.base,R.WA,fun t n H h=>let⟨h1,h2⟩:=R.obs t n H h;⟨h1,.inl (by simp only[OC.bare,OC.enter];rcases h2 with h|h<;>omega)⟩,fun t=>by
  simp only[OC.bare,OC.enter,FQ.wait,gsh];split
  ·exact R.env t
  ·exact R.gen _,fun t=>by
  simp only[OC.bare,OC.enter,FQ.wait,gsh];split
  ·exact R.ZB t
  ·exact R.CA _⟩
theorem LD.resume {D D':Nat->Prop}{s':OC}{ι':Ix}{Θ':jM}(R:LD P O nt B F0 da w0 D s a w ι Θ)(R':L6 P O B (F0.wait nt a) da w0 s' w' ι' Θ'):LD P O nt B F0 da w0 D' (s'.leave nt) a w' ι' Θ' :=
 ⟨R.defers,R.size,fun t=>by
  have:=R'.gen t;simp only[OC.bare,FQ.wait,gsh]at this;simp only[OC.leave];split
  ·rename_i h;rw[if_pos h]at this;exact this
  ·trivial,fun t=>by
  have:=R'.CA t;simp only[OC.bare,FQ.wait,gsh]at this;simp only[OC.leave];split
  ·rename_i h;rw[if_pos h]at this;exact this
  ·trivial,R'.rows,fun t n b h=>let⟨h1,h2,h3⟩:=R'.mine t n b h;⟨h1,h2,h3.imp id fun h=>h.2.elim⟩,R'.inj,R'.tok,R'.OA,R'.apart,R'.out,R'.pin,R'.kept,R'.base,R'.WA,fun t n H h=>let⟨h1,h2⟩:=R'.obs t n H h;⟨h1,h2.imp id fun h=>h.2.elim⟩,fun t=>by
  have:=R'.gen (t+nt);simp only[OC.bare,FQ.wait,gsh]at this;rw[if_neg (by omega),Nat.add_sub_cancel]at this;exact this,fun t=>by
  have:=R'.CA (t+nt);simp only[OC.bare,FQ.wait,gsh]at this;rw[if_neg (by omega),Nat.add_sub_cancel]at this;exact this⟩
theorem NT {D:Nat->Prop}(R:LD P O nt B F0 da w0 D s a w ι Θ):∀{Xs:List Operand}{xs:List KD},NH Xs=some xs->gI ι Θ (uE da ι Θ) (zE ι Θ) w (SM s xs) (Xs.map a.eval)
 | [],xs,h=>by injection h with h;subst h;rfl
 |X::Xs,xs,h=>by
  unfold NH at h;split at h
  ·rename_i x l hx hl;injection h with h;subst h;exact⟨_,_,rfl,(R.uA hx).1,(R.uA hx).2,NT R hl⟩
  ·cases h
theorem p7 {av avb:Av}:∀{cs:List AV}{us:List Value},CI ι av avb w cs us->gI ι Θ av avb w (cs.map (⟨·,.no⟩)) us
 | [],_,h=>h
 |x::r,_,h=>by
  simp only[CI]at h;obtain⟨u,oa,rfl,h0,h⟩:=h;refine⟨u,oa,rfl,?_,trivial,p7 h⟩;cases x with
  |bp cs=>exact h0
  |int k n=>exact NF (x:=.int k n) h0
  |bool b=>exact NF (x:=.bool b) h0
  |str b=>exact NF (x:=.str b) h0
  |QA=>exact NF (x:=.QA) h0
  |ptr t n o=>exact NF (x:=.ptr t n o) h0
  |ip cs=>exact NF (x:=.ip cs) h0
  |sl n l=>exact NF (x:=.sl n l) h0
  |bl l=>exact NF (x:=.bl l) h0
  |ref a b c d e f=>exact NF (x:=.ref a b c d e f) h0
  |mp t n=>exact NF (x:=.mp t n) h0
  |fn f cs=>exact NF (x:=.fn f cs) h0
  |agg cs=>exact NF (x:=.agg cs) h0
  |sA cs=>exact NF (x:=.sA cs) h0
  |undef=>trivial
theorem Q8 {D:Nat->Prop}(R:LD P O nt B F0 da w0 D s a w ι Θ){lh:LH}(dg:T1 P O lh.h){o:Oper}{hs:Nat->Bool}{nt':Nat}{x:KD}{xs:List KD}(hk:I3 nt hs o.op=some (.lA nt' x xs))(hd:∀d,o.dst=some d->d<nt){k:OC->Option RV}{r:RV}(hr:rT lh o.dst nt' x xs s k=some r)
  {Kn:Act->World->Prop} {Q:Exit->Act->World->Prop} (hK:∀s' a' w',JF P O nt B F0 da w0 (fun t=>D t\/o.dst=some t) s' a' w'->k s'=some r->Kn a' w'):o.wp P a w Kn Q:=by
 have go:∀{f:FuncId}{Xs:Array Operand}{cs:List AV}{us:List Value},nt'=nt->NH Xs.toList=some xs->CI ι (uE da ι Θ) (zE ι Θ) w cs us->lh.h f (SM s xs++cs.map (⟨·,.no⟩)) (s.enter nt) (fun y s'=>k ((s'.leave nt).put o.dst y))=some r->((∀vs w,(callFunc f vs).run P w=.ok (.enter f vs) w)->(execOp a.eval o).run P w=.ok (.enter f (Xs.map a.eval++us.toArray)) w)->o.wp P a w Kn Q:=fun{f Xs cs us} hn hx uh hh run=>by
  obtain⟨h1,h2⟩:=dg _ _ _ _ _ hh;unfold Oper.wp;rw[run h1,Oper.upon_enter];have le:(Xs.toList.map a.eval++us).toArray=Xs.map a.eval++us.toArray:=by
   apply Array.ext';simp
  rw[<- le];refine h2 B (F0.wait nt a) da w0 w ι Θ _ _ R.wait (CT (NT R hx) (p7 uh)) fun y s' w' ι' Θ' v R' hv ha fj=>?_
  exact hK _ _ _ ⟨ι',Θ',((R.resume (D':=D) R').MA hd hv ha).more fun _ h=>.inl h⟩ fj
 unfold I3 at hk;split at hk
 ·rename_i f Xs ts ho;split at hk
  ·obtain ⟨l,hl,hk⟩:=ye.1 hk;injection hk with hn hx kc;subst hx;subst kc;simp only [rT,KD.get] at hr;refine go (cs:=[]) (us:=[]) hn.symm hl rfl (by rw [hn]; exact hr) fun fc=>?_
   simp only[execOp,ho,resolve,Act.eval,Deferred.ofValue,Sem.run_bind,Sem.run_pure,Result.andThen_ok,invoke];have:=fc (#[]++Xs.map a.eval++#[]) w;simp only[Array.empty_append,Array.append_empty]at this ⊢;exact this
  ·cases hk
 ·rename_i tf Xs ts ho;split at hk
  ·obtain ⟨l,hl,hk⟩:=ye.1 hk;injection hk with hn hx kc;subst hx;subst kc;simp only [rT,KD.get] at hr;split at hr
   ·rename_i f cs rl;have hF:=R.env tf;rw [rl] at hF;obtain ⟨us,dd,uh⟩:=hF;refine go (cs:=cs) (us:=us.toList) hn.symm hl uh (by rw [hn]; exact hr) fun fc=>?_
    have hev:a.eval (.tmp tf)=.func (.func f) #[] us:=dd;simp only[execOp,ho,resolve,hev,Deferred.ofValue,Sem.run_bind,Sem.run_pure,Result.andThen_ok,invoke];have:=fc (#[]++Xs.map a.eval++us) w;simp only[Array.empty_append]at this ⊢;exact this
   ·cases hr
  ·cases hk
 ·obtain⟨_,_,h⟩:=ye.1 hk;cases h
 ·cases hk
theorem iV {f:Nat->Option RV}{z:Option RV}{r:RV}(l:List Nat)(h:N5 f z l=some r):(l=[]->z=some r)/\∀i∈l,f i=some r:=by
 match l,h with
 | [],h=>exact⟨fun _=>h,fun i hi=>absurd hi (by simp)⟩
 | [a],h=>exact⟨fun e=>(by cases e),fun i hi=>(by rw[List.mem_singleton.1 hi];exact h)⟩
 |a::b::l,h =>
  have h':(open Classical in if ∀x∈b::l,f x=f a then f a else none)=some r:=h;split at h'
  ·rename_i hc;refine ⟨fun e=>(by cases e),fun i hi=>?_⟩;rcases yh.1 hi with hi | hi
   ·rw[hi];exact h'
   ·exact(hc i hi).trans h'
  ·cases h'
theorem Q0 {f:Nat->Option RV}{z:Option RV}{r:RV}(l:List Nat)(h0:l=[]->z=some r)(h:∀i∈l,f i=some r):N5 f z l=some r:=by
 match l,h0,h with
 | [],h0,_=>exact h0 rfl
 | [a],_,h=>exact h a yl
 |a::b::l,_,h =>
  show(open Classical in if ∀x∈b::l,f x=f a then f a else none)=some r;rw[if_pos fun x hx=>(h x (ym _ hx)).trans (h a yl).symm];exact h a yl
theorem op_nxt {D:Nat->Prop}(R:LD P O nt B F0 da w0 D s a w ι Θ){o:Oper}{X:Operand}{x:KD}(hx:uA X=some x)(ho:o.op=.next X false)(hd:∀d,o.dst=some d->d<nt){k:OC->Option RV}{r:RV}(hr:cZ o.dst x s k=some r)
  {Kn:Act->World->Prop} {Q:Exit->Act->World->Prop} (hK:∀s' a' w',JF P O nt B F0 da w0 (fun t=>D t\/o.dst=some t) s' a' w'->k s'=some r->Kn a' w'):o.wp P a w Kn Q:=by
 unfold cZ at hr;split at hr
 case h_2=>cases hr
 rename_i t n ic;split at hr
 case h_2=>cases hr
 rename_i tm nm N seen hi;split at hr
 case h_2=>cases hr
 rename_i L hL;split at hr
 case isFalse=>cases hr
 rename_i hN;have hX:=(R.uA hx).1;rw[ic]at hX;obtain⟨q,hq,hv⟩:=hX;obtain⟨S,hS,kf⟩:=y5.1 hi;obtain⟨p,H,hp,eb,bc,bj⟩:=R.WA t n S hS;rw[hq]at hp;injection hp with hp;subst hp;obtain⟨m,Hm,hm,hobm,ia⟩:=bj tm nm N seen kf;obtain⟨hH,fa⟩:=(O.pC S H q w (by rw[kf];rfl)).1 bc;obtain⟨S2,hS2,ep⟩:=y5.1 hL;obtain⟨p2,H2,sj,nr,fx,_⟩:=R.WA tm nm S2 hS2;rw[hm]at sj;injection sj with sj;subst sj;have fu:S2=fJ L:=by
  unfold SK at ep;split at ep
  ·injection ep with ep;subst ep;rfl
  ·cases ep
 subst fu;obtain⟨hH2,es,clock,he,pf,hc,tb⟩:=(O.maps L H2 m w).1 fx;have hes:es.size=N:=by rw[<- hN];simpa using congrArg List.length pf
 obtain⟨h1,h2⟩:=iV _ hr;have hgq:(getObj q).run P w=.ok (.mapIter (some m) N seen.toArray N) w:=by simp[getObj,Sem.run,ia]
 have hgm:(getObj m).run P w=.ok (.map es clock) w:=by simp[getObj,Sem.run,he]
 have zq:∀i (hi:i<es.size),(es[i]∈es.filter (fun e=>!seen.toArray.contains e.born)↔(!seen.contains i)=true):=fun i hi=>by
  rw[Array.mem_filter,tb i hi];simp
 have mw:(!seen.toArray.isEmpty&&!es.isEmpty&&es.all (fun x=>decide (x.born>=N)))=false:=by
  cases zi:es.isEmpty with
  |true=>simp
  |false =>
   have h0:0<es.size:=by
    rcases yG es.size with h0|h0
    ·simp[Array.isEmpty,h0]at zi
    ·exact h0
   have:es.all (fun x=>decide (x.born>=N))=false:=by
    rw[Bool.eq_false_iff];intro mb;rw[Array.all_eq_true]at mb;have:=mb 0 h0;rw[tb 0 h0]at this;simp at this;omega
   simp[this]
 have gc:∀x∈es.filter (fun e=>!seen.toArray.contains e.born),x.born<N:=fun x hx=>by
  have cj:x∈es:=(Array.mem_filter.1 hx).1;obtain⟨i,sc,rfl⟩:=Array.mem_iff_getElem.1 cj;rw[tb i sc];omega
 generalize hLf:es.filter (fun e=>!seen.toArray.contains e.born)=Lf at gc zq;have e1:Lf.filter (fun x=>decide (x.born<N))=Lf:=Array.filter_eq_self.2 fun x hx=>by simpa using gc x hx
 have e2:Lf.filter (fun x=>decide (x.born>=N))=#[]:=by
  rw[Array.filter_eq_empty_iff];intro x hx;have:=gc x hx;simp;omega
 unfold Oper.wp;by_cases h0:Lf.size=0
 ·have hz:Lf=#[]:=Array.eq_empty_of_size_eq_zero h0;have mr:(List.range N).filter (fun i=>!seen.contains i)=[]:=by
   refine List.eq_nil_iff_forall_not_mem.2 fun i sc=>?_
   have ga:i<es.size:=by have:=(List.mem_filter.1 sc).1;rw[hes];exact List.mem_range.1 this
   have:=(zq i ga).2 (List.mem_filter.1 sc).2;rw[hz]at this;simp at this
  have ca:(execOp a.eval o).run P w=.ok (.value (.tuple #[.bool false])) w:=by
   simp only[execOp,ho,hv,Instr.next,Sem.run_bind,hgq,hgm,Result.andThen_ok,mw,yr,if_false,hLf,e1,e2,hz,Array.append_empty];simp[choose,Sem.run,Question.forced]
  rw[ca,Oper.upon_value];exact hK _ _ _ ⟨ι,Θ,(R.MA hd (x:=⟨.sA [.bool false],.no⟩) ⟨_,rfl,_,_,rfl,rfl,rfl⟩ trivial).more fun _ h=>.inl h⟩ (h1 mr)
 ·have ua:Lf.isEmpty=false:=by simp [Array.isEmpty,h0]
  obtain⟨j,w1,hj,hw1,hch⟩:∃(j:Nat)(w1:World),j<Lf.size/\(w1=w\/w1=w.drew)/\(choose (Question.mapNext Lf.size)).run P w=.ok j w1:=by
   by_cases hf:Lf.size<=1
   ·exact⟨0,w,by omega,.inl rfl,by simp[choose,Sem.run,Question.forced,hf]⟩
   ·exact⟨_,w.drew,Nat.mod_lt _ (by omega),.inr rfl,by
     simp only[choose,Sem.run,Question.forced,decide_eq_true_eq,hf,if_false,Question.cut];rfl⟩
  have fq:Lf[j]∈Lf:=by simp
  have hje:Lf[j]∈es:=by
   have:∀x,x∈Lf->x∈es:=fun x hx=>by rw[<- hLf]at hx;exact(Array.mem_filter.1 hx).1
   exact this _ fq
  obtain⟨i,ci,ux⟩:=Array.mem_iff_getElem.1 hje;have sc:i∈(List.range N).filter fun i=>!seen.contains i:=List.mem_filter.2 ⟨List.mem_range.2 (by rw[<- hes];exact ci),(zq i ci).1 (by rw[ux];exact fq)⟩
  have hborn:Lf[j].born=i:=by rw[<- ux];exact tb i ci
  have hk:=h2 i sc;split at hk
  case h_2=>cases hk
  rename_i y v zj;split at hk
  case isFalse=>cases hk
  rename_i bi;rw[y9]at bi;have hkv:Lf[j].key=y.bA/\Lf[j].val=v.bA:=by
   have:=congrArg (fun l=>l[i]?) pf;simp only[yb,zj,Array.getElem?_toList,yT ci,yp,Option.some.injEq,Ef]at this;rw[<- ux];exact⟨congrArg Prod.fst this,congrArg Prod.snd this⟩
  have ms:w1.heap=w.heap:=by rcases hw1 with rfl|rfl<;>rfl
  have hq1:w1.heap[q]?=some (.mapIter (some m) N seen.toArray N):=by rw[ms];exact ia
  have sv:(setObj q (.mapIter (some m) N (seen.toArray.push i) clock)).run P w1=.ok () { w1 with heap:=w1.heap.setIfInBounds q (.mapIter (some m) N (seen.toArray.push i) clock) }:=by
   simp[setObj,Sem.run,hq1]
  have ca:(execOp a.eval o).run P w=.ok (.value (.tuple #[.bool true,y.bA,v.bA])) { w1 with heap:=w1.heap.setIfInBounds q (.mapIter (some m) N (seen.toArray.push i) clock) }:=by
   simp only[execOp,ho,hv,Instr.next,Sem.run_bind,hgq,hgm,Result.andThen_ok,mw,yr,if_false,hLf,e1,e2,ua,Array.append_empty,Array.empty_append,Array.size_map,hch,Array.getElem?_map,yT hj,yp,hborn,sv,Sem.run_pure,hkv.1,hkv.2]
  rw[ca,Oper.upon_value];have R1:LD P O nt B F0 da w0 D s a w1 ι Θ:=R.grow (fun b _=>by rw[ms]) (by rw[ms];exact yg _) (by rcases hw1 with rfl|rfl;exact R.kept;exact R.kept.drew);have ai:O.at_ (U5 tm nm N (seen++[i])) H q { w1 with heap:=w1.heap.setIfInBounds q (.mapIter (some m) N (seen.toArray.push i) clock) }:=(O.pC _ _ _ _ (by rw[iY];rfl)).2 ⟨hH,by simp;rw[ms];exact fa⟩;have fe:cE H w1 { w1 with heap:=w1.heap.setIfInBounds q (.mapIter (some m) N (seen.toArray.push i) clock) }:=⟨rfl,rfl,rfl,by simp,fun j' _ hn=>by
   have:j'≠q:=fun e=>hn ((hH j').2 e)
   simp only[Array.getElem?_setIfInBounds];rw[if_neg fun e:q=j'=>this e.symm]⟩
  have htie':S6 ι (U5 tm nm N (seen++[i])) q { w1 with heap:=w1.heap.setIfInBounds q (.mapIter (some m) N (seen.toArray.push i) clock) }:=fun tm' nm' N' seen' e=>by
   rw[iY]at e;injection e with e;injection e with g1 e;injection e with g2 e;injection e with g3 g4;subst g1;subst g2;subst g3;subst g4;refine⟨m,Hm,hm,hobm,?_⟩;have ay:q<w1.heap.size:=by rw[ms];exact fa
   simp[ay,hc,hes]
  obtain⟨ι',R2,_⟩:=R1.DB hq eb ai htie' (fun b hb=>.inl hb) fe;refine hK _ _ _ ⟨ι',Θ,(R2.MA hd (x:=⟨.sA [.bool true,y,v],.no⟩) ?_ trivial).more fun _ h=>.inl h⟩ hk;exact⟨_,rfl,_,_,rfl,rfl,_,_,rfl,BI (TP bi.1),_,_,rfl,BI (TP bi.2),rfl⟩
structure K6 (P:Program)(nt:Nat)(ops:Array Oper)(o:Oper)(c:JC):Prop where
 dst:c.dst=o.dst
 op:(Ti c.op=false/\((∃cl mu b q,z7 P cl mu b q o.op=some c.op/\(mu≠none->o.dst≠none))\/∃cl hs L,eX P cl hs L o.op=some c.op))\/∃hs,I3 nt hs o.op=some c.op
 lt:∀d,o.dst=some d->d<nt
 guard:match o.guard with
  |none=>c.guard=none
  |some (g,want)=>∃t,(ops[g]?).bind (·.dst)=some t/\c.guard=some (t,want)
theorem rX {boxes:List Nat}{all:List Oper}{draw:Bool}:∀{ops:List Oper}{cs:List JC},aU P boxes nt all draw ops=some cs->cs.length=ops.length/\∀(i:Nat)(o:Oper),ops[i]?=some o->∃c,cs[i]?=some c/\K6 P nt all.toArray o c
 | [],cs,h=>by injection h with h;subst h;exact⟨rfl,fun i o ho=>by simp at ho⟩
 |o::r,cs,h=>by
  unfold aU at h;split at h
  ·rename_i k l hk hl;split at h
   ·rename_i fa;have ga:∀ d,o.dst=some d->d<nt:=fun d hd=>by rw [hd] at fa; simpa [dstOk] using fa
    obtain⟨h1,h2⟩:=rX hl;have fin:∀c,cs=c::l->K6 P nt all.toArray o c->cs.length=(o::r).length/\∀(i:Nat)(o':Oper),(o::r)[i]?=some o'->∃c,cs[i]?=some c/\K6 P nt all.toArray o' c:=fun c e hc=>by
     subst e;refine⟨by simp[h1],fun i o' ho=>?_⟩;cases i with
     |zero=>simp at ho;subst ho;exact⟨c,rfl,hc⟩
     |succ i=>simpa using h2 i o' (by simpa using ho)
    have rj:(match o.dst with|some d=>if boxes.contains (nt+1+(2*d+1))then some true else if boxes.contains (nt+1+2*d)then some false else none|none=>none)≠none->o.dst≠none:=fun h e=>by rw[e]at h;exact h rfl
    have fb:(Ti k=false/\((∃cl mu b q,z7 P cl mu b q o.op=some k/\(mu≠none->o.dst≠none))\/∃cl hs L,eX P cl hs L o.op=some k))\/∃hs,I3 nt hs o.op=some k:=by
     split at hk
     ·rename_i k' jc;injection hk with hk;exact .inr ⟨_,hk▸jc⟩
     ·split at hk
      ·rename_i k' jc;injection hk with hk;subst hk;exact .inl ⟨Oc jc,.inr ⟨_,_,_,jc⟩⟩
      ·obtain⟨h1,h2⟩:=Option.filter_eq_some_iff.1 hk;exact .inl ⟨by simpa using h2,.inl ⟨_,_,_,_,h1,rj⟩⟩
    cases hg:o.guard with
    |none =>
     simp only[hg]at h;injection h with h;exact fin _ h.symm ⟨rfl,fb,ga,by rw[hg]⟩
    |some p =>
     obtain⟨g,want⟩:=p;simp only[hg]at h;split at h
     ·rename_i t ht;injection h with h;exact fin _ h.symm ⟨rfl,fb,ga,by rw[hg];exact⟨t,by simpa using ht,rfl⟩⟩
     ·cases h
   ·cases h
  ·cases h
section
variable {D:Nat->Prop} (R:JF P O nt B F0 da w0 D s a w) (ma:∀ f args S r,call f args S=some r->gE P O f args S r)
include D R ma
theorem Rw {ops:Array Oper}{i:Nat}{o:Oper}{c:JC}(ho:ops[i]?=some o)(ok:K6 P nt ops o c)(hD:∀d,o.dst=some d->(n9 c.op||nV c.op)=true->¬D d)(fb:(∃cl mu b q,z7 P cl mu b q o.op=some c.op/\(mu≠none->o.dst≠none))\/∃cl hs L,eX P cl hs L o.op=some c.op)(hs:c.step call s=some s')
  {Kn:Act->World->Prop} (hK:∀a' w',JF P O nt B F0 da w0 (fun t=>D t\/o.dst=some t) s' a' w'->Kn a' w'):wpOp P ops Q i Kn a w:=by
 obtain⟨ι,Θ,R⟩:=R;obtain⟨cd,cop,cg⟩:=c;have ba:cd=o.dst:=ok.dst;subst ba;have main:cop.run call s≠none->(cop.run call s).bind (JC.eff ⟨o.dst,cop,cg⟩ s)=some s'->o.wp P a w Kn Q:=fun _ h=>by
  obtain⟨xe,hx,he⟩:=y5.1 h;rcases fb with⟨cl,mu,b,q,fb,rj⟩|⟨cl,hs0,L,fb⟩
  case inr=>exact op_own R ma fb ok.lt hD hx he hK
  unfold z7 at fb;split at fb
  ·rename_i k hk;injection fb with fb;subst fb;exact Sj R ma hk rj ok.lt hD hx he hK
  ·split at fb
   ·injection fb with fb;subst fb;cases hx
   ·cases fb
 have main':(cop.run call s).bind (JC.eff ⟨o.dst,cop,cg⟩ s)=some s'->o.wp P a w Kn Q:=fun h=>main (fun e=>by rw[e]at h;cases h) h
 unfold wpOp;simp only[ho];have tv:sD ι (uE da ι Θ) (zE ι Θ) w (.sA []) undef:=⟨#[],rfl,rfl⟩;have hg:=ok.guard;cases rq:o.guard with
 |none =>
  rw[rq]at hg;simp only at hg;subst hg;have:Region.wanted o (yielded ops a.tmps)=true:=by simp[Region.wanted,rq]
  rw[if_pos this];exact .inl (main' hs)
 |some p =>
  obtain⟨g,want⟩:=p;rw[rq]at hg;obtain⟨t,ht,hg⟩:=hg;simp only at hg;subst hg;unfold JC.step at hs;simp only at hs;split at hs
  ·rename_i b hb;have hr:=R.env t;rw[hb,ZD]at hr;have hy:yielded ops a.tmps g=some b:=by
    unfold yielded;rw[ht];simp only[J];rw[yP]at hr;cases hh:a.tmps[t]? with
    |none=>rw[hh]at hr;simp[undef]at hr
    |some v=>rw[hh]at hr;simp only[Option.getD_some]at hr;subst hr;rfl
   have hw:Region.wanted o (yielded ops a.tmps)=(b == want):=by
    simp only[Region.wanted,rq,hy];cases b<;>cases want<;>rfl
   rw[hw];split at hs
   ·rename_i e;subst e;rw[if_pos (by simp)];exact .inl (main' hs)
   ·rename_i e;injection hs with hs;subst hs;rw[if_neg (by simpa using e)];exact hK _ _ ⟨ι,Θ,(R.MA ok.lt (x:=⟨.sA [],.no⟩) tv trivial).more fun _ h=>.inl h⟩
  ·rename_i hb;have hr:=R.env t;rw[hb]at hr;obtain⟨us,hv,tc⟩:=hr;have hy:yielded ops a.tmps g=none:=by
    unfold yielded;rw[ht];simp only[J];rw[yP]at hv;cases hh:a.tmps[t]? with
    |none=>rfl
    |some v=>rw[hh]at hv;simp only[Option.getD_some]at hv;subst hv;rfl
   have hw:Region.wanted o (yielded ops a.tmps)=false:=by
    simp only[Region.wanted,rq,hy];cases want<;>rfl
   rw[hw];injection hs with hs;subst hs;rw[if_neg (by decide)];exact hK _ _ ⟨ι,Θ,(R.MA ok.lt (x:=⟨.sA [],.no⟩) tv trivial).more fun _ h=>.inl h⟩
  ·cases hs
theorem fX (dg:T1 P O lh.h){ops:Array Oper}{i:Nat}{o:Oper}{c:JC}(ho:ops[i]?=some o)(ok:K6 P nt ops o c)(hD:∀d,o.dst=some d->(n9 c.op||nV c.op)=true->¬D d){k:OC->Option RV}{r:RV}(hs:c.rA call lh s k=some r)
  {Kn:Act->World->Prop} (hK:∀s' a' w',JF P O nt B F0 da w0 (fun t=>D t\/o.dst=some t) s' a' w'->k s'=some r->Kn a' w'):wpOp P ops Q i Kn a w:=by
 rcases ok.op with⟨hH,fb⟩|⟨uj,fb⟩
 ·have hb:(c.step call s).bind k=some r:=by
   unfold JC.rA at hs;split at hs
   ·rename_i h;rw[h]at hH;cases hH
   ·rename_i h;rw[h]at hH;cases hH
   ·exact hs
  obtain⟨s1,h1,h2⟩:=y5.1 hb;exact Rw R ma ho ok hD fb h1 fun a' w' R'=>hK s1 a' w' R' h2
 ·obtain⟨cd,cop,cg⟩:=c;have ba:cd=o.dst:=ok.dst;subst ba;simp only at fb;obtain⟨ι,Θ,R⟩:=R;obtain⟨st,tb,main'⟩:∃st,JC.rA call lh ⟨o.dst,cop,cg⟩ s k=sO s o.dst cg st k/\(st=some r->o.wp P a w Kn Q):=by
   have li:=fb;unfold I3 at li;split at li
   ·split at li
    ·obtain⟨_,_,h⟩:=ye.1 li;subst h;exact⟨_,rfl,fun h=>Q8 R dg fb ok.lt h hK⟩
    ·cases li
   ·split at li
    ·obtain⟨_,_,h⟩:=ye.1 li;subst h;exact⟨_,rfl,fun h=>Q8 R dg fb ok.lt h hK⟩
    ·cases li
   ·rename_i X hox;obtain⟨x,hx,h⟩:=ye.1 li;subst h;exact⟨_,rfl,fun h=>op_nxt R hx hox ok.lt h hK⟩
   ·cases li
  rw[tb]at hs;unfold wpOp;simp only[ho];have tv:sD ι (uE da ι Θ) (zE ι Θ) w (.sA []) undef:=⟨#[],rfl,rfl⟩;have hg:=ok.guard;cases rq:o.guard with
  |none =>
   rw[rq]at hg;simp only at hg;subst hg;have:Region.wanted o (yielded ops a.tmps)=true:=by simp[Region.wanted,rq]
   rw[if_pos this];exact .inl (main' hs)
  |some p =>
   obtain⟨g,want⟩:=p;rw[rq]at hg;obtain⟨t,ht,hg⟩:=hg;simp only at hg;subst hg;unfold sO at hs;simp only at hs;split at hs
   ·rename_i b hb;have hr:=R.env t;rw[hb,ZD]at hr;have hy:yielded ops a.tmps g=some b:=by
     unfold yielded;rw[ht];simp only[J];rw[yP]at hr;cases hh:a.tmps[t]? with
     |none=>rw[hh]at hr;simp[undef]at hr
     |some v=>rw[hh]at hr;simp only[Option.getD_some]at hr;subst hr;rfl
    have hw:Region.wanted o (yielded ops a.tmps)=(b == want):=by
     simp only[Region.wanted,rq,hy];cases b<;>cases want<;>rfl
    rw[hw];split at hs
    ·rename_i e;subst e;rw[if_pos (by simp)];exact .inl (main' hs)
    ·rename_i e;rw[if_neg (by simpa using e)];exact hK _ _ _ ⟨ι,Θ,(R.MA ok.lt (x:=⟨.sA [],.no⟩) tv trivial).more fun _ h=>.inl h⟩ hs
   ·rename_i hb;have hr:=R.env t;rw[hb]at hr;obtain⟨us,hv,tc⟩:=hr;have hy:yielded ops a.tmps g=none:=by
     unfold yielded;rw[ht];simp only[J];rw[yP]at hv;cases hh:a.tmps[t]? with
     |none=>rfl
     |some v=>rw[hh]at hv;simp only[Option.getD_some]at hv;subst hv;rfl
    have hw:Region.wanted o (yielded ops a.tmps)=false:=by
     simp only[Region.wanted,rq,hy];cases want<;>rfl
    rw[hw];rw[if_neg (by decide)];exact hK _ _ _ ⟨ι,Θ,(R.MA ok.lt (x:=⟨.sA [],.no⟩) tv trivial).more fun _ h=>.inl h⟩ hs
   ·cases hs
end
theorem JF.next {D:Nat->Prop}(R:JF P O nt B F0 da w0 D s a w):JF P O nt B F0 da w0 (fun _=>False) { s with next:=s.next+1 } a w:=by
 obtain⟨ι,Θ,R⟩:=R;exact⟨ι,Θ,R.defers,R.size,R.env,R.ZB,R.rows,fun t n b h=>let⟨h1,h2,h3⟩:=R.mine t n b h;⟨h1,h2,.inl (by rcases h3 with h|h<;>simp only<;>omega)⟩,R.inj,R.tok,R.OA,R.apart,R.out,R.pin,R.kept,R.base,R.WA,fun t n H h=>let⟨h1,h2⟩:=R.obs t n H h;⟨h1,.inl (by rcases h2 with h|h<;>simp only<;>omega)⟩,R.gen,R.CA⟩
theorem FY {cs:List JC}(h:xU cs=true){i j:Nat}{x y:JC}(hx:cs[i]?=some x)(hy:cs[j]?=some y)(ua:i≠j)(hA:(n9 y.op||nV y.op)=true)(tk:y.dst.isSome=true):x.dst≠y.dst:=by
 have hj:=(yn.1 hy).1;have hi:=(yn.1 hx).1;have h1:=y6.1 h j (List.mem_range.2 hj);rw[hy]at h1;simp only[hA,tk,Bool.true_and,Bool.not_true,Bool.false_or]at h1;have h2:=y6.1 h1 i (List.mem_range.2 hi);rw[hx]at h2;simp only[Bool.or_eq_true]at h2;rcases h2 with h2|h2
 ·exact absurd (by simpa using h2) ua
 ·simpa using h2
theorem t4 {ops:Array Oper}{cs:List JC}(ma:∀f args S r,call f args S=some r->gE P O f args S r)(dg:T1 P O lh.h)(la:∀(i:Nat) (o:Oper),ops[i]?=some o->∃c,cs[i]?=some c/\K6 P nt ops o c)(ja:cs.length=ops.size)(hf:xU cs=true){k:OC->Option RV}{r:RV}:
  ∀(n i:Nat)(s:OC)(a:Act)(w:World),i+n=ops.size->JF P O nt B F0 da w0 (fun t=>∃j c,j<i/\cs[j]?=some c/\c.dst=some t) s a w->lJ call lh (cs.drop i) s k=some r →
   (∀s' a' w',JF P O nt B F0 da w0 (fun _=>True) s' a' w'->k s'=some r->Q .normal a' w')->wpOps P ops Q (List.range' i n) a w
 |0,i,s,a,w,hi,R,hr,hQ=>by
  have:cs.drop i=[]:=yf (by omega);rw[this]at hr;obtain⟨ι,Θ,R⟩:=R;exact hQ s a w ⟨ι,Θ,R.more fun _ _=>trivial⟩ hr
 |n+1,i,s,a,w,hi,R,hr,hQ=>by
  have fa:i<ops.size:=by omega
  obtain⟨c,hc,ok⟩:=la i ops[i] (yT fa);have ed:i<cs.length:=by omega
  have hci:cs[i]=c:=(yn.1 hc).2;rw[yc ed,hci]at hr;unfold lJ at hr;rw[List.range'_succ,wpOps_cons];refine fX R ma dg (yT fa) ok (fun d hd hA ⟨j,c',hj,ze,ll⟩=>?_) hr fun s' a' w' R' hk=>?_
  ·exact FY hf ze hc (by omega) hA (by rw[ok.dst,hd];rfl) (by rw[ll,ok.dst,hd])
  ·refine t4 ma dg la ja hf n (i + 1) s' a' w' (by omega) ?_ hk hQ;obtain ⟨ι,Θ,R'⟩:=R';refine ⟨ι,Θ,R'.more fun t ht=>?_⟩;rcases ht with ⟨j,c',hj,ze,ll⟩ | ht
   ·exact⟨j,c',by omega,ze,ll⟩
   ·exact⟨i,c,by omega,hc,by rw[ok.dst,ht]⟩
end
end
section
open Go Go.RowKit
section
variable {P:Program} {O:XI} {nt B:Nat} {F0:FQ} {da:Av} {w0:World} {s s':OC} {a:Act} {w w':World} {call:DD} {lh:LH} {Q:Exit->Act->World->Prop}
noncomputable def fM (call:DD)(lh:LH)(cs:List JC):List Nat->OC->(OC->Option RV)->Option RV
 | [],s,k=>k s
 |i::r,s,k=>match cs[i]? with
  |some c=>c.rA call lh s fun s=>fM call lh cs r s k
  |none=>none
theorem H0 (cs:List JC)(k:OC->Option RV):∀(n i:Nat)(s:OC),i+n=cs.length->lJ call lh (cs.drop i) s k=fM call lh cs (List.range' i n) s k
 |0,i,s,h=>by rw[yf (by omega)];rfl
 |n+1,i,s,h=>by
  have fa:i<cs.length:=by omega
  rw[yc fa,List.range'_succ];unfold lJ fM;rw[y7 fa];simp only;congr 1;funext s1;exact H0 cs k n (i+1) s1 (by omega)
theorem GK {c:JC}(h:Ti c.op=false)(s:OC)(k:OC->Option RV):c.rA call lh s k=(c.step call s).bind k:=by
 unfold JC.rA;split
 ·rename_i e;rw[e]at h;cases h
 ·rename_i e;rw[e]at h;cases h
 ·rfl
theorem isM_H {k:K}(h:Wh k=false):Ti k=false:=by
 cases k<;>first|rfl|cases h
theorem Gq {x y:JC}(h:jQ x y=true):Ti x.op=false/\Ti y.op=false:=by
 have hN:∀{k:K},Eh k=true->Ti k=false:=fun{k} h=>by cases k<;>first|rfl|cases h
 have hV:∀{o:JC},Ui o=true->Ti o.op=false:=fun h=>by obtain⟨d,z,rfl⟩:=Dr h;rfl
 unfold jQ at h;simp only[Bool.or_eq_true,y9]at h;rcases h with h|((⟨h,h'⟩|⟨h,h'⟩)|⟨h,h'⟩)|⟨h,h'⟩
 ·unfold cK at h;simp only[y9]at h;exact⟨isM_H (by simpa using h.1.1.1.1.1.1.1),isM_H (by simpa using h.1.1.1.1.1.1.2)⟩
 ·exact⟨hV h,hN h'⟩
 ·exact⟨hN h',hV h⟩
 ·refine ⟨?_,hN h'⟩;unfold Qh at h;split at h
  ·rename_i e _ _;rw[e];rfl
  ·cases h
 ·refine ⟨hN h,?_⟩;unfold Rh at h';split at h'
  ·rename_i e _;rw[e];rfl
  ·rename_i e _;rw[e];rfl
  ·cases h'
theorem Ce {cs:List JC}{i:Nat}{c:JC}(hc:cs[i]?=some c)(hH:Ti c.op=false){L2:List Nat}{k:OC->Option RV}{r:RV}:∀{L1:List Nat}{s:OC},(∀r∈L1,∃cr,cs[r]?=some cr/\UH cr c=true/\jQ cr c=true)->fM call lh cs (L1++i::L2) s k=some r →
  ∃s1,c.step call s=some s1/\fM call lh cs (L1++L2) s1 k=some r
 | [],s,_,h=>by
  simp only[yF,fM,hc,GK hH]at h;obtain⟨s1,h1,h2⟩:=y5.1 h;exact⟨s1,h1,h2⟩
 |q::L1,s,hL,h=>by
  obtain⟨cr,hr,ha,ho⟩:=hL q (yl);simp only[yv,fM,hr,GK (Gq ho).1]at h;obtain⟨s1,h1,h2⟩:=y5.1 h;obtain⟨s2,h3,h4⟩:=Ce hc hH (fun q hq=>hL q (ym _ hq)) h2;obtain⟨eh,h5,h6⟩:=Ic ha ho h1 h3;refine⟨eh,h5,?_⟩;simp only[yv,fM,hr,GK (Gq ho).1,h6,J];exact h4
theorem bubble {cs:List JC}{i:Nat}{c:JC}(hc:cs[i]?=some c){L2:List Nat}{k:OC->Option RV}{r:RV}{L1:List Nat}{s:OC}(hL:∀r∈L1,∃cr,cs[r]?=some cr/\UH cr c=true/\jQ cr c=true)(h:fM call lh cs (L1++i::L2) s k=some r):
  c.rA call lh s (fun s1=>fM call lh cs (L1++L2) s1 k)=some r:=by
 cases L1 with
 |nil=>simpa only[yF,fM,hc]using h
 |cons q L1 =>
  obtain⟨cr,hr,ha,ho⟩:=hL q (yl);have hH:=(Gq ho).2;obtain⟨s1,h1,h2⟩:=Ce hc hH hL h;rw[GK hH,h1,J];exact h2
theorem r4 {o:Oper}{e:Nat}:e∈QM o ↔ ∃d∈o.after,Region.binds .any d=true/\d.on=e:=by
 unfold QM;rw[List.mem_filterMap];constructor
 ·rintro ⟨d,hd,h⟩;split at h
  ·rename_i hb;injection h with h;exact⟨d,by simpa using hd,hb,h⟩
  ·cases h
 ·rintro⟨d,hd,hb,rfl⟩;exact⟨d,by simpa using hd,by rw[if_pos hb]⟩
theorem Xe {ops:List Oper}{bf:List Nat}(h:Mx ops bf=true){i:Nat}{o:Oper}(ho:ops[i]?=some o):(∀e∈QM o,e<i)/\∀r,r<i->(bf.getD i 0).testBit r=true->∃e∈QM o,e=r\/(r<e/\(bf.getD e 0).testBit r=true):=by
 have hi:=(yn.1 ho).1;have h1:=y6.1 h i (List.mem_range.2 hi);rw[ho]at h1;simp only[y9]at h1;refine⟨fun e he=>by simpa using y6.1 h1.1 e he,fun r hr hb=>?_⟩;have h2:=y6.1 h1.2 r (List.mem_range.2 hr);simp only[hb,Bool.not_true,Bool.false_or,List.any_eq_true,Bool.or_eq_true,beq_iff_eq,y9,decide_eq_true_eq]at h2;exact h2
theorem z3 {ops:List Oper}{bf:List Nat}(h:Mx ops bf=true){L:List Nat}(ed:∀(j:Nat) (o:Oper),ops[j]?=some o->j ∉ L->∀e∈QM o,e ∉ L):∀(n i:Nat)(o:Oper),i<n->ops[i]?=some o->(∀e∈QM o,e ∉ L)->∀r,r<i->(bf.getD i 0).testBit r=true->r ∉ L
 |0,i,o,hn,_,_,_,_,_=>by omega
 |n+1,i,o,hn,ho,hed,r,hr,hb=>by
  obtain⟨h1,h2⟩:=Xe h ho;obtain⟨e,he,hor⟩:=h2 r hr hb;rcases hor with rfl|⟨am,hbe⟩
  ·exact hed _ he
  ·have hei:=h1 e he;have fa:i<ops.length:=(yn.1 ho).1;have kz:ops[e]?=some ops[e]:=y7 (by omega);exact z3 h ed n e _ (by omega) kz (ed e _ kz (hed e he)) r am hbe
theorem Iu {ops:List Oper}{cs:List JC}(h:PV ops cs=true){i j:Nat}(hj:j<ops.length)(hij:i<j)(hb:((gS ops).getD j 0).testBit i=false):∃x y,cs[i]?=some x/\cs[j]?=some y/\UH x y=true/\jQ x y=true:=by
 unfold PV at h;simp only[y9]at h;have h1:=y6.1 h.2 j (List.mem_range.2 hj);have h2:=y6.1 h1 i (List.mem_range.2 hij);rw[hb,Bool.false_or]at h2;split at h2
 ·rename_i x y hx hy;simp only[y9]at h2;exact⟨x,y,hx,hy,h2.1,h2.2⟩
 ·cases h2
theorem i3 {ops:Array Oper}{cs:List JC}(ma:∀f args S r,call f args S=some r->gE P O f args S r)(dg:T1 P O lh.h)(la:∀(i:Nat) (o:Oper),ops[i]?=some o->∃c,cs[i]?=some c/\K6 P nt ops o c)(ja:cs.length=ops.size)(hf:xU cs=true)(iw:PV ops.toList cs=true){k:OC->Option RV}{r:RV}
  (hQ:∀s' a' w',JF P O nt B F0 da w0 (fun _=>True) s' a' w'->k s'=some r->Q .normal a' w') :
  ∀(fuel:Nat)(L:List Nat)(listed:Array Bool)(s:OC)(a:Act)(w:World),L.length=fuel->(∀i,i<ops.size->(listed.getD i true=false↔i∈L))->listed.size=ops.size->L.Pairwise (·<·)->(∀i∈L,i<ops.size) →
   (∀(j:Nat)(o:Oper),ops.toList[j]?=some o->j ∉ L->∀e∈QM o,e ∉ L)->JF P O nt B F0 da w0 (fun t=>∃j c,j ∉ L/\cs[j]?=some c/\c.dst=some t) s a w->fM call lh cs L s k=some r->wpAny P .any ops Q fuel listed a w
 |0,L,listed,s,a,w,hl,hlist,ra,_,_,_,R,hr=>by
  have:L=[]:=yJ hl;subst this;refine⟨?_,?_⟩
  ·refine List.eq_nil_iff_forall_not_mem.2 fun i hi=>?_
   obtain⟨tv,o,ho,_⟩:=mem_ready.1 hi;have sc:=(Array.getElem?_eq_some_iff.1 ho).1;have:=(hlist i sc).1 tv;cases this
  ·obtain⟨ι,Θ,R⟩:=R;exact hQ s a w ⟨ι,Θ,R.more fun _ _=>trivial⟩ hr
 |fuel+1,L,listed,s,a,w,hl,hlist,ra,hsort,wm,ed,R,hr=>by
  have hbf:Mx ops.toList (gS ops.toList)=true:=by
   unfold PV at iw;simp only[y9]at iw;exact iw.1
  refine⟨fun mr=>?_,fun i hi=>?_⟩
  ·exfalso;cases L with
   |nil=>simp at hl
   |cons i0 L0 =>
    have so:=wm i0 (yl);have ho:ops.toList[i0]?=some ops[i0]:=by simp[so]
    have gc:i0∈Region.ready .any ops listed:=by
     refine mem_ready.2 ⟨(hlist i0 so).2 (yl),ops[i0],yT so,fun e he hb=>?_⟩;have fa:=(Xe hbf ho).1 e.on (r4.2 ⟨e,he,hb,rfl⟩);have hnot:e.on ∉ i0::L0:=fun hm=>by
      rcases yh.1 hm with h|h
      ·omega
      ·have:=(List.pairwise_cons.1 hsort).1 _ h;omega
     have h1:listed.getD e.on true≠false:=fun h=>hnot ((hlist e.on (by omega)).1 h)
     have hs:e.on<listed.size:=by omega
     simp only[yP,yT hs,Option.getD_some]at h1 ⊢;simpa using h1
    rw[mr]at gc;cases gc
  ·obtain ⟨tv,o,ho,hed⟩:=mem_ready.1 hi;have sc:=(Array.getElem?_eq_some_iff.1 ho).1;have hiL:=(hlist i sc).1 tv;have hol:ops.toList[i]?=some o:=by simpa using ho
   have hedL:∀e∈QM o,e ∉ L:=fun e he=>by
    obtain⟨d,hd,hb,rfl⟩:=r4.1 he;have h1:=hed d hd hb;intro hm;have fa:=wm _ hm;have h2:=(hlist _ fa).2 hm;have hs:d.on<listed.size:=by omega
    simp only[yP,yT hs,Option.getD_some]at h1 h2;rw[h1]at h2;cases h2
   obtain⟨L1,L2,rfl⟩:=List.append_of_mem hiL;obtain⟨c,hc,ok⟩:=la i o ho;have ig:=List.pairwise_append.1 hsort;have xp:∀r∈L1,∃cr,cs[r]?=some cr/\UH cr c=true/\jQ cr c=true:=fun r hr=>by
    have hri:r<i:=ig.2.2 r hr i (yl);have hbit:((gS ops.toList).getD i 0).testBit r=false:=by
     cases hb:((gS ops.toList).getD i 0).testBit r with
     |false=>rfl
     |true=>exact absurd (List.mem_append_left _ hr) (z3 hbf ed (i+1) i o (by omega) hol hedL r hri hb)
    obtain⟨x,y,hx,hy,h1,h2⟩:=Iu iw (by simpa using sc) hri hbit;rw[hc]at hy;injection hy with hy;subst hy;exact⟨x,hx,h1,h2⟩
   have h1:=bubble hc xp hr;have hnd:i ∉ L1++L2:=fun hm=>by
    rcases yD.1 hm with h|h
    ·have:=ig.2.2 i h i (yl);omega
    ·have:=(List.pairwise_cons.1 ig.2.1).1 i h;omega
   have nc:∀j,j ∉ L1++i::L2↔(j ∉ L1++L2/\j≠i):=fun j=>by
    simp only[yD,yh,not_or];exact⟨fun⟨h1,h2,h3⟩=>⟨⟨h1,h3⟩,h2⟩,fun⟨⟨h1,h3⟩,h2⟩=>⟨h1,h2,h3⟩⟩
   refine fX R ma dg ho ok (fun d hd hA ⟨j,c',hj,ze,ll⟩=>?_) h1 fun s1 a' w' R' h2=>?_
   ·have:j≠i:=((nc j).1 hj).2;exact FY hf ze hc this hA (by rw[ok.dst,hd];rfl) (by rw[ll,ok.dst,hd])
   ·refine i3 ma dg la ja hf iw hQ fuel (L1++L2) (listed.setIfInBounds i true) s1 a' w' (by simp at hl ⊢; omega) (fun j hj=>?_) (by simpa using ra) ?_ (fun j hj=>wm j ?_) (fun j o' ho' hj e he hm=>?_) ?_ h2
    ·have hjs:j<listed.size:=by omega
     by_cases e:i=j
     ·subst e;simp only[yP,Array.getElem?_setIfInBounds,if_true,hjs,Option.getD_some];exact⟨fun h=>by simp at h,fun h=>absurd h hnd⟩
     ·simp only[yP,Array.getElem?_setIfInBounds,if_neg e];have:=hlist j hj;simp only[yP]at this;rw[this];simp only[yD,yh];exact⟨fun h=>by rcases h with h|h|h;exact .inl h;exact absurd h.symm e;exact .inr h,fun h=>by rcases h with h|h;exact .inl h;exact .inr (.inr h)⟩
    ·exact List.pairwise_append.2 ⟨ig.1,(List.pairwise_cons.1 ig.2.1).2,fun x hx y hy=>ig.2.2 x hx y (ym _ hy)⟩
    ·rcases yD.1 hj with h | h
     ·exact List.mem_append_left _ h
     ·exact List.mem_append_right _ (ym _ h)
    ·have jb:e∈L1++i::L2:=by
      rcases yD.1 hm with h|h
      ·exact List.mem_append_left _ h
      ·exact List.mem_append_right _ (ym _ h)
     by_cases e':j=i
     ·subst e';rw[hol]at ho';injection ho' with ho';subst ho';exact hedL e he jb
     ·exact ed j o' ho' ((nc j).2 ⟨hj,e'⟩) e he jb
    ·obtain ⟨ι,Θ,R'⟩:=R';refine ⟨ι,Θ,R'.more fun t ht=>?_⟩;rcases ht with ⟨j,c',hj,ze,ll⟩ | ht
     ·exact⟨j,c',((nc j).1 hj).1,ze,ll⟩
     ·exact⟨i,c,hnd,hc,by rw[ok.dst,ht]⟩
theorem p6 (hm:P.follows .mixedOrders=true)(ma:∀f args S r,call f args S=some r->gE P O f args S r)(dg:T1 P O lh.h){boxes:List Nat}{id:Nat}{ops:Array Oper}{draw:Bool}{cs:List JC}(hc:aU P boxes nt ops.toList draw ops.toList=some cs)(hf:xU cs=true)(hd:draw=true->PV ops.toList cs=true)
  (R:JF P O nt B F0 da w0 (fun _=>False) s a w) {k:OC->Option RV} {r:RV} (hr:lJ call lh cs s k=some r) (hQ:∀s' a' w',JF P O nt B F0 da w0 (fun _=>False) { s' with next:=s'.next+1 } a' w'->k s'=some r->Q .normal a' w'):(Code.region id ops draw).wp P Q a w:=by
 obtain⟨ja,su⟩:=rX hc;have gr:cs.length=ops.size:=by simpa using ja
 have la:∀(i:Nat)(o:Oper),ops[i]?=some o->∃c,cs[i]?=some c/\K6 P nt ops o c:=fun i o ho=>by
  have:=su i o (by simpa using ho);rw[yK]at this;exact this
 have hQ':∀s' a' w',JF P O nt B F0 da w0 (fun _=>True) s' a' w'->k s'=some r->Q .normal a' w':=fun s' a' w' h hk=>hQ s' a' w' h.next hk
 cases draw with
 |false =>
  refine wp_region ?_;rw[List.range_eq_range'];refine t4 ma dg la gr hf ops.size 0 s a w (by omega) ?_ (by simpa using hr) hQ';obtain⟨ι,Θ,R⟩:=R;exact⟨ι,Θ,R.more fun _ h=>h.elim⟩
 |true =>
  refine wp_region_any hm ?_;have ca:fM call lh cs (List.range' 0 ops.size) s k=some r:=by
   rw[<- gr,<- H0 cs k cs.length 0 s (by omega)];simpa using hr
  refine i3 ma dg la gr hf (hd rfl) hQ' ops.size (List.range' 0 ops.size) _ s a _ (by simp) (fun i hi=>?_) (by simp) List.pairwise_lt_range' (fun i hi=>?_) (fun j o ho hj=>?_) ?_ ca
  ·simp[hi]
  ·simpa using hi
  ·have:=(yn.1 ho).1;exact absurd (by simpa using this) (by simpa using hj)
  ·obtain⟨ι,Θ,R⟩:=R;exact⟨ι,Θ,(R.grow (w':=w.drew) (fun _ _=>rfl) (yg _) R.kept.drew).more fun _ h=>h.elim⟩
end
end
end Go.Proofs.YthnefkpplcmjdaaGreat
