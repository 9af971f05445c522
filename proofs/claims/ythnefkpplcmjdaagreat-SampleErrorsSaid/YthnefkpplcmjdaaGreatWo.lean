/- A part of the proof. -/
import Derived.Test.YthnefkpplcmjdaaGreatWm
import Derived.Test.YthnefkpplcmjdaaGreatWn
set_option linter.all false
set_option maxRecDepth 100000
set_option maxHeartbeats 8000000
open Option renaming bind_some → J
open List renaming range_succ → y0, map_map → y3, getElem?_eq_getElem → y7, getElem_mem → y8, getElem?_map → yb, drop_eq_getElem_cons → yc, mem_cons → yh, map_cons → yk, mem_cons_self → yl, mem_cons_of_mem → ym, length_map → yo, map_nil → yq, cons_append → yv, take_append_getElem → yx, take_of_length_le → yB, mem_append → yD, nil_append → yF, getElem_of_mem → yO, mem_of_getElem? → yQ, take_append_drop → yR
open Int renaming toNat_lt → y4
open Bool renaming and_eq_true → y9
open Nat renaming le_refl → yg, le_trans → yt
namespace Go.Proofs.YthnefkpplcmjdaaGreat
open Go
abbrev En:=Int×ByteArray
def fU (e:En):List AV:=[.int .i64 e.1,.str e.2]
theorem dU (l:List En):PD 2 (l.map fU)=true:=rG _ _ _ fun _=>rfl
theorem Hg (l:List En):WM (l.map fU)=true:=qP _ _ fun _=>rfl
def upE:List En->Bool
 |a::b::r=>decide (a.1<b.1)&&upE (b::r)
 |_=>true
theorem Wy:∀{l:List En},upE l=true->∀{i:Nat}{a b:En},l[i]?=some a->l[i+1]?=some b->a.1<b.1
 | [],_,i,a,b,h,_=>by simp at h
 | [_],_,i,a,b,_,h=>by simp at h
 |x::y::r,h,i,a,b,h1,h2=>by
  simp only[upE,y9,decide_eq_true_eq]at h
  match i with
  |0 =>
   simp at h1 h2;subst h1;subst h2;exact h.1
  |i+1=>exact Wy h.2 (i:=i) (by simpa using h1) (by simpa using h2)
def Aw (l:List En)(v:AV)(mem:Nat->Nat->Option (List WC)):Prop:=(∃q N,v=.ref q N 2 0 l.length l.length/\q≠0/\mem q N=some (HC (l.map fU)))\/(l=[]/\v=.sl true [])
theorem JW (n:Nat)(e g:Nat->WC):Wk n (Py n e g)=g:=by
 funext t;rw[U0,aS,if_neg (by omega)];congr 1;omega
theorem CN {T:Nat->Option jD}{ext:DD}{b:C}{k:Ex->OC->Option RV}{j:Nat}{s:OC}:XN (OL T ext) b k (.exit j) s=k (.exit j) s:=(rfl)
theorem Rf (a b:Int)(p q:ByteArray):IC 191 [.agg [.int .i64 a,.str p],.agg [.int .i64 b,.str q]] (.int .i64 (iQ a b)):=by
 have h:=j5 a b;simp only[IC]at h;refine mC (c:=ZF) rfl rfl ?_;simp[ZF,-J,-y4,-y3,y0,h]
section
variable {rv:RV} (l:List En) (hl:l.length<=12) (hu:upE l=true) (x:AV) (s0:OC) (hx:Aw l x s0.mem)
include rv l hl hu x s0 hx
theorem ins_ev {a1 a2 a3 a4:An}(k:WC->OC->Option RV)
  (hk:∀s',s'.mem=s0.mem->s'.obj=s0.obj->s'.gh=s0.gh->k ⟨.sA [],.no⟩ s'=some rv) :
  Gu dD PC 254 [⟨x,a1⟩,⟨.int .i64 0,a2⟩,⟨.int .i64 l.length,a3⟩,⟨.fn 191 [],a4⟩] s0 k=some rv:=by
 refine rM ED rfl rfl ?_;simp[ED,-J,-y4,-y3,y0];refine ZC 12 (fun i s=>(s.env 0).v=x/\(s.env 1).v=.int .i64 0/\(s.env 2).v=.int .i64 l.length/\(s.env 3).v=.fn 191 []/\(s.env 8).v=.int .i64 ((i+1:Nat):Int)/\s.mem=s0.mem/\s.obj=s0.obj/\s.gh=s0.gh)
  (fun e s=>e=.exit 0/\s.mem=s0.mem/\s.obj=s0.obj/\s.gh=s0.gh) (fun i hi s kk h ih wb=>?_) _ _ ?_ (fun e s h=>?_)
 ·obtain ⟨e0,e1,e2,e3,e8,hm,ho,hg⟩:=h;refine EC ?_;obtain ⟨z,hz⟩:∃ z:Int,z=((i + 1:Nat):Int):=⟨_,rfl⟩;rw [<- hz] at e8;by_cases fa:i + 1<l.length
  ·have xv:z<l.length:=by omega
   have jg:0<=z:=by omega
   have hzp:0<z:=by omega
   rcases hx with⟨q,N,rfl,hq,mq⟩|⟨rfl,_⟩
   case inr=>simp at fa
   obtain⟨y,hy⟩:∃y:Int,y=(i:Int):=⟨_,rfl⟩;have tp:IntKind.i64.wrap (z-1)=y:=by rw[IntWalk.i64_in _ (by omega)];omega
   have zk:IntKind.i64.wrap (z+1)=((i+1+1:Nat):Int):=by rw[IntWalk.i64_in _ (by omega)];omega
   have tg:0<=y:=by omega
   have hyt:y.toNat<l.length:=by omega
   have hztl:z.toNat<l.length:=by omega
   have p1:l[i]?=some l[i]:=y7 (by omega);have p2:l[i+1]?=some l[i+1]:=y7 fa;have zf:=Wy hu p1 p2;generalize l[i]=a at *
   generalize l[i+1]=b at *
   have g1:(l.map fU)[y.toNat]?=some [.int .i64 a.1,.str a.2]:=by rw[show y.toNat=i from by omega];simp[p1,fU]
   have g2:(l.map fU)[z.toNat]?=some [.int .i64 b.1,.str b.2]:=by rw[show z.toNat=i+1 from by omega];simp[p2,fU]
   have ld1:=dM (dU l) g1;have ld2:=dM (dU l) g2;have ed:=Rf b.1 a.1 b.2 a.2;have zp:iQ b.1 a.1=1:=by
    unfold iQ;rw[if_neg (by omega),if_pos zf]
   rw[zp]at ed;simp only[IC]at ed;simp[ND,-J,-y4,-y3,y0,-kD,-MC,zD,xD,wD,eD,e2,e8,xv];refine EC ?_;simp[fF,-J,-y4,-y3,y0,-kD,-MC,zD,xD,wD,eD,e0,e1,e3,hm,mq,hzp,jg,tg,tp,hyt,hztl,ld1,ld2,ed];simp[-J,-y4,-y3,y0,CN,e8,zk];refine ih (by omega) _ ⟨?_,?_,?_,?_,?_,?_,?_,?_⟩
   ·simp[e0]
   ·simp[e1]
   ·simp[e2]
   ·simp[e3]
   ·simp[e8,zk]
   ·simp[hm]
   ·simp[ho]
   ·simp[hg]
  ·have xv:¬ z<l.length:=by omega
   simp[ND,-J,-y4,-y3,y0,e2,e8,xv];exact wb _ _ ⟨rfl,hm,ho,hg⟩
 ·refine ⟨?_,?_,?_,?_,?_,?_,?_,?_⟩ <;> simp
  rfl
 ·obtain⟨rfl,hm,ho,hg⟩:=h;simp[-J,-y4,-y3,y0,pO,lO,jN];exact hk _ hm ho hg
theorem Xj {lim:Int}{a1 a2 a3 a4 a5:An}(k:WC->OC->Option RV)
  (hk:∀s',s'.mem=s0.mem->s'.obj=s0.obj->s'.gh=s0.gh->k ⟨.sA [],.no⟩ s'=some rv) :
  Gu dD PC 237 [⟨x,a1⟩,⟨.int .i64 0,a2⟩,⟨.int .i64 l.length,a3⟩,⟨.int .i64 lim,a4⟩,⟨.fn 191 [],a5⟩] s0 k=some rv:=by
 refine rM qE rfl rfl ?_;have hw:IntKind.i64.wrap (l.length:Int)=l.length:=IntWalk.i64_in _ (by omega);have ck:(l.length:Int)<=12:=by omega
 simp[qE,-J,-y4,-y3,y0];refine EC ?_;simp[iG,-J,-y4,-y3,y0,hw,ck];refine ins_ev l hl hu x _ (by simpa using hx) _ (fun s' hm ho hg=>?_);dsimp only at hm ho hg;simp[-J,-y4,-y3,y0,hg,pO,lO,jN];refine hk _ ?_ ?_ ?_
 ·simp[hm]
 ·simp[ho]
 ·simp[JW]
end
theorem P9 (n:Nat)(h:n<=12):∃lim:Int,IC 80 [.int .u64 n] (.int .i64 lim):=by
 have:n=0\/n=1\/n=2\/n=3\/n=4\/n=5\/n=6\/n=7\/n=8\/n=9\/n=10\/n=11\/n=12:=by omega
 rcases this with rfl|rfl|rfl|rfl|rfl|rfl|rfl|rfl|rfl|rfl|rfl|rfl|rfl
 ·exact⟨0,(OD.nil (T:=dD) (ext:=PC)).run 10 (by kernel_rfl)⟩
 ·exact⟨1,(OD.nil (T:=dD) (ext:=PC)).run 10 (by kernel_rfl)⟩
 ·exact⟨2,(OD.nil (T:=dD) (ext:=PC)).run 10 (by kernel_rfl)⟩
 ·exact⟨2,(OD.nil (T:=dD) (ext:=PC)).run 10 (by kernel_rfl)⟩
 ·exact⟨3,(OD.nil (T:=dD) (ext:=PC)).run 10 (by kernel_rfl)⟩
 ·exact⟨3,(OD.nil (T:=dD) (ext:=PC)).run 10 (by kernel_rfl)⟩
 ·exact⟨3,(OD.nil (T:=dD) (ext:=PC)).run 10 (by kernel_rfl)⟩
 ·exact⟨3,(OD.nil (T:=dD) (ext:=PC)).run 10 (by kernel_rfl)⟩
 ·exact⟨4,(OD.nil (T:=dD) (ext:=PC)).run 10 (by kernel_rfl)⟩
 ·exact⟨4,(OD.nil (T:=dD) (ext:=PC)).run 10 (by kernel_rfl)⟩
 ·exact⟨4,(OD.nil (T:=dD) (ext:=PC)).run 10 (by kernel_rfl)⟩
 ·exact⟨4,(OD.nil (T:=dD) (ext:=PC)).run 10 (by kernel_rfl)⟩
 ·exact⟨4,(OD.nil (T:=dD) (ext:=PC)).run 10 (by kernel_rfl)⟩
theorem Fm {rv:RV}(l:List En)(hl:l.length<=12)(hu:upE l=true)(x:AV)(s0:OC)(hx:Aw l x s0.mem){a1 a2:An}(k:WC->OC->Option RV)
  (hk:∀s',s'.mem=s0.mem->s'.obj=s0.obj->s'.gh=s0.gh->k ⟨.sA [],.no⟩ s'=some rv) :
  Gu dD PC 190 [⟨x,a1⟩,⟨.fn 191 [],a2⟩] s0 k=some rv:=by
 refine rM eE rfl rfl ?_;obtain⟨lim,zu⟩:=P9 l.length (by omega);have hw:IntKind.u64.wrap (l.length:Int)=l.length:=uG _ (by omega);simp only[IC]at zu;have ja:x=.sl true []/\l=[]\/∃q N,x=.ref q N 2 0 l.length l.length:=by
  rcases hx with⟨q,N,rfl,_,_⟩|⟨h1,h2⟩
  ·exact .inr ⟨q,N,rfl⟩
  ·exact .inl ⟨h2,h1⟩
 rcases ja with⟨rfl,rfl⟩|⟨q,N,rfl⟩
 ·simp at hw zu;simp [eE,-J,-y4,-y3,y0,hw,zu];refine Xj [] (by simp) rfl (.sl true []) _ (.inr ⟨rfl,rfl⟩) _ (fun s' hm ho hg=>?_);dsimp only at hm ho hg;simp [-J,-y4,-y3,y0,hg,pO,lO,jN];refine hk _ ?_ ?_ ?_
  ·simp[hm]
  ·simp[ho]
  ·simp[JW]
 ·simp [eE,-J,-y4,-y3,y0,hw,zu];refine Xj l hl hu _ _ (by simpa using hx) _ (fun s' hm ho hg=>?_);dsimp only at hm ho hg;simp [-J,-y4,-y3,y0,hg,pO,lO,jN];refine hk _ ?_ ?_ ?_
  ·simp[hm]
  ·simp[ho]
  ·simp[JW]
section
def mV (sn:Bool)(S:List BC)(dp:Int):List AV:=[.sl sn (S.map QC),.int .i64 dp]
def HK (sn:Bool)(S:List BC)(t:Int)(v:Vl)(p:ByteArray)(d:Nat):Prop:=∀lv dp:Int,0<=lv->lv+d<=4611686018427387904 →
 jU dD PC 68 [.undef,.undef,.ptr 0 0 0,.int .i64 t,.agg (TC v),.int .i64 lv] (some (.agg (mV sn S dp)))=some (.str p,some (.agg (mV sn S (max dp (lv+d-1)))))
def zL (f:Int->Vl->ByteArray):List RE->List Vl->List En
 |m::r,v::q=>if rH m v then zL f r q else(m.id,KH m.id m.EA (f m.ty v))::zL f r q
 |_,_=>[]
def iO:List En->ByteArray->ByteArray
 | [],b=>b
 |e::r,b=>iO r (b++e.2)
theorem CR (f:Int->Vl->ByteArray):∀(l:List RE)(q:List Vl)(b:ByteArray),fI f l q b=iO (zL f l q) b
 | [],q,b=>by cases q<;>rfl
 |m::r,[],b=>rfl
 |m::r,v::q,b=>by
  rw[fI,zL,CR f r q];split<;>rfl
theorem IV:∀(l:List En)(b:ByteArray),b.size<=(iO l b).size
 | [],b=>yg _
 |e::r,b=>by
  have:=IV r (b++e.2);rw[ByteArray.size_append]at this;rw[iO];omega
theorem WY:∀(l m:List En)(b:ByteArray),iO (l++m) b=iO m (iO l b)
 | [],m,b=>rfl
 |e::r,m,b=>by rw[yv,iO,iO,WY r m]
theorem pU:∀(l:List En)(b:ByteArray)(e:En),e∈l->e.2.size<=(iO l b).size
 |x::r,b,e,h=>by
  rcases yh.1 h with rfl|h
  ·have:=IV r (b++e.2);rw[ByteArray.size_append]at this;rw[iO];omega
  ·rw[iO];exact pU r _ e h
theorem AY (f:Int->Vl->ByteArray):∀(l:List RE)(q:List Vl),(zL f l q).length<=l.length
 | [],q=>by cases q<;>simp[zL]
 |m::r,[]=>by simp[zL]
 |m::r,v::q=>by
  have:=AY f r q;rw[zL];split<;>simp<;>omega
theorem D3 (f:Int->Vl->ByteArray):∀(l:List RE)(q:List Vl)(m:RE)(v:Vl),l.length=q.length->zL f (l++[m]) (q++[v])=zL f l q++(if rH m v then []else [(m.id,KH m.id m.EA (f m.ty v))])
 | [],[],m,v,_=>by
  simp only[yF,zL]
 |a::r,b::q,m,v,h=>by
  rw[yv,yv,zL,zL,D3 f r q m v (by simpa using h)];split<;>simp
theorem b4 (f:Int->Vl->Nat):∀(l:List RE)(q:List Vl)(m:RE)(v:Vl)(b:Nat),l.length=q.length->tK f (l++[m]) (q++[v]) b=if rH m v then tK f l q b else max (tK f l q b) (f m.ty v)
 | [],[],m,v,b,_=>by simp only[yF,tK]
 |a::r,c::q,m,v,b,h=>by
  rw[yv,yv,tK,tK,b4 f r q m v _ (by simpa using h)]
theorem r6 (f:Int->Vl->Nat):∀(l:List RE)(q:List Vl)(b:Nat),b<=tK f l q b
 | [],q,b=>by cases q<;>exact yg _
 |m::r,[],b=>yg _
 |m::r,v::q,b=>by
  rw[tK];split
  ·exact r6 f r q b
  ·exact yt (Nat.le_max_left _ _) (r6 f r q _)
theorem S8 (f:Int->Vl->Nat):∀(l:List RE)(q:List Vl)(b:Nat)(i:Nat)(m:RE)(v:Vl),l[i]?=some m->q[i]?=some v->rH m v=false->f m.ty v<=tK f l q b
 | [],_,_,i,m,v,h,_,_=>by simp at h
 |_::_,[],_,i,m,v,_,h,_=>by simp at h
 |a::r,c::q,b,0,m,v,h1,h2,h3=>by
  simp at h1 h2;subst h1;subst h2;rw[tK,h3,if_neg (by decide)];exact yt (Nat.le_max_right _ _) (r6 f r q _)
 |a::r,c::q,b,i+1,m,v,h1,h2,h3=>by
  rw[tK];exact S8 f r q _ i m v (by simpa using h1) (by simpa using h2) h3
theorem gU (f:Int->Vl->ByteArray):∀(l:List RE)(q:List Vl)(i:Nat)(m:RE)(v:Vl),l[i]?=some m->q[i]?=some v->rH m v=false->(m.id,KH m.id m.EA (f m.ty v))∈zL f l q
 | [],_,i,m,v,h,_,_=>by simp at h
 |_::_,[],i,m,v,_,h,_=>by simp at h
 |a::r,c::q,0,m,v,h1,h2,h3=>by
  simp at h1 h2;subst h1;subst h2;rw[zL,h3,if_neg (by decide)];simp
 |a::r,c::q,i+1,m,v,h1,h2,h3=>by
  have:=gU f r q i m v (by simpa using h1) (by simpa using h2) h3;rw[zL];split
  ·exact this
  ·exact ym _ this
def upM (l:List RE):Prop:=l.Pairwise fun a b=>a.id<b.id
theorem PY (f:Int->Vl->ByteArray):∀(l:List RE)(q:List Vl)(e:En),e∈zL f l q->∃m∈l,m.id=e.1
 | [],q,e,h=>by cases q<;>simp[zL]at h
 |m::r,[],e,h=>by simp[zL]at h
 |m::r,v::q,e,h=>by
  rw[zL]at h;split at h
  ·obtain⟨m',h1,h2⟩:=PY f r q e h;exact⟨m',ym _ h1,h2⟩
  ·rcases yh.1 h with rfl | h
   ·exact⟨m,by simp,rfl⟩
   ·obtain⟨m',h1,h2⟩:=PY f r q e h;exact⟨m',ym _ h1,h2⟩
theorem Wr (f:Int->Vl->ByteArray):∀(l:List RE)(q:List Vl),upM l->(zL f l q).Pairwise fun a b=>a.1<b.1
 | [],q,_=>by cases q<;>simp[zL]
 |m::r,[],_=>by simp[zL]
 |m::r,v::q,h=>by
  obtain⟨h1,h2⟩:=List.pairwise_cons.1 h;have ih:=Wr f r q h2;rw[zL];split
  ·exact ih
  ·refine List.pairwise_cons.2 ⟨fun e he=>?_,ih⟩;obtain⟨m',hm,he2⟩:=PY f r q e he;have:=h1 m' hm;show m.id<e.1;omega
theorem Gl:∀{l:List En},(l.Pairwise fun a b=>a.1<b.1)->upE l=true
 | [],_=>rfl
 | [_],_=>rfl
 |a::b::r,h=>by
  obtain⟨h1,h2⟩:=List.pairwise_cons.1 h;rw[upE,Gl h2,Bool.and_true];exact decide_eq_true (h1 b (by simp))
theorem Fq (m:RE)(v:Vl)(hm:m.dflt.ok):IC 188 [.agg (uD m),.agg (TC v)] (.bool (rH m v)):=by
 have h:=Mp (SizeOf.sizeOf m.dflt+1) m.dflt v (by omega) hm;simp only[IC,nC]at h;refine mC (c:=IH) rfl rfl ?_;rw[uD,nC];unfold rH;cases hh:m.has with
 |true=>simp[IH,-J,-y4,-y3,y0,h]
 |false=>simp[IH,-J,-y4,-y3,y0]
theorem jY (a s:ByteArray)(h:a.size+s.size<=140737488355328):jU dD PC 124 [.ptr 0 0 0,.str s] (some (NI 168 5 a))=some (.sA [.int .i64 s.size,.undef],some (NI 168 5 (a++s))) :=
 Rr rfl (by simp[PC,NI,h])
theorem rY (a:ByteArray):jU dD PC 126 [.ptr 0 0 0] (some (NI 168 5 a))=some (.str a,some (NI 168 5 a)) :=
 Rr rfl (by simp[PC,NI])
theorem hO (a:ByteArray):H5 (NI 168 5 a)=true:=rfl
def Iz (l:List En)(s:OC):Prop:=(∃N,(s.env 9).v=.ref 54 N 2 0 l.length l.length/\s.mem 54 N=some (HC (l.map fU)))\/(l=[]/\(s.env 9).v=.sl true [])
theorem Iz.row {l:List En}{s:OC}(h:Iz l s):Aw l (s.env 9).v s.mem:=by
 rcases h with⟨N,h1,h2⟩|⟨h1,h2⟩
 ·exact .inl ⟨54,N,h1,by decide,h2⟩
 ·exact .inr ⟨h1,h2⟩
section
variable (sn:Bool) (S:List BC) (x:BC) (v:Vl) (fp:Int->Vl->ByteArray) (fd:Int->Vl->Nat)
structure Sz (lv dp:Int)(i:Nat)(s:OC):Prop where
 e0:(s.env 0).v=.ptr 0 0 0
 e3:(s.env 3).v=.int .i64 lv
 e6:(s.env 6).v=.ptr 6 1 0
 m6:s.mem 6 1=some [⟨.int .i64 v.kind,.no⟩,⟨.bool v.b,.no⟩,⟨.int .i64 v.i,.no⟩,⟨.str v.s,.no⟩,⟨.int .i64 v.id,.no⟩,⟨.sl v.kn (v.keys.map TC),.no⟩,⟨.sl v.xn (v.items.map TC),.no⟩,⟨.sl v.rn [],.no⟩]
 e18:(s.env 18).v=.sl x.mn (x.qA.map uD)
 e19:(s.env 19).v=.int .i64 x.qA.length
 e20:(s.env 20).v=.int .i64 i
 m0:s.mem 0 0=some [⟨.sl sn (S.map QC),lD (.sl sn (S.map QC))⟩,⟨.int .i64 (max dp (lv+tK fd (x.qA.take i) (v.items.take i) 0)),.no⟩]
 en:Iz (zL fp (x.qA.take i) (v.items.take i)) s
theorem rec_lp {rv:RV}(ja:v.items.length=x.qA.length)(xb:x.qA.length<=16)(MQ:∀m∈x.qA,1<=m.id/\m.id<=1000)(ml:∀m∈x.qA,m.dflt.ok)
  (hf:∀(i:Nat) m u,x.qA[i]?=some m->v.items[i]?=some u->rH m u=false->HK sn S m.ty u (fp m.ty u) (fd m.ty u))
  (ra:(fI fp x.qA v.items eB).size<=140737488355328) {lv dp:Int} (pj:0<=lv) (hd:lv+1+tK fd x.qA v.items 0<=4611686018427387904)
  (s:OC) (h:Sz sn S x v fp fd lv dp 0 s) (k:Ex->OC->Option RV)
  (hk:∀s',Sz sn S x v fp fd lv dp x.qA.length s'->k (.exit 0) s'=some rv):OL dD PC iE s k=some rv:=by
 refine ZC x.qA.length (Sz sn S x v fp fd lv dp) (fun e s=>e=.exit 0/\Sz sn S x v fp fd lv dp x.qA.length s) (fun i hi s kk h ih wb=>?_) _ _ h (fun e s h=>by obtain⟨rfl,h⟩:=h;exact hk s h);obtain⟨e0,e3,e6,m6,e18,e19,e20,m0,en⟩:=h;refine EC ?_;by_cases fa:i<x.qA.length
 ·have ga:(i:Int)<x.qA.length:=by omega
  have sd:i<v.items.length:=by omega
  have p1:x.qA[i]?=some x.qA[i]:=y7 fa;have p2:v.items[i]?=some v.items[i]:=y7 sd;have t1:x.qA.take (i+1)=x.qA.take i++[x.qA[i]]:=(yx fa).symm;have t2:v.items.take (i+1)=v.items.take i++[v.items[i]]:=(yx sd).symm;have hw:=cD (i:=i);have hmi:=MQ _ (y8 fa);have hdk:=ml _ (y8 fa);generalize x.qA[i]=m at *
  generalize v.items[i]=u at *
  have g1:(x.qA.map uD)[i]?=some (uD m):=by rw[yb,p1];rfl
  have g2:(v.items.map TC)[i]?=some (TC u):=by rw[yb,p2];rfl
  have rt:=Fq m u hdk;have sb:=D3 fp (x.qA.take i) (v.items.take i) m u (by simp;omega);have hrd:=b4 fd (x.qA.take i) (v.items.take i) m u 0 (by simp;omega);rw[<- t1,<- t2]at sb hrd;simp only[IC,uD,nC]at g1 g2 rt;cases hb:rH m u with
  |true =>
   rw[hb]at rt;rw[hb,if_pos rfl,List.append_nil]at sb;rw[hb,if_pos rfl]at hrd;simp[iE,-J,-y4,-y3,y0,e6,m6,e18,e19,e20,ga,g1,g2,rt,hw];refine ih fa _ ⟨?_,?_,?_,?_,?_,?_,?_,?_,?_⟩
   ·simp[e0]
   ·simp[e3]
   ·simp[e6]
   ·simp[m6]
   ·simp[e18]
   ·simp[e19]
   ·simp
   ·rw[hrd];simp[m0]
   ·rw [sb];rcases en with ⟨N,h1,h2⟩ | ⟨h1,h2⟩
    ·exact .inl ⟨N,by simp[h1],by simp[h2]⟩
    ·exact .inr ⟨h1,by simp[h2]⟩
  |false =>
   rw[hb]at rt;rw[hb,if_neg (by decide)]at sb;rw[hb,if_neg (by decide)]at hrd;have gc:=gU fp x.qA v.items i m u p1 p2 hb;have hsz1:=pU _ eB _ gc;rw[<- CR]at hsz1;have hsz2:=XM m.id m.EA (fp m.ty u);have mj:=Gf m.id hmi m.EA (fp m.ty u) (by simp only at hsz1;omega);have hdm:=S8 fd x.qA v.items 0 i m u p1 p2 hb;have iv:=hf i m u p1 p2 hb (lv+1) (max dp (lv+tK fd (x.qA.take i) (v.items.take i) 0)) (by omega) (by omega);have ge:max (max dp (lv+(tK fd (x.qA.take i) (v.items.take i) 0:Nat))) (lv+1+(fd m.ty u:Nat)-1)=max dp (lv+(max (tK fd (x.qA.take i) (v.items.take i) 0) (fd m.ty u):Nat)):=by omega
   rw[ge,<- hrd]at iv;have zg:IntKind.i64.wrap (lv+1)=lv+1:=IntWalk.i64_in _ (by omega);have ib:=AY fp (x.qA.take i) (v.items.take i);have hle2:(zL fp (x.qA.take i) (v.items.take i)).length<=16:=yt ib (by simp;omega);generalize zL fp (x.qA.take i) (v.items.take i)=l at *
   have ta:aE 24 (l.length+1)=true:=by rw[UD];omega
   have q:=dU l;have am:=WS (dU l) (Hg l);rw[yo]at am;have zm:(l++[(m.id,KH m.id m.EA (fp m.ty u))]).length=l.length+1:=by simp
   simp only[IC,mV,nC]at mj iv;rcases en with⟨N,h1,h2⟩|⟨h1,h2⟩
   ·simp [iE,-J,-y4,-y3,y0,-kD,-MC,zD,xD,wD,eD,e0,e3,e6,m6,e18,e19,e20,m0,ga,g1,g2,rt,hw,zg,iv,mj,h1,h2,am,Cl.pA,ta,q,JD,AF,SE,eH,lD];refine ih fa _ ⟨?_,?_,?_,?_,?_,?_,?_,?_,?_⟩
    ·simp[e0]
    ·simp[e3]
    ·simp[e6]
    ·simp[m6]
    ·simp[e18]
    ·simp[e19]
    ·simp
    ·simp[lD]
    ·rw[sb];exact .inl ⟨_,by simp;rfl,by simp[fU]⟩
   ·subst h1;have r24:aE 24 1=true:=by decide
    simp[iE,-J,-y4,-y3,y0,-kD,-MC,zD,xD,wD,eD,e0,e3,e6,m6,e18,e19,e20,m0,ga,g1,g2,rt,hw,zg,iv,mj,h2,r24,Cl.pA,JD,AF,SE,eH,lD];refine ih fa _ ⟨?_,?_,?_,?_,?_,?_,?_,?_,?_⟩
    ·simp[e0]
    ·simp[e3]
    ·simp[e6]
    ·simp[m6]
    ·simp[e18]
    ·simp[e19]
    ·simp
    ·simp[lD]
    ·rw[sb];exact .inl ⟨_,by simp;rfl,by simp[fU]⟩
 ·have ga:¬ (i:Int)<x.qA.length:=by omega
  have wu:i=x.qA.length:=by omega
  subst wu;simp[iE,-J,-y4,-y3,y0,e19,e20];exact wb _ _ ⟨rfl,by simp[e0],by simp[e3],by simp[e6],by simp[m6],by simp[e18],by simp[e19],by simp[e20],by simp[m0],by
   rcases en with⟨N,h1,h2⟩|⟨h1,h2⟩
   ·exact .inl ⟨N,by simp[h1],by simp[h2]⟩
   ·exact .inr ⟨h1,by simp[h2]⟩⟩
end
end
theorem Gj {rv:RV}(l:List En)(hl:l.length<=16)(ra:(iO l eB).size<=140737488355328)(kj:Nat)(s:OC)(he:Iz l s)(aw:(s.env 77).v=(s.env 9).v)(mc:(s.env 14).v=.ptr 14 kj 0)(ob:s.obj 14 kj=some (NI 168 5 eB))(pw:(s.env 78).v=.int .i64 l.length)(wz:(s.env 79).v=.int .i64 0)(m0:Option (List WC))(be:s.mem 0 0=m0)(k:Ex->OC->Option RV)
  (hk:∀s',(s'.env 14).v=.ptr 14 kj 0->s'.obj 14 kj=some (NI 168 5 (iO l eB))->s'.mem 0 0=m0->k (.exit 4) s'=some rv):OL dD PC LE s k=some rv:=by
 have ka:(∃N,(s.env 77).v=.ref 54 N 2 0 l.length l.length/\s.mem 54 N=some (HC (l.map fU)))\/(l=[]/\(s.env 77).v=.sl true []):=by rw[aw];exact he
 clear he aw;rcases ka with⟨N,aw,mN⟩|⟨rfl,aw⟩
 ·refine ZC l.length (fun i s=>(s.env 77).v=.ref 54 N 2 0 l.length l.length/\s.mem 54 N=some (HC (l.map fU))/\(s.env 14).v=.ptr 14 kj 0/\s.obj 14 kj=some (NI 168 5 (iO (l.take i) eB))/\(s.env 78).v=.int .i64 l.length/\(s.env 79).v=.int .i64 i/\s.mem 0 0=m0)
   (fun e s=>e=.exit 4/\(s.env 14).v=.ptr 14 kj 0/\s.obj 14 kj=some (NI 168 5 (iO l eB))/\s.mem 0 0=m0) (fun i hi s kk h ih wb=>?_) _ _ ⟨aw,mN,mc,ob,pw,wz,be⟩ (fun e s h=>by obtain⟨rfl,h1,h2,h3⟩:=h;exact hk s h1 h2 h3)
  obtain⟨aw,mN,mc,ob,pw,wz,be⟩:=h;refine EC ?_;by_cases fa:i<l.length
  ·have ga:(i:Int)<l.length:=by omega
   have p1:l[i]?=some l[i]:=y7 fa;have t1:l.take (i+1)=l.take i++[l[i]]:=(yx fa).symm;have hw:=cD (i:=i);generalize l[i]=e at *
   have g1:(l.map fU)[i]?=some [.int .i64 e.1,.str e.2]:=by simp[p1,fU]
   have ld:=dM (dU l) g1;have po:iO (l.take (i+1)) eB=iO (l.take i) eB++e.2:=by rw[t1,WY];rfl
   have ib:(iO (l.take (i+1)) eB).size<=140737488355328:=by
    have h1:=WY (l.take (i+1)) (l.drop (i+1)) eB;rw[yR]at h1;have:=IV (l.drop (i+1)) (iO (l.take (i+1)) eB);rw[<- h1]at this;omega
   rw[po,ByteArray.size_append]at ib;have dz:=jY (iO (l.take i) eB) e.2 ib;rw[<- po]at dz;simp[LE,-J,-y4,-y3,y0,-kD,-MC,zD,xD,wD,eD,aw,mN,mc,ob,pw,wz,fa,ga,ld,hw,dz,Cl.pA,hO,AV.isUn];refine ih fa _ ⟨?_,?_,?_,?_,?_,?_,?_⟩
   ·simp[aw]
   ·simp[mN]
   ·simp[mc]
   ·simp
   ·simp[pw]
   ·simp
   ·simp[be]
  ·have ga:¬ (i:Int)<l.length:=by omega
   rw[yB (by omega)]at ob;simp[LE,-J,-y4,-y3,y0,pw,wz,ga];exact wb _ _ ⟨rfl,by simp[mc],ob,be⟩
 ·refine EC ?_;simp at pw;simp[LE,-J,-y4,-y3,y0,pw,wz];exact hk _ (by simp[mc]) ob be
theorem Po (sn:Bool)(S:List BC)(x:BC)(v:Vl)(fp:Int->Vl->ByteArray)(fd:Int->Vl->Nat)(ja:v.items.length=x.qA.length)(hr:v.rest=[])(xb:x.qA.length<=12)(wj:upM x.qA)(MQ:∀m∈x.qA,1<=m.id/\m.id<=1000)(ml:∀m∈x.qA,m.dflt.ok)
  (hf:∀(i:Nat) m u,x.qA[i]?=some m->v.items[i]?=some u->rH m u=false->HK sn S m.ty u (fp m.ty u) (fd m.ty u))
  (ra:(fI fp x.qA v.items eB).size<=140737488355328) {lv dp:Int} (pj:0<=lv) (hd:lv+1+tK fd x.qA v.items 0<=4611686018427387904) (hdp:lv<=dp) :
  jU dD PC 122 [.undef,.undef,.ptr 0 0 0,.agg (QC x),.agg (TC v),.int .i64 lv] (some (.agg (mV sn S dp)))=some (.str (fI fp x.qA v.items eB),some (.agg (mV sn S (max dp (lv+tK fd x.qA v.items 0))))):=by
 refine cG UG rfl rfl ?_;rw[QC,nC,hr];simp[UG,-J,-y4,-y3,y0,JD,AF,SE,eH,lD,tM,pJ,mV];refine rec_lp sn S x v fp fd ja (by omega) MQ ml hf ra (lv:=lv) (dp:=dp) pj hd _ ⟨?_,?_,?_,?_,?_,?_,?_,?_,?_⟩ _ (fun s1 h1=>?_)
 ·simp
 ·simp
 ·simp
 ·simp
 ·simp
 ·simp
 ·simp
 ·simp[tK,lD];omega
 ·simp[zL];exact .inr ⟨rfl,by simp⟩
 ·obtain ⟨e0,e3,e6,m6,e18,e19,e20,m0,en⟩:=h1;rw [yB (by omega),yB (by omega)] at m0 en;have hlE:=AY fp x.qA v.items;have po:=CR fp x.qA v.items eB;have hue:=Gl (Wr fp x.qA v.items wj);rw [po] at ra ⊢;generalize zL fp x.qA v.items=l at *
  simp[-J,-y4,-y3,y0,e6,m6];refine EC ?_;simp[GJ,-J,-y4,-y3,y0];refine Fm l (by omega) hue _ _ ?_ _ (fun s2 hm ho hg=>?_)
  ·dsimp only;exact en.row
  ·dsimp only at hm ho hg;have hlen9:∃z:Int,z=l.length/\K.run (jU dD PC) s1 (.len false (.t 9))=some (⟨.int .i64 z,.no⟩,.none):=by
    rcases en with⟨N,h1,h2⟩|⟨h1,h2⟩
    ·exact⟨_,rfl,by simp[K.run,KD.get,h1]⟩
    ·exact⟨_,rfl,by simp[K.run,KD.get,h1,h2]⟩
   rcases en with⟨N,h1,h2⟩|⟨h1,h2⟩
   ·simp [-J,-y4,-y3,y0,hg,h1];refine Gj l (by omega) ra (s2.next + 1) _ (.inl ⟨N,?_,?_⟩) ?_ ?_ ?_ ?_ ?_ _ rfl _ (fun s3 f14 fo fm=>?_)
    ·simp[h1]
    ·simp[hm,h2]
    ·simp[h1]
    ·simp
    ·simp[eB]
    ·simp
    ·simp
    ·have mo:=rY (iO l eB);dsimp only at fm;rw[hm]at fm;simp at fm;simp[-J,-y4,-y3,y0,f14,fo,mo,Cl.pA,hO,tM,pJ,fm,m0]
   ·subst h1;simp [-J,-y4,-y3,y0,hg,h2];refine Gj [] (by simp) ra (s2.next + 1) _ (.inr ⟨rfl,?_⟩) ?_ ?_ ?_ ?_ ?_ _ rfl _ (fun s3 f14 fo fm=>?_)
    ·simp[h2]
    ·simp[h2]
    ·simp
    ·simp[eB]
    ·simp
    ·simp
    ·have mo:=rY (iO [] eB);dsimp only at fm;rw[hm]at fm;simp at fm;simp[-J,-y4,-y3,y0,f14,fo,mo,Cl.pA,hO,tM,pJ,fm,m0]
section
theorem Fl (sn:Bool)(S:List BC)(x:BC)(v:Vl)(p:ByteArray)(d:Nat){m:RE}{u:Vl}(zl:x.qA.length<=9223372036854775807)(hr:v.rest=[])(hu:v.items=[u])(c1:0<=dE x.qA v.id)(ji:x.qA[(dE x.qA v.id).toNat]?=some m)(MQ:1<=v.id/\v.id<=1000)
  (hf:HK sn S m.ty u p d) (ra:p.size<=140737488355328) {lv dp:Int} (pj:0<=lv) (hd:lv+1+d<=4611686018427387904) (hdp:lv<=dp) :
  jU dD PC 123 [.undef,.undef,.ptr 0 0 0,.agg (QC x),.agg (TC v),.int .i64 lv] (some (.agg (mV sn S dp)))=some (.str (PN v.id++p),some (.agg (mV sn S (max dp (lv+d))))):=by
 have hm:=Pq x v.id zl;have h1:=Zq v.id (by omega);have h2:IntKind.u64.wrap v.id=v.id:=uG _ (by omega);have h3:=hf (lv+1) dp (by omega) (by omega);rw[show lv+1+(d:Int)-1=lv+d from by omega]at h3;have zg:IntKind.i64.wrap (lv+1)=lv+1:=IntWalk.i64_in _ (by omega);have h4:(PN v.id).size+p.size<=9223372036854775807:=by have:=DK v.id;omega
 simp only[IC,QC,OU]at hm;generalize dE x.qA v.id=ix at *
 simp only[c1,decide_true]at hm;have bn:max ix 0=ix:=Int.max_eq_left c1;rw[bn]at hm;have g2:(x.qA.map uD)[ix.toNat]?=some (uD m):=by rw[yb,ji];rfl
 simp only[IC,uD,mV,nC]at g2 h1 h3;refine cG NG rfl rfl ?_;rw[QC,nC,hu,hr];simp only[yk,yq,nC];simp[NG,-J,-y4,-y3,y0,JD,AF,SE,eH,lD,tM,pJ,mV,hm,h1,h2,h3,h4,g2,c1,zg]
section
variable (sn:Bool) (S:List BC) (t:Int) (x:BC) (v:Vl) (fp:Int->Vl->ByteArray) (fd:Int->Vl->Nat) (h0:0<=t) (g:S[t.toNat]?=some x)
include h0 g
theorem pay1 (hk:x.kind=1):HK sn S t v (tF fp x v) (OJ fd x v):=by
 intro lv dp pj hd;have g1:(S.map QC)[t.toNat]?=some (QC x):=by rw[yb,g];rfl
 simp only[QC,hk]at g1;refine cG AC rfl rfl ?_;rw[nC];have e1:(lv+(1:Nat)-1:Int)=lv:=by omega
 unfold tF OJ;cases hb:v.b with
 |true=>simp[AC,-J,-y4,-y3,y0,JD,AF,SE,eH,lD,tM,pJ,mV,g1,h0,hk,hb,d8,eB]
 |false=>simp[AC,-J,-y4,-y3,y0,JD,AF,SE,eH,lD,tM,pJ,mV,g1,h0,hk,hb,d8,eB]
theorem pay2 (hk:x.kind=2)(hi:LI v.i):HK sn S t v (tF fp x v) (OJ fd x v):=by
 intro lv dp pj hd;have g1:(S.map QC)[t.toNat]?=some (QC x):=by rw[yb,g];rfl
 have hz:=Pw v.i hi;have hb:=Wd (E1 v.i) (by unfold E1;obtain⟨i1,i2⟩:=hi;split<;>omega);simp only[IC,QC,hk]at g1 hz hb;refine cG AC rfl rfl ?_;rw[nC];unfold tF OJ;simp[AC,-J,-y4,-y3,y0,JD,AF,SE,eH,lD,tM,pJ,mV,g1,h0,hk,d8,hz,hb]
theorem pay3 (hk:x.kind=3):HK sn S t v (tF fp x v) (OJ fd x v):=by
 intro lv dp pj hd;have g1:(S.map QC)[t.toNat]?=some (QC x):=by rw[yb,g];rfl
 simp only[QC,hk]at g1;refine cG AC rfl rfl ?_;rw[nC];unfold tF OJ;simp[AC,-J,-y4,-y3,y0,JD,AF,SE,eH,lD,tM,pJ,mV,g1,h0,hk,d8]
theorem pay4 (hk:x.kind=4)(MQ:1<=v.id/\v.id<=1000):HK sn S t v (tF fp x v) (OJ fd x v):=by
 intro lv dp pj hd;have g1:(S.map QC)[t.toNat]?=some (QC x):=by rw[yb,g];rfl
 have hb:=Wd v.id (by omega);have h2:IntKind.u64.wrap v.id=v.id:=uG _ (by omega);simp only[IC,QC,hk]at g1 hb;refine cG AC rfl rfl ?_;rw[nC];unfold tF OJ;simp[AC,-J,-y4,-y3,y0,JD,AF,SE,eH,lD,tM,pJ,mV,g1,h0,hk,d8,hb,h2]
theorem pay5 (hk:x.kind=5)(ja:v.items.length=x.qA.length)(hr:v.rest=[])(xb:x.qA.length<=12)(wj:upM x.qA)(MQ:∀m∈x.qA,1<=m.id/\m.id<=1000)(ml:∀m∈x.qA,m.dflt.ok)
  (hf:∀(i:Nat) m u,x.qA[i]?=some m->v.items[i]?=some u->rH m u=false->HK sn S m.ty u (fp m.ty u) (fd m.ty u))
  (ra:(tF fp x v).size<=140737488355328):HK sn S t v (tF fp x v) (OJ fd x v):=by
 intro lv dp pj hd;have g1:(S.map QC)[t.toNat]?=some (QC x):=by rw[yb,g];rfl
 have hp:tF fp x v=fI fp x.qA v.items eB:=by simp[tF,hk]
 have hq:OJ fd x v=1+tK fd x.qA v.items 0:=by simp[OJ,hk]
 rw[hp]at ra ⊢;rw[hq]at hd ⊢;have xg:=Po sn S x v fp fd ja hr xb wj MQ ml hf ra (lv:=lv) (dp:=max dp lv) pj (by omega) (by omega);have ge:max (max dp lv) (lv+(tK fd x.qA v.items 0:Nat))=max dp (lv+((1+tK fd x.qA v.items 0:Nat):Int)-1):=by omega
 rw[ge]at xg;simp only[QC,mV,nC,hk]at g1 xg;refine cG AC rfl rfl ?_;rw[nC];simp[AC,-J,-y4,-y3,y0,JD,AF,SE,eH,lD,tM,pJ,mV,g1,h0,hk,d8,xg]
theorem pay6 (hk:x.kind=6){m:RE}{u:Vl}(zl:x.qA.length<=9223372036854775807)(hr:v.rest=[])(hu:v.items=[u])(c1:0<=dE x.qA v.id)(ji:x.qA[(dE x.qA v.id).toNat]?=some m)(MQ:1<=v.id/\v.id<=1000)
  (hf:HK sn S m.ty u (fp m.ty u) (fd m.ty u)) (ra:(tF fp x v).size<=140737488355328):HK sn S t v (tF fp x v) (OJ fd x v):=by
 intro lv dp pj hd;have g1:(S.map QC)[t.toNat]?=some (QC x):=by rw[yb,g];rfl
 have hp:tF fp x v=PN v.id++fp m.ty u:=by simp[tF,hk,ji,hu,T9]
 have hq:OJ fd x v=1+fd m.ty u:=by simp[OJ,hk,ji,hu,La]
 rw[hp,ByteArray.size_append]at ra;rw[hp];rw[hq]at hd ⊢;have xg:=Fl sn S x v (fp m.ty u) (fd m.ty u) zl hr hu c1 ji MQ hf (by omega) (lv:=lv) (dp:=max dp lv) pj (by omega) (by omega);have ge:max (max dp lv) (lv+(fd m.ty u:Nat))=max dp (lv+((1+fd m.ty u:Nat):Int)-1):=by omega
 rw[ge]at xg;simp only[QC,mV,nC,hk]at g1 xg;refine cG AC rfl rfl ?_;rw[nC];simp[AC,-J,-y4,-y3,y0,JD,AF,SE,eH,lD,tM,pJ,mV,g1,h0,hk,d8,xg]
theorem pay9 (hk:x.kind=9)(hf:∀u∈v.items,HK sn S x.elem u (fp x.elem u) (fd x.elem u))(ra:(tF fp x v).size<=140737488355328):HK sn S t v (tF fp x v) (OJ fd x v):=by
 intro lv dp pj hd;have g1:(S.map QC)[t.toNat]?=some (QC x):=by rw[yb,g];rfl
 have hp:tF fp x v=NX (fp x.elem) v.items:=by simp[tF,hk]
 have hq:OJ fd x v=1+R8 (fd x.elem) v.items:=by simp[OJ,hk]
 rw[hp]at ra ⊢;rw[hq]at hd ⊢;simp only[QC,hk]at g1;refine cG AC rfl rfl ?_;rw[nC]
 match hi:v.items with
 | [] =>
  simp[AC,-J,-y4,-y3,y0,JD,AF,SE,eH,lD,tM,pJ,mV,g1,h0,hk,d8,NX,R8,eB]
 |u::q =>
  rw[hi]at ra hd;simp only[NX,R8,ByteArray.size_append]at ra hd ⊢;have h3:=hf u (by rw[hi];simp) (lv+1) (max dp lv) (by omega) (by omega);have ge:max (max dp lv) (lv+1+(fd x.elem u:Nat)-1)=max dp (lv+((1+fd x.elem u:Nat):Int)-1):=by omega
  rw[ge]at h3;have zg:IntKind.i64.wrap (lv+1)=lv+1:=IntWalk.i64_in _ (by omega);have h4:(ByteArray.mk #[1]).size+(fp x.elem u).size<=9223372036854775807:=by omega
  have h5:¬((q.length:Int)+1=0):=by omega
  simp only[mV,nC]at h3;simp only[yk,nC];simp[AC,-J,-y4,-y3,y0,JD,AF,SE,eH,lD,tM,pJ,mV,g1,h0,hk,d8,h3,h4,h5,zg]
end
end
section
theorem wW (f:Vl->ByteArray):∀(l m:List Vl)(b:ByteArray),xF f (l++m) b=xF f m (xF f l b)
 | [],m,b=>rfl
 |v::r,m,b=>by rw[yv,xF,xF,wW f r m]
theorem eW (f:Vl->Nat):∀(l m:List Vl)(b:Nat),nH f (l++m) b=nH f m (nH f l b)
 | [],m,b=>rfl
 |v::r,m,b=>by rw[yv,nH,nH,eW f r m]
theorem M7 (f:Vl->Nat):∀(l:List Vl)(b:Nat),b<=nH f l b
 | [],b=>yg _
 |v::r,b=>yt (Nat.le_max_left _ _) (M7 f r _)
theorem t8 (f g:Vl->ByteArray):∀(l q:List Vl)(k v:Vl)(b:ByteArray),l.length=q.length->bG f g (l++[k]) (q++[v]) b=bG f g l q b++PF (f k)++PF (g v)
 | [],[],k,v,b,_=>rfl
 |a::r,c::q,k,v,b,h=>by
  rw[yv,yv,bG,bG,t8 f g r q k v _ (by simpa using h)]
theorem p8 (f g:Vl->Nat):∀(l q:List Vl)(k v:Vl)(b:Nat),l.length=q.length->gJ f g (l++[k]) (q++[v]) b=max (max (gJ f g l q b) (f k)) (g v)
 | [],[],k,v,b,_=>rfl
 |a::r,c::q,k,v,b,h=>by
  rw[yv,yv,gJ,gJ,p8 f g r q k v _ (by simpa using h)]
theorem o8 (f g:Vl->ByteArray):∀(l q:List Vl)(b:ByteArray)(i:Nat),(bG f g (l.take i) (q.take i) b).size<=(bG f g l q b).size
 | [],q,b,i=>by cases q<;>simp[bG]
 |a::r,[],b,i=>by cases i<;>simp[bG]
 |a::r,c::q,b,0=>by simp only[List.take_zero];exact bS f g (a::r) (c::q) b
 |a::r,c::q,b,i+1=>by
  rw[List.take_succ_cons,List.take_succ_cons,bG,bG];exact o8 f g r q _ i
theorem Cr (f g:Vl->Nat):∀(l q:List Vl)(b:Nat),b<=gJ f g l q b
 | [],q,b=>by cases q<;>exact yg _
 |a::r,[],b=>yg _
 |a::r,c::q,b=>yt (by omega) (Cr f g r q _)
theorem a8 (f g:Vl->Nat):∀(l q:List Vl)(b i:Nat),gJ f g (l.take i) (q.take i) b<=gJ f g l q b
 | [],q,b,i=>by cases q<;>simp[gJ]
 |a::r,[],b,i=>by cases i<;>simp[gJ]
 |a::r,c::q,b,0=>by simp only[List.take_zero];exact Cr f g (a::r) (c::q) b
 |a::r,c::q,b,i+1=>by
  rw[List.take_succ_cons,List.take_succ_cons,gJ,gJ];exact a8 f g r q _ i
section
variable (sn:Bool) (S:List BC) (t:Int) (x:BC) (v:Vl) (fp:Int->Vl->ByteArray) (fd:Int->Vl->Nat)
structure J6 (lv dp:Int)(b:ByteArray)(d:Nat)(cq:Nat)(i:Nat)(s:OC):Prop where
 e0:(s.env 0).v=.ptr 0 0 0
 e3:(s.env 3).v=.int .i64 lv
 e6:(s.env 6).v=.ptr 6 1 0
 m6:s.mem 6 1=some (kF v)
 e9:(s.env 9).v=.ptr 9 3 0
 m9:s.mem 9 3=some (ID x)
 e10:(s.env 10).v=.ptr 10 cq 0
 ob:s.obj 10 cq=some (NI 168 5 b)
 e84:(s.env 84).v=.sl v.xn (v.items.map TC)
 kC:(s.env 85).v=.int .i64 v.items.length
 e86:(s.env 86).v=.int .i64 i
 m0:s.mem 0 0=some [⟨.sl sn (S.map QC),lD (.sl sn (S.map QC))⟩,⟨.int .i64 (max dp (lv+d)),.no⟩]
theorem Pb {rv:RV}(hk:x.kind=7)(tq:v.items.length<=9223372036854775807)(hf:∀u∈v.items,HK sn S x.elem u (fp x.elem u) (fd x.elem u))(ra:(xF (fp x.elem) v.items eB).size<=140737488355328){lv dp:Int}(pj:0<=lv)(hd:lv+1+nH (fd x.elem) v.items 0<=4611686018427387904)
  (cq:Nat) (s:OC) (h:J6 sn S x v lv dp eB 0 cq 0 s) (k:Ex->OC->Option RV)
  (wb:∀s',J6 sn S x v lv dp (xF (fp x.elem) v.items eB) (nH (fd x.elem) v.items 0) cq v.items.length s'->k (.exit 1) s'=some rv):OL dD PC TD s k=some rv:=by
 refine ZC v.items.length (fun i s=>J6 sn S x v lv dp (xF (fp x.elem) (v.items.take i) eB) (nH (fd x.elem) (v.items.take i) 0) cq i s) (fun e s=>e=.exit 1/\J6 sn S x v lv dp (xF (fp x.elem) v.items eB) (nH (fd x.elem) v.items 0) cq v.items.length s) (fun i hi s kk h ih wb=>?_) _ _ h (fun e s h=>by obtain⟨rfl,h⟩:=h;exact wb s h);obtain⟨e0,e3,e6,m6,e9,m9,e10,ob,e84,kC,e86,m0⟩:=h;refine EC ?_;by_cases fa:i<v.items.length
 ·have ga:(i:Int)<v.items.length:=by omega
  have p1:v.items[i]?=some v.items[i]:=y7 fa;have t1:v.items.take (i+1)=v.items.take i++[v.items[i]]:=(yx fa).symm;have hw:=cD (i:=i);have oh:=hf _ (y8 fa);generalize v.items[i]=u at *
  have g1:(v.items.map TC)[i]?=some (TC u):=by rw[yb,p1];rfl
  have hB:xF (fp x.elem) (v.items.take (i+1)) eB=xF (fp x.elem) (v.items.take i) eB++PF (fp x.elem u):=by rw[t1,wW];rfl
  have hD:nH (fd x.elem) (v.items.take (i+1)) 0=max (nH (fd x.elem) (v.items.take i) 0) (fd x.elem u):=by rw[t1,eW];rfl
  have hDle:nH (fd x.elem) (v.items.take (i+1)) 0<=nH (fd x.elem) v.items 0:=by
   have h1:=eW (fd x.elem) (v.items.take (i+1)) (v.items.drop (i+1)) 0;rw[yR]at h1;rw[h1];exact M7 _ _ _
  have rd:(xF (fp x.elem) (v.items.take (i+1)) eB).size<=(xF (fp x.elem) v.items eB).size:=by
   have h1:=wW (fp x.elem) (v.items.take (i+1)) (v.items.drop (i+1)) eB;rw[yR]at h1;rw[h1];exact fQ _ _ _
  rw[hB,ByteArray.size_append]at rd;have oy:=tG (fp x.elem u);have h3:=oh (lv+1) (max dp (lv+(nH (fd x.elem) (v.items.take i) 0:Nat))) (by omega) (by omega);have ge:max (max dp (lv+(nH (fd x.elem) (v.items.take i) 0:Nat))) (lv+1+(fd x.elem u:Nat)-1)=max dp (lv+(max (nH (fd x.elem) (v.items.take i) 0) (fd x.elem u):Nat)):=by omega
  rw[ge,<- hD]at h3;have zg:IntKind.i64.wrap (lv+1)=lv+1:=IntWalk.i64_in _ (by omega);have wn:=kV (fp x.elem u) (by omega);have dz:=jY (xF (fp x.elem) (v.items.take i) eB) (PF (fp x.elem u)) (by omega);rw[<- hB]at dz;simp only[IC,mV,nC]at g1 h3 wn;simp only[ID,hk]at m9;simp[TD,-J,-y4,-y3,y0,e0,e3,e6,m6,e9,m9,e10,ob,e84,kC,e86,m0,ga,g1,h3,wn,dz,hw,zg,JD,AF,SE,eH,lD,Cl.pA,hO,AV.isUn];refine ih fa _ ⟨?_,?_,?_,?_,?_,?_,?_,?_,?_,?_,?_,?_⟩
  ·simp[e0]
  ·simp[e3]
  ·simp[e6]
  ·simp[m6]
  ·simp[e9]
  ·simp[m9,ID,hk]
  ·simp[e10]
  ·simp
  ·simp[e84]
  ·simp[kC]
  ·simp
  ·simp[lD]
 ·have ga:¬ (i:Int)<v.items.length:=by omega
  have wu:i=v.items.length:=by omega
  subst wu;rw[yB (by omega)]at ob m0;simp[TD,-J,-y4,-y3,y0,kC,e86];exact wb _ _ ⟨rfl,by simp[e0],by simp[e3],by simp[e6],m6,by simp[e9],m9,by simp[e10],ob,by simp[e84],by simp[kC],by simp[e86],m0⟩
theorem map_lp {rv:RV}(hk:x.kind=8)(tq:v.items.length<=9223372036854775807)(xk:v.items.length=v.keys.length)(kt:∀u∈v.keys,HK sn S x.key u (fp x.key u) (fd x.key u))(hf:∀u∈v.items,HK sn S x.elem u (fp x.elem u) (fd x.elem u))(ra:(bG (fp x.key) (fp x.elem) v.keys v.items eB).size<=140737488355328){lv dp:Int}(pj:0<=lv)(hd:lv+1+gJ (fd x.key) (fd x.elem) v.keys v.items 0<=4611686018427387904)
  (cq:Nat) (s:OC) (h:J6 sn S x v lv dp eB 0 cq 0 s) (k:Ex->OC->Option RV)
  (wb:∀s',J6 sn S x v lv dp (bG (fp x.key) (fp x.elem) v.keys v.items eB) (gJ (fd x.key) (fd x.elem) v.keys v.items 0) cq v.items.length s'->k (.exit 1) s'=some rv):OL dD PC TD s k=some rv:=by
 refine ZC v.items.length (fun i s=>J6 sn S x v lv dp (bG (fp x.key) (fp x.elem) (v.keys.take i) (v.items.take i) eB) (gJ (fd x.key) (fd x.elem) (v.keys.take i) (v.items.take i) 0) cq i s) (fun e s=>e=.exit 1/\J6 sn S x v lv dp (bG (fp x.key) (fp x.elem) v.keys v.items eB) (gJ (fd x.key) (fd x.elem) v.keys v.items 0) cq v.items.length s) (fun i hi s kk h ih wb=>?_) _ _ (by simpa [bG,gJ]using h) (fun e s h=>by obtain⟨rfl,h⟩:=h;exact wb s h);obtain⟨e0,e3,e6,m6,e9,m9,e10,ob,e84,kC,e86,m0⟩:=h;refine EC ?_;by_cases fa:i<v.items.length
 ·have ga:(i:Int)<v.items.length:=by omega
  have xl:i<v.keys.length:=by omega
  have p1:v.items[i]?=some v.items[i]:=y7 fa;have p2:v.keys[i]?=some v.keys[i]:=y7 xl;have t1:v.items.take (i+1)=v.items.take i++[v.items[i]]:=(yx fa).symm;have t2:v.keys.take (i+1)=v.keys.take i++[v.keys[i]]:=(yx xl).symm;have hw:=cD (i:=i);have oh:=hf _ (y8 fa);have ru:=kt _ (y8 xl);generalize v.items[i]=u at *
  generalize v.keys[i]=ky at *
  have g1:(v.items.map TC)[i]?=some (TC u):=by rw[yb,p1];rfl
  have g2:(v.keys.map TC)[i]?=some (TC ky):=by rw[yb,p2];rfl
  have hB:bG (fp x.key) (fp x.elem) (v.keys.take (i+1)) (v.items.take (i+1)) eB=bG (fp x.key) (fp x.elem) (v.keys.take i) (v.items.take i) eB++PF (fp x.key ky)++PF (fp x.elem u):=by rw[t1,t2,t8 _ _ _ _ _ _ _ (by simp;omega)]
  have hD:gJ (fd x.key) (fd x.elem) (v.keys.take (i+1)) (v.items.take (i+1)) 0=max (max (gJ (fd x.key) (fd x.elem) (v.keys.take i) (v.items.take i) 0) (fd x.key ky)) (fd x.elem u):=by rw[t1,t2,p8 _ _ _ _ _ _ _ (by simp;omega)]
  have hDle:=a8 (fd x.key) (fd x.elem) v.keys v.items 0 (i+1);have rd:=o8 (fp x.key) (fp x.elem) v.keys v.items eB (i+1);rw[hB,ByteArray.size_append,ByteArray.size_append]at rd;have oy:=tG (fp x.elem u);have hpk:=tG (fp x.key ky);have h2:=ru (lv+1) (max dp (lv+(gJ (fd x.key) (fd x.elem) (v.keys.take i) (v.items.take i) 0:Nat))) (by omega) (by omega);have hmax2:max (max dp (lv+(gJ (fd x.key) (fd x.elem) (v.keys.take i) (v.items.take i) 0:Nat))) (lv+1+(fd x.key ky:Nat)-1)=max dp (lv+(max (gJ (fd x.key) (fd x.elem) (v.keys.take i) (v.items.take i) 0) (fd x.key ky):Nat)):=by omega
  rw[hmax2]at h2;have h3:=oh (lv+1) (max dp (lv+(max (gJ (fd x.key) (fd x.elem) (v.keys.take i) (v.items.take i) 0) (fd x.key ky):Nat))) (by omega) (by omega);have ge:max (max dp (lv+(max (gJ (fd x.key) (fd x.elem) (v.keys.take i) (v.items.take i) 0) (fd x.key ky):Nat))) (lv+1+(fd x.elem u:Nat)-1)=max dp (lv+(max (max (gJ (fd x.key) (fd x.elem) (v.keys.take i) (v.items.take i) 0) (fd x.key ky)) (fd x.elem u):Nat)):=by omega
  rw[ge,<- hD]at h3;have zg:IntKind.i64.wrap (lv+1)=lv+1:=IntWalk.i64_in _ (by omega);have wn:=kV (fp x.elem u) (by omega);have hsk:=kV (fp x.key ky) (by omega);have dz:=jY (bG (fp x.key) (fp x.elem) (v.keys.take i) (v.items.take i) eB) (PF (fp x.key ky)) (by omega);have hws2:=jY (bG (fp x.key) (fp x.elem) (v.keys.take i) (v.items.take i) eB++PF (fp x.key ky)) (PF (fp x.elem u)) (by rw[ByteArray.size_append];omega);rw[<- hB]at hws2;simp only[IC,mV,nC]at g1 g2 h2 h3 wn hsk;simp only[ID,hk]at m9;simp[TD,-J,-y4,-y3,y0,e0,e3,e6,m6,e9,m9,e10,ob,e84,kC,e86,m0,ga,g1,g2,h2,h3,wn,hsk,dz,hws2,hw,zg,JD,AF,SE,eH,lD,Cl.pA,hO,AV.isUn];refine ih fa _ ⟨?_,?_,?_,?_,?_,?_,?_,?_,?_,?_,?_,?_⟩
  ·simp[e0]
  ·simp[e3]
  ·simp[e6]
  ·simp[m6]
  ·simp[e9]
  ·simp[m9,ID,hk]
  ·simp[e10]
  ·simp
  ·simp[e84]
  ·simp[kC]
  ·simp
  ·simp[lD]
 ·have ga:¬ (i:Int)<v.items.length:=by omega
  have wu:i=v.items.length:=by omega
  subst wu;rw[yB (by omega),yB (by omega)]at ob m0;simp[TD,-J,-y4,-y3,y0,kC,e86];exact wb _ _ ⟨rfl,by simp[e0],by simp[e3],by simp[e6],m6,by simp[e9],m9,by simp[e10],ob,by simp[e84],by simp[kC],by simp[e86],m0⟩
variable (h0:0<=t) (g:S[t.toNat]?=some x)
include h0 g
theorem pay7 (hk:x.kind=7)(tq:v.items.length<=9223372036854775807)(hf:∀u∈v.items,HK sn S x.elem u (fp x.elem u) (fd x.elem u))(ra:(tF fp x v).size<=140737488355328):HK sn S t v (tF fp x v) (OJ fd x v):=by
 intro lv dp pj hd;have g1:(S.map QC)[t.toNat]?=some (QC x):=by rw[yb,g];rfl
 have hp:tF fp x v=xF (fp x.elem) v.items eB:=by simp[tF,hk]
 have hq:OJ fd x v=1+nH (fd x.elem) v.items 0:=by simp[OJ,hk]
 rw[hp]at ra ⊢;rw[hq]at hd ⊢;simp only[QC,hk]at g1;refine cG AC rfl rfl ?_;rw[nC];simp[AC,-J,-y4,-y3,y0,JD,AF,SE,eH,lD,tM,pJ,mV,g1,h0,hk,d8];refine Pb sn S x v fp fd hk tq hf ra (lv:=lv) (dp:=dp) pj (by omega) 12 _ ⟨?_,?_,?_,?_,?_,?_,?_,?_,?_,?_,?_,?_⟩ _ (fun s1 h1=>?_)
 ·simp
 ·simp
 ·simp
 ·simp
 ·simp
 ·simp[hk]
 ·simp
 ·simp[eB]
 ·simp
 ·simp
 ·simp
 ·simp[lD]
 ·obtain ⟨e0,e3,e6,m6,e9,m9,e10,ob,e84,kC,e86,m0⟩:=h1;have mo:=rY (xF (fp x.elem) v.items eB);have ge:(lv + (nH (fd x.elem) v.items 0:Nat))=lv + ((1 + nH (fd x.elem) v.items 0:Nat):Int) - 1:=by omega
  rw[ge]at m0;simp[-J,-y4,-y3,y0,e10,ob,mo,Cl.pA,hO,tM,pJ,m0]
theorem pay8 (hk:x.kind=8)(tq:v.items.length<=9223372036854775807)(xk:v.items.length=v.keys.length)(kt:∀u∈v.keys,HK sn S x.key u (fp x.key u) (fd x.key u))(hf:∀u∈v.items,HK sn S x.elem u (fp x.elem u) (fd x.elem u))(ra:(tF fp x v).size<=140737488355328):HK sn S t v (tF fp x v) (OJ fd x v):=by
 intro lv dp pj hd;have g1:(S.map QC)[t.toNat]?=some (QC x):=by rw[yb,g];rfl
 have hp:tF fp x v=bG (fp x.key) (fp x.elem) v.keys v.items eB:=by simp[tF,hk]
 have hq:OJ fd x v=1+gJ (fd x.key) (fd x.elem) v.keys v.items 0:=by simp[OJ,hk]
 rw[hp]at ra ⊢;rw[hq]at hd ⊢;simp only[QC,hk]at g1;refine cG AC rfl rfl ?_;rw[nC];simp[AC,-J,-y4,-y3,y0,JD,AF,SE,eH,lD,tM,pJ,mV,g1,h0,hk,d8];refine map_lp sn S x v fp fd hk tq xk kt hf ra (lv:=lv) (dp:=dp) pj (by omega) 12 _ ⟨?_,?_,?_,?_,?_,?_,?_,?_,?_,?_,?_,?_⟩ _ (fun s1 h1=>?_)
 ·simp
 ·simp
 ·simp
 ·simp
 ·simp
 ·simp[hk]
 ·simp
 ·simp[eB]
 ·simp
 ·simp
 ·simp
 ·simp[lD]
 ·obtain ⟨e0,e3,e6,m6,e9,m9,e10,ob,e84,kC,e86,m0⟩:=h1;have mo:=rY (bG (fp x.key) (fp x.elem) v.keys v.items eB);have ge:(lv + (gJ (fd x.key) (fd x.elem) v.keys v.items 0:Nat))=lv + ((1 + gJ (fd x.key) (fd x.elem) v.keys v.items 0:Nat):Int) - 1:=by omega
  rw[ge]at m0;simp[-J,-y4,-y3,y0,e10,ob,mo,Cl.pA,hO,tM,pJ,m0]
end
end
section
theorem SY:∀(l:List (Int×ByteArray))(b:Int)(seen:List ByteArray),jF b seen l=true->(∀x∈l,b<x.1/\1<=x.1/\x.1<=1000)/\l.Pairwise fun x y=>x.1<y.1
 | [],_,_,_=>by simp
 |(n,s)::r,b,seen,h=>by
  simp only[jF,y9]at h;obtain⟨⟨⟨h1,_⟩,_⟩,h2⟩:=h;have hb:b<n/\1<=n/\n<=1000:=by unfold nU at h1;simp at h1;omega
  obtain⟨g1,g2⟩:=SY r n _ h2;refine⟨fun x hx=>?_,List.pairwise_cons.2 ⟨fun y hy=>(g1 y hy).1,g2⟩⟩;rcases yh.1 hx with rfl|hx
  ·exact hb
  ·have:=g1 x hx;omega
theorem O6 {x:BC}(h:IE x=true):upM x.qA/\∀m∈x.qA,1<=m.id/\m.id<=1000:=by
 unfold IE at h;rw[y9,y9]at h;obtain⟨_,h1,h2⟩:=h;have main:∀rc,nL rc x.qA=true->upM x.qA/\∀m∈x.qA,1<=m.id/\m.id<=1000:=fun rc h=>by
  unfold nL at h;simp only[y9]at h;obtain⟨h3,h4⟩:=SY _ _ _ h.2.2.1;rw[List.pairwise_map]at h4;exact⟨h4,fun m hm=>(h3 _ (List.mem_map_of_mem hm)).2⟩
 by_cases k5:x.kind=5
 ·simp[wN,k5]at h1;exact main true h1.2
 by_cases k6:x.kind=6
 ·simp[wN,k6]at h1;exact main false h1.2
 have e:x.left.qA=x.qA:=by
  unfold BC.left;simp only[if_neg k5,if_neg k6]
  repeat' split
  all_goals rfl
 have hm:QE x.left.qA []=true:=by simp only[BC.same,y9]at h2;exact h2.2
 rw[e]at hm;cases hx:x.qA with
 |nil=>exact⟨List.Pairwise.nil,by simp⟩
 |cons a r=>rw[hx]at hm;simp[QE]at hm
theorem Xm {x:BC}(h:IE x=true):∀m∈x.tA,1<=m.id/\m.id<=1000:=by
 unfold IE at h;rw[y9,y9]at h;obtain⟨_,h1,h2⟩:=h;by_cases k4:x.kind=4
 ·simp[wN,k4]at h1;have h1:=h1.2;unfold jP at h1;simp only[y9]at h1;obtain⟨h3,_⟩:=SY _ _ _ h1.2.1;exact fun m hm=>(h3 _ (List.mem_map_of_mem hm)).2
 have e:x.left.tA=x.tA:=by
  unfold BC.left;simp only[if_neg k4]
  repeat' split
  all_goals rfl
 have hm:decide (x.left.tA=[])=true:=by
  simp only[BC.same,y9]at h2;exact h2.1.2
 rw[e]at hm;rw[of_decide_eq_true hm];simp
theorem N0:∀{l:List RE},upM l->∀{i j:Nat}{a b:RE},l[i]?=some a->l[j]?=some b->i<j->a.id<b.id
 | [],_,i,j,a,b,h,_,_=>by simp at h
 |m::r,h,i,j,a,b,h1,h2,hij=>by
  obtain⟨g1,g2⟩:=List.pairwise_cons.1 h
  match i,j with
  |0,j+1 =>
   simp at h1 h2;subst h1;exact g1 b (yQ h2)
  |i+1,j+1=>exact N0 g2 (i:=i) (j:=j) (by simpa using h1) (by simpa using h2) (by omega)
theorem kZ {l:List RE}(h:upM l){c:Nat}{m:RE}(hc:l[c]?=some m):dE l m.id=c:=by
 have h0:0<=dE l m.id:=by
  have h1:=CM (fun x:RE=>decide (x.id=m.id)) l;rw[List.any_eq_true.2 ⟨m,yQ hc,by simp⟩]at h1;exact of_decide_eq_true h1
 obtain⟨g,hg,he⟩:=cS (fun x:RE=>decide (x.id=m.id)) l (by unfold dE at h0;omega);have he:g.id=m.id:=by simpa using he
 change l[(dE l m.id).toNat]?=some g at hg;rcases Nat.lt_trichotomy (dE l m.id).toNat c with h1|h1|h1
 ·have:=N0 h hg hc h1;omega
 ·omega
 ·have:=N0 h hc hg h1;omega
theorem Bh {l:List RE}{id:Int}(h:∀m∈l,m.id≠id):dE l id=-1:=by
 have h1:=CM (fun x:RE=>decide (x.id=id)) l;have h2:(l.any fun x=>decide (x.id=id))=false:=by
  rw[List.any_eq_false];intro m hm;simpa using h m hm
 rw[h2]at h1;have h3:=kH (fun x:RE=>decide (x.id=id)) l;have h4:¬0<=kE (fun x:RE=>decide (x.id=id)) l:=of_decide_eq_false h1;unfold dE;omega
def JK (sn:Bool)(S:List BC)(t:Int)(v:Vl)(p:ByteArray):Prop:=IC 155 [MD sn S,.int .i64 t,.agg (TC v)] (.str p)
theorem z4 (f:Int->Vl->ByteArray):∀(l:List RE)(q:List Vl)(m:RE)(v:Vl)(b:ByteArray),l.length=q.length->fI f (l++[m]) (q++[v]) b=if rH m v then fI f l q b else fI f l q b++KH m.id m.EA (f m.ty v)
 | [],[],m,v,b,_=>by simp only[yF,fI]
 |a::r,c::q,m,v,b,h=>by
  rw[yv,yv,fI,fI,z4 f r q m v _ (by simpa using h)]
theorem E0 (f:Int->Vl->ByteArray):∀(l:List RE)(q:List Vl)(b:ByteArray)(i:Nat),(fI f (l.take i) (q.take i) b).size<=(fI f l q b).size
 | [],q,b,i=>by cases q<;>simp[fI]
 |a::r,[],b,i=>by cases i<;>simp[fI]
 |a::r,c::q,b,0=>by simp only[List.take_zero];exact l4 f (a::r) (c::q) b
 |a::r,c::q,b,i+1=>by
  rw[List.take_succ_cons,List.take_succ_cons,fI,fI];exact E0 f r q _ i
section
variable (sn:Bool) (S:List BC) (t:Int) (x:BC) (v:Vl) (fp:Int->Vl->ByteArray) (h0:0<=t) (g:S[t.toNat]?=some x)
include h0 g
theorem rpay1 (hk:x.kind=1):JK sn S t v (tF fp x v):=by
 have g1:(S.map QC)[t.toNat]?=some (QC x):=by rw[yb,g];rfl
 simp only[QC,hk]at g1;refine mC (c:=rD) rfl rfl ?_;rw[nC];unfold tF;cases hb:v.b with
 |true=>simp[rD,-J,-y4,-y3,y0,g1,h0,hk,hb,eB]
 |false=>simp[rD,-J,-y4,-y3,y0,g1,h0,hk,hb,eB]
theorem rpay2 (hk:x.kind=2)(hi:LI v.i):JK sn S t v (tF fp x v):=by
 have g1:(S.map QC)[t.toNat]?=some (QC x):=by rw[yb,g];rfl
 have hz:=j6 v.i hi;have hb:=Ot (E1 v.i) (by unfold E1;obtain⟨i1,i2⟩:=hi;split<;>omega);simp only[IC,QC,hk]at g1 hz hb;refine mC (c:=rD) rfl rfl ?_;rw[nC];unfold tF;simp[rD,-J,-y4,-y3,y0,g1,h0,hk,hz,hb]
theorem rpay3 (hk:x.kind=3):JK sn S t v (tF fp x v):=by
 have g1:(S.map QC)[t.toNat]?=some (QC x):=by rw[yb,g];rfl
 simp only[QC,hk]at g1;refine mC (c:=rD) rfl rfl ?_;rw[nC];unfold tF;simp[rD,-J,-y4,-y3,y0,g1,h0,hk]
theorem rpay4 (hk:x.kind=4)(MQ:1<=v.id/\v.id<=1000):JK sn S t v (tF fp x v):=by
 have g1:(S.map QC)[t.toNat]?=some (QC x):=by rw[yb,g];rfl
 have hb:=Ot v.id (by omega);have h2:IntKind.u64.wrap v.id=v.id:=uG _ (by omega);simp only[IC,QC,hk]at g1 hb;refine mC (c:=rD) rfl rfl ?_;rw[nC];unfold tF;simp[rD,-J,-y4,-y3,y0,g1,h0,hk,hb,h2]
theorem rpay6 (hk:x.kind=6){m:RE}{u:Vl}(zl:x.qA.length<=9223372036854775807)(hr:v.rest=[])(hu:v.items=[u])(c1:0<=dE x.qA v.id)(ji:x.qA[(dE x.qA v.id).toNat]?=some m)(MQ:1<=v.id/\v.id<=1000)
  (hf:JK sn S m.ty u (fp m.ty u)) (ra:(tF fp x v).size<=140737488355328):JK sn S t v (tF fp x v):=by
 have g1:(S.map QC)[t.toNat]?=some (QC x):=by rw[yb,g];rfl
 have hp:tF fp x v=PN v.id++fp m.ty u:=by simp[tF,hk,ji,hu,T9]
 rw[hp,ByteArray.size_append]at ra;rw[hp];have hm:=a6 x v.id zl;have h1:=g6 v.id (by omega);have h2:IntKind.u64.wrap v.id=v.id:=uG _ (by omega);have h4:(PN v.id).size+(fp m.ty u).size<=9223372036854775807:=by omega
 simp only[IC,QC,OU,hk]at hm;generalize dE x.qA v.id=ix at *
 simp only[c1,decide_true]at hm;have bn:max ix 0=ix:=Int.max_eq_left c1;rw[bn]at hm;have g2:(x.qA.map uD)[ix.toNat]?=some (uD m):=by rw[yb,ji];rfl
 simp only[JK,IC,QC,uD,nC,hk]at g1 g2 h1 hf;refine mC (c:=rD) rfl rfl ?_;rw[nC,hu,hr];simp only[yk,yq,nC];simp[rD,-J,-y4,-y3,y0,g1,h0,hk,hm,g2,c1,h1,h2,hf,h4]
theorem rpay9 (hk:x.kind=9)(hf:∀u∈v.items,JK sn S x.elem u (fp x.elem u))(ra:(tF fp x v).size<=140737488355328):JK sn S t v (tF fp x v):=by
 have g1:(S.map QC)[t.toNat]?=some (QC x):=by rw[yb,g];rfl
 have hp:tF fp x v=NX (fp x.elem) v.items:=by simp[tF,hk]
 rw[hp]at ra ⊢;simp only[QC,hk]at g1;refine mC (c:=rD) rfl rfl ?_;rw[nC]
 match hi:v.items with
 | []=>simp[rD,-J,-y4,-y3,y0,g1,h0,hk,NX,eB]
 |u::q =>
  rw[hi]at ra;simp only[NX,ByteArray.size_append]at ra ⊢;have h3:=hf u (by rw[hi];simp);have h4:(ByteArray.mk #[1]).size+(fp x.elem u).size<=9223372036854775807:=by omega
  have h5:¬((q.length:Int)+1=0):=by omega
  simp only[JK,IC,nC]at h3;simp only[yk,nC];simp[rD,-J,-y4,-y3,y0,g1,h0,hk,h3,h4,h5]
theorem rpay7 (hk:x.kind=7)(tq:v.items.length<=9223372036854775807)(hf:∀u∈v.items,JK sn S x.elem u (fp x.elem u))(ra:(tF fp x v).size<=140737488355328):JK sn S t v (tF fp x v):=by
 have g1:(S.map QC)[t.toNat]?=some (QC x):=by rw[yb,g];rfl
 have hp:tF fp x v=xF (fp x.elem) v.items eB:=by simp[tF,hk]
 rw[hp]at ra ⊢;simp only[QC,hk]at g1;refine mC (c:=rD) rfl rfl ?_;rw[nC];simp[rD,-J,-y4,-y3,y0,g1,h0,hk];refine ZC v.items.length (fun i s=>(s.env 3).v=.ptr 3 1 0/\s.mem 3 1=some [⟨.sl sn (S.map QC),.no⟩]/\(s.env 5).v=.ptr 5 1 0/\s.mem 5 1=some (kF v)/\(s.env 7).v=.ptr 7 2 0/\s.mem 7 2=some (ID x)/\(s.env 10).v=.str (xF (fp x.elem) (v.items.take i) eB)/\(s.env 11).v=.int .i64 i)
  (fun e s=>e=.exit 1/\(s.env 10).v=.str (xF (fp x.elem) v.items eB)) (fun i hi s kk h ih wb=>?_) _ _ ?_ (fun e s h=>?_)
 ·obtain ⟨e3,m3,e5,m5,e7,m7,e10,e11⟩:=h;refine EC ?_;by_cases fa:i<v.items.length
  ·have ga:(i:Int)<v.items.length:=by omega
   have p1:v.items[i]?=some v.items[i]:=y7 fa;have t1:v.items.take (i+1)=v.items.take i++[v.items[i]]:=(yx fa).symm;have hw:=cD (i:=i);have oh:=hf _ (y8 fa);generalize v.items[i]=u at *
   have g2:(v.items.map TC)[i]?=some (TC u):=by rw[yb,p1];rfl
   have cu:∀(l m:List Vl)(b:ByteArray),xF (fp x.elem) (l++m) b=xF (fp x.elem) m (xF (fp x.elem) l b):=fun l=>by
    induction l with
    |nil=>intro m b;rfl
    |cons a r ih=>intro m b;rw[yv,xF,xF,ih]
   have hB:xF (fp x.elem) (v.items.take (i+1)) eB=xF (fp x.elem) (v.items.take i) eB++PF (fp x.elem u):=by rw[t1,cu];rfl
   have rd:(xF (fp x.elem) (v.items.take (i+1)) eB).size<=(xF (fp x.elem) v.items eB).size:=by
    have h1:=cu (v.items.take (i+1)) (v.items.drop (i+1)) eB;rw[yR]at h1;rw[h1];exact fQ _ _ _
   rw[hB,ByteArray.size_append]at rd;have oy:=tG (fp x.elem u);have wn:=gV (fp x.elem u) (by omega);have h4:(xF (fp x.elem) (v.items.take i) eB).size+(PF (fp x.elem u)).size<=9223372036854775807:=by omega
   simp only[JK,IC,nC]at g2 oh wn;simp[WK,-J,-y4,-y3,y0,e3,m3,e5,m5,e7,m7,e10,e11,ga,g2,oh,wn,h4,hw];refine ih fa _ ⟨?_,?_,?_,?_,?_,?_,?_,?_⟩
   ·simp[e3]
   ·simp[m3]
   ·simp[e5]
   ·simp[m5]
   ·simp[e7]
   ·simp[m7]
   ·rw[hB];simp
   ·simp
  ·have ga:¬ (i:Int)<v.items.length:=by omega
   rw[yB (by omega)]at e10;simp[WK,-J,-y4,-y3,y0,e5,m5,e11,ga];exact wb _ _ ⟨rfl,by simp[e10]⟩
 ·simp[hk,xF,eB]
 ·obtain⟨rfl,e10⟩:=h;simp[-J,-y4,-y3,y0,e10]
theorem rpay8 (hk:x.kind=8)(tq:v.items.length<=9223372036854775807)(xk:v.items.length=v.keys.length)(kt:∀u∈v.keys,JK sn S x.key u (fp x.key u))(hf:∀u∈v.items,JK sn S x.elem u (fp x.elem u))(ra:(tF fp x v).size<=140737488355328):JK sn S t v (tF fp x v):=by
 have g1:(S.map QC)[t.toNat]?=some (QC x):=by rw[yb,g];rfl
 have hp:tF fp x v=bG (fp x.key) (fp x.elem) v.keys v.items eB:=by simp[tF,hk]
 rw[hp]at ra ⊢;simp only[QC,hk]at g1;refine mC (c:=rD) rfl rfl ?_;rw[nC];simp[rD,-J,-y4,-y3,y0,g1,h0,hk];refine ZC v.items.length (fun i s=>(s.env 3).v=.ptr 3 1 0/\s.mem 3 1=some [⟨.sl sn (S.map QC),.no⟩]/\(s.env 5).v=.ptr 5 1 0/\s.mem 5 1=some (kF v)/\(s.env 7).v=.ptr 7 2 0/\s.mem 7 2=some (ID x)/\(s.env 12).v=.str (bG (fp x.key) (fp x.elem) (v.keys.take i) (v.items.take i) eB)/\(s.env 13).v=.int .i64 i)
  (fun e s=>e=.exit 3/\(s.env 12).v=.str (bG (fp x.key) (fp x.elem) v.keys v.items eB)) (fun i hi s kk h ih wb=>?_) _ _ ?_ (fun e s h=>?_)
 ·obtain ⟨e3,m3,e5,m5,e7,m7,zh,jm⟩:=h;refine EC ?_;by_cases fa:i<v.items.length
  ·have ga:(i:Int)<v.items.length:=by omega
   have xl:i<v.keys.length:=by omega
   have p1:v.items[i]?=some v.items[i]:=y7 fa;have p2:v.keys[i]?=some v.keys[i]:=y7 xl;have t1:v.items.take (i+1)=v.items.take i++[v.items[i]]:=(yx fa).symm;have t2:v.keys.take (i+1)=v.keys.take i++[v.keys[i]]:=(yx xl).symm;have hw:=cD (i:=i);have oh:=hf _ (y8 fa);have ru:=kt _ (y8 xl);generalize v.items[i]=u at *
   generalize v.keys[i]=ky at *
   have g2:(v.items.map TC)[i]?=some (TC u):=by rw[yb,p1];rfl
   have g3:(v.keys.map TC)[i]?=some (TC ky):=by rw[yb,p2];rfl
   have cu:∀(l q:List Vl)(k v:Vl)(b:ByteArray),l.length=q.length->bG (fp x.key) (fp x.elem) (l++[k]) (q++[v]) b=bG (fp x.key) (fp x.elem) l q b++PF (fp x.key k)++PF (fp x.elem v):=fun l=>by
    induction l with
    |nil =>
     intro q k v b h;cases q with
     |nil=>rfl
     |cons=>simp at h
    |cons a r ih =>
     intro q k v b h;cases q with
     |nil=>simp at h
     |cons c q=>rw[yv,yv,bG,bG,ih q k v _ (by simpa using h)]
   have jv:∀(l q:List Vl)(b:ByteArray)(i:Nat),(bG (fp x.key) (fp x.elem) (l.take i) (q.take i) b).size<=(bG (fp x.key) (fp x.elem) l q b).size:=fun l=>by
    induction l with
    |nil=>intro q b i;cases q<;>simp[bG]
    |cons a r ih =>
     intro q b i;cases q with
     |nil=>cases i<;>simp[bG]
     |cons c q =>
      cases i with
      |zero=>simp only[List.take_zero];exact bS _ _ (a::r) (c::q) b
      |succ i=>rw[List.take_succ_cons,List.take_succ_cons,bG,bG];exact ih q _ i
   have hB:bG (fp x.key) (fp x.elem) (v.keys.take (i+1)) (v.items.take (i+1)) eB=bG (fp x.key) (fp x.elem) (v.keys.take i) (v.items.take i) eB++PF (fp x.key ky)++PF (fp x.elem u):=by rw[t1,t2,cu _ _ _ _ _ (by simp;omega)]
   have rd:=jv v.keys v.items eB (i+1);rw[hB,ByteArray.size_append,ByteArray.size_append]at rd;have oy:=tG (fp x.elem u);have hpk:=tG (fp x.key ky);have wn:=gV (fp x.elem u) (by omega);have hsk:=gV (fp x.key ky) (by omega);have h4:(bG (fp x.key) (fp x.elem) (v.keys.take i) (v.items.take i) eB).size+(PF (fp x.key ky)).size<=9223372036854775807:=by omega
   have h5:(bG (fp x.key) (fp x.elem) (v.keys.take i) (v.items.take i) eB++PF (fp x.key ky)).size+(PF (fp x.elem u)).size<=9223372036854775807:=by rw[ByteArray.size_append];omega
   simp only[JK,IC,nC]at g2 g3 oh ru wn hsk;simp[QK,-J,-y4,-y3,y0,e3,m3,e5,m5,e7,m7,zh,jm,ga,g2,g3,oh,ru,wn,hsk,h4,h5,hw,-ByteArray.size_append];refine ih fa _ ⟨?_,?_,?_,?_,?_,?_,?_,?_⟩
   ·simp[e3]
   ·simp[m3]
   ·simp[e5]
   ·simp[m5]
   ·simp[e7]
   ·simp[m7]
   ·rw[hB];simp
   ·simp
  ·have ga:¬ (i:Int)<v.items.length:=by omega
   rw[yB (by omega),yB (by omega)]at zh;simp[QK,-J,-y4,-y3,y0,e5,m5,jm,ga];exact wb _ _ ⟨rfl,by simp[zh]⟩
 ·simp[hk,bG,eB]
 ·obtain⟨rfl,zh⟩:=h;simp[-J,-y4,-y3,y0,zh]
end
end
theorem rpay5 (sn:Bool)(S:List BC)(t:Int)(x:BC)(v:Vl)(fp:Int->Vl->ByteArray)(h0:0<=t)(g:S[t.toNat]?=some x)(hk:x.kind=5)(zl:x.qA.length<=8796093022206)(ja:v.items.length=x.qA.length)(hr:v.rest=[])(wj:upM x.qA)(MQ:∀m∈x.qA,1<=m.id/\m.id<=1000)(hiok:∀u∈v.items,u.ok)
  (hf:∀(i:Nat) m u,x.qA[i]?=some m->v.items[i]?=some u->rH m u=false->JK sn S m.ty u (fp m.ty u))
  (ra:(tF fp x v).size<=140737488355328):JK sn S t v (tF fp x v):=by
 have g1:(S.map QC)[t.toNat]?=some (QC x):=by rw[yb,g];rfl
 have hp:tF fp x v=fI fp x.qA v.items eB:=by simp[tF,hk]
 rw[hp]at ra ⊢;simp only[QC,hk]at g1;refine mC (c:=rD) rfl rfl ?_;rw[nC,hr];simp[rD,-J,-y4,-y3,y0,g1,h0,hk];refine ZC 1000 (fun j s=>∃c,c<=x.qA.length/\(∀m∈x.qA.take c,m.id<=j)/\(∀m∈x.qA.drop c,(j:Int)<m.id)/\(s.env 3).v=.ptr 3 1 0/\s.mem 3 1=some [⟨.sl sn (S.map QC),.no⟩]/\(s.env 5).v=.ptr 5 1 0/\s.mem 5 1=some [⟨.int .i64 v.kind,.no⟩,⟨.bool v.b,.no⟩,⟨.int .i64 v.i,.no⟩,⟨.str v.s,.no⟩,⟨.int .i64 v.id,.no⟩,⟨.sl v.kn (v.keys.map TC),.no⟩,⟨.sl v.xn (v.items.map TC),.no⟩,⟨.sl v.rn [],.no⟩]/\(s.env 7).v=.ptr 7 2 0/\s.mem 7 2=some (ID x)/\(s.env 14).v=.str (fI fp (x.qA.take c) (v.items.take c) eB)/\(s.env 15).v=.int .i64 ((j+1:Nat):Int))
  (fun e s=>e=.exit 5/\(s.env 14).v=.str (fI fp x.qA v.items eB)) (fun j hj s kk h ih wb=>?_) _ _ ?_ (fun e s h=>?_)
 ·obtain ⟨c,hc,ey,ro,e3,m3,e5,m5,e7,m7,mc,jd⟩:=h;refine EC ?_;obtain ⟨z,hz⟩:∃ z:Int,z=((j + 1:Nat):Int):=⟨_,rfl⟩;rw [<- hz] at jd;simp only [ID,hk] at m7;by_cases fa:j<1000
  ·have ga:z<=1000:=by omega
   have zk:IntKind.i64.wrap (z+1)=((j+1+1:Nat):Int):=by rw[IntWalk.i64_in _ (by omega)];omega
   have ki:=a6 x z (by omega);have fin1:∀s':OC,∀c',c'<=x.qA.length->(∀m∈x.qA.take c',m.id<=((j+1:Nat):Int))->(∀m∈x.qA.drop c',(((j+1:Nat):Int))<m.id)->(s'.env 3).v=.ptr 3 1 0->s'.mem 3 1=some [⟨.sl sn (S.map QC),.no⟩]->(s'.env 5).v=.ptr 5 1 0->s'.mem 5 1=s.mem 5 1->(s'.env 7).v=.ptr 7 2 0->s'.mem 7 2=s.mem 7 2->(s'.env 14).v=.str (fI fp (x.qA.take c') (v.items.take c') eB)->(s'.env 15).v=.int .i64 ((j+1+1:Nat):Int)->OL dD PC gF s' kk=some (.str (fI fp x.qA v.items eB),none):=fun s' c' q1 q2 q3 q4 q5 q6 q7 q8 q9 q10 q11=>ih fa s' ⟨c',q1,q2,q3,q4,q5,q6,by rw[q7,m5],q8,by rw[q9,m7];simp[ID,hk],q10,q11⟩
   by_cases ed:c<x.qA.length/\∀m,x.qA[c]?=some m->m.id=z
   ·obtain ⟨ed,mh⟩:=ed;have jx:c<v.items.length:=by omega
    have p1:x.qA[c]?=some x.qA[c]:=y7 ed;have p2:v.items[c]?=some v.items[c]:=y7 jx;have t1:x.qA.take (c+1)=x.qA.take c++[x.qA[c]]:=(yx ed).symm;have t2:v.items.take (c+1)=v.items.take c++[v.items[c]]:=(yx jx).symm;have d1:x.qA.drop c=x.qA[c]::x.qA.drop (c+1):=yc ed;have jy:=mh _ p1;have xm:=kZ wj p1;have huo:=hiok _ (y8 jx);have kw:=MQ _ (y8 ed);have tu:∀m∈x.qA.drop (c+1),((j+1:Nat):Int)<m.id:=fun m hm=>by
     obtain⟨i,hi,rfl⟩:=yO hm;rw[List.length_drop]at hi;have p3:x.qA[c+1+i]?=some x.qA[c+1+i]:=y7 (by omega);have:=N0 wj p1 p3 (by omega);rw[List.getElem_drop];omega
    generalize x.qA[c]=m at *
    generalize v.items[c]=u at *
    have g2:(x.qA.map uD)[c]?=some (uD m):=by rw[yb,p1];rfl
    have g3:(v.items.map TC)[c]?=some (TC u):=by rw[yb,p2];rfl
    have hB:=z4 fp (x.qA.take c) (v.items.take c) m u eB (by simp;omega);rw[<- t1,<- t2]at hB;have dy:∀m'∈x.qA.take (c+1),m'.id<=((j+1:Nat):Int):=fun m' jb=>by
     rw[t1]at jb;rcases yD.1 jb with jb|jb
     ·have:=ey m' jb;omega
     ·rw[List.mem_singleton.1 jb];omega
    have hix':dE x.qA z=c:=by rw[<- jy];exact xm
    have hsm:=G0 (SizeOf.sizeOf u+1) u m.dflt (by omega) huo;have rt:rH m u=(m.has&&u.same m.dflt):=by unfold rH;rw[Hk]
    simp only[IC,QC,OU,hk,hix']at ki;have bn:max (c:Int) 0=c:=by omega
    have ku:(0:Int)<=c:=by omega
    rw[bn]at ki;simp only[ku,decide_true]at ki;simp only[IC,uD,nC]at g2 g3 hsm;cases hh:m.has with
    |true =>
     cases hsa:u.same m.dflt with
     |true =>
      rw[hsa]at hsm;have ho:rH m u=true:=by rw[rt,hh,hsa];rfl
      rw[ho,if_pos rfl]at hB;simp[gF,-J,-y4,-y3,y0,e3,m3,e5,m5,e7,m7,mc,jd,ga,ki,g2,g3,hh,hsm];refine EC ?_;simp[LG,-J,-y4,-y3,y0,e5,m5];simp[-J,-y4,-y3,y0,CN,jd,zk];refine fin1 _ (c+1) (by omega) dy tu ?_ ?_ ?_ ?_ ?_ ?_ ?_ ?_
      ·simp[e3]
      ·simp[m3]
      ·simp[e5]
      ·simp
      ·simp[e7]
      ·simp
      ·rw[hB];simp[mc]
      ·simp
     |false =>
      rw[hsa]at hsm;have ho:rH m u=false:=by rw[rt,hh,hsa];rfl
      rw[ho,if_neg (by decide)]at hB;have hpa:=hf c m u p1 p2 ho;have rd:=E0 fp x.qA v.items eB (c+1);rw[hB,ByteArray.size_append]at rd;have oy:=XM m.id m.EA (fp m.ty u);have mj:=R4 m.id kw m.EA (fp m.ty u) (by omega);rw[jy]at mj rd hB;have h4:(fI fp (x.qA.take c) (v.items.take c) eB).size+(KH z m.EA (fp m.ty u)).size<=9223372036854775807:=by omega
      simp only[JK,IC,nC]at hpa mj;simp[gF,-J,-y4,-y3,y0,e3,m3,e5,m5,e7,m7,mc,jd,ga,ki,g2,g3,hh,hsm,hpa,mj,h4,-ByteArray.size_append];refine EC ?_;simp[LG,-J,-y4,-y3,y0,e5,m5];simp[-J,-y4,-y3,y0,CN,jd,zk];refine fin1 _ (c+1) (by omega) dy tu ?_ ?_ ?_ ?_ ?_ ?_ ?_ ?_
      ·simp[e3]
      ·simp[m3]
      ·simp[e5]
      ·simp
      ·simp[e7]
      ·simp
      ·rw[hB];simp
      ·simp
    |false =>
     have ho:rH m u=false:=by rw[rt,hh];rfl
     rw[ho,if_neg (by decide)]at hB;have hpa:=hf c m u p1 p2 ho;have rd:=E0 fp x.qA v.items eB (c+1);rw[hB,ByteArray.size_append]at rd;have oy:=XM m.id m.EA (fp m.ty u);have mj:=R4 m.id kw m.EA (fp m.ty u) (by omega);rw[jy]at mj rd hB;have h4:(fI fp (x.qA.take c) (v.items.take c) eB).size+(KH z m.EA (fp m.ty u)).size<=9223372036854775807:=by omega
     simp only[JK,IC,nC]at hpa mj;simp[gF,-J,-y4,-y3,y0,e3,m3,e5,m5,e7,m7,mc,jd,ga,ki,g2,g3,hh,hpa,mj,h4,-ByteArray.size_append];refine EC ?_;simp[LG,-J,-y4,-y3,y0,e5,m5];simp[-J,-y4,-y3,y0,CN,jd,zk];refine fin1 _ (c+1) (by omega) dy tu ?_ ?_ ?_ ?_ ?_ ?_ ?_ ?_
     ·simp[e3]
     ·simp[m3]
     ·simp[e5]
     ·simp
     ·simp[e7]
     ·simp
     ·rw[hB];simp
     ·simp
   ·have zc:∀m∈x.qA,m.id≠z:=fun m hm he=>by
     obtain⟨i,hi,rfl⟩:=yO hm;rcases Nat.lt_trichotomy i c with h1|h1|h1
     ·have:=ey x.qA[i] (by rw[List.mem_take_iff_getElem];exact⟨i,by omega,rfl⟩);omega
     ·subst h1;exact ed ⟨hi,fun m' jb=>by rw[y7 hi]at jb;injection jb with jb;rw[<- jb];exact he⟩
     ·have hcl':c<x.qA.length:=by omega
      have q1:=ro x.qA[c] (by rw[yc hcl'];exact yl);have q2:=N0 wj (y7 hcl') (y7 hi) h1;omega
    simp only[IC,QC,OU,hk,Bh zc]at ki;have tu:∀m∈x.qA.drop c,((j+1:Nat):Int)<m.id:=fun m hm=>by
     have q1:=ro m hm;have q2:=zc m (List.mem_of_mem_drop hm);omega
    simp at ki;simp[gF,-J,-y4,-y3,y0,e3,m3,e5,m5,e7,m7,mc,jd,ga,ki];refine EC ?_;simp[LG,-J,-y4,-y3,y0,e5,m5];simp[-J,-y4,-y3,y0,CN,jd,zk];refine fin1 _ c hc (fun m hm=>by have:=ey m hm;omega) tu ?_ ?_ ?_ ?_ ?_ ?_ ?_ ?_
    ·simp[e3]
    ·simp[m3]
    ·simp[e5]
    ·simp
    ·simp[e7]
    ·simp
    ·simp[mc]
    ·simp
  ·have ga:¬ z<=1000:=by omega
   have hcn:c=x.qA.length:=by
    rcases Nat.lt_or_ge c x.qA.length with h1|h1
    ·have q1:=ro x.qA[c] (by rw[yc h1];exact yl);have q2:=MQ x.qA[c] (y8 h1);omega
    ·omega
   subst hcn;rw[yB (by omega),yB (by omega)]at mc;simp[gF,-J,-y4,-y3,y0,jd,ga];exact wb _ _ ⟨rfl,by simp[mc]⟩
 ·refine ⟨0,by omega,by simp,fun m hm=>?_,?_,?_,?_,?_,?_,?_,?_,?_⟩
  ·have:=MQ m (by simpa using hm);simp;omega
  ·simp
  ·simp
  ·simp
  ·simp
  ·simp
  ·simp[ID,hk]
  ·simp[fI,eB]
  ·simp
 ·obtain⟨rfl,mc⟩:=h;simp[-J,-y4,-y3,y0,mc]
end Go.Proofs.YthnefkpplcmjdaaGreat
