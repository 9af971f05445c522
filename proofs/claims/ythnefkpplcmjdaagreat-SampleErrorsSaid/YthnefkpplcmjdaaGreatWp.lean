/- A part of the proof. -/
import Derived.Test.YthnefkpplcmjdaaGreatWo
set_option linter.all false
set_option maxRecDepth 100000
set_option maxHeartbeats 8000000
open List renaming getElem?_eq_getElem → y7, getElem_mem → y8, getElem?_map → yb, mem_cons → yh, map_cons → yk, mem_cons_of_mem → ym, getElem?_eq_some_iff → yn, cons_append → yv, mem_map → yz, length_cons → yE, nil_append → yF, getElem_of_mem → yO, mem_of_getElem? → yQ
open Bool renaming and_eq_true → y9, false_eq_true → yr
open Nat renaming le_refl → yg
namespace Go.Proofs.YthnefkpplcmjdaaGreat
open Go
theorem Pt {f g:Int->Vl->ByteArray}:∀(l:List RE)(q:List Vl)(b:ByteArray),(∀u∈q,∀t,f t u=g t u)->fI f l q b=fI g l q b
 | [],q,b,_=>by cases q<;>rfl
 |m::r,[],b,_=>rfl
 |m::r,v::q,b,h=>by rw[fI,fI,h v (by simp),Pt r q _ fun u hu=>h u (by simp[hu])]
theorem B7 {f g:Vl->ByteArray}:∀(l:List Vl)(b:ByteArray),(∀u∈l,f u=g u)->xF f l b=xF g l b
 | [],b,_=>rfl
 |v::r,b,h=>by rw[xF,xF,h v (by simp),B7 r _ fun u hu=>h u (by simp[hu])]
theorem Lr {f g f' g':Vl->ByteArray}:∀(l q:List Vl)(b:ByteArray),(∀u∈l,f u=f' u)->(∀u∈q,g u=g' u)->bG f g l q b=bG f' g' l q b
 | [],q,b,_,_=>by cases q<;>rfl
 |k::r,[],b,_,_=>rfl
 |k::r,v::q,b,h,h'=>by rw[bG,bG,h k (by simp),h' v (by simp),Lr r q _ (fun u hu=>h u (by simp[hu])) fun u hu=>h' u (by simp[hu])]
theorem St {f g:Int->Vl->Nat}:∀(l:List RE)(q:List Vl)(b:Nat),(∀u∈q,∀t,f t u=g t u)->tK f l q b=tK g l q b
 | [],q,b,_=>by cases q<;>rfl
 |m::r,[],b,_=>rfl
 |m::r,v::q,b,h=>by rw[tK,tK,h v (by simp),St r q _ fun u hu=>h u (by simp[hu])]
theorem N7 {f g:Vl->Nat}:∀(l:List Vl)(b:Nat),(∀u∈l,f u=g u)->nH f l b=nH g l b
 | [],b,_=>rfl
 |v::r,b,h=>by rw[nH,nH,h v (by simp),N7 r _ fun u hu=>h u (by simp[hu])]
theorem Zr {f g f' g':Vl->Nat}:∀(l q:List Vl)(b:Nat),(∀u∈l,f u=f' u)->(∀u∈q,g u=g' u)->gJ f g l q b=gJ f' g' l q b
 | [],q,b,_,_=>by cases q<;>rfl
 |k::r,[],b,_,_=>rfl
 |k::r,v::q,b,h,h'=>by rw[gJ,gJ,h k (by simp),h' v (by simp),Zr r q _ (fun u hu=>h u (by simp[hu])) fun u hu=>h' u (by simp[hu])]
theorem Rt {f g:Int->Vl->ByteArray}(x:BC)(v:Vl)(h1:∀u∈v.keys,∀t,f t u=g t u)(h2:∀u∈v.items,∀t,f t u=g t u):tF f x v=tF g x v:=by
 unfold tF;rw[Pt _ _ _ h2,B7 _ _ fun u hu=>h2 u hu x.elem,Lr _ _ _ (fun u hu=>h1 u hu x.key) fun u hu=>h2 u hu x.elem];have e1:T9 f x.qA[(dE x.qA v.id).toNat]? v.items=T9 g x.qA[(dE x.qA v.id).toNat]? v.items:=by
  cases x.qA[(dE x.qA v.id).toNat]? with
  |none=>rfl
  |some m =>
   cases hi:v.items with
   |nil=>rfl
   |cons u q=>exact h2 u (by simp[hi]) m.ty
 have e2:NX (f x.elem) v.items=NX (g x.elem) v.items:=by
  cases hi:v.items with
  |nil=>rfl
  |cons u q=>simp only[NX];rw[h2 u (by simp[hi])]
 rw[e1,e2]
theorem Qr {f g:Int->Vl->Nat}(x:BC)(v:Vl)(h1:∀u∈v.keys,∀t,f t u=g t u)(h2:∀u∈v.items,∀t,f t u=g t u):OJ f x v=OJ g x v:=by
 unfold OJ;rw[St _ _ _ h2,N7 _ _ fun u hu=>h2 u hu x.elem,Zr _ _ _ (fun u hu=>h1 u hu x.key) fun u hu=>h2 u hu x.elem];have e1:La f x.qA[(dE x.qA v.id).toNat]? v.items=La g x.qA[(dE x.qA v.id).toNat]? v.items:=by
  cases x.qA[(dE x.qA v.id).toNat]? with
  |none=>rfl
  |some m =>
   cases hi:v.items with
   |nil=>rfl
   |cons u q=>exact h2 u (by simp[hi]) m.ty
 have e2:R8 (f x.elem) v.items=R8 (g x.elem) v.items:=by
  cases hi:v.items with
  |nil=>rfl
  |cons u q=>exact h2 u (by simp[hi]) x.elem
 rw[e1,e2]
theorem i4 {f g:Int->Vl->Bool}:∀(l:List RE)(q:List Vl),(∀u∈q,∀t,f t u=g t u)->nG f l q=nG g l q
 | [],q,_=>by cases q<;>rfl
 |m::r,[],_=>rfl
 |m::r,v::q,h=>by rw[nG,nG,h v (by simp),i4 r q fun u hu=>h u (by simp[hu])]
theorem R9 {f g:Vl->Bool}:∀(l:List Vl),(∀u∈l,f u=g u)->l.all f=l.all g
 | [],_=>rfl
 |v::r,h=>by rw[List.all_cons,List.all_cons,h v (by simp),R9 r fun u hu=>h u (by simp[hu])]
theorem Ir {f g:Int->Vl->Bool}(x:BC)(v:Vl)(h1:∀u∈v.keys,∀t,f t u=g t u)(h2:∀u∈v.items,∀t,f t u=g t u):aO f x v=aO g x v:=by
 unfold aO;rw[i4 _ _ h2,R9 _ fun u hu=>h2 u hu x.elem,R9 v.keys fun u hu=>h1 u hu x.key];have e1:∀a b,CG f x.qA[(dE x.qA v.id).toNat]? a b v.items=CG g x.qA[(dE x.qA v.id).toNat]? a b v.items:=fun a b=>by
  cases x.qA[(dE x.qA v.id).toNat]? with
  |none =>
   match v.items with
   | []=>rfl
   | [_]=>rfl
   |_::_::_=>rfl
  |some m =>
   match hi:v.items with
   | []=>rfl
   | [u]=>simp only[CG];rw[h2 u (by simp[hi])]
   |_::_::_=>rfl
 rw[e1]
theorem s4 (S:List BC):∀(n k:Nat)(t:Int)(v:Vl),SizeOf.sizeOf v<n->SizeOf.sizeOf v<k->ZJ S n t v=ZJ S k t v:=by
 intro n
 induction n with
 |zero=>intro k t v h;omega
 |succ n ih =>
  intro k t v h1 h2;obtain⟨k,rfl⟩:∃j,k=j+1:=⟨k-1,by omega⟩;rw[ZJ,ZJ];cases S[t.toNat]? with
  |none=>rfl
  |some x=>exact Rt x v (fun u hu t'=>ih k t' u (by have:=Vl.xA v u hu;omega) (by have:=Vl.xA v u hu;omega)) (fun u hu t'=>ih k t' u (by have:=Vl.jA v u hu;omega) (by have:=Vl.jA v u hu;omega))
theorem P3 (S:List BC):∀(n k:Nat)(t:Int)(v:Vl),SizeOf.sizeOf v<n->SizeOf.sizeOf v<k->US S n t v=US S k t v:=by
 intro n
 induction n with
 |zero=>intro k t v h;omega
 |succ n ih =>
  intro k t v h1 h2;obtain⟨k,rfl⟩:∃j,k=j+1:=⟨k-1,by omega⟩;rw[US,US];cases S[t.toNat]? with
  |none=>rfl
  |some x=>exact Qr x v (fun u hu t'=>ih k t' u (by have:=Vl.xA v u hu;omega) (by have:=Vl.xA v u hu;omega)) (fun u hu t'=>ih k t' u (by have:=Vl.jA v u hu;omega) (by have:=Vl.jA v u hu;omega))
theorem G3 (S:List BC):∀(n k:Nat)(t:Int)(v:Vl),SizeOf.sizeOf v<n->SizeOf.sizeOf v<k->EF S n t v=EF S k t v:=by
 intro n
 induction n with
 |zero=>intro k t v h;omega
 |succ n ih =>
  intro k t v h1 h2;obtain⟨k,rfl⟩:∃j,k=j+1:=⟨k-1,by omega⟩;rw[EF,EF];cases S[t.toNat]? with
  |none=>rfl
  |some x =>
   have:=Ir (f:=EF S n) (g:=EF S k) x v (fun u hu t'=>ih k t' u (by have:=Vl.xA v u hu;omega) (by have:=Vl.xA v u hu;omega)) (fun u hu t'=>ih k t' u (by have:=Vl.jA v u hu;omega) (by have:=Vl.jA v u hu;omega));simp only[this]
noncomputable def hJ (S:List BC)(t:Int)(v:Vl):ByteArray:=ZJ S (SizeOf.sizeOf v+1) t v
noncomputable def LM (S:List BC)(t:Int)(v:Vl):Nat:=US S (SizeOf.sizeOf v+1) t v
theorem Zj (S:List BC)(t:Int)(v:Vl):hJ S t v=match S[t.toNat]? with|some x=>tF (hJ S) x v|none=>eB:=by
 unfold hJ;rw[ZJ];cases S[t.toNat]? with
 |none=>rfl
 |some x=>exact Rt x v (fun u hu t'=>s4 S _ _ t' u (by have:=Vl.xA v u hu;omega) (by omega)) (fun u hu t'=>s4 S _ _ t' u (by have:=Vl.jA v u hu;omega) (by omega))
theorem Bd (S:List BC)(t:Int)(v:Vl):LM S t v=match S[t.toNat]? with|some x=>OJ (LM S) x v|none=>1:=by
 unfold LM;rw[US];cases S[t.toNat]? with
 |none=>rfl
 |some x=>exact Qr x v (fun u hu t'=>P3 S _ _ t' u (by have:=Vl.xA v u hu;omega) (by omega)) (fun u hu t'=>P3 S _ _ t' u (by have:=Vl.jA v u hu;omega) (by omega))
theorem Jq (S:List BC)(t:Int)(v:Vl):tH S t v=(!mD S.length t&&(match S[t.toNat]? with
  |some x=>decide (v.kind=x.kind)&&WF v&&aO (tH S) x v
  |none=>false)):=by
 unfold tH;rw[EF];cases S[t.toNat]? with
 |none=>rfl
 |some x =>
  have:=Ir (f:=EF S (SizeOf.sizeOf v)) (g:=tH S) x v (fun u hu t'=>G3 S _ _ t' u (by have:=Vl.xA v u hu;omega) (by omega)) (fun u hu t'=>G3 S _ _ t' u (by have:=Vl.jA v u hu;omega) (by omega));simp only[this];rfl
theorem B3 (f:Vl->ByteArray):∀(l:List Vl)(b:ByteArray)(u:Vl),u∈l->(f u).size<=(xF f l b).size
 |v::r,b,u,h=>by
  rw[xF];rcases yh.1 h with rfl|h
  ·have h1:=fQ f r (b++PF (f u));have h2:=tG (f u);rw[ByteArray.size_append]at h1;omega
  ·exact B3 f r _ u h
theorem i8 (f g:Vl->ByteArray):∀(l q:List Vl)(b:ByteArray),l.length=q.length->(∀u∈l,(f u).size<=(bG f g l q b).size)/\∀u∈q,(g u).size<=(bG f g l q b).size
 | [],[],b,_=>by simp
 |k::r,v::q,b,h=>by
  obtain⟨h1,h2⟩:=i8 f g r q (b++PF (f k)++PF (g v)) (by simpa using h);have h3:=bS f g r q (b++PF (f k)++PF (g v));rw[ByteArray.size_append,ByteArray.size_append]at h3;have h4:=tG (f k);have h5:=tG (g v);rw[bG];refine⟨fun u hu=>?_,fun u hu=>?_⟩
  ·rcases yh.1 hu with rfl | hu
   ·omega
   ·exact h1 u hu
  ·rcases yh.1 hu with rfl | hu
   ·omega
   ·exact h2 u hu
theorem Il {l:List zX}{id:Int}(h:0<=ZP l id):∃m∈l,m.id=id:=by
 have h1:=CM (fun x:zX=>decide (x.id=id)) l;have h2:(l.any fun x=>decide (x.id=id))=true:=by rw[<- h1];exact decide_eq_true h
 obtain⟨m,hm,he⟩:=List.any_eq_true.1 h2;exact⟨m,hm,by simpa using he⟩
theorem Ch {l:List RE}{id:Int}(h:0<=dE l id):∃m∈l,m.id=id:=by
 have h1:=CM (fun x:RE=>decide (x.id=id)) l;have h2:(l.any fun x=>decide (x.id=id))=true:=by rw[<- h1];exact decide_eq_true h
 obtain⟨m,hm,he⟩:=List.any_eq_true.1 h2;exact⟨m,hm,by simpa using he⟩
theorem Xn (sn:Bool)(S:List BC)(hS:NQ S)(xb:∀x∈S,x.qA.length<=12):∀(n:Nat)(t:Int)(v:Vl),EF S n t v=true->v.ok->v.i64->(ZJ S n t v).size<=140737488355328->HK sn S t v (ZJ S n t v) (US S n t v)/\JK sn S t v (ZJ S n t v):=by
 intro n
 induction n with
 |zero=>intro t v h;simp[EF]at h
 |succ n ih =>
  intro t v h la ub ra;rw[EF]at h;simp only[y9,Bool.not_eq_true']at h;obtain⟨ho,h⟩:=h;obtain⟨h0,sa⟩:0<=t/\¬(S.length:Int)<=t:=by
   simp[mD]at ho;omega
  have fa:t.toNat<S.length:=by omega
  have gc:S[t.toNat]∈S:=y8 _;have g:S[t.toNat]?=some S[t.toNat]:=y7 fa;rw[ZJ]at ra ⊢;rw[US];rw[g]at h ra ⊢;simp only at ra ⊢;generalize S[t.toNat]=x at *
  obtain⟨dh,gj⟩:=hS x gc;have rx:=xb x gc;have wl:=dH dh;obtain⟨wj,MQ⟩:=O6 dh;simp only[y9,decide_eq_true_eq]at h;obtain⟨⟨hk,hz⟩,wa⟩:=h;have hok':=la;rw[Vl.NA]at la;rw[Vl.KA]at ub;obtain⟨o1,o2,o3,o4,o5,o6⟩:=la;obtain⟨j1,j2,j3⟩:=ub;have kf:∀u∈v.items,∀t',EF S n t' u=true->(ZJ S n t' u).size<=140737488355328->HK sn S t' u (ZJ S n t' u) (US S n t' u)/\JK sn S t' u (ZJ S n t' u):=fun u hu t' hf hs=>ih t' u hf (o6 u hu) (j3 u hu) hs
  have uc:∀u∈v.keys,∀t',EF S n t' u=true->(ZJ S n t' u).size<=140737488355328->HK sn S t' u (ZJ S n t' u) (US S n t' u)/\JK sn S t' u (ZJ S n t' u):=fun u hu t' hf hs=>ih t' u hf (o5 u hu) (j2 u hu) hs
  have ec:x.qA.length<=9223372036854775807:=gj.1.2.1;have ml:∀m∈x.qA,m.dflt.ok:=fun m hm=>(gj.1.2.2 m hm).1
  unfold aO at wa;have bm:=ra;unfold tF at bm;rcases kinds x.kind with e|e|e|e|e|e|e|e|e|e
  all_goals try simp only[e]at wa bm
  all_goals try simp at wa bm
  ·exact⟨pay1 sn S t x v _ _ h0 g e,rpay1 sn S t x v _ h0 g e⟩
  ·exact⟨pay2 sn S t x v _ _ h0 g e j1,rpay2 sn S t x v _ h0 g e j1⟩
  ·exact⟨pay3 sn S t x v _ _ h0 g e,rpay3 sn S t x v _ h0 g e⟩
  ·obtain⟨m,hm,he⟩:=Il wa;have ly:=Xm dh m hm;rw[he]at ly;exact⟨pay4 sn S t x v _ _ h0 g e ly,rpay4 sn S t x v _ h0 g e ly⟩
  ·have ur:∀(i:Nat) m u,x.qA[i]?=some m->v.items[i]?=some u->rH m u=false->HK sn S m.ty u (ZJ S n m.ty u) (US S n m.ty u)/\JK sn S m.ty u (ZJ S n m.ty u):=fun i m u p1 p2 hb=>by
    have gv:=gU (ZJ S n) x.qA v.items i m u p1 p2 hb;have tn:=pU _ eB _ gv;rw[<- CR]at tn;have tt:=XM m.id m.EA (ZJ S n m.ty u);exact kf u (yQ p2) m.ty (EQ wa.2 i m u p1 p2) (by simp only at tn;omega)
   exact⟨pay5 sn S t x v _ _ h0 g e wa.1.1 wa.1.2 rx wj MQ ml (fun i m u p1 p2 hb=>(ur i m u p1 p2 hb).1) ra,rpay5 sn S t x v _ h0 g e (by omega) wa.1.1 wa.1.2 wj MQ o6 (fun i m u p1 p2 hb=>(ur i m u p1 p2 hb).2) ra⟩
  ·obtain ⟨m,u,g1,g2,g3,g4,g5⟩:=kP wa;have g3:0<=dE x.qA v.id:=by simpa using g3
   obtain⟨m',jb,he⟩:=Ch g3;have ly:=MQ m' jb;rw[he]at ly;rw[g1,g2]at bm;simp only[T9]at bm;have hp:=kf u (by rw[g2];simp) m.ty g5 (by omega);exact⟨pay6 sn S t x v _ _ h0 g e ec (by simpa using g4) g2 g3 g1 ly hp.1 ra,rpay6 sn S t x v _ h0 g e ec (by simpa using g4) g2 g3 g1 ly hp.2 ra⟩
  ·have hp:∀ u∈v.items,HK sn S x.elem u (ZJ S n x.elem u) (US S n x.elem u)/\JK sn S x.elem u (ZJ S n x.elem u):=fun u hu=>kf u hu x.elem (wa.2 u hu) (by have:=B3 (ZJ S n x.elem) v.items eB u hu; omega)
   exact⟨pay7 sn S t x v _ _ h0 g e o2 (fun u hu=>(hp u hu).1) ra,rpay7 sn S t x v _ h0 g e o2 (fun u hu=>(hp u hu).2) ra⟩
  ·obtain ⟨m1,m2⟩:=i8 (ZJ S n x.key) (ZJ S n x.elem) v.keys v.items eB wa.1.1.1.2.symm;have hp:∀ u∈v.items,HK sn S x.elem u (ZJ S n x.elem u) (US S n x.elem u)/\JK sn S x.elem u (ZJ S n x.elem u):=fun u hu=>kf u hu x.elem (wa.2 u hu) (by have:=m2 u hu; omega)
   have hq:∀u∈v.keys,HK sn S x.key u (ZJ S n x.key u) (US S n x.key u)/\JK sn S x.key u (ZJ S n x.key u):=fun u hu=>uc u hu x.key (wa.1.1.2 u hu) (by have:=m1 u hu;omega)
   exact⟨pay8 sn S t x v _ _ h0 g e o2 wa.1.1.1.2 (fun u hu=>(hq u hu).1) (fun u hu=>(hp u hu).1) ra,rpay8 sn S t x v _ h0 g e o2 wa.1.1.1.2 (fun u hu=>(hq u hu).2) (fun u hu=>(hp u hu).2) ra⟩
  ·have hp:∀u∈v.items,HK sn S x.elem u (ZJ S n x.elem u) (US S n x.elem u)/\JK sn S x.elem u (ZJ S n x.elem u):=fun u hu=>kf u hu x.elem (wa.2 u hu) (by
    match hi:v.items,hu with
    |w::q,hu =>
     have hl:q=[]:=by
      have:=wa.1;rw[hi]at this;simpa using this
     subst hl;rw[hi]at bm;simp only[NX,ByteArray.size_append]at bm;rw[List.mem_singleton.1 hu];omega)
   exact⟨pay9 sn S t x v _ _ h0 g e (fun u hu=>(hp u hu).1) ra,rpay9 sn S t x v _ h0 g e (fun u hu=>(hp u hu).2) ra⟩
  ·exact absurd wl e
section
theorem t7:∀{a b c:List UInt8},Op.bytesLess a b=true->Op.bytesLess b c=true->Op.bytesLess a c=true
 |_,[],_,h,_=>by simp[Op.bytesLess]at h
 |_,_::_,[],_,h=>by simp[Op.bytesLess]at h
 | [],_::_,_::_,_,_=>rfl
 |x::r,y::q,z::t,h1,h2=>by
  simp only[Op.bytesLess,Bool.or_eq_true,y9,decide_eq_true_eq,beq_iff_eq,UInt8.lt_iff_toNat_lt]at h1 h2 ⊢;rcases h1 with h1|⟨rfl,h1⟩<;>rcases h2 with h2|⟨rfl,h2⟩
  ·exact .inl (by omega)
  ·exact .inl h1
  ·exact .inl h2
  ·exact .inr ⟨rfl,t7 h1 h2⟩
theorem Q3:∀{a b c:List UInt8},Op.bytesLess a b=false->Op.bytesLess b c=false->Op.bytesLess a c=false
 |_,_,[],_,_=>by cases ‹List UInt8›<;>simp[Op.bytesLess]
 |_,[],_::_,_,h=>by simp[Op.bytesLess]at h
 | [],_::_,_::_,h,_=>by simp[Op.bytesLess]at h
 |x::r,y::q,z::t,h1,h2=>by
  simp only[Op.bytesLess,Bool.or_eq_false_iff,Bool.and_eq_false_imp,decide_eq_false_iff_not,beq_iff_eq,UInt8.lt_iff_toNat_lt]at h1 h2 ⊢;obtain⟨h1,th⟩:=h1;obtain⟨h2,di⟩:=h2;refine⟨by omega,fun e=>?_⟩;subst e;have e1:x=y:=by
   apply UInt8.toNat_inj.1;omega
  subst e1;exact Q3 (th rfl) (di rfl)
theorem W3:∀(a b c:List UInt8),Op.bytesLess (a++b) (a++c)=Op.bytesLess b c
 | [],b,c=>rfl
 |x::r,b,c=>by
  have:=W3 r b c;simp[Op.bytesLess,this]
def ZH (p q:ByteArray):Bool:=decide (p.size<q.size)||(decide (p.size=q.size)&&fO p q)
theorem A4 (p:ByteArray):ZH p p=false:=by simp[ZH,fO,sZ]
theorem w9 {p q r:ByteArray}(h1:ZH p q=true)(h2:ZH q r=true):ZH p r=true:=by
 simp only[ZH,fO,Bool.or_eq_true,y9,decide_eq_true_eq]at h1 h2 ⊢;rcases h1 with h1|⟨e1,h1⟩<;>rcases h2 with h2|⟨e2,h2⟩
 ·exact .inl (by omega)
 ·exact .inl (by omega)
 ·exact .inl (by omega)
 ·exact .inr ⟨by omega,t7 h1 h2⟩
theorem Sp {p q r:ByteArray}(h1:ZH p q=false)(h2:ZH q r=false):ZH p r=false:=by
 simp only[ZH,fO,Bool.or_eq_false_iff,Bool.and_eq_false_imp,decide_eq_false_iff_not,decide_eq_true_eq]at h1 h2 ⊢;obtain⟨h1,th⟩:=h1;obtain⟨h2,di⟩:=h2;exact⟨by omega,fun e=>Q3 (th (by omega)) (di (by omega))⟩
theorem Dp (a p q:ByteArray):ZH (a++p) (a++q)=ZH p q:=by
 have h:fO (a++p) (a++q)=fO p q:=by
  unfold fO;rw[ByteArray.toList_eq,ByteArray.toList_eq,ByteArray.toList_eq,ByteArray.toList_eq,ByteArray.data_append,ByteArray.data_append,Array.toList_append,Array.toList_append];exact W3 _ _ _
 unfold ZH;rw[h,ByteArray.size_append,ByteArray.size_append];have e1:decide (a.size+p.size<a.size+q.size)=decide (p.size<q.size):=decide_eq_decide.2 (by omega);have e2:decide (a.size+p.size=a.size+q.size)=decide (p.size=q.size):=decide_eq_decide.2 (by omega);rw[e1,e2]
theorem P4 {p q:ByteArray}(h:q.size<p.size):ZH p q=false:=by
 simp only[ZH,Bool.or_eq_false_iff,decide_eq_false_iff_not,Bool.and_eq_false_imp,decide_eq_true_eq];exact⟨by omega,fun e=>by omega⟩
structure LT where
 known:Bool
 long:Bool
 p:ByteArray
 v:Vl
 d:Nat
def LT.unk:LT:=⟨false,false,eB,Vl.zero,0⟩
def LT.tC:LT:=⟨true,true,eB,Vl.zero,0⟩
def LF (e:LT):List AV:=[.bool e.known,.bool e.long,.str e.p,.int .i64 e.v.kind,.bool e.v.b,.int .i64 e.v.i,.str e.v.s,.int .i64 e.v.id,.sl e.v.kn (e.v.keys.map TC),.sl e.v.xn (e.v.items.map TC),.sl e.v.rn (e.v.rest.map qN)]
def nF (a b:LT):Bool:=if !a.known||!b.known then a.known&&!b.known else if a.long||b.long then !a.long&&b.long else ZH a.p b.p
theorem MF:XK nF where
 irr a:=by
  unfold nF;cases a.known<;>cases a.long<;>simp[A4]
 tr a b c h1 h2:=by
  unfold nF at *
  cases h3:a.known<;>cases h4:b.known<;>cases h5:c.known<;>cases h6:a.long<;>cases h7:b.long<;>cases h8:c.long<;>simp[h3,h4,h5,h6,h7,h8]at h1 h2 ⊢
  exact w9 h1 h2
 neg a b c h1 h2:=by
  unfold nF at *
  cases h3:a.known<;>cases h4:b.known<;>cases h5:c.known<;>cases h6:a.long<;>cases h7:b.long<;>cases h8:c.long<;>simp[h3,h4,h5,h6,h7,h8]at h1 h2 ⊢
  exact Sp h1 h2
noncomputable def TN (S:List BC)(t:Int)(v:Vl):LT:=if 4096<(hJ S t v).size then .tC else⟨true,false,hJ S t v,v,LM S t v⟩
def j8 (low high:Int):Int:=if 0<low then low else if high<0 then high else 0
def wP (x:BC):Vl :=
 if x.kind=2 then .of 2 false (j8 x.low x.high) eB 0
 else if x.kind=4 then .of 4 false 0 eB (match x.tA with|m::_=>m.id | []=>0)
 else .of x.kind false 0 eB 0
abbrev TS:=Nat->LT
def DJ (l:TS):List RE->Bool->List Vl->Option (Bool×List Vl)
 | [],lg,vs=>some (lg,vs)
 | m::r,lg,vs=>if m.has then DJ l r lg (vs++[m.dflt])else if(l m.ty.toNat).known then DJ l r (lg||(l m.ty.toNat).long) (vs++[(l m.ty.toNat).v])else none
def NR (k:Int)(items:List Vl):Vl:=.mk k false 0 eB 0 true [] items.isEmpty items true []
def kR (k id:Int)(u:Vl):Vl:=.mk k false 0 eB id true [] false [u] true []
noncomputable def II (S:List BC)(t:Int)(k:Int)(m:RE)(e:LT):LT:=if e.known&&!e.long then TN S t (kR k m.id e.v)else e
noncomputable def FJ (S:List BC)(t:Int)(k:Int)(l:TS):List RE->LT->LT
 | [],b=>b
 |m::r,b=>FJ S t k l r (if nF (II S t k m (l m.ty.toNat)) b then II S t k m (l m.ty.toNat)else b)
noncomputable def wR (S:List BC)(t:Int)(x:BC)(l:TS):LT :=
 if x.kind=5 then(match DJ l x.qA false []with
  |none=>.unk
  |some (true,_)=>.tC
  |some (false,vs)=>TN S t (NR 5 vs))
 else if x.kind=6 then FJ S t 6 l x.qA .unk
 else TN S t (wP x)
noncomputable def BF (S:List BC)(i:Nat)(l:TS):LT:=match S[i]? with
 |some x=>wR S i x l
 |none=>.unk
theorem sV (l:TS):∀(a b:List RE)(lg:Bool)(vs:List Vl),DJ l (a++b) lg vs=(DJ l a lg vs).bind fun q=>DJ l b q.1 q.2
 | [],b,lg,vs=>rfl
 |m::r,b,lg,vs=>by
  rw[yv,DJ,DJ];split
  ·exact sV l r b lg _
  ·split
   ·exact sV l r b _ _
   ·rfl
def MH (l:TS)(m:RE):Vl:=if m.has then m.dflt else(l m.ty.toNat).v
theorem GN (l:TS):∀(a:List RE)(lg:Bool)(vs:List Vl)(g:Bool)(ws:List Vl),DJ l a lg vs=some (g,ws)->ws=vs++a.map (MH l)/\(∀m∈a,m.has=false->(l m.ty.toNat).known=true)/\(g=false↔lg=false/\∀m∈a,m.has=false->(l m.ty.toNat).long=false)
 | [],lg,vs,g,ws,h=>by
  injection h with h;injection h with h1 h2;subst h1;subst h2;simp
 |m::r,lg,vs,g,ws,h=>by
  rw[DJ]at h;split at h
  ·rename_i hh;obtain ⟨h1,h2,h3⟩:=GN l r lg _ g ws h;refine ⟨by rw [h1]; simp [MH,hh],fun m' jb hf=>?_,?_⟩
   ·rcases yh.1 jb with rfl | jb
    ·rw[hh]at hf;cases hf
    ·exact h2 m' jb hf
   ·rw [h3];refine and_congr Iff.rfl ⟨fun h m' jb hf=>?_,fun h m' jb=>h m' (ym _ jb)⟩;rcases yh.1 jb with rfl | jb
    ·rw[hh]at hf;cases hf
    ·exact h m' jb hf
  ·rename_i hh;have hh:m.has=false:=by simpa using hh
   split at h
   ·rename_i zd;obtain ⟨h1,h2,h3⟩:=GN l r _ _ g ws h;refine ⟨by rw [h1]; simp [MH,hh],fun m' jb hf=>?_,?_⟩
    ·rcases yh.1 jb with rfl | jb
     ·exact zd
     ·exact h2 m' jb hf
    ·rw [h3,Bool.or_eq_false_iff];constructor
     ·rintro ⟨⟨q1,q2⟩,q3⟩;refine ⟨q1,fun m' jb hf=>?_⟩;rcases yh.1 jb with rfl | jb
      ·exact q2
      ·exact q3 m' jb hf
     ·rintro⟨q1,q2⟩;exact⟨⟨q1,q2 m (by simp) hh⟩,fun m' jb=>q2 m' (ym _ jb)⟩
   ·cases h
theorem DW {l l':TS}:∀(a:List RE)(lg:Bool)(vs:List Vl),(∀m∈a,m.has=false->l m.ty.toNat=l' m.ty.toNat)->DJ l a lg vs=DJ l' a lg vs
 | [],lg,vs,_=>rfl
 |m::r,lg,vs,h=>by
  rw[DJ,DJ];cases hh:m.has with
  |true=>simp only[if_true];exact DW r _ _ fun m' jb=>h m' (ym _ jb)
  |false =>
   rw[h m (by simp) hh];simp only[yr,if_false];split
   ·exact DW r _ _ fun m' jb=>h m' (ym _ jb)
   ·rfl
section
variable (S:List BC) (t k:Int) (l:TS)
theorem w7:∀(a:List RE)(b:LT),nF b (FJ S t k l a b)=false/\∀m∈a,nF (II S t k m (l m.ty.toNat)) (FJ S t k l a b)=false
 | [],b=>⟨MF.irr b,by simp⟩
 |m::r,b=>by
  obtain⟨h1,h2⟩:=w7 r (if nF (II S t k m (l m.ty.toNat)) b then II S t k m (l m.ty.toNat)else b);rw[FJ];cases hb:nF (II S t k m (l m.ty.toNat)) b with
  |true =>
   rw[hb]at h1 h2;simp only[if_true]at h1 h2 ⊢;refine⟨MF.neg _ _ _ (MF.asym hb) h1,fun m' jb=>?_⟩;rcases yh.1 jb with rfl|jb
   ·exact h1
   ·exact h2 m' jb
  |false =>
   rw[hb]at h1 h2;simp only[yr,if_false]at h1 h2 ⊢;refine⟨h1,fun m' jb=>?_⟩;rcases yh.1 jb with rfl|jb
   ·exact MF.neg _ _ _ hb h1
   ·exact h2 m' jb
theorem jS:∀(a:List RE)(b:LT),FJ S t k l a b=b\/∃m∈a,FJ S t k l a b=II S t k m (l m.ty.toNat)
 | [],b=>.inl rfl
 |m::r,b=>by
  rw[FJ];rcases jS r (if nF (II S t k m (l m.ty.toNat)) b then II S t k m (l m.ty.toNat)else b)with h|⟨m',jb,h⟩
  ·rw [h];split
   ·exact .inr ⟨m,by simp,rfl⟩
   ·exact .inl rfl
  ·exact .inr ⟨m',ym _ jb,h⟩
end
end
section
theorem tX {S:List BC}:∀(n i:Nat),xG S n i=none->∀j x,i<=j->j<i+n->S[j]?=some x->lL S x=none
 |0,i,_,j,x,h1,h2,_=>by omega
 |n+1,i,h,j,x,h1,h2,hx=>by
  rw[xG]at h;cases hi:S[i]? with
  |none =>
   have:=(yn.1 hx).1;have:=List.getElem?_eq_none_iff.1 hi;omega
  |some y =>
   rw[hi]at h;simp only at h;cases hd:lL S y with
   |some d=>rw[hd]at h;cases h
   |none =>
    rw[hd]at h;rcases Nat.lt_or_eq_of_le h1 with h3|h3
    ·exact tX n (i+1) h j x h3 (by omega) hx
    ·subst h3;rw[hi]at hx;injection hx with hx;rw[<- hx];exact hd
structure zH (S:List BC):Prop where
 good:NQ S
 val:mH S=0
 dfl:∀x∈S,∀m∈x.qA,m.has=true->tH S m.ty m.dflt=true
 JB:∀x∈S,∀m∈x.qA,m.dflt.i64
 n64:∀x∈S,LI x.low/\LI x.high
theorem zH.of {s:dR}(hs:s.fine)(ub:s.JB)(hn:∀x∈s.types,LI x.low/\LI x.high)(h:aF s.types=0):zH s.types:=by
 have hv:=eM h;refine⟨SQ hs hv,hv,fun x hx m hm hh=>?_,ub,hn⟩;unfold aF at h;rw[if_pos hv]at h;cases hd:xG s.types s.types.length 0 with
 |some p=>rw[hd]at h;cases h
 |none =>
  obtain⟨j,hj,rfl⟩:=yO hx;have:=tX _ _ hd j _ (Nat.zero_le j) (by omega) (y7 hj);unfold lL at this;rw[Option.map_eq_none_iff,List.find?_eq_none]at this;have hb:=this m hm;unfold EO at hb;rw[hh]at hb;simpa using hb
theorem zH.len {S:List BC}(h:zH S):S.length<=32:=by
 have:=h.val;unfold mH at this;split at this
 ·cases this
 ·omega
theorem zH.win {S:List BC}(h:zH S):∀x∈S,RF S.length x:=DN h.val
structure XJ (S:List BC)(t:Int)(e:LT):Prop where
 u:e.known=false->e=.unk
 l:e.known=true->e.long=true->e=.tC
 v:e.known=true->e.long=false->e.p=hJ S t e.v/\e.d=LM S t e.v/\tH S t e.v=true/\e.v.ok/\e.v.i64/\e.p.size<=4096
theorem XJ.unk {S:List BC}{t:Int}:XJ S t .unk:=⟨fun _=>rfl,fun h=>(nomatch h),fun h=>(nomatch h)⟩
theorem XJ.tC {S:List BC}{t:Int}:XJ S t .tC:=⟨fun h=>(nomatch h),fun _ _=>rfl,fun _ h=>(nomatch h)⟩
theorem XJ.fin {S:List BC}{t:Int}{v:Vl}(hp:tH S t v=true)(ho:v.ok)(ub:v.i64):XJ S t (TN S t v):=by
 unfold TN;split
 ·exact XJ.tC
 ·rename_i h;exact⟨fun h=>(nomatch h),fun _ h=>(nomatch h),fun _ _=>⟨rfl,rfl,hp,ho,ub,by show(hJ S t v).size<=4096;omega⟩⟩
def CK (S:List BC)(l:TS):Prop:=∀j,j<S.length->XJ S j (l j)
theorem B9 {k:Int}{b:Bool}{i:Int}{s:ByteArray}{d:Int}{kn xn rn:Bool}{ks xs:List Vl}{rs:List Ea}:(Vl.mk k b i s d kn ks xn xs rn rs).i64↔LI i/\(∀x∈ks,x.i64)/\∀x∈xs,x.i64:=Vl.KA _
theorem Uj {k:Int}{b:Bool}{i:Int}{s:ByteArray}{d:Int}{kn xn rn:Bool}{ks xs:List Vl}{rs:List Ea}:(Vl.mk k b i s d kn ks xn xs rn rs).ok↔ks.length<=9223372036854775807/\xs.length<=9223372036854775807/\rs.length<=9223372036854775807/\s.size<=9223372036854775807/\(∀x∈ks,x.ok)/\∀x∈xs,x.ok:=Vl.NA _
section
variable {S:List BC} (hS:zH S) {i:Nat} {x:BC} (g:S[i]?=some x)
include hS g
theorem zH.mem:x∈S:=yQ g
theorem zH.lt:i<S.length:=(yn.1 g).1
theorem W0 {v:Vl}:tH S i v=(decide (v.kind=x.kind)&&WF v&&aO (tH S) x v):=by
 have fa:=zH.lt hS g;rw[Jq];have ho:mD S.length (i:Int)=false:=by simp[mD];omega
 have hg:S[(i:Int).toNat]?=some x:=g;rw[ho,hg];rfl
theorem Hq {v:Vl}:hJ S i v=tF (hJ S) x v:=by
 have hg:S[(i:Int).toNat]?=some x:=g;rw[Zj,hg]
theorem l5 {v:Vl}:LM S i v=OJ (LM S) x v:=by
 have hg:S[(i:Int).toNat]?=some x:=g;rw[Bd,hg]
theorem F7 (h5:x.kind≠5)(h6:x.kind≠6):tH S i (wP x)=true/\(wP x).ok/\(wP x).i64:=by
 obtain⟨dh,gj⟩:=hS.good x (zH.mem hS g);have wl:=dH dh;have uu:=dh;unfold IE at dh;rw[y9,y9]at dh;obtain⟨_,h1,_⟩:=dh;have oks:∀k b i s d,s.size<=9223372036854775807->(Vl.of k b i s d).ok:=fun k b i s d h=>by
  rw[Vl.of,Uj];simp[h]
 have KB:∀k b i s d,LI i->(Vl.of k b i s d).i64:=fun k b i s d h=>by
  rw[Vl.of,B9];simp[h]
 have e0:eB.size<=9223372036854775807:=by decide
 have z0:LI 0:=by unfold LI;omega
 rw[W0 hS g];unfold wP;by_cases k2:x.kind=2
 ·simp [wN,k2] at h1;rw [if_pos k2];have hn:x.low<=j8 x.low x.high/\j8 x.low x.high<=x.high:=by unfold j8; split <;> (try split) <;> omega
  refine⟨?_,oks _ _ _ _ _ e0,KB _ _ _ _ _ ?_⟩
  ·simp[Vl.of,Vl.kind,Vl.i,WF,aO,k2,hn,Vl.b,Vl.s,Vl.id,Vl.keys,Vl.items,Vl.rest,eB]
  ·obtain⟨⟨q1,q2⟩,q3,q4⟩:=hS.n64 x (zH.mem hS g);exact⟨by omega,by omega⟩
 rw[if_neg k2];by_cases k4:x.kind=4
 ·rw [if_pos k4];simp [wN,k4] at h1;refine ⟨?_,oks _ _ _ _ _ e0,KB _ _ _ _ _ z0⟩;cases ut:x.tA with
  |nil=>simp[jP,ut]at h1
  |cons m r =>
   have:0<=ZP (m::r) m.id:=by
    have h1:=CM (fun y:zX=>decide (y.id=m.id)) (m::r);have h2:((m::r).any fun y=>decide (y.id=m.id))=true:=by simp
    rw[h2]at h1;exact of_decide_eq_true h1
   simp[Vl.of,Vl.kind,Vl.i,WF,aO,k4,Vl.b,Vl.s,Vl.id,Vl.keys,Vl.items,Vl.rest,eB,ut,this]
 rw[if_neg k4];refine⟨?_,oks _ _ _ _ _ e0,KB _ _ _ _ _ z0⟩;rcases kinds x.kind with e|e|e|e|e|e|e|e|e|e
 ·simp[Vl.of,Vl.kind,Vl.i,WF,aO,e,Vl.b,Vl.s,Vl.id,Vl.keys,Vl.items,Vl.rest,eB]
 ·exact absurd e k2
 ·simp[wN,e]at h1;have:(ByteArray.mk #[]).size=0:=rfl;simp[Vl.of,Vl.kind,Vl.i,WF,aO,e,Vl.b,Vl.s,Vl.id,Vl.keys,Vl.items,Vl.rest,eB,this];omega
 ·exact absurd e k4
 ·exact absurd e h5
 ·exact absurd e h6
 ·simp[wN,e]at h1;simp[Vl.of,Vl.kind,Vl.i,WF,aO,e,Vl.b,Vl.s,Vl.id,Vl.keys,Vl.items,Vl.rest,eB];omega
 ·simp[wN,e]at h1;simp[Vl.of,Vl.kind,Vl.i,WF,aO,e,Vl.b,Vl.s,Vl.id,Vl.keys,Vl.items,Vl.rest,eB,eN];omega
 ·simp[Vl.of,Vl.kind,Vl.i,WF,aO,e,Vl.b,Vl.s,Vl.id,Vl.keys,Vl.items,Vl.rest,eB]
 ·exact absurd wl e
end
end
section
theorem Qo (m:RE)(h:m.has=true):rH m m.dflt=true:=by simp[rH,h,Vl.rB]
theorem Bb {m:RE}{v:Vl}(h:m.has=false):rH m v=false:=by simp[rH,h]
theorem j0 {f:Int->Vl->Bool}{it:RE->Vl}:∀(l:List RE),(∀m∈l,f m.ty (it m)=true)->nG f l (l.map it)=true
 | [],_=>rfl
 |m::r,h=>by rw[yk,nG,h m (by simp),j0 r fun m' jb=>h m' (ym _ jb)];rfl
theorem A8 (f:Int->Vl->ByteArray):∀(l:List RE)(q:List Vl)(b:ByteArray),(∀(i:Nat) m v,l[i]?=some m->q[i]?=some v->rH m v=false->(f m.ty v).size<=4096)->(fI f l q b).size<=b.size+l.length*4116
 | [],q,b,_=>by cases q<;>simp[fI]
 |m::r,[],b,_=>by simp[fI]
 |m::r,v::q,b,h=>by
  have ih:=fun b'=>A8 f r q b' fun i m' v' h1 h2 h3=>h (i+1) m' v' (by simpa using h1) (by simpa using h2) h3
  rw[fI];split
  ·have:=ih b;simp only[yE];omega
  ·rename_i ho;have h1:=ih (b++KH m.id m.EA (f m.ty v));have h2:=h 0 m v rfl rfl (by simpa using ho);have h3:=XM m.id m.EA (f m.ty v);rw[ByteArray.size_append]at h1;simp only[yE];omega
theorem aV (f:Int->Vl->Nat):∀(l:List RE)(q:List Vl)(b:Nat),tK f l q b=b\/∃(i:Nat)(m:RE)(v:Vl),l[i]?=some m/\q[i]?=some v/\rH m v=false/\tK f l q b=f m.ty v
 | [],q,b=>by cases q<;>exact .inl rfl
 |m::r,[],b=>.inl rfl
 |m::r,v::q,b=>by
  rw[tK];cases ho:rH m v with
  |true =>
   rw[if_pos rfl];rcases aV f r q b with h|⟨i,m',v',h1,h2,h3,h4⟩
   ·exact .inl h
   ·exact .inr ⟨i+1,m',v',by simpa using h1,by simpa using h2,h3,h4⟩
  |false =>
   rw[if_neg (by decide)];rcases aV f r q (max b (f m.ty v))with h|⟨i,m',v',h1,h2,h3,h4⟩
   ·rw [h];rcases Nat.le_total b (f m.ty v) with h5 | h5
    ·exact .inr ⟨0,m,v,rfl,rfl,ho,by omega⟩
    ·exact .inl (by omega)
   ·exact .inr ⟨i+1,m',v',by simpa using h1,by simpa using h2,h3,h4⟩
theorem O8 (n:Int):1<=(PN n).size:=by
 unfold PN;rw[AQ];exact Bj 10 n (by decide)
section
variable {S:List BC} (hS:zH S) {i:Nat} {x:BC} (g:S[i]?=some x) {l:TS} (hl:CK S l)
include hS g hl
theorem s9 {m:RE}(hm:m∈x.qA):0<=m.ty/\m.ty<S.length/\m.ty.toNat<S.length/\((m.ty.toNat:Nat):Int)=m.ty:=by
 have:=(hS.win x (zH.mem hS g)).qA m hm;omega
theorem xL {m:RE}(hm:m∈x.qA):XJ S m.ty (l m.ty.toNat):=by
 obtain⟨_,_,h1,h2⟩:=s9 hS g hl hm;have:=hl m.ty.toNat h1
 rwa [h2]at this
theorem O5 {m:RE}(hm:m∈x.qA)(hk:m.has=false->(l m.ty.toNat).known=true/\(l m.ty.toNat).long=false):tH S m.ty (MH l m)=true/\(MH l m).ok/\(MH l m).i64:=by
 have hx:=zH.mem hS g;unfold MH;cases hh:m.has with
 |true =>
  simp only[if_true];exact⟨hS.dfl x hx m hm hh,((hS.good x hx).2.1.2.2 m hm).1,hS.JB x hx m hm⟩
 |false =>
  simp only[yr,if_false];obtain⟨h1,h2⟩:=hk hh;obtain⟨_,_,h3,h4,h5,_⟩:=(xL hS g hl hm).v h1 h2;exact⟨h3,h4,h5⟩
theorem Dt (h5:x.kind=5)(hk:∀m∈x.qA,m.has=false->(l m.ty.toNat).known=true/\(l m.ty.toNat).long=false):tH S i (NR 5 (x.qA.map (MH l)))=true/\(NR 5 (x.qA.map (MH l))).ok/\(NR 5 (x.qA.map (MH l))).i64:=by
 have hx:=zH.mem hS g;refine⟨?_,?_,?_⟩
 ·rw [W0 hS g];have hp:nG (tH S) x.qA (x.qA.map (MH l))=true:=j0 _ fun m hm=>(O5 hS g hl hm (hk m hm)).1
  simp[NR,Vl.kind,WF,aO,h5,Vl.b,Vl.s,Vl.id,Vl.keys,Vl.items,Vl.rest,Vl.i,eB,hp]
 ·rw[NR,Uj];have:=(hS.good x hx).2.1.2.1;refine⟨by simp,by simpa using this,by simp,by decide,by simp,fun u hu=>?_⟩;obtain⟨m,hm,rfl⟩:=yz.1 hu;exact(O5 hS g hl hm (hk m hm)).2.1
 ·rw[NR,B9];refine⟨by unfold LI;omega,by simp,fun u hu=>?_⟩;obtain⟨m,hm,rfl⟩:=yz.1 hu;exact(O5 hS g hl hm (hk m hm)).2.2
theorem Gt (h5:x.kind=5):hJ S i (NR 5 (x.qA.map (MH l)))=fI (hJ S) x.qA (x.qA.map (MH l)) eB:=by
 rw[Hq hS g];simp[tF,h5,NR,Vl.items]
theorem Ft (h5:x.kind=5):LM S i (NR 5 (x.qA.map (MH l)))=1+tK (LM S) x.qA (x.qA.map (MH l)) 0:=by
 rw[l5 hS g];simp[OJ,h5,NR,Vl.items]
theorem xZ {j:Nat}{m:RE}{v:Vl}(h1:x.qA[j]?=some m)(h2:(x.qA.map (MH l))[j]?=some v)(h3:rH m v=false):m∈x.qA/\m.has=false/\v=(l m.ty.toNat).v:=by
 have hm:=yQ h1;rw[yb,h1]at h2;injection h2 with h2;cases hh:m.has with
 |true =>
  have:v=m.dflt:=by rw[<- h2];simp[MH,hh]
  rw[this,Qo m hh]at h3;cases h3
 |false=>exact⟨hm,rfl,by rw[<- h2];simp[MH,hh]⟩
theorem Nj (h5:x.kind=5)(hk:∀m∈x.qA,m.has=false->(l m.ty.toNat).known=true/\(l m.ty.toNat).long=false):(hJ S i (NR 5 (x.qA.map (MH l)))).size<=1000000:=by
 rw[Gt hS g hl h5];have h1:=A8 (hJ S) x.qA (x.qA.map (MH l)) eB fun j m v q1 q2 q3=>by
  obtain⟨hm,hh,rfl⟩:=xZ hS g hl q1 q2 q3;obtain⟨k1,k2⟩:=hk m hm hh;obtain⟨e1,_,_,_,_,e2⟩:=(xL hS g hl hm).v k1 k2;rw[<- e1];exact e2
 have h2:x.qA.length<=16:=(hS.win x (zH.mem hS g)).few;have h3:eB.size=0:=rfl;omega
section
variable (h6:x.kind=6) {m:RE} (hm:m∈x.qA)
include h6 m hm
theorem Xa (hk:(l m.ty.toNat).known=true/\(l m.ty.toNat).long=false):tH S i (kR 6 m.id (l m.ty.toNat).v)=true/\(kR 6 m.id (l m.ty.toNat).v).ok/\(kR 6 m.id (l m.ty.toNat).v).i64:=by
 have hx:=zH.mem hS g;obtain⟨wj,_⟩:=O6 (hS.good x hx).1;obtain⟨j,hj,fq⟩:=yO hm;have wo:x.qA[j]?=some m:=by rw[y7 hj,fq]
 have xm:=kZ wj wo;obtain⟨e1,_,e3,e4,e5,e6⟩:=(xL hS g hl hm).v hk.1 hk.2;refine⟨?_,?_,?_⟩
 ·rw[W0 hS g];simp[kR,Vl.kind,WF,aO,h6,Vl.b,Vl.s,Vl.id,Vl.keys,Vl.items,Vl.rest,Vl.i,eB,xm,wo,CG,e3]
 ·rw[kR,Uj];refine⟨by simp,by simp,by simp,by decide,by simp,fun u hu=>?_⟩;rw[List.mem_singleton.1 hu];exact e4
 ·rw[kR,B9];refine⟨by unfold LI;omega,by simp,fun u hu=>?_⟩;rw[List.mem_singleton.1 hu];exact e5
theorem dS (u:Vl):hJ S i (kR 6 m.id u)=PN m.id++hJ S m.ty u/\LM S i (kR 6 m.id u)=1+LM S m.ty u:=by
 obtain⟨wj,_⟩:=O6 (hS.good x (zH.mem hS g)).1;obtain⟨j,hj,fq⟩:=yO hm;have wo:x.qA[j]?=some m:=by rw[y7 hj,fq]
 have xm:=kZ wj wo;rw[Hq hS g,l5 hS g];constructor
 ·simp[tF,h6,kR,Vl.items,Vl.id,xm,wo,T9]
 ·simp[OJ,h6,kR,Vl.items,Vl.id,xm,wo,La]
theorem Kz:XJ S i (II S i 6 m (l m.ty.toNat)):=by
 unfold II;cases hk:(l m.ty.toNat).known with
 |false =>
  rw[(xL hS g hl hm).u hk];exact XJ.unk
 |true =>
  cases xc:(l m.ty.toNat).long with
  |true =>
   rw[(xL hS g hl hm).l hk xc];exact XJ.tC
  |false =>
   simp only[Bool.not_false,Bool.and_self,if_true];obtain⟨h1,h2,h3⟩:=Xa hS g hl h6 hm ⟨hk,xc⟩;exact XJ.fin h1 h2 h3
end
theorem Uv:XJ S i (BF S i l):=by
 unfold BF;rw[g];simp only;unfold wR;by_cases h5:x.kind=5
 ·rw [if_pos h5];cases hr:DJ l x.qA false [] with
  |none=>exact XJ.unk
  |some q =>
   obtain⟨lg,ws⟩:=q;obtain⟨h1,h2,h3⟩:=GN l _ _ _ _ _ hr;cases lg with
   |true=>exact XJ.tC
   |false =>
    simp only;rw[h1,yF];obtain⟨q1,q2,q3⟩:=Dt hS g hl h5 fun m hm hh=>⟨h2 m hm hh,(h3.1 rfl).2 m hm hh⟩
    exact XJ.fin q1 q2 q3
 ·rw [if_neg h5];by_cases h6:x.kind=6
  ·rw [if_pos h6];rcases jS S i 6 l x.qA .unk with h | ⟨m,hm,h⟩
   ·rw[h];exact XJ.unk
   ·rw[h];exact Kz hS g hl h6 hm
  ·rw[if_neg h6];obtain⟨q1,q2,q3⟩:=F7 hS g h5 h6;exact XJ.fin q1 q2 q3
theorem arm_no {m:RE}(h6:x.kind=6)(hm:m∈x.qA):nF (II S i 6 m (l m.ty.toNat)) (l m.ty.toNat)=false:=by
 unfold II;cases hk:(l m.ty.toNat).known with
 |false=>simp[nF,hk]
 |true =>
  cases xc:(l m.ty.toNat).long with
  |true=>simp[nF,hk,xc]
  |false =>
   simp only[Bool.not_false,Bool.and_self,if_true];obtain⟨e1,_⟩:=(xL hS g hl hm).v hk xc;unfold TN;split
   ·simp[nF,hk,xc,LT.tC]
   ·simp only[nF,hk,xc];simp;rw[(dS hS g hl h6 hm _).1,e1];refine P4 ?_;have:=O8 m.id;rw[ByteArray.size_append];omega
end
def usedL (S:List BC)(i:Nat)(l:TS)(u:Nat):Prop:=∃x,S[i]?=some x/\((x.kind=5/\∃m∈x.qA,m.has=false/\m.ty.toNat=u)\/(x.kind=6/\∃m∈x.qA,m.ty.toNat=u/\nF (BF S i l) (II S i 6 m (l u))=false))
theorem Za {S:List BC}(hS:zH S){i:Nat}{x:BC}(g:S[i]?=some x){l l':TS}(hl:CK S l)(ck:CK S l')(h6:x.kind=6){m:RE}(hm:m∈x.qA)(hb:nF (l' m.ty.toNat) (l m.ty.toNat)=true):nF (II S i 6 m (l m.ty.toNat)) (II S i 6 m (l' m.ty.toNat))=false:=by
 have a1:=xL hS g hl hm;have a2:=xL hS g ck hm;generalize l m.ty.toNat=e at *
 generalize l' m.ty.toNat=e' at *
 cases hk:e.known with
 |false =>
  have:II S i 6 m e=e:=by simp[II,hk]
  rw[this];simp[nF,hk]
 |true =>
  have jc:e'.known=true:=by
   cases h:e'.known with
   |true=>rfl
   |false=>simp[nF,hk,h]at hb
  cases xc:e.long with
  |true =>
   have:II S i 6 m e=e:=by simp[II,xc]
   rw[this];have h2:(II S i 6 m e').known=true:=by
    unfold II;split
    ·unfold TN;split<;>rfl
    ·exact jc
   simp[nF,hk,h2,xc]
  |false =>
   have zx:e'.long=false:=by
    cases h:e'.long with
    |false=>rfl
    |true=>simp[nF,hk,jc,xc,h]at hb
   have hs:ZH e'.p e.p=true:=by simpa [nF,hk,jc,xc,zx]using hb
   obtain⟨p1,_⟩:=a1.v hk xc;obtain⟨p2,_⟩:=a2.v jc zx;have q1:=(dS hS g hl h6 hm e.v).1;have q2:=(dS hS g hl h6 hm e'.v).1;rw[<- p1]at q1;rw[<- p2]at q2;have ib:e'.p.size<=e.p.size:=by
    simp only[ZH,Bool.or_eq_true,y9,decide_eq_true_eq]at hs;omega
   simp only[II,hk,jc,xc,zx,Bool.not_false,Bool.and_self,if_true];unfold TN;rw[q1,q2];by_cases c1:4096<(PN m.id++e.p).size
   ·rw[if_pos c1];split<;>simp[nF,LT.tC]
   ·rw[if_neg c1];have c2:¬4096<(PN m.id++e'.p).size:=by
     rw[ByteArray.size_append]at c1 ⊢;omega
    rw[if_neg c2];simp only[nF];simp;rw[Dp];cases h:ZH e.p e'.p with
    |false=>rfl
    |true =>
     have:=w9 h hs;rw[A4]at this;cases this
theorem WU {S:List BC}(hS:zH S):zP nF (BF S) S.length (CK S) (usedL S) LT.d where
 keep l i hl hd hi hb j hj:=by
  have g:S[i]?=some S[i]:=y7 hi;by_cases e:j=i
  ·subst e;rw[pS hb];exact Uv hS g hl
  ·rw[RM e];exact hl j hj
 kB l t u hl ht hu:=by
  obtain⟨x,g,⟨_,m,hm,_,rfl⟩|⟨_,m,hm,rfl,_⟩⟩:=hu
  ·exact(s9 hS g hl hm).2.2.1
  ·exact(s9 hS g hl hm).2.2.1
 sup l t u hl ht hu:=by
  obtain⟨x,g,⟨h5,m,hm,hh,rfl⟩|⟨h6,m,hm,rfl,hb⟩⟩:=hu
  ·have ua:BF S t l=wR S t x l:=by simp only [BF,g]
   rw[ua,wR,if_pos h5];cases hr:DJ l x.qA false []with
   |none=>simp[nF,LT.unk]
   |some q =>
    obtain⟨lg,ws⟩:=q;obtain⟨h1,h2,h3⟩:=GN l _ _ _ _ _ hr;have hk:=h2 m hm hh;cases lg with
    |true=>simp[nF,LT.tC,hk]
    |false =>
     have xc:=(h3.1 rfl).2 m hm hh;simp only;rw[h1,yF];unfold TN;split
     ·simp[nF,LT.tC,hk]
     ·simp only [nF,hk,xc];simp;obtain ⟨e1,_⟩:=(xL hS g hl hm).v hk xc;refine P4 ?_;rw [Gt hS g hl h5,CR];obtain ⟨j,hj,fq⟩:=yO hm;have wo:x.qA[j]?=some m:=by rw [y7 hj,fq]
      have kf:(x.qA.map (MH l))[j]?=some (l m.ty.toNat).v:=by rw[yb,wo];simp[MH,hh]
      have q1:=gU (hJ S) x.qA (x.qA.map (MH l)) j m _ wo kf (Bb hh);have q2:=pU _ eB _ q1;have q3:=O8 (cL m.id m.EA);have q4:=tG (hJ S m.ty (l m.ty.toNat).v);simp only[KH,ByteArray.size_append]at q2;rw[e1];omega
  ·exact MF.neg _ _ _ hb (arm_no hS g hl h6 hm)
 loc l t i hl ht hi hb ck hnu:=by
  have g:S[t]?=some S[t]:=y7 ht;generalize S[t]=x at *
  have hn:∀l'':TS,BF S t l''=wR S t x l'':=fun l''=>by simp only[BF,g]
  by_cases h5:x.kind=5
  ·have ff:BF S t (zJ nF (BF S) l i)=BF S t l:=by
    rw[hn,hn,wR,wR,if_pos h5,if_pos h5];rw[DW (l:=zJ nF (BF S) l i) (l':=l) x.qA false [] fun m hm hh=>RM fun e=>hnu ⟨x,g,.inl ⟨h5,m,hm,hh,e⟩⟩]
   refine⟨by rw[ff];exact MF.irr _,fun u hu=>?_⟩;obtain⟨y,gy,⟨h5y,hm⟩|⟨h6,_⟩⟩:=hu
   ·exact⟨y,gy,.inl ⟨h5y,hm⟩⟩
   ·rw[g]at gy;injection gy with gy;rw[<- gy]at h6;omega
  ·by_cases h6:x.kind=6
   ·have ni:∀ l'':TS,BF S t l''=FJ S t 6 l'' x.qA .unk:=fun l''=>by rw [hn,wR,if_neg h5,if_pos h6]
    have zc:∀m∈x.qA,m.ty.toNat=i->nF (BF S t (zJ nF (BF S) l i)) (II S t 6 m (zJ nF (BF S) l i i))=true:=fun m hm e=>by
     cases h:nF (BF S t (zJ nF (BF S) l i)) (II S t 6 m (zJ nF (BF S) l i i))with
     |true=>rfl
     |false=>exact absurd ⟨x,g,.inr ⟨h6,m,hm,e,h⟩⟩ hnu
    have ib:nF (BF S t (zJ nF (BF S) l i)) (BF S t l)=false:=by
     rw[ni (zJ nF (BF S) l i)]at zc ⊢;rcases jS S t 6 (zJ nF (BF S) l i) x.qA .unk with h|⟨m,hm,h⟩
     ·rw[h];simp[nF,LT.unk]
     ·have ua:m.ty.toNat≠i:=fun e=>by
       have:=zc m hm e;rw[h,e,MF.irr]at this;cases this
      rw[h,RM ua,ni];exact(w7 S t 6 l x.qA .unk).2 m hm
    refine⟨ib,fun u hu=>?_⟩;obtain⟨y,gy,⟨ww,_⟩|⟨_,m,hm,rfl,hbu⟩⟩:=hu
    ·rw[g]at gy;injection gy with gy;rw[<- gy]at ww;exact absurd ww h5
    ·rw [g] at gy; injection gy with gy; subst gy;have h1:=MF.neg _ _ _ ib hbu;by_cases e:m.ty.toNat=i
     ·have na:nF (zJ nF (BF S) l i m.ty.toNat) (l m.ty.toNat)=true:=by rw [e,pS hb]; exact hb
      have h2:=Za hS g hl ck h6 hm na;have h3:=MF.neg _ _ _ h1 h2;have h4:=zc m hm e;rw[e]at h3;rw[h3]at h4;cases h4
     ·exact⟨x,g,.inr ⟨h6,m,hm,rfl,by rw[RM e];exact h1⟩⟩
   ·have ff:BF S t (zJ nF (BF S) l i)=BF S t l:=by rw [hn,hn,wR,wR,if_neg h5,if_neg h5,if_neg h6,if_neg h6]
    refine⟨by rw[ff];exact MF.irr _,fun u hu=>?_⟩;obtain⟨y,gy,⟨ww,_⟩|⟨h6',_⟩⟩:=hu
    ·rw[g]at gy;injection gy with gy;rw[<- gy]at ww;exact absurd ww h5
    ·rw[g]at gy;injection gy with gy;rw[<- gy]at h6';exact absurd h6' h6
 dp l t hl ht:=by
  have g:S[t]?=some S[t]:=y7 ht;generalize S[t]=x at *
  have ua:BF S t l=wR S t x l:=by simp only[BF,g]
  have leaf:∀v,(∀f,OJ f x v=1)->(TN S t v).d<=1:=fun v h=>by
   unfold TN;split
   ·exact Nat.zero_le 1
   ·show LM S t v<=1;rw[l5 hS g,h];exact yg 1
  by_cases h5:x.kind=5
  ·rw [ua,wR,if_pos h5];cases hr:DJ l x.qA false [] with
   |none=>exact .inl (Nat.zero_le 1)
   |some q =>
    obtain⟨lg,ws⟩:=q;obtain⟨h1,h2,h3⟩:=GN l _ _ _ _ _ hr;cases lg with
    |true=>exact .inl (Nat.zero_le 1)
    |false =>
     simp only;rw[h1,yF];unfold TN;split
     ·exact .inl (Nat.zero_le 1)
     ·show LM S t _<=1\/∃ u,_/\LM S t _<=_;rw [Ft hS g hl h5];rcases aV (LM S) x.qA (x.qA.map (MH l)) 0 with h | ⟨j,m,v,q1,q2,q3,q4⟩
      ·exact .inl (by omega)
      ·obtain⟨hm,hh,rfl⟩:=xZ hS g hl q1 q2 q3;obtain⟨_,e2,_⟩:=(xL hS g hl hm).v (h2 m hm hh) ((h3.1 rfl).2 m hm hh);exact .inr ⟨m.ty.toNat,⟨x,g,.inl ⟨h5,m,hm,hh,rfl⟩⟩,by omega⟩
  ·by_cases h6:x.kind=6
   ·have ni:BF S t l=FJ S t 6 l x.qA .unk:=by rw [ua,wR,if_neg h5,if_pos h6]
    rcases jS S t 6 l x.qA .unk with h|⟨m,hm,h⟩
    ·rw[ni,h];exact .inl (Nat.zero_le 1)
    ·have hu:usedL S t l m.ty.toNat:=⟨x,g,.inr ⟨h6,m,hm,rfl,by rw [ni,h]; exact MF.irr _⟩⟩;refine .inr ⟨m.ty.toNat,hu,?_⟩;rw [ni,h];unfold II;split
     ·rename_i xk;simp only [y9,Bool.not_eq_true'] at xk;unfold TN;split
      ·exact Nat.zero_le _
      ·obtain⟨_,e2,_⟩:=(xL hS g hl hm).v xk.1 xk.2;show LM S t _<=_;rw[(dS hS g hl h6 hm _).2];omega
     ·omega
   ·rw [ua,wR,if_neg h5,if_neg h6];refine .inl (leaf _ fun f=>?_);unfold OJ wP;rw [if_neg h5,if_neg h6];by_cases k2:x.kind=2
    ·simp[k2]
    by_cases k4:x.kind=4
    ·simp[k4]
    by_cases k9:x.kind=9
    ·simp[k9,Vl.of,Vl.items,R8]
    by_cases k7:x.kind=7
    ·simp[k7,Vl.of,Vl.items,nH]
    by_cases k8:x.kind=8
    ·simp[k8,Vl.of,Vl.items,Vl.keys,gJ]
    ·simp[k9,k7,k8]
theorem O7 (S:List BC):CK S (fun _=>.unk):=fun _ _=>XJ.unk
end
end Go.Proofs.YthnefkpplcmjdaaGreat
