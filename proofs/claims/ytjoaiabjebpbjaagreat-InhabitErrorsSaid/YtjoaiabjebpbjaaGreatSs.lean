/- A part of the proof. -/
import Derived.Test.YtjoaiabjebpbjaaGreatSr
set_option linter.all false
set_option maxRecDepth 100000
set_option maxHeartbeats 8000000
open List renaming getElem?_eq_getElem → y4, getElem_mem → y5, getElem?_map → y8, mem_cons → yc, mem_cons_of_mem → yh, map_cons → yl, getElem?_eq_some_iff → ym, cons_append → yx, getElem_of_mem → yy, mem_map → yB, length_cons → yI, nil_append → yK, mem_singleton → yL, mem_of_getElem? → yQ
open Bool renaming and_eq_true → y7, false_eq_true → yp
open Nat renaming le_refl → yf
namespace Go.Proofs.YtjoaiabjebpbjaaGreat
open Go
theorem recB_cg {f g:Int->Vl->ByteArray}:∀ (l:List bB) (q:List Vl) (b:ByteArray),(∀ u∈q,∀ t,f t u=g t u)->UG f l q b=UG g l q b
 | [],q,b,_=>by cases q <;> rfl
 | m :: r,[],b,_=>rfl
 | m :: r,v :: q,b,h=>by rw [UG,UG,h v (by simp),recB_cg r q _ fun u hu=>h u (by simp [hu])]
theorem o8 {f g:Vl->ByteArray}:∀ (l:List Vl) (b:ByteArray),(∀ u∈l,f u=g u)->TD f l b=TD g l b
 | [],b,_=>rfl
 | v :: r,b,h=>by rw [TD,TD,h v (by simp),o8 r _ fun u hu=>h u (by simp [hu])]
theorem mapB_cg {f g f' g':Vl->ByteArray}:∀ (l q:List Vl) (b:ByteArray),(∀ u∈l,f u=f' u)->(∀ u∈q,g u=g' u)->mE f g l q b=mE f' g' l q b
 | [],q,b,_,_=>by cases q <;> rfl
 | k :: r,[],b,_,_=>rfl
 | k :: r,v :: q,b,h,h'=>by rw [mE,mE,h k (by simp),h' v (by simp),mapB_cg r q _ (fun u hu=>h u (by simp [hu])) fun u hu=>h' u (by simp [hu])]
theorem recD_cg {f g:Int->Vl->Nat}:∀ (l:List bB) (q:List Vl) (b:Nat),(∀ u∈q,∀ t,f t u=g t u)->lI f l q b=lI g l q b
 | [],q,b,_=>by cases q <;> rfl
 | m :: r,[],b,_=>rfl
 | m :: r,v :: q,b,h=>by rw [lI,lI,h v (by simp),recD_cg r q _ fun u hu=>h u (by simp [hu])]
theorem p8 {f g:Vl->Nat}:∀ (l:List Vl) (b:Nat),(∀ u∈l,f u=g u)->HF f l b=HF g l b
 | [],b,_=>rfl
 | v :: r,b,h=>by rw [HF,HF,h v (by simp),p8 r _ fun u hu=>h u (by simp [hu])]
theorem mapD_cg {f g f' g':Vl->Nat}:∀ (l q:List Vl) (b:Nat),(∀ u∈l,f u=f' u)->(∀ u∈q,g u=g' u)->xH f g l q b=xH f' g' l q b
 | [],q,b,_,_=>by cases q <;> rfl
 | k :: r,[],b,_,_=>rfl
 | k :: r,v :: q,b,h,h'=>by rw [xH,xH,h k (by simp),h' v (by simp),mapD_cg r q _ (fun u hu=>h u (by simp [hu])) fun u hu=>h' u (by simp [hu])]
theorem payK_cg {f g:Int->Vl->ByteArray} (x:gA) (v:Vl) (h1:∀ u∈v.keys,∀ t,f t u=g t u) (h2:∀ u∈v.items,∀ t,f t u=g t u):eD f x v=eD g x v:=by
 unfold eD;rw [recB_cg _ _ _ h2,o8 _ _ fun u hu=>h2 u hu x.elem,mapB_cg _ _ _ (fun u hu=>h1 u hu x.key) fun u hu=>h2 u hu x.elem];have e1:armB f x.mems[(aC x.mems v.id).toNat]? v.items=armB g x.mems[(aC x.mems v.id).toNat]? v.items:=by
  cases x.mems[(aC x.mems v.id).toNat]? with
  | none=>rfl
  | some m =>
   cases hi:v.items with
   | nil=>rfl
   | cons u q=>exact h2 u (by simp [hi]) m.ty
 have e2:LW (f x.elem) v.items=LW (g x.elem) v.items:=by
  cases hi:v.items with
  | nil=>rfl
  | cons u q=>simp only [LW]; rw [h2 u (by simp [hi])]
 rw [e1,e2]
theorem depK_cg {f g:Int->Vl->Nat} (x:gA) (v:Vl) (h1:∀ u∈v.keys,∀ t,f t u=g t u) (h2:∀ u∈v.items,∀ t,f t u=g t u):FH f x v=FH g x v:=by
 unfold FH;rw [recD_cg _ _ _ h2,p8 _ _ fun u hu=>h2 u hu x.elem,mapD_cg _ _ _ (fun u hu=>h1 u hu x.key) fun u hu=>h2 u hu x.elem];have e1:armD f x.mems[(aC x.mems v.id).toNat]? v.items=armD g x.mems[(aC x.mems v.id).toNat]? v.items:=by
  cases x.mems[(aC x.mems v.id).toNat]? with
  | none=>rfl
  | some m =>
   cases hi:v.items with
   | nil=>rfl
   | cons u q=>exact h2 u (by simp [hi]) m.ty
 have e2:H8 (f x.elem) v.items=H8 (g x.elem) v.items:=by
  cases hi:v.items with
  | nil=>rfl
  | cons u q=>exact h2 u (by simp [hi]) x.elem
 rw [e1,e2]
theorem P3 {f g:Int->Vl->Bool}:∀ (l:List bB) (q:List Vl),(∀ u∈q,∀ t,f t u=g t u)->QE f l q=QE g l q
 | [],q,_=>by cases q <;> rfl
 | m :: r,[],_=>rfl
 | m :: r,v :: q,h=>by rw [QE,QE,h v (by simp),P3 r q fun u hu=>h u (by simp [hu])]
theorem all_cg {f g:Vl->Bool}:∀ (l:List Vl),(∀ u∈l,f u=g u)->l.all f=l.all g
 | [],_=>rfl
 | v :: r,h=>by rw [List.all_cons,List.all_cons,h v (by simp),all_cg r fun u hu=>h u (by simp [hu])]
theorem fitK_cg {f g:Int->Vl->Bool} (x:gA) (v:Vl) (h1:∀ u∈v.keys,∀ t,f t u=g t u) (h2:∀ u∈v.items,∀ t,f t u=g t u):lJ f x v=lJ g x v:=by
 unfold lJ;rw [P3 _ _ h2,all_cg _ fun u hu=>h2 u hu x.elem,all_cg v.keys fun u hu=>h1 u hu x.key];have e1:∀ a b,pF f x.mems[(aC x.mems v.id).toNat]? a b v.items=pF g x.mems[(aC x.mems v.id).toNat]? a b v.items:=fun a b=>by
  cases x.mems[(aC x.mems v.id).toNat]? with
  | none =>
   match v.items with
   | []=>rfl
   | [_]=>rfl
   | _ :: _ :: _=>rfl
  | some m =>
   match hi:v.items with
   | []=>rfl
   | [u]=>simp only [pF]; rw [h2 u (by simp [hi])]
   | _ :: _ :: _=>rfl
 rw [e1]
theorem A3 (S:List gA):∀ (n k:Nat) (t:Int) (v:Vl),SizeOf.sizeOf v<n->SizeOf.sizeOf v<k->tI S n t v=tI S k t v:=by
 intro n
 induction n with
 | zero=>intro k t v h; omega
 | succ n ih =>
  intro k t v h1 h2;obtain ⟨k,rfl⟩:∃ j,k=j + 1:=⟨k - 1,by omega⟩;rw [tI,tI];cases S[t.toNat]? with
  | none=>rfl
  | some x=>exact payK_cg x v (fun u hu t'=>ih k t' u (by have:=Vl.keys_lt v u hu; omega) (by have:=Vl.keys_lt v u hu; omega)) (fun u hu t'=>ih k t' u (by have:=Vl.items_lt v u hu; omega) (by have:=Vl.items_lt v u hu; omega))
theorem P2 (S:List gA):∀ (n k:Nat) (t:Int) (v:Vl),SizeOf.sizeOf v<n->SizeOf.sizeOf v<k->ZQ S n t v=ZQ S k t v:=by
 intro n
 induction n with
 | zero=>intro k t v h; omega
 | succ n ih =>
  intro k t v h1 h2;obtain ⟨k,rfl⟩:∃ j,k=j + 1:=⟨k - 1,by omega⟩;rw [ZQ,ZQ];cases S[t.toNat]? with
  | none=>rfl
  | some x=>exact depK_cg x v (fun u hu t'=>ih k t' u (by have:=Vl.keys_lt v u hu; omega) (by have:=Vl.keys_lt v u hu; omega)) (fun u hu t'=>ih k t' u (by have:=Vl.items_lt v u hu; omega) (by have:=Vl.items_lt v u hu; omega))
theorem Z2 (S:List gA):∀ (n k:Nat) (t:Int) (v:Vl),SizeOf.sizeOf v<n->SizeOf.sizeOf v<k->RD S n t v=RD S k t v:=by
 intro n
 induction n with
 | zero=>intro k t v h; omega
 | succ n ih =>
  intro k t v h1 h2;obtain ⟨k,rfl⟩:∃ j,k=j + 1:=⟨k - 1,by omega⟩;rw [RD,RD];cases S[t.toNat]? with
  | none=>rfl
  | some x =>
   have:=fitK_cg (f:=RD S n) (g:=RD S k) x v (fun u hu t'=>ih k t' u (by have:=Vl.keys_lt v u hu; omega) (by have:=Vl.keys_lt v u hu; omega)) (fun u hu t'=>ih k t' u (by have:=Vl.items_lt v u hu; omega) (by have:=Vl.items_lt v u hu; omega));simp only [this]
noncomputable def dG (S:List gA) (t:Int) (v:Vl):ByteArray:=tI S (SizeOf.sizeOf v + 1) t v
noncomputable def WK (S:List gA) (t:Int) (v:Vl):Nat:=ZQ S (SizeOf.sizeOf v + 1) t v
theorem payV_def (S:List gA) (t:Int) (v:Vl):dG S t v=match S[t.toNat]? with | some x=>eD (dG S) x v | none=>eB:=by
 unfold dG;rw [tI];cases S[t.toNat]? with
 | none=>rfl
 | some x=>exact payK_cg x v (fun u hu t'=>A3 S _ _ t' u (by have:=Vl.keys_lt v u hu; omega) (by omega)) (fun u hu t'=>A3 S _ _ t' u (by have:=Vl.items_lt v u hu; omega) (by omega))
theorem depV_def (S:List gA) (t:Int) (v:Vl):WK S t v=match S[t.toNat]? with | some x=>FH (WK S) x v | none=>1:=by
 unfold WK;rw [ZQ];cases S[t.toNat]? with
 | none=>rfl
 | some x=>exact depK_cg x v (fun u hu t'=>P2 S _ _ t' u (by have:=Vl.keys_lt v u hu; omega) (by omega)) (fun u hu t'=>P2 S _ _ t' u (by have:=Vl.items_lt v u hu; omega) (by omega))
theorem plainV_def (S:List gA) (t:Int) (v:Vl):PE S t v=(!tB S.length t&&(match S[t.toNat]? with
  | some x=>decide (v.kind=x.kind)&&OC v&&lJ (PE S) x v
  | none=>false)):=by
 unfold PE;rw [RD];cases S[t.toNat]? with
 | none=>rfl
 | some x =>
  have:=fitK_cg (f:=RD S (SizeOf.sizeOf v)) (g:=PE S) x v (fun u hu t'=>Z2 S _ _ t' u (by have:=Vl.keys_lt v u hu; omega) (by omega)) (fun u hu t'=>Z2 S _ _ t' u (by have:=Vl.items_lt v u hu; omega) (by omega));simp only [this];rfl
theorem E3 (f:Vl->ByteArray):∀ (l:List Vl) (b:ByteArray) (u:Vl),u∈l->(f u).size<=(TD f l b).size
 | v :: r,b,u,h=>by
  rw [TD];rcases yc.1 h with rfl | h
  ·have h1:=FO f r (b++FD (f u));have h2:=pE (f u);rw [ByteArray.size_append] at h1;omega
  ·exact E3 f r _ u h
theorem j8 (f g:Vl->ByteArray):∀ (l q:List Vl) (b:ByteArray),l.length=q.length->(∀ u∈l,(f u).size<=(mE f g l q b).size)/\∀ u∈q,(g u).size<=(mE f g l q b).size
 | [],[],b,_=>by simp
 | k :: r,v :: q,b,h=>by
  obtain ⟨h1,h2⟩:=j8 f g r q (b++FD (f k)++FD (g v)) (by simpa using h);have h3:=DQ f g r q (b++FD (f k)++FD (g v));rw [ByteArray.size_append,ByteArray.size_append] at h3;have h4:=pE (f k);have h5:=pE (g v);rw [mE];refine ⟨fun u hu=>?_,fun u hu=>?_⟩
  ·rcases yc.1 hu with rfl | hu
   ·omega
   ·exact h1 u hu
  ·rcases yc.1 hu with rfl | hu
   ·omega
   ·exact h2 u hu
theorem symIx_id {l:List eU} {id:Int} (h:0<=AN l id):∃ m∈l,m.id=id:=by
 have h1:=nL (fun x:eU=>decide (x.id=id)) l;have h2:(l.any fun x=>decide (x.id=id))=true:=by rw [<- h1]; exact decide_eq_true h
 obtain ⟨m,hm,he⟩:=List.any_eq_true.1 h2;exact ⟨m,hm,by simpa using he⟩
theorem memIx_id {l:List bB} {id:Int} (h:0<=aC l id):∃ m∈l,m.id=id:=by
 have h1:=nL (fun x:bB=>decide (x.id=id)) l;have h2:(l.any fun x=>decide (x.id=id))=true:=by rw [<- h1]; exact decide_eq_true h
 obtain ⟨m,hm,he⟩:=List.any_eq_true.1 h2;exact ⟨m,hm,by simpa using he⟩
theorem pays_ev (sn:Bool) (S:List gA) (hS:zP S) (pb:∀ x∈S,x.mems.length<=12):∀ (n:Nat) (t:Int) (v:Vl),RD S n t v=true->v.ok->v.i64->(tI S n t v).size<=140737488355328->jJ sn S t v (tI S n t v) (ZQ S n t v)/\uI sn S t v (tI S n t v):=by
 intro n
 induction n with
 | zero=>intro t v h; simp [RD] at h
 | succ n ih =>
  intro t v h na nb ma;rw [RD] at h;simp only [y7,Bool.not_eq_true'] at h;obtain ⟨ho,h⟩:=h;obtain ⟨h0,ra⟩:0<=t/\¬ (S.length:Int)<=t:=by
   simp [tB] at ho;omega
  have fa:t.toNat<S.length:=by omega
  have jb:S[t.toNat]∈S:=y5 _;have g:S[t.toNat]?=some S[t.toNat]:=y4 fa;rw [tI] at ma ⊢;rw [ZQ];rw [g] at h ma ⊢;simp only at ma ⊢;generalize S[t.toNat]=x at *
  obtain ⟨ah,ak⟩:=hS x jb;have nz:=pb x jb;have cj:=JE ah;obtain ⟨gk,LN⟩:=z6 ah;simp only [y7,decide_eq_true_eq] at h;obtain ⟨⟨hk,hz⟩,eb⟩:=h;have hok':=na;rw [Vl.ok_def] at na;rw [Vl.i64_def] at nb;obtain ⟨o1,o2,o3,o4,o5,o6⟩:=na;obtain ⟨j1,j2,j3⟩:=nb;have dg:∀ u∈v.items,∀ t',RD S n t' u=true->(tI S n t' u).size<=140737488355328->jJ sn S t' u (tI S n t' u) (ZQ S n t' u)/\uI sn S t' u (tI S n t' u):=fun u hu t' hf hs=>ih t' u hf (o6 u hu) (j3 u hu) hs
  have nc:∀ u∈v.keys,∀ t',RD S n t' u=true->(tI S n t' u).size<=140737488355328->jJ sn S t' u (tI S n t' u) (ZQ S n t' u)/\uI sn S t' u (tI S n t' u):=fun u hu t' hf hs=>ih t' u hf (o5 u hu) (j2 u hu) hs
  have oc:x.mems.length<=9223372036854775807:=ak.1.2.1;have uo:∀ m∈x.mems,m.dflt.ok:=fun m hm=>(ak.1.2.2 m hm).1
  unfold lJ at eb;have fq:=ma;unfold eD at fq;rcases kinds x.kind with e | e | e | e | e | e | e | e | e | e
  all_goals try simp only [e] at eb fq
  all_goals try simp at eb fq
  ·exact ⟨pay1 sn S t x v _ _ h0 g e,rpay1 sn S t x v _ h0 g e⟩
  ·exact ⟨pay2 sn S t x v _ _ h0 g e j1,rpay2 sn S t x v _ h0 g e j1⟩
  ·exact ⟨pay3 sn S t x v _ _ h0 g e,rpay3 sn S t x v _ h0 g e⟩
  ·obtain ⟨m,hm,he⟩:=symIx_id eb;have hmr:=up_syms ah m hm;rw [he] at hmr;exact ⟨pay4 sn S t x v _ _ h0 g e hmr,rpay4 sn S t x v _ h0 g e hmr⟩
  ·have wv:∀ (i:Nat) m u,x.mems[i]?=some m->v.items[i]?=some u->jF m u=false->jJ sn S m.ty u (tI S n m.ty u) (ZQ S n m.ty u)/\uI sn S m.ty u (tI S n m.ty u):=fun i m u p1 p2 hb=>by
    have ui:=DS (tI S n) x.mems v.items i m u p1 p2 hb;have mo:=US _ eB _ ui;rw [<- jQ] at mo;have uz:=bL m.id m.crit (tI S n m.ty u);exact dg u (yQ p2) m.ty (NO eb.2 i m u p1 p2) (by simp only at mo; omega)
   exact ⟨pay5 sn S t x v _ _ h0 g e eb.1.1 eb.1.2 nz gk LN uo (fun i m u p1 p2 hb=>(wv i m u p1 p2 hb).1) ma,rpay5 sn S t x v _ h0 g e (by omega) eb.1.1 eb.1.2 gk LN o6 (fun i m u p1 p2 hb=>(wv i m u p1 p2 hb).2) ma⟩
  ·obtain ⟨m,u,g1,g2,g3,g4,g5⟩:=KN eb;have g3:0<=aC x.mems v.id:=by simpa using g3
   obtain ⟨m',tb,he⟩:=memIx_id g3;have hmr:=LN m' tb;rw [he] at hmr;rw [g1,g2] at fq;simp only [armB] at fq;have hp:=dg u (by rw [g2]; simp) m.ty g5 (by omega);exact ⟨pay6 sn S t x v _ _ h0 g e oc (by simpa using g4) g2 g3 g1 hmr hp.1 ma,rpay6 sn S t x v _ h0 g e oc (by simpa using g4) g2 g3 g1 hmr hp.2 ma⟩
  ·have hp:∀ u∈v.items,jJ sn S x.elem u (tI S n x.elem u) (ZQ S n x.elem u)/\uI sn S x.elem u (tI S n x.elem u):=fun u hu=>dg u hu x.elem (eb.2 u hu) (by have:=E3 (tI S n x.elem) v.items eB u hu; omega)
   exact ⟨pay7 sn S t x v _ _ h0 g e o2 (fun u hu=>(hp u hu).1) ma,rpay7 sn S t x v _ h0 g e o2 (fun u hu=>(hp u hu).2) ma⟩
  ·obtain ⟨m1,m2⟩:=j8 (tI S n x.key) (tI S n x.elem) v.keys v.items eB eb.1.1.1.2.symm;have hp:∀ u∈v.items,jJ sn S x.elem u (tI S n x.elem u) (ZQ S n x.elem u)/\uI sn S x.elem u (tI S n x.elem u):=fun u hu=>dg u hu x.elem (eb.2 u hu) (by have:=m2 u hu; omega)
   have hq:∀ u∈v.keys,jJ sn S x.key u (tI S n x.key u) (ZQ S n x.key u)/\uI sn S x.key u (tI S n x.key u):=fun u hu=>nc u hu x.key (eb.1.1.2 u hu) (by have:=m1 u hu; omega)
   exact ⟨pay8 sn S t x v _ _ h0 g e o2 eb.1.1.1.2 (fun u hu=>(hq u hu).1) (fun u hu=>(hp u hu).1) ma,rpay8 sn S t x v _ h0 g e o2 eb.1.1.1.2 (fun u hu=>(hq u hu).2) (fun u hu=>(hp u hu).2) ma⟩
  ·have hp:∀ u∈v.items,jJ sn S x.elem u (tI S n x.elem u) (ZQ S n x.elem u)/\uI sn S x.elem u (tI S n x.elem u):=fun u hu=>dg u hu x.elem (eb.2 u hu) (by
    match hi:v.items,hu with
    | w :: q,hu =>
     have hl:q=[]:=by
      have:=eb.1;rw [hi] at this;simpa using this
     subst hl;rw [hi] at fq;simp only [LW,ByteArray.size_append] at fq;rw [yL.1 hu];omega)
   exact ⟨pay9 sn S t x v _ _ h0 g e (fun u hu=>(hp u hu).1) ma,rpay9 sn S t x v _ h0 g e (fun u hu=>(hp u hu).2) ma⟩
  ·exact absurd cj e
section
theorem M6:∀ {a b c:List UInt8},Op.bytesLess a b=true->Op.bytesLess b c=true->Op.bytesLess a c=true
 | _,[],_,h,_=>by simp [Op.bytesLess] at h
 | _,_ :: _,[],_,h=>by simp [Op.bytesLess] at h
 | [],_ :: _,_ :: _,_,_=>rfl
 | x :: r,y :: q,z :: t,h1,h2=>by
  simp only [Op.bytesLess,Bool.or_eq_true,y7,decide_eq_true_eq,beq_iff_eq,UInt8.lt_iff_toNat_lt] at h1 h2 ⊢;rcases h1 with h1 | ⟨rfl,h1⟩ <;> rcases h2 with h2 | ⟨rfl,h2⟩
  ·exact .inl (by omega)
  ·exact .inl h1
  ·exact .inl h2
  ·exact .inr ⟨rfl,M6 h1 h2⟩
theorem W2:∀ {a b c:List UInt8},Op.bytesLess a b=false->Op.bytesLess b c=false->Op.bytesLess a c=false
 | _,_,[],_,_=>by cases ‹List UInt8› <;> simp [Op.bytesLess]
 | _,[],_ :: _,_,h=>by simp [Op.bytesLess] at h
 | [],_ :: _,_ :: _,h,_=>by simp [Op.bytesLess] at h
 | x :: r,y :: q,z :: t,h1,h2=>by
  simp only [Op.bytesLess,Bool.or_eq_false_iff,Bool.and_eq_false_imp,decide_eq_false_iff_not,beq_iff_eq,UInt8.lt_iff_toNat_lt] at h1 h2 ⊢;obtain ⟨h1,zk⟩:=h1;obtain ⟨h2,ci⟩:=h2;refine ⟨by omega,fun e=>?_⟩;subst e;have e1:x=y:=by
   apply UInt8.toNat_inj.1;omega
  subst e1;exact W2 (zk rfl) (ci rfl)
theorem E2:∀ (a b c:List UInt8),Op.bytesLess (a++b) (a++c)=Op.bytesLess b c
 | [],b,c=>rfl
 | x :: r,b,c=>by
  have:=E2 r b c;simp [Op.bytesLess,this]
def AE (p q:ByteArray):Bool:=decide (p.size<q.size)||(decide (p.size=q.size)&&BL p q)
theorem IV (p:ByteArray):AE p p=false:=by simp [AE,BL,lY]
theorem b9 {p q r:ByteArray} (h1:AE p q=true) (h2:AE q r=true):AE p r=true:=by
 simp only [AE,BL,Bool.or_eq_true,y7,decide_eq_true_eq] at h1 h2 ⊢;rcases h1 with h1 | ⟨e1,h1⟩ <;> rcases h2 with h2 | ⟨e2,h2⟩
 ·exact .inl (by omega)
 ·exact .inl (by omega)
 ·exact .inl (by omega)
 ·exact .inr ⟨by omega,M6 h1 h2⟩
theorem short_neg {p q r:ByteArray} (h1:AE p q=false) (h2:AE q r=false):AE p r=false:=by
 simp only [AE,BL,Bool.or_eq_false_iff,Bool.and_eq_false_imp,decide_eq_false_iff_not,decide_eq_true_eq] at h1 h2 ⊢;obtain ⟨h1,zk⟩:=h1;obtain ⟨h2,ci⟩:=h2;exact ⟨by omega,fun e=>W2 (zk (by omega)) (ci (by omega))⟩
theorem short_pre (a p q:ByteArray):AE (a++p) (a++q)=AE p q:=by
 have h:BL (a++p) (a++q)=BL p q:=by
  unfold BL;rw [ByteArray.toList_eq,ByteArray.toList_eq,ByteArray.toList_eq,ByteArray.toList_eq,ByteArray.data_append,ByteArray.data_append,Array.toList_append,Array.toList_append];exact E2 _ _ _
 unfold AE;rw [h,ByteArray.size_append,ByteArray.size_append];have e1:decide (a.size + p.size<a.size + q.size)=decide (p.size<q.size):=decide_eq_decide.2 (by omega);have e2:decide (a.size + p.size=a.size + q.size)=decide (p.size=q.size):=decide_eq_decide.2 (by omega);rw [e1,e2]
theorem t4 {p q:ByteArray} (h:q.size<p.size):AE p q=false:=by
 simp only [AE,Bool.or_eq_false_iff,decide_eq_false_iff_not,Bool.and_eq_false_imp,decide_eq_true_eq];exact ⟨by omega,fun e=>by omega⟩
structure bO where
 known:Bool
 long:Bool
 p:ByteArray
 v:Vl
 d:Nat
def bO.unk:bO:=⟨false,false,eB,Vl.zero,0⟩
def bO.lng:bO:=⟨true,true,eB,Vl.zero,0⟩
def sB (e:bO):List AV:=[.bool e.known,.bool e.long,.str e.p,.int .i64 e.v.kind,.bool e.v.b,.int .i64 e.v.i,.str e.v.s,.int .i64 e.v.id,.sl e.v.kn (e.v.keys.map pA),.sl e.v.xn (e.v.items.map pA),.sl e.v.rn (e.v.rest.map sK)]
def NB (a b:bO):Bool:=if !a.known||!b.known then a.known&&!b.known else if a.long||b.long then !a.long&&b.long else AE a.p b.p
theorem eE:xJ NB where
 irr a:=by
  unfold NB;cases a.known <;> cases a.long <;> simp [IV]
 tr a b c h1 h2:=by
  unfold NB at *
  cases h3:a.known <;> cases h4:b.known <;> cases h5:c.known <;> cases h6:a.long <;> cases h7:b.long <;> cases h8:c.long <;> simp [h3,h4,h5,h6,h7,h8] at h1 h2 ⊢
  exact b9 h1 h2
 neg a b c h1 h2:=by
  unfold NB at *
  cases h3:a.known <;> cases h4:b.known <;> cases h5:c.known <;> cases h6:a.long <;> cases h7:b.long <;> cases h8:c.long <;> simp [h3,h4,h5,h6,h7,h8] at h1 h2 ⊢
  exact short_neg h1 h2
noncomputable def rI (S:List gA) (t:Int) (v:Vl):bO:=if 4096<(dG S t v).size then .lng else ⟨true,false,dG S t v,v,WK S t v⟩
def Q0 (low high:Int):Int:=if 0<low then low else if high<0 then high else 0
def mL (x:gA):Vl :=
 if x.kind=2 then .of 2 false (Q0 x.low x.high) eB 0
 else if x.kind=4 then .of 4 false 0 eB (match x.syms with | m :: _=>m.id | []=>0)
 else .of x.kind false 0 eB 0
abbrev WQ:=Nat->bO
def ID (l:WQ):List bB->Bool->List Vl->Option (Bool × List Vl)
 | [],lg,vs=>some (lg,vs)
 | m :: r,lg,vs=>if m.has then ID l r lg (vs++[m.dflt]) else if (l m.ty.toNat).known then ID l r (lg||(l m.ty.toNat).long) (vs++[(l m.ty.toNat).v]) else none
def MO (k:Int) (items:List Vl):Vl:=.mk k false 0 eB 0 true [] items.isEmpty items true []
def DN (k id:Int) (u:Vl):Vl:=.mk k false 0 eB id true [] false [u] true []
noncomputable def dF (S:List gA) (t:Int) (k:Int) (m:bB) (e:bO):bO:=if e.known&&!e.long then rI S t (DN k m.id e.v) else e
noncomputable def fF (S:List gA) (t:Int) (k:Int) (l:WQ):List bB->bO->bO
 | [],b=>b
 | m :: r,b=>fF S t k l r (if NB (dF S t k m (l m.ty.toNat)) b then dF S t k m (l m.ty.toNat) else b)
noncomputable def oO (S:List gA) (t:Int) (x:gA) (l:WQ):bO :=
 if x.kind=5 then (match ID l x.mems false [] with
  | none=>.unk
  | some (true,_)=>.lng
  | some (false,vs)=>rI S t (MO 5 vs))
 else if x.kind=6 then fF S t 6 l x.mems .unk
 else rI S t (mL x)
noncomputable def lC (S:List gA) (i:Nat) (l:WQ):bO:=match S[i]? with
 | some x=>oO S i x l
 | none=>.unk
theorem tN (l:WQ):∀ (a b:List bB) (lg:Bool) (vs:List Vl),ID l (a++b) lg vs=(ID l a lg vs).bind fun q=>ID l b q.1 q.2
 | [],b,lg,vs=>rfl
 | m :: r,b,lg,vs=>by
  rw [yx,ID,ID];split
  ·exact tN l r b lg _
  ·split
   ·exact tN l r b _ _
   ·rfl
def fG (l:WQ) (m:bB):Vl:=if m.has then m.dflt else (l m.ty.toNat).v
theorem DK (l:WQ):∀ (a:List bB) (lg:Bool) (vs:List Vl) (g:Bool) (ws:List Vl),ID l a lg vs=some (g,ws)->ws=vs++a.map (fG l)/\(∀ m∈a,m.has=false->(l m.ty.toNat).known=true)/\(g=false ↔ lg=false/\∀ m∈a,m.has=false->(l m.ty.toNat).long=false)
 | [],lg,vs,g,ws,h=>by
  injection h with h;injection h with h1 h2;subst h1; subst h2;simp
 | m :: r,lg,vs,g,ws,h=>by
  rw [ID] at h;split at h
  ·rename_i hh;obtain ⟨h1,h2,h3⟩:=DK l r lg _ g ws h;refine ⟨by rw [h1]; simp [fG,hh],fun m' tb hf=>?_,?_⟩
   ·rcases yc.1 tb with rfl | tb
    ·rw [hh] at hf; cases hf
    ·exact h2 m' tb hf
   ·rw [h3];refine and_congr Iff.rfl ⟨fun h m' tb hf=>?_,fun h m' tb=>h m' (yh _ tb)⟩;rcases yc.1 tb with rfl | tb
    ·rw [hh] at hf; cases hf
    ·exact h m' tb hf
  ·rename_i hh;have hh:m.has=false:=by simpa using hh
   split at h
   ·rename_i rd;obtain ⟨h1,h2,h3⟩:=DK l r _ _ g ws h;refine ⟨by rw [h1]; simp [fG,hh],fun m' tb hf=>?_,?_⟩
    ·rcases yc.1 tb with rfl | tb
     ·exact rd
     ·exact h2 m' tb hf
    ·rw [h3,Bool.or_eq_false_iff];constructor
     ·rintro ⟨⟨q1,q2⟩,q3⟩;refine ⟨q1,fun m' tb hf=>?_⟩;rcases yc.1 tb with rfl | tb
      ·exact q2
      ·exact q3 m' tb hf
     ·rintro ⟨q1,q2⟩;exact ⟨⟨q1,q2 m (by simp) hh⟩,fun m' tb=>q2 m' (yh _ tb)⟩
   ·cases h
theorem mV {l l':WQ}:∀ (a:List bB) (lg:Bool) (vs:List Vl),(∀ m∈a,m.has=false->l m.ty.toNat=l' m.ty.toNat)->ID l a lg vs=ID l' a lg vs
 | [],lg,vs,_=>rfl
 | m :: r,lg,vs,h=>by
  rw [ID,ID];cases hh:m.has with
  | true=>simp only [if_true]; exact mV r _ _ fun m' tb=>h m' (yh _ tb)
  | false =>
   rw [h m (by simp) hh];simp only [yp,if_false];split
   ·exact mV r _ _ fun m' tb=>h m' (yh _ tb)
   ·rfl
section
variable (S:List gA) (t k:Int) (l:WQ)
theorem B6:∀ (a:List bB) (b:bO),NB b (fF S t k l a b)=false/\∀ m∈a,NB (dF S t k m (l m.ty.toNat)) (fF S t k l a b)=false
 | [],b=>⟨eE.irr b,by simp⟩
 | m :: r,b=>by
  obtain ⟨h1,h2⟩:=B6 r (if NB (dF S t k m (l m.ty.toNat)) b then dF S t k m (l m.ty.toNat) else b);rw [fF];cases hb:NB (dF S t k m (l m.ty.toNat)) b with
  | true =>
   rw [hb] at h1 h2;simp only [if_true] at h1 h2 ⊢;refine ⟨eE.neg _ _ _ (eE.asym hb) h1,fun m' tb=>?_⟩;rcases yc.1 tb with rfl | tb
   ·exact h1
   ·exact h2 m' tb
  | false =>
   rw [hb] at h1 h2;simp only [yp,if_false] at h1 h2 ⊢;refine ⟨h1,fun m' tb=>?_⟩;rcases yc.1 tb with rfl | tb
   ·exact eE.neg _ _ _ hb h1
   ·exact h2 m' tb
theorem MN:∀ (a:List bB) (b:bO),fF S t k l a b=b\/∃ m∈a,fF S t k l a b=dF S t k m (l m.ty.toNat)
 | [],b=>.inl rfl
 | m :: r,b=>by
  rw [fF];rcases MN r (if NB (dF S t k m (l m.ty.toNat)) b then dF S t k m (l m.ty.toNat) else b) with h | ⟨m',tb,h⟩
  ·rw [h];split
   ·exact .inr ⟨m,by simp,rfl⟩
   ·exact .inl rfl
  ·exact .inr ⟨m',yh _ tb,h⟩
end
end
section
theorem MV {S:List gA}:∀ (n i:Nat),LD S n i=none->∀ j x,i<=j->j<i + n->S[j]?=some x->jI S x=none
 | 0,i,_,j,x,h1,h2,_=>by omega
 | n + 1,i,h,j,x,h1,h2,hx=>by
  rw [LD] at h;cases hi:S[i]? with
  | none =>
   have:=(ym.1 hx).1;have:=List.getElem?_eq_none_iff.1 hi;omega
  | some y =>
   rw [hi] at h;simp only at h;cases hd:jI S y with
   | some d=>rw [hd] at h; cases h
   | none =>
    rw [hd] at h;rcases Nat.lt_or_eq_of_le h1 with h3 | h3
    ·exact MV n (i + 1) h j x h3 (by omega) hx
    ·subst h3;rw [hi] at hx;injection hx with hx;rw [<- hx];exact hd
structure PD (S:List gA):Prop where
 good:zP S
 val:valid S=0
 dfl:∀ x∈S,∀ m∈x.mems,m.has=true->PE S m.ty m.dflt=true
 d64:∀ x∈S,∀ m∈x.mems,m.dflt.i64
 n64:∀ x∈S,LE x.low/\LE x.high
theorem PD.of {s:PM} (hs:s.fine) (nb:s.d64) (hn:∀ x∈s.types,LE x.low/\LE x.high) (h:AB s.types=0):PD s.types:=by
 have hv:=eJ h;refine ⟨dS hs hv,hv,fun x hx m hm hh=>?_,nb,hn⟩;unfold AB at h;rw [if_pos hv] at h;cases hd:LD s.types s.types.length 0 with
 | some p=>rw [hd] at h; cases h
 | none =>
  obtain ⟨j,hj,rfl⟩:=yy hx;have:=MV _ _ hd j _ (Nat.zero_le j) (by omega) (y4 hj);unfold jI at this;rw [Option.map_eq_none_iff,List.find?_eq_none] at this;have hb:=this m hm;unfold DM at hb;rw [hh] at hb;simpa using hb
theorem PD.len {S:List gA} (h:PD S):S.length<=32:=by
 have:=h.val;unfold valid at this;split at this
 ·cases this
 ·omega
theorem PD.win {S:List gA} (h:PD S):∀ x∈S,FC S.length x:=pK h.val
structure rH (S:List gA) (t:Int) (e:bO):Prop where
 u:e.known=false->e=.unk
 l:e.known=true->e.long=true->e=.lng
 v:e.known=true->e.long=false->e.p=dG S t e.v/\e.d=WK S t e.v/\PE S t e.v=true/\e.v.ok/\e.v.i64/\e.p.size<=4096
theorem rH.unk {S:List gA} {t:Int}:rH S t .unk:=⟨fun _=>rfl,fun h=>(nomatch h),fun h=>(nomatch h)⟩
theorem rH.lng {S:List gA} {t:Int}:rH S t .lng:=⟨fun h=>(nomatch h),fun _ _=>rfl,fun _ h=>(nomatch h)⟩
theorem rH.fin {S:List gA} {t:Int} {v:Vl} (hp:PE S t v=true) (ho:v.ok) (nb:v.i64):rH S t (rI S t v):=by
 unfold rI;split
 ·exact rH.lng
 ·rename_i h;exact ⟨fun h=>(nomatch h),fun _ h=>(nomatch h),fun _ _=>⟨rfl,rfl,hp,ho,nb,by show (dG S t v).size<=4096; omega⟩⟩
def QH (S:List gA) (l:WQ):Prop:=∀ j,j<S.length->rH S j (l j)
theorem i64_mk {k:Int} {b:Bool} {i:Int} {s:ByteArray} {d:Int} {kn xn rn:Bool} {ks xs:List Vl} {rs:List Raw}:(Vl.mk k b i s d kn ks xn xs rn rs).i64 ↔ LE i/\(∀ x∈ks,x.i64)/\∀ x∈xs,x.i64:=Vl.i64_def _
theorem ok_mk {k:Int} {b:Bool} {i:Int} {s:ByteArray} {d:Int} {kn xn rn:Bool} {ks xs:List Vl} {rs:List Raw}:(Vl.mk k b i s d kn ks xn xs rn rs).ok ↔ ks.length<=9223372036854775807/\xs.length<=9223372036854775807/\rs.length<=9223372036854775807/\s.size<=9223372036854775807/\(∀ x∈ks,x.ok)/\∀ x∈xs,x.ok:=Vl.ok_def _
section
variable {S:List gA} (hS:PD S) {i:Nat} {x:gA} (g:S[i]?=some x)
include hS g
theorem PD.mem:x∈S:=yQ g
theorem PD.lt:i<S.length:=(ym.1 g).1
theorem sZ {v:Vl}:PE S i v=(decide (v.kind=x.kind)&&OC v&&lJ (PE S) x v):=by
 have fa:=PD.lt hS g;rw [plainV_def];have ho:tB S.length (i:Int)=false:=by simp [tB]; omega
 have hg:S[(i:Int).toNat]?=some x:=g;rw [ho,hg];rfl
theorem pay_at {v:Vl}:dG S i v=eD (dG S) x v:=by
 have hg:S[(i:Int).toNat]?=some x:=g;rw [payV_def,hg]
theorem Z4 {v:Vl}:WK S i v=FH (WK S) x v:=by
 have hg:S[(i:Int).toNat]?=some x:=g;rw [depV_def,hg]
theorem H7 (h5:x.kind≠5) (h6:x.kind≠6):PE S i (mL x)=true/\(mL x).ok/\(mL x).i64:=by
 obtain ⟨ah,ak⟩:=hS.good x (PD.mem hS g);have cj:=JE ah;have dy:=ah;unfold aB at ah;rw [y7,y7] at ah;obtain ⟨_,h1,_⟩:=ah;have oks:∀ k b i s d,s.size<=9223372036854775807->(Vl.of k b i s d).ok:=fun k b i s d h=>by
  rw [Vl.of,ok_mk];simp [h]
 have i64s:∀ k b i s d,LE i->(Vl.of k b i s d).i64:=fun k b i s d h=>by
  rw [Vl.of,i64_mk];simp [h]
 have e0:eB.size<=9223372036854775807:=by decide
 have z0:LE 0:=by unfold LE; omega
 rw [sZ hS g];unfold mL;by_cases k2:x.kind=2
 ·simp [kF,k2] at h1;rw [if_pos k2];have hn:x.low<=Q0 x.low x.high/\Q0 x.low x.high<=x.high:=by unfold Q0; split <;> (try split) <;> omega
  refine ⟨?_,oks _ _ _ _ _ e0,i64s _ _ _ _ _ ?_⟩
  ·simp [Vl.of,Vl.kind,Vl.i,OC,lJ,k2,hn,Vl.b,Vl.s,Vl.id,Vl.keys,Vl.items,Vl.rest,eB]
  ·obtain ⟨⟨q1,q2⟩,q3,q4⟩:=hS.n64 x (PD.mem hS g);exact ⟨by omega,by omega⟩
 rw [if_neg k2];by_cases k4:x.kind=4
 ·rw [if_pos k4];simp [kF,k4] at h1;refine ⟨?_,oks _ _ _ _ _ e0,i64s _ _ _ _ _ z0⟩;cases tn:x.syms with
  | nil=>simp [JK,tn] at h1
  | cons m r =>
   have:0<=AN (m :: r) m.id:=by
    have h1:=nL (fun y:eU=>decide (y.id=m.id)) (m :: r);have h2:((m :: r).any fun y=>decide (y.id=m.id))=true:=by simp
    rw [h2] at h1;exact of_decide_eq_true h1
   simp [Vl.of,Vl.kind,Vl.i,OC,lJ,k4,Vl.b,Vl.s,Vl.id,Vl.keys,Vl.items,Vl.rest,eB,tn,this]
 rw [if_neg k4];refine ⟨?_,oks _ _ _ _ _ e0,i64s _ _ _ _ _ z0⟩;rcases kinds x.kind with e | e | e | e | e | e | e | e | e | e
 ·simp [Vl.of,Vl.kind,Vl.i,OC,lJ,e,Vl.b,Vl.s,Vl.id,Vl.keys,Vl.items,Vl.rest,eB]
 ·exact absurd e k2
 ·simp [kF,e] at h1;have:(ByteArray.mk #[]).size=0:=rfl;simp [Vl.of,Vl.kind,Vl.i,OC,lJ,e,Vl.b,Vl.s,Vl.id,Vl.keys,Vl.items,Vl.rest,eB,this];omega
 ·exact absurd e k4
 ·exact absurd e h5
 ·exact absurd e h6
 ·simp [kF,e] at h1;simp [Vl.of,Vl.kind,Vl.i,OC,lJ,e,Vl.b,Vl.s,Vl.id,Vl.keys,Vl.items,Vl.rest,eB];omega
 ·simp [kF,e] at h1;simp [Vl.of,Vl.kind,Vl.i,OC,lJ,e,Vl.b,Vl.s,Vl.id,Vl.keys,Vl.items,Vl.rest,eB,kL];omega
 ·simp [Vl.of,Vl.kind,Vl.i,OC,lJ,e,Vl.b,Vl.s,Vl.id,Vl.keys,Vl.items,Vl.rest,eB]
 ·exact absurd cj e
end
end
section
theorem omit_self (m:bB) (h:m.has=true):jF m m.dflt=true:=by simp [jF,h,Vl.same_refl]
theorem omit_no {m:bB} {v:Vl} (h:m.has=false):jF m v=false:=by simp [jF,h]
theorem iZ {f:Int->Vl->Bool} {it:bB->Vl}:∀ (l:List bB),(∀ m∈l,f m.ty (it m)=true)->QE f l (l.map it)=true
 | [],_=>rfl
 | m :: r,h=>by rw [yl,QE,h m (by simp),iZ r fun m' tb=>h m' (yh _ tb)]; rfl
theorem C8 (f:Int->Vl->ByteArray):∀ (l:List bB) (q:List Vl) (b:ByteArray),(∀ (i:Nat) m v,l[i]?=some m->q[i]?=some v->jF m v=false->(f m.ty v).size<=4096)->(UG f l q b).size<=b.size + l.length * 4116
 | [],q,b,_=>by cases q <;> simp [UG]
 | m :: r,[],b,_=>by simp [UG]
 | m :: r,v :: q,b,h=>by
  have ih:=fun b'=>C8 f r q b' fun i m' v' h1 h2 h3=>h (i + 1) m' v' (by simpa using h1) (by simpa using h2) h3
  rw [UG];split
  ·have:=ih b;simp only [yI];omega
  ·rename_i ho;have h1:=ih (b++iG m.id m.crit (f m.ty v));have h2:=h 0 m v rfl rfl (by simpa using ho);have h3:=bL m.id m.crit (f m.ty v);rw [ByteArray.size_append] at h1;simp only [yI];omega
theorem AT (f:Int->Vl->Nat):∀ (l:List bB) (q:List Vl) (b:Nat),lI f l q b=b\/∃ (i:Nat) (m:bB) (v:Vl),l[i]?=some m/\q[i]?=some v/\jF m v=false/\lI f l q b=f m.ty v
 | [],q,b=>by cases q <;> exact .inl rfl
 | m :: r,[],b=>.inl rfl
 | m :: r,v :: q,b=>by
  rw [lI];cases ho:jF m v with
  | true =>
   rw [if_pos rfl];rcases AT f r q b with h | ⟨i,m',v',h1,h2,h3,h4⟩
   ·exact .inl h
   ·exact .inr ⟨i + 1,m',v',by simpa using h1,by simpa using h2,h3,h4⟩
  | false =>
   rw [if_neg (by decide)];rcases AT f r q (max b (f m.ty v)) with h | ⟨i,m',v',h1,h2,h3,h4⟩
   ·rw [h];rcases Nat.le_total b (f m.ty v) with h5 | h5
    ·exact .inr ⟨0,m,v,rfl,rfl,ho,by omega⟩
    ·exact .inl (by omega)
   ·exact .inr ⟨i + 1,m',v',by simpa using h1,by simpa using h2,h3,h4⟩
theorem Z8 (n:Int):1<=(lM n).size:=by
 unfold lM;rw [uP];exact putL_pos 10 n (by decide)
section
variable {S:List gA} (hS:PD S) {i:Nat} {x:gA} (g:S[i]?=some x) {l:WQ} (hl:QH S l)
include hS g hl
theorem O9 {m:bB} (hm:m∈x.mems):0<=m.ty/\m.ty<S.length/\m.ty.toNat<S.length/\((m.ty.toNat:Nat):Int)=m.ty:=by
 have:=(hS.win x (PD.mem hS g)).mems m hm;omega
theorem ZJ {m:bB} (hm:m∈x.mems):rH S m.ty (l m.ty.toNat):=by
 obtain ⟨_,_,h1,h2⟩:=O9 hS g hl hm;have:=hl m.ty.toNat h1
 rwa [h2] at this
theorem p5 {m:bB} (hm:m∈x.mems) (hk:m.has=false->(l m.ty.toNat).known=true/\(l m.ty.toNat).long=false):PE S m.ty (fG l m)=true/\(fG l m).ok/\(fG l m).i64:=by
 have hx:=PD.mem hS g;unfold fG;cases hh:m.has with
 | true =>
  simp only [if_true];exact ⟨hS.dfl x hx m hm hh,((hS.good x hx).2.1.2.2 m hm).1,hS.d64 x hx m hm⟩
 | false =>
  simp only [yp,if_false];obtain ⟨h1,h2⟩:=hk hh;obtain ⟨_,_,h3,h4,h5,_⟩:=(ZJ hS g hl hm).v h1 h2;exact ⟨h3,h4,h5⟩
theorem recV_ok (h5:x.kind=5) (hk:∀ m∈x.mems,m.has=false->(l m.ty.toNat).known=true/\(l m.ty.toNat).long=false):PE S i (MO 5 (x.mems.map (fG l)))=true/\(MO 5 (x.mems.map (fG l))).ok/\(MO 5 (x.mems.map (fG l))).i64:=by
 have hx:=PD.mem hS g;refine ⟨?_,?_,?_⟩
 ·rw [sZ hS g];have hp:QE (PE S) x.mems (x.mems.map (fG l))=true:=iZ _ fun m hm=>(p5 hS g hl hm (hk m hm)).1
  simp [MO,Vl.kind,OC,lJ,h5,Vl.b,Vl.s,Vl.id,Vl.keys,Vl.items,Vl.rest,Vl.i,eB,hp]
 ·rw [MO,ok_mk];have:=(hS.good x hx).2.1.2.1;refine ⟨by simp,by simpa using this,by simp,by decide,by simp,fun u hu=>?_⟩;obtain ⟨m,hm,rfl⟩:=yB.1 hu;exact (p5 hS g hl hm (hk m hm)).2.1
 ·rw [MO,i64_mk];refine ⟨by unfold LE; omega,by simp,fun u hu=>?_⟩;obtain ⟨m,hm,rfl⟩:=yB.1 hu;exact (p5 hS g hl hm (hk m hm)).2.2
theorem rec_pay (h5:x.kind=5):dG S i (MO 5 (x.mems.map (fG l)))=UG (dG S) x.mems (x.mems.map (fG l)) eB:=by
 rw [pay_at hS g];simp [eD,h5,MO,Vl.items]
theorem rec_dep (h5:x.kind=5):WK S i (MO 5 (x.mems.map (fG l)))=1 + lI (WK S) x.mems (x.mems.map (fG l)) 0:=by
 rw [Z4 hS g];simp [FH,h5,MO,Vl.items]
theorem bY {j:Nat} {m:bB} {v:Vl} (h1:x.mems[j]?=some m) (h2:(x.mems.map (fG l))[j]?=some v) (h3:jF m v=false):m∈x.mems/\m.has=false/\v=(l m.ty.toNat).v:=by
 have hm:=yQ h1;rw [y8,h1] at h2;injection h2 with h2;cases hh:m.has with
 | true =>
  have:v=m.dflt:=by rw [<- h2]; simp [fG,hh]
  rw [this,omit_self m hh] at h3;cases h3
 | false=>exact ⟨hm,rfl,by rw [<- h2]; simp [fG,hh]⟩
theorem rec_size (h5:x.kind=5) (hk:∀ m∈x.mems,m.has=false->(l m.ty.toNat).known=true/\(l m.ty.toNat).long=false):(dG S i (MO 5 (x.mems.map (fG l)))).size<=1000000:=by
 rw [rec_pay hS g hl h5];have h1:=C8 (dG S) x.mems (x.mems.map (fG l)) eB fun j m v q1 q2 q3=>by
  obtain ⟨hm,hh,rfl⟩:=bY hS g hl q1 q2 q3;obtain ⟨k1,k2⟩:=hk m hm hh;obtain ⟨e1,_,_,_,_,e2⟩:=(ZJ hS g hl hm).v k1 k2;rw [<- e1];exact e2
 have h2:x.mems.length<=16:=(hS.win x (PD.mem hS g)).few;have h3:eB.size=0:=rfl;omega
section
variable (h6:x.kind=6) {m:bB} (hm:m∈x.mems)
include h6 m hm
theorem arm_ok (hk:(l m.ty.toNat).known=true/\(l m.ty.toNat).long=false):PE S i (DN 6 m.id (l m.ty.toNat).v)=true/\(DN 6 m.id (l m.ty.toNat).v).ok/\(DN 6 m.id (l m.ty.toNat).v).i64:=by
 have hx:=PD.mem hS g;obtain ⟨gk,_⟩:=z6 (hS.good x hx).1;obtain ⟨j,hj,mt⟩:=yy hm;have kp:x.mems[j]?=some m:=by rw [y4 hj,mt]
 have nq:=zY gk kp;obtain ⟨e1,_,e3,e4,e5,e6⟩:=(ZJ hS g hl hm).v hk.1 hk.2;refine ⟨?_,?_,?_⟩
 ·rw [sZ hS g];simp [DN,Vl.kind,OC,lJ,h6,Vl.b,Vl.s,Vl.id,Vl.keys,Vl.items,Vl.rest,Vl.i,eB,nq,kp,pF,e3]
 ·rw [DN,ok_mk];refine ⟨by simp,by simp,by simp,by decide,by simp,fun u hu=>?_⟩;rw [yL.1 hu];exact e4
 ·rw [DN,i64_mk];refine ⟨by unfold LE; omega,by simp,fun u hu=>?_⟩;rw [yL.1 hu];exact e5
theorem EQ (u:Vl):dG S i (DN 6 m.id u)=lM m.id++dG S m.ty u/\WK S i (DN 6 m.id u)=1 + WK S m.ty u:=by
 obtain ⟨gk,_⟩:=z6 (hS.good x (PD.mem hS g)).1;obtain ⟨j,hj,mt⟩:=yy hm;have kp:x.mems[j]?=some m:=by rw [y4 hj,mt]
 have nq:=zY gk kp;rw [pay_at hS g,Z4 hS g];constructor
 ·simp [eD,h6,DN,Vl.items,Vl.id,nq,kp,armB]
 ·simp [FH,h6,DN,Vl.items,Vl.id,nq,kp,armD]
theorem H4:rH S i (dF S i 6 m (l m.ty.toNat)):=by
 unfold dF;cases hk:(l m.ty.toNat).known with
 | false =>
  rw [(ZJ hS g hl hm).u hk];exact rH.unk
 | true =>
  cases ec:(l m.ty.toNat).long with
  | true =>
   rw [(ZJ hS g hl hm).l hk ec];exact rH.lng
  | false =>
   simp only [Bool.not_false,Bool.and_self,if_true];obtain ⟨h1,h2,h3⟩:=arm_ok hS g hl h6 hm ⟨hk,ec⟩;exact rH.fin h1 h2 h3
end
theorem impL_ok:rH S i (lC S i l):=by
 unfold lC;rw [g];simp only;unfold oO;by_cases h5:x.kind=5
 ·rw [if_pos h5];cases hr:ID l x.mems false [] with
  | none=>exact rH.unk
  | some q =>
   obtain ⟨lg,ws⟩:=q;obtain ⟨h1,h2,h3⟩:=DK l _ _ _ _ _ hr;cases lg with
   | true=>exact rH.lng
   | false =>
    simp only;rw [h1,yK];obtain ⟨q1,q2,q3⟩:=recV_ok hS g hl h5 fun m hm hh=>⟨h2 m hm hh,(h3.1 rfl).2 m hm hh⟩
    exact rH.fin q1 q2 q3
 ·rw [if_neg h5];by_cases h6:x.kind=6
  ·rw [if_pos h6];rcases MN S i 6 l x.mems .unk with h | ⟨m,hm,h⟩
   ·rw [h]; exact rH.unk
   ·rw [h]; exact H4 hS g hl h6 hm
  ·rw [if_neg h6];obtain ⟨q1,q2,q3⟩:=H7 hS g h5 h6;exact rH.fin q1 q2 q3
theorem arm_no {m:bB} (h6:x.kind=6) (hm:m∈x.mems):NB (dF S i 6 m (l m.ty.toNat)) (l m.ty.toNat)=false:=by
 unfold dF;cases hk:(l m.ty.toNat).known with
 | false=>simp [NB,hk]
 | true =>
  cases ec:(l m.ty.toNat).long with
  | true=>simp [NB,hk,ec]
  | false =>
   simp only [Bool.not_false,Bool.and_self,if_true];obtain ⟨e1,_⟩:=(ZJ hS g hl hm).v hk ec;unfold rI;split
   ·simp [NB,hk,ec,bO.lng]
   ·simp only [NB,hk,ec];simp;rw [(EQ hS g hl h6 hm _).1,e1];refine t4 ?_;have:=Z8 m.id;rw [ByteArray.size_append];omega
end
def usedL (S:List gA) (i:Nat) (l:WQ) (u:Nat):Prop:=∃ x,S[i]?=some x/\((x.kind=5/\∃ m∈x.mems,m.has=false/\m.ty.toNat=u)\/(x.kind=6/\∃ m∈x.mems,m.ty.toNat=u/\NB (lC S i l) (dF S i 6 m (l u))=false))
theorem arm_mono {S:List gA} (hS:PD S) {i:Nat} {x:gA} (g:S[i]?=some x) {l l':WQ} (hl:QH S l) (im:QH S l') (h6:x.kind=6) {m:bB} (hm:m∈x.mems) (hb:NB (l' m.ty.toNat) (l m.ty.toNat)=true):NB (dF S i 6 m (l m.ty.toNat)) (dF S i 6 m (l' m.ty.toNat))=false:=by
 have a1:=ZJ hS g hl hm;have a2:=ZJ hS g im hm;generalize l m.ty.toNat=e at *
 generalize l' m.ty.toNat=e' at *
 cases hk:e.known with
 | false =>
  have:dF S i 6 m e=e:=by simp [dF,hk]
  rw [this];simp [NB,hk]
 | true =>
  have tc:e'.known=true:=by
   cases h:e'.known with
   | true=>rfl
   | false=>simp [NB,hk,h] at hb
  cases ec:e.long with
  | true =>
   have:dF S i 6 m e=e:=by simp [dF,ec]
   rw [this];have h2:(dF S i 6 m e').known=true:=by
    unfold dF;split
    ·unfold rI;split <;> rfl
    ·exact tc
   simp [NB,hk,h2,ec]
  | false =>
   have hlg':e'.long=false:=by
    cases h:e'.long with
    | false=>rfl
    | true=>simp [NB,hk,tc,ec,h] at hb
   have hs:AE e'.p e.p=true:=by simpa [NB,hk,tc,ec,hlg'] using hb
   obtain ⟨p1,_⟩:=a1.v hk ec;obtain ⟨p2,_⟩:=a2.v tc hlg';have q1:=(EQ hS g hl h6 hm e.v).1;have q2:=(EQ hS g hl h6 hm e'.v).1;rw [<- p1] at q1;rw [<- p2] at q2;have ub:e'.p.size<=e.p.size:=by
    simp only [AE,Bool.or_eq_true,y7,decide_eq_true_eq] at hs;omega
   simp only [dF,hk,tc,ec,hlg',Bool.not_false,Bool.and_self,if_true];unfold rI;rw [q1,q2];by_cases c1:4096<(lM m.id++e.p).size
   ·rw [if_pos c1];split <;> simp [NB,bO.lng]
   ·rw [if_neg c1];have c2:¬ 4096<(lM m.id++e'.p).size:=by
     rw [ByteArray.size_append] at c1 ⊢;omega
    rw [if_neg c2];simp only [NB];simp;rw [short_pre];cases h:AE e.p e'.p with
    | false=>rfl
    | true =>
     have:=b9 h hs;rw [IV] at this;cases this
theorem MS {S:List gA} (hS:PD S):XN NB (lC S) S.length (QH S) (usedL S) bO.d where
 keep l i hl hd hi hb j hj:=by
  have g:S[i]?=some S[i]:=y4 hi;by_cases e:j=i
  ·subst e;rw [mQ hb];exact impL_ok hS g hl
  ·rw [iK e];exact hl j hj
 rng l t u hl ht hu:=by
  obtain ⟨x,g,⟨_,m,hm,_,rfl⟩ | ⟨_,m,hm,rfl,_⟩⟩:=hu
  ·exact (O9 hS g hl hm).2.2.1
  ·exact (O9 hS g hl hm).2.2.1
 sup l t u hl ht hu:=by
  obtain ⟨x,g,⟨h5,m,hm,hh,rfl⟩ | ⟨h6,m,hm,rfl,hb⟩⟩:=hu
  ·have ta:lC S t l=oO S t x l:=by simp only [lC,g]
   rw [ta,oO,if_pos h5];cases hr:ID l x.mems false [] with
   | none=>simp [NB,bO.unk]
   | some q =>
    obtain ⟨lg,ws⟩:=q;obtain ⟨h1,h2,h3⟩:=DK l _ _ _ _ _ hr;have hk:=h2 m hm hh;cases lg with
    | true=>simp [NB,bO.lng,hk]
    | false =>
     have ec:=(h3.1 rfl).2 m hm hh;simp only;rw [h1,yK];unfold rI;split
     ·simp [NB,bO.lng,hk]
     ·simp only [NB,hk,ec];simp;obtain ⟨e1,_⟩:=(ZJ hS g hl hm).v hk ec;refine t4 ?_;rw [rec_pay hS g hl h5,jQ];obtain ⟨j,hj,mt⟩:=yy hm;have kp:x.mems[j]?=some m:=by rw [y4 hj,mt]
      have dg:(x.mems.map (fG l))[j]?=some (l m.ty.toNat).v:=by rw [y8,kp]; simp [fG,hh]
      have q1:=DS (dG S) x.mems (x.mems.map (fG l)) j m _ kp dg (omit_no hh);have q2:=US _ eB _ q1;have q3:=Z8 (CJ m.id m.crit);have q4:=pE (dG S m.ty (l m.ty.toNat).v);simp only [iG,ByteArray.size_append] at q2;rw [e1];omega
  ·exact eE.neg _ _ _ hb (arm_no hS g hl h6 hm)
 loc l t i hl ht hi hb im hnu:=by
  have g:S[t]?=some S[t]:=y4 ht;generalize S[t]=x at *
  have hn:∀ l'':WQ,lC S t l''=oO S t x l'':=fun l''=>by simp only [lC,g]
  by_cases h5:x.kind=5
  ·have rf:lC S t (KF NB (lC S) l i)=lC S t l:=by
    rw [hn,hn,oO,oO,if_pos h5,if_pos h5];rw [mV (l:=KF NB (lC S) l i) (l':=l) x.mems false [] fun m hm hh=>iK fun e=>hnu ⟨x,g,.inl ⟨h5,m,hm,hh,e⟩⟩]
   refine ⟨by rw [rf]; exact eE.irr _,fun u hu=>?_⟩;obtain ⟨y,gy,⟨h5y,hm⟩ | ⟨h6,_⟩⟩:=hu
   ·exact ⟨y,gy,.inl ⟨h5y,hm⟩⟩
   ·rw [g] at gy; injection gy with gy; rw [<- gy] at h6; omega
  ·by_cases h6:x.kind=6
   ·have mj:∀ l'':WQ,lC S t l''=fF S t 6 l'' x.mems .unk:=fun l''=>by rw [hn,oO,if_neg h5,if_pos h6]
    have dd:∀ m∈x.mems,m.ty.toNat=i->NB (lC S t (KF NB (lC S) l i)) (dF S t 6 m (KF NB (lC S) l i i))=true:=fun m hm e=>by
     cases h:NB (lC S t (KF NB (lC S) l i)) (dF S t 6 m (KF NB (lC S) l i i)) with
     | true=>rfl
     | false=>exact absurd ⟨x,g,.inr ⟨h6,m,hm,e,h⟩⟩ hnu
    have ub:NB (lC S t (KF NB (lC S) l i)) (lC S t l)=false:=by
     rw [mj (KF NB (lC S) l i)] at dd ⊢;rcases MN S t 6 (KF NB (lC S) l i) x.mems .unk with h | ⟨m,hm,h⟩
     ·rw [h]; simp [NB,bO.unk]
     ·have ta:m.ty.toNat≠i:=fun e=>by
       have:=dd m hm e;rw [h,e,eE.irr] at this;cases this
      rw [h,iK ta,mj];exact (B6 S t 6 l x.mems .unk).2 m hm
    refine ⟨ub,fun u hu=>?_⟩;obtain ⟨y,gy,⟨h5',_⟩ | ⟨_,m,hm,rfl,hbu⟩⟩:=hu
    ·rw [g] at gy; injection gy with gy; rw [<- gy] at h5'; exact absurd h5' h5
    ·rw [g] at gy; injection gy with gy; subst gy;have h1:=eE.neg _ _ _ ub hbu;by_cases e:m.ty.toNat=i
     ·have sa:NB (KF NB (lC S) l i m.ty.toNat) (l m.ty.toNat)=true:=by rw [e,mQ hb]; exact hb
      have h2:=arm_mono hS g hl im h6 hm sa;have h3:=eE.neg _ _ _ h1 h2;have h4:=dd m hm e;rw [e] at h3;rw [h3] at h4;cases h4
     ·exact ⟨x,g,.inr ⟨h6,m,hm,rfl,by rw [iK e]; exact h1⟩⟩
   ·have rf:lC S t (KF NB (lC S) l i)=lC S t l:=by rw [hn,hn,oO,oO,if_neg h5,if_neg h5,if_neg h6,if_neg h6]
    refine ⟨by rw [rf]; exact eE.irr _,fun u hu=>?_⟩;obtain ⟨y,gy,⟨h5',_⟩ | ⟨h6',_⟩⟩:=hu
    ·rw [g] at gy; injection gy with gy; rw [<- gy] at h5'; exact absurd h5' h5
    ·rw [g] at gy; injection gy with gy; rw [<- gy] at h6'; exact absurd h6' h6
 dp l t hl ht:=by
  have g:S[t]?=some S[t]:=y4 ht;generalize S[t]=x at *
  have ta:lC S t l=oO S t x l:=by simp only [lC,g]
  have leaf:∀ v,(∀ f,FH f x v=1)->(rI S t v).d<=1:=fun v h=>by
   unfold rI;split
   ·exact Nat.zero_le 1
   ·show WK S t v<=1;rw [Z4 hS g,h];exact yf 1
  by_cases h5:x.kind=5
  ·rw [ta,oO,if_pos h5];cases hr:ID l x.mems false [] with
   | none=>exact .inl (Nat.zero_le 1)
   | some q =>
    obtain ⟨lg,ws⟩:=q;obtain ⟨h1,h2,h3⟩:=DK l _ _ _ _ _ hr;cases lg with
    | true=>exact .inl (Nat.zero_le 1)
    | false =>
     simp only;rw [h1,yK];unfold rI;split
     ·exact .inl (Nat.zero_le 1)
     ·show WK S t _<=1\/∃ u,_/\WK S t _<=_;rw [rec_dep hS g hl h5];rcases AT (WK S) x.mems (x.mems.map (fG l)) 0 with h | ⟨j,m,v,q1,q2,q3,q4⟩
      ·exact .inl (by omega)
      ·obtain ⟨hm,hh,rfl⟩:=bY hS g hl q1 q2 q3;obtain ⟨_,e2,_⟩:=(ZJ hS g hl hm).v (h2 m hm hh) ((h3.1 rfl).2 m hm hh);exact .inr ⟨m.ty.toNat,⟨x,g,.inl ⟨h5,m,hm,hh,rfl⟩⟩,by omega⟩
  ·by_cases h6:x.kind=6
   ·have mj:lC S t l=fF S t 6 l x.mems .unk:=by rw [ta,oO,if_neg h5,if_pos h6]
    rcases MN S t 6 l x.mems .unk with h | ⟨m,hm,h⟩
    ·rw [mj,h]; exact .inl (Nat.zero_le 1)
    ·have hu:usedL S t l m.ty.toNat:=⟨x,g,.inr ⟨h6,m,hm,rfl,by rw [mj,h]; exact eE.irr _⟩⟩;refine .inr ⟨m.ty.toNat,hu,?_⟩;rw [mj,h];unfold dF;split
     ·rename_i jo;simp only [y7,Bool.not_eq_true'] at jo;unfold rI;split
      ·exact Nat.zero_le _
      ·obtain ⟨_,e2,_⟩:=(ZJ hS g hl hm).v jo.1 jo.2;show WK S t _<=_;rw [(EQ hS g hl h6 hm _).2];omega
     ·omega
   ·rw [ta,oO,if_neg h5,if_neg h6];refine .inl (leaf _ fun f=>?_);unfold FH mL;rw [if_neg h5,if_neg h6];by_cases k2:x.kind=2
    ·simp [k2]
    by_cases k4:x.kind=4
    ·simp [k4]
    by_cases k9:x.kind=9
    ·simp [k9,Vl.of,Vl.items,H8]
    by_cases k7:x.kind=7
    ·simp [k7,Vl.of,Vl.items,HF]
    by_cases k8:x.kind=8
    ·simp [k8,Vl.of,Vl.items,Vl.keys,xH]
    ·simp [k9,k7,k8]
theorem O7 (S:List gA):QH S (fun _=>.unk):=fun _ _=>rH.unk
end
end Go.Proofs.YtjoaiabjebpbjaaGreat
