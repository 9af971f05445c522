/- A part of the proof. -/
import Derived.Test.YtbhbeakhognieaaGreatWv
set_option linter.all false
set_option maxRecDepth 100000
set_option maxHeartbeats 8000000
open List renaming getElem?_eq_getElem → y5, getElem_mem → y8, getElem?_eq_some_iff → y9, mem_cons → yg, mem_of_getElem? → yh, getElem_of_mem → yq, mem_singleton → yO
open Bool renaming and_eq_true → y7
namespace Go.Proofs.YtbhbeakhognieaaGreat
open Go
theorem P2 {f g:Int->Vl->Bool}:∀ (l:List zB) (q:List Vl),(∀ u∈q,∀ t,f t u=g t u)->BD f l q=BD g l q
 | [],q,_=>by cases q <;> rfl
 | m :: r,[],_=>rfl
 | m :: r,v :: q,h=>by rw [BD,BD,h v (by simp),P2 r q fun u hu=>h u (by simp [hu])]
theorem s9 {f g:Vl->Bool}:∀ (l:List Vl),(∀ u∈l,f u=g u)->l.all f=l.all g
 | [],_=>rfl
 | v :: r,h=>by rw [List.all_cons,List.all_cons,h v (by simp),s9 r fun u hu=>h u (by simp [hu])]
theorem fitK_cg {f g:Int->Vl->Bool} (x:pA) (v:Vl) (h1:∀ u∈v.keys,∀ t,f t u=g t u) (h2:∀ u∈v.items,∀ t,f t u=g t u):jE f x v=jE g x v:=by
 unfold jE;rw [P2 _ _ h2,s9 _ fun u hu=>h2 u hu x.elem,s9 v.keys fun u hu=>h1 u hu x.key];have e1:∀ a b,uD f x.mems[(QA x.mems v.id).toNat]? a b v.items=uD g x.mems[(QA x.mems v.id).toNat]? a b v.items:=fun a b=>by
  cases x.mems[(QA x.mems v.id).toNat]? with
  | none =>
   match v.items with
   | []=>rfl
   | [_]=>rfl
   | _ :: _ :: _=>rfl
  | some m =>
   match hi:v.items with
   | []=>rfl
   | [u]=>simp only [uD]; rw [h2 u (by simp [hi])]
   | _ :: _ :: _=>rfl
 rw [e1]
theorem U1 (S:List pA):∀ (n k:Nat) (t:Int) (v:Vl),SizeOf.sizeOf v<n->SizeOf.sizeOf v<k->kE S n t v=kE S k t v:=by
 intro n
 induction n with
 | zero=>intro k t v h; omega
 | succ n ih =>
  intro k t v h1 h2;obtain ⟨k,rfl⟩:∃ j,k=j + 1:=⟨k - 1,by omega⟩;rw [kE,kE];cases S[t.toNat]? with
  | none=>rfl
  | some x =>
   have:=fitK_cg (f:=kE S n) (g:=kE S k) x v (fun u hu t'=>ih k t' u (by have:=Vl.keys_lt v u hu; omega) (by have:=Vl.keys_lt v u hu; omega)) (fun u hu t'=>ih k t' u (by have:=Vl.items_lt v u hu; omega) (by have:=Vl.items_lt v u hu; omega));simp only [this]
noncomputable def eP (S:List pA) (t:Int) (v:Vl):ByteArray:=sM S (SizeOf.sizeOf v + 1) t v
noncomputable def depV (S:List pA) (t:Int) (v:Vl):Nat:=depN S (SizeOf.sizeOf v + 1) t v
theorem xY (S:List pA) (t:Int) (v:Vl):QB S t v=(!sB S.length t&&(match S[t.toNat]? with
  | some x=>decide (v.kind=x.kind)&&sC v&&jE (QB S) x v
  | none=>false)):=by
 unfold QB;rw [kE];cases S[t.toNat]? with
 | none=>rfl
 | some x =>
  have:=fitK_cg (f:=kE S (SizeOf.sizeOf v)) (g:=QB S) x v (fun u hu t'=>U1 S _ _ t' u (by have:=Vl.keys_lt v u hu; omega) (by omega)) (fun u hu t'=>U1 S _ _ t' u (by have:=Vl.items_lt v u hu; omega) (by omega));simp only [this];rfl
theorem Q2 (f:Vl->ByteArray):∀ (l:List Vl) (b:ByteArray) (u:Vl),u∈l->(f u).size<=(eH f l b).size
 | v :: r,b,u,h=>by
  rw [eH];rcases yg.1 h with rfl | h
  ·have h1:=zR f r (b++eF (f u));have h2:=XE (f u);rw [ByteArray.size_append] at h1;omega
  ·exact Q2 f r _ u h
theorem E7 (f g:Vl->ByteArray):∀ (l q:List Vl) (b:ByteArray),l.length=q.length->(∀ u∈l,(f u).size<=(fJ f g l q b).size)/\∀ u∈q,(g u).size<=(fJ f g l q b).size
 | [],[],b,_=>by simp
 | k :: r,v :: q,b,h=>by
  obtain ⟨h1,h2⟩:=E7 f g r q (b++eF (f k)++eF (g v)) (by simpa using h);have h3:=iU f g r q (b++eF (f k)++eF (g v));rw [ByteArray.size_append,ByteArray.size_append] at h3;have h4:=XE (f k);have h5:=XE (g v);rw [fJ];refine ⟨fun u hu=>?_,fun u hu=>?_⟩
  ·rcases yg.1 hu with rfl | hu
   ·omega
   ·exact h1 u hu
  ·rcases yg.1 hu with rfl | hu
   ·omega
   ·exact h2 u hu
theorem symIx_id {l:List nQ} {id:Int} (h:0<=ZF l id):∃ m∈l,m.id=id:=by
 have h1:=GH (fun x:nQ=>decide (x.id=id)) l;have h2:(l.any fun x=>decide (x.id=id))=true:=by rw [<- h1]; exact decide_eq_true h
 obtain ⟨m,hm,he⟩:=List.any_eq_true.1 h2;exact ⟨m,hm,by simpa using he⟩
theorem memIx_id {l:List zB} {id:Int} (h:0<=QA l id):∃ m∈l,m.id=id:=by
 have h1:=GH (fun x:zB=>decide (x.id=id)) l;have h2:(l.any fun x=>decide (x.id=id))=true:=by rw [<- h1]; exact decide_eq_true h
 obtain ⟨m,hm,he⟩:=List.any_eq_true.1 h2;exact ⟨m,hm,by simpa using he⟩
section
structure Lst where
 known:Bool
 long:Bool
 p:ByteArray
 v:Vl
 d:Nat
def Lst.unk:Lst:=⟨false,false,eB,Vl.zero,0⟩
def Lst.lng:Lst:=⟨true,true,eB,Vl.zero,0⟩
def lstC (e:Lst):List AV:=[.bool e.known,.bool e.long,.str e.p,.int .i64 e.v.kind,.bool e.v.b,.int .i64 e.v.i,.str e.v.s,.int .i64 e.v.id,.sl e.v.kn (e.v.keys.map fA),.sl e.v.xn (e.v.items.map fA),.sl e.v.rn (e.v.rest.map UJ)]
noncomputable def finL (S:List pA) (t:Int) (v:Vl):Lst:=if 4096<(eP S t v).size then .lng else ⟨true,false,eP S t v,v,depV S t v⟩
abbrev Tab:=Nat->Lst
section
variable (S:List pA) (t k:Int) (l:Tab)
end
end
section
theorem bV {S:List pA}:∀ (n i:Nat),sE S n i=none->∀ j x,i<=j->j<i + n->S[j]?=some x->PK S x=none
 | 0,i,_,j,x,h1,h2,_=>by omega
 | n + 1,i,h,j,x,h1,h2,hx=>by
  rw [sE] at h;cases hi:S[i]? with
  | none =>
   have:=(y9.1 hx).1;have:=List.getElem?_eq_none_iff.1 hi;omega
  | some y =>
   rw [hi] at h;simp only at h;cases hd:PK S y with
   | some d=>rw [hd] at h; cases h
   | none =>
    rw [hd] at h;rcases Nat.lt_or_eq_of_le h1 with h3 | h3
    ·exact bV n (i + 1) h j x h3 (by omega) hx
    ·subst h3;rw [hi] at hx;injection hx with hx;rw [<- hx];exact hd
structure aN (S:List pA):Prop where
 good:JO S
 val:valid S=0
 dfl:∀ x∈S,∀ m∈x.mems,m.has=true->QB S m.ty m.dflt=true
 d64:∀ x∈S,∀ m∈x.mems,m.dflt.i64
 n64:∀ x∈S,zH x.low/\zH x.high
theorem aN.of {s:FI} (hs:s.fine) (de:s.d64) (hn:∀ x∈s.types,zH x.low/\zH x.high) (h:bF s.types=0):aN s.types:=by
 have hv:=WN h;refine ⟨nI hs hv,hv,fun x hx m hm hh=>?_,de,hn⟩;unfold bF at h;rw [if_pos hv] at h;cases hd:sE s.types s.types.length 0 with
 | some p=>rw [hd] at h; cases h
 | none =>
  obtain ⟨j,hj,rfl⟩:=yq hx;have:=bV _ _ hd j _ (Nat.zero_le j) (by omega) (y5 hj);unfold PK at this;rw [Option.map_eq_none_iff,List.find?_eq_none] at this;have hb:=this m hm;unfold qS at hb;rw [hh] at hb;simpa using hb
theorem aN.len {S:List pA} (h:aN S):S.length<=32:=by
 have:=h.val;unfold valid at this;split at this
 ·cases this
 ·omega
theorem aN.win {S:List pA} (h:aN S):∀ x∈S,OF S.length x:=dD h.val
structure iV (S:List pA) (t:Int) (e:Lst):Prop where
 u:e.known=false->e=.unk
 l:e.known=true->e.long=true->e=.lng
 v:e.known=true->e.long=false->e.p=eP S t e.v/\e.d=depV S t e.v/\QB S t e.v=true/\e.v.ok/\e.v.i64/\e.p.size<=4096
theorem iV.unk {S:List pA} {t:Int}:iV S t .unk:=⟨fun _=>rfl,fun h=>(nomatch h),fun h=>(nomatch h)⟩
theorem iV.lng {S:List pA} {t:Int}:iV S t .lng:=⟨fun h=>(nomatch h),fun _ _=>rfl,fun _ h=>(nomatch h)⟩
theorem iV.fin {S:List pA} {t:Int} {v:Vl} (hp:QB S t v=true) (ho:v.ok) (de:v.i64):iV S t (finL S t v):=by
 unfold finL;split
 ·exact iV.lng
 ·rename_i h;exact ⟨fun h=>(nomatch h),fun _ h=>(nomatch h),fun _ _=>⟨rfl,rfl,hp,ho,de,by show (eP S t v).size<=4096; omega⟩⟩
def GoodTab (S:List pA) (l:Tab):Prop:=∀ j,j<S.length->iV S j (l j)
theorem Z9 {k:Int} {b:Bool} {i:Int} {s:ByteArray} {d:Int} {kn xn rn:Bool} {ks xs:List Vl} {rs:List u9}:(Vl.mk k b i s d kn ks xn xs rn rs).i64 ↔ zH i/\(∀ x∈ks,x.i64)/\∀ x∈xs,x.i64:=Vl.i64_def _
theorem ok_mk {k:Int} {b:Bool} {i:Int} {s:ByteArray} {d:Int} {kn xn rn:Bool} {ks xs:List Vl} {rs:List u9}:(Vl.mk k b i s d kn ks xn xs rn rs).ok ↔ ks.length<=9223372036854775807/\xs.length<=9223372036854775807/\rs.length<=9223372036854775807/\s.size<=9223372036854775807/\(∀ x∈ks,x.ok)/\∀ x∈xs,x.ok:=Vl.ok_def _
section
variable {S:List pA} (hS:aN S) {i:Nat} {x:pA} (g:S[i]?=some x)
include hS g
theorem aN.mem:x∈S:=yh g
theorem aN.lt:i<S.length:=(y9.1 g).1
theorem plain_at {v:Vl}:QB S i v=(decide (v.kind=x.kind)&&sC v&&jE (QB S) x v):=by
 have fa:=aN.lt hS g;rw [xY];have ho:sB S.length (i:Int)=false:=by simp [sB]; omega
 have hg:S[(i:Int).toNat]?=some x:=g;rw [ho,hg];rfl
end
end
section
section
variable {S:List pA} (hS:aN S) {i:Nat} {x:pA} (g:S[i]?=some x) {l:Tab} (hl:GoodTab S l)
include hS g hl
end
end
theorem rpays_ev (sn:Bool) (S:List pA) (hS:JO S) (lj:∀ x∈S,x.mems.length<=12):∀ (n:Nat) (t:Int) (v:Vl),kE S n t v=true->v.ok->v.i64->(sM S n t v).size<=140737488355328->ZG sn S t v (sM S n t v):=by
 intro n
 induction n with
 | zero=>intro t v h; simp [kE] at h
 | succ n ih =>
  intro t v h sa de tb;rw [kE] at h;simp only [y7,Bool.not_eq_true'] at h;obtain ⟨ho,h⟩:=h;obtain ⟨h0,gb⟩:0<=t/\¬ (S.length:Int)<=t:=by
   simp [sB] at ho;omega
  have fa:t.toNat<S.length:=by omega
  have la:S[t.toNat]∈S:=y8 _;have g:S[t.toNat]?=some S[t.toNat]:=y5 fa;rw [sM] at tb ⊢;rw [g] at h tb ⊢;simp only at tb ⊢;generalize S[t.toNat]=x at *
  obtain ⟨jm,eu⟩:=hS x la;have hfw:=lj x la;have xq:=lH jm;obtain ⟨hup,KR⟩:=RW jm;simp only [y7,decide_eq_true_eq] at h;obtain ⟨⟨hk,hz⟩,ge⟩:=h;have sj:=sa;rw [Vl.ok_def] at sa;rw [Vl.i64_def] at de;obtain ⟨o1,o2,o3,o4,o5,o6⟩:=sa;obtain ⟨j1,j2,j3⟩:=de;have xf:∀ u∈v.items,∀ t',kE S n t' u=true->(sM S n t' u).size<=140737488355328->ZG sn S t' u (sM S n t' u):=fun u hu t' hf hs=>ih t' u hf (o6 u hu) (j3 u hu) hs
  have kg:∀ u∈v.keys,∀ t',kE S n t' u=true->(sM S n t' u).size<=140737488355328->ZG sn S t' u (sM S n t' u):=fun u hu t' hf hs=>ih t' u hf (o5 u hu) (j2 u hu) hs
  have jd:x.mems.length<=9223372036854775807:=eu.1.2.1;have hdok:∀ m∈x.mems,m.dflt.ok:=fun m hm=>(eu.1.2.2 m hm).1
  unfold jE at ge;have jp:=tb;unfold ZH at jp;rcases kinds x.kind with e | e | e | e | e | e | e | e | e | e
  all_goals try simp only [e] at ge jp
  all_goals try simp at ge jp
  ·exact rpay1 sn S t x v _ h0 g e
  ·exact rpay2 sn S t x v _ h0 g e j1
  ·exact rpay3 sn S t x v _ h0 g e
  ·obtain ⟨m,hm,he⟩:=symIx_id ge;have hmr:=up_syms jm m hm;rw [he] at hmr;exact rpay4 sn S t x v _ h0 g e hmr
  ·have hparts:∀ (i:Nat) m u,x.mems[i]?=some m->v.items[i]?=some u->wN m u=false->ZG sn S m.ty u (sM S n m.ty u):=fun i m u p1 p2 hb=>by
    have xm:=G6 (sM S n) x.mems v.items i m u p1 p2 hb;have gr:=E6 _ eB _ xm;rw [<- p8] at gr;have hs2:=MM m.id m.crit (sM S n m.ty u);exact xf u (yh p2) m.ty (lY ge.2 i m u p1 p2) (by simp only at gr; omega)
   exact rpay5 sn S t x v _ h0 g e (by omega) ge.1.1 ge.1.2 hup KR o6 (fun i m u p1 p2 hb=>(hparts i m u p1 p2 hb)) tb
  ·obtain ⟨m,u,g1,g2,g3,g4,g5⟩:=MZ ge;have g3:0<=QA x.mems v.id:=by simpa using g3
   obtain ⟨m',tc,he⟩:=memIx_id g3;have hmr:=KR m' tc;rw [he] at hmr;rw [g1,g2] at jp;simp only [armB] at jp;have hp:=xf u (by rw [g2]; simp) m.ty g5 (by omega);exact rpay6 sn S t x v _ h0 g e jd (by simpa using g4) g2 g3 g1 hmr hp tb
  ·have hp:∀ u∈v.items,ZG sn S x.elem u (sM S n x.elem u):=fun u hu=>xf u hu x.elem (ge.2 u hu) (by have:=Q2 (sM S n x.elem) v.items eB u hu; omega)
   exact rpay7 sn S t x v _ h0 g e o2 (fun u hu=>(hp u hu)) tb
  ·obtain ⟨m1,m2⟩:=E7 (sM S n x.key) (sM S n x.elem) v.keys v.items eB ge.1.1.1.2.symm;have hp:∀ u∈v.items,ZG sn S x.elem u (sM S n x.elem u):=fun u hu=>xf u hu x.elem (ge.2 u hu) (by have:=m2 u hu; omega)
   have hq:∀ u∈v.keys,ZG sn S x.key u (sM S n x.key u):=fun u hu=>kg u hu x.key (ge.1.1.2 u hu) (by have:=m1 u hu; omega)
   exact rpay8 sn S t x v _ h0 g e o2 ge.1.1.1.2 (fun u hu=>(hq u hu)) (fun u hu=>(hp u hu)) tb
  ·have hp:∀ u∈v.items,ZG sn S x.elem u (sM S n x.elem u):=fun u hu=>xf u hu x.elem (ge.2 u hu) (by
    match hi:v.items,hu with
    | w :: q,hu =>
     have hl:q=[]:=by
      have:=ge.1;rw [hi] at this;simpa using this
     subst hl;rw [hi] at jp;simp only [optB,ByteArray.size_append] at jp;rw [yO.1 hu];omega)
   exact rpay9 sn S t x v _ h0 g e (fun u hu=>(hp u hu)) tb
  ·exact absurd xq e
end Go.Proofs.YtbhbeakhognieaaGreat
