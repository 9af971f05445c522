/- A part of the proof. -/
import Derived.Test.YtbnlmgncbgaepaaGreatUk
import Derived.Test.YtbnlmgncbgaepaaGreatUl
set_option linter.all false
set_option maxRecDepth 100000
set_option maxHeartbeats 8000000
open Option renaming bind_some → y0
open List renaming range_succ → y3, map_map → y4, getElem?_eq_getElem → y6, all_eq_true → y7, getElem_mem → y8, getElem?_eq_some_iff → yb, getElem?_map → yc, drop_eq_getElem_cons → yf, drop_eq_nil_of_le → yg, mem_of_getElem? → yk, map_cons → yl, length_map → yo, map_congr_left → yp, map_nil → yr, getElem?_append_left → yt, mem_map → yu, mem_append → yB, replicate → yC, flatten_cons → yE, getElem?_append_right → yM, getElem?_eq_none → yN, eq_nil_of_length_eq_zero → yQ, map_append → yR, mem_map_of_mem → yS
open Int renaming toNat_lt → y5
open Nat renaming le_refl → ym
namespace Go.Proofs.YtbnlmgncbgaepaaGreat
open Go
def brow (M:Nat) (f:Nat->Bool):List (List AV):=(List.range M).map fun k=>[AV.bool (f k)]
theorem q7j (M:Nat) (f:Nat->Bool):(brow M f).length=M:=by simp [brow]
theorem qb1 (M:Nat) (f:Nat->Bool):q1a 1 (brow M f)=true:=q1h _ _ _ fun _=>rfl
theorem brow_free (M:Nat) (f:Nat->Bool):q2g (brow M f)=true:=q4X _ _ fun _=>rfl
theorem q94 {M k:Nat} (f:Nat->Bool) (h:k<M):(brow M f)[k]?=some [.bool (f k)]:=by simp [brow,h]
theorem q4U {M:Nat} {f g:Nat->Bool} (h:∀ k,k<M->f k=g k):brow M f=brow M g:=by
 unfold brow;refine yp fun k hk=>?_
 rw [h k (by simpa using hk)]
theorem brow_set {M k:Nat} (f:Nat->Bool) (b:Bool) (h:k<M):(brow M f).set k [.bool b]=brow M (fun x=>if x=k then b else f x):=by
 refine List.ext_getElem? fun x=>?_
 rw [List.getElem?_set];by_cases e:k=x
 ·subst e;rw [if_pos rfl,q7j,if_pos h,q94 _ h,if_pos rfl]
 ·rw [if_neg e];by_cases hx:x<M
  ·rw [q94 _ hx,q94 _ hx,if_neg (fun h=>e h.symm)]
  ·rw [yN (by rw [q7j]; omega),yN (by rw [q7j]; omega)]
theorem brow_els2 (M:Nat) (f:Nat->Bool):q2U (q07 (brow M f)) 1 0 M=some (brow M f):=by
 have:=q3U (qb1 M f) (brow_free M f)
 rwa [q7j] at this
theorem q9E {M k:Nat} (f:Nat->Bool) (b:Bool) (h:k<M):q0c false 1 k (q07 (brow M f)) (.bool b) .no=some (q07 (brow M (fun x=>if x=k then b else f x))):=by
 rw [qas (qb1 M f) (by rw [q7j]; exact h) rfl,brow_set f b h]
theorem brow_at {M k:Nat} (f:Nat->Bool) (h:k<M):(q07 (brow M f))[k]?=some ⟨.bool (f k),.no⟩:=q7C (qb1 M f) (q94 f h)
theorem brow0 (M:Nat):yC M (⟨AV.bool false,.no⟩:Slot)=q07 (brow M fun _=>false):=by
 refine List.ext_getElem? fun x=>?_
 by_cases hx:x<M
 ·rw [brow_at _ hx,List.getElem?_replicate,if_pos hx]
 ·rw [yN (by simp; omega),yN (by rw [q3V (qb1 M _),q7j]; omega)]
theorem brow_kill (M:Nat) (f:Nat->Bool) (t n:Nat):(q07 (brow M f)).map (Slot.kill t n)=q07 (brow M f):=qa8 (brow_free M f) t n
def gtab (N M:Nat) (g:Nat->Nat->Bool):List (List AV):=(List.range N).map fun i=>[AV.sl false (brow M (g i))]
theorem gtab_len (N M:Nat) (g:Nat->Nat->Bool):(gtab N M g).length=N:=by simp [gtab]
def refC (t M n:Nat):List AV:=[.ref t n 1 0 M M]
theorem q8s (t M:Nat) (rr:List Nat):q1a 1 (rr.map (refC t M))=true:=q1h _ _ _ fun _=>rfl
structure TabI (t M:Nat) (g:Nat->Nat->Bool) (rr:List Nat) (mem:Nat->Nat->Option (List Slot)) (n:Nat):Prop where
 row:∀ j m,rr[j]?=some m->m<n/\mem t m=some (q07 (brow M (g j)))
theorem tab_frz {t M:Nat} {g:Nat->Nat->Bool} {rr:List Nat} {s:MSt} {n:Nat} (h:TabI t M g rr s.mem n) {t' m c:Nat} (hm:s.mem t' m=some (q07 (rr.map (refC t M)))):AV.frz0 s (.ref t' m 1 0 rr.length c)=.sl false (gtab rr.length M g):=by
 have e:((rr.map (refC t M)).map fun c=>c.map (AV.frz1 s))=gtab rr.length M g:=by
  refine List.ext_getElem? fun j=>?_
  rw [yc,yc];cases hj:rr[j]? with
  | none =>
   have:=List.getElem?_eq_none_iff.1 hj;rw [yN (by rw [gtab_len]; omega)];rfl
  | some q =>
   have zg:=(yb.1 hj).1;obtain ⟨_,h2⟩:=h.row j q hj;simp [gtab,zg,refC,AV.frz1,h2,brow_els2]
 have:=frz_row (q8s t M rr) hm (c:=c) (by rw [e]; simp [gtab,AV.free0]);rw [yo,e] at this;exact this
def gtA (N M:Nat) (g:Nat->Nat->Bool):AV:=.sl (decide (N=0)) (gtab N M g)
theorem rgt_in {rv:RV} (w r:Sch) (i n:Nat) {M:Nat} (hM:r.types.length=M) (hM2:M<=1000) (g:Nat->Bool) (hg:∀ k,k<M->evC allT q01 80 [.agg [.sl w.nl (w.types.map typC)],.int .i64 i,.agg [.sl r.nl (r.types.map typC)],.int .i64 k] none=some (.bool (g k),none))
  (s:MSt) (e2:(s.env 2).v=.ptr 2 1 0) (e3:(s.env 3).v=.ptr 3 1 0) (m2:s.mem 2 1=some [⟨.sl w.nl (w.types.map typC),.no⟩]) (m3:s.mem 3 1=some [⟨.sl r.nl (r.types.map typC),.no⟩]) (e9:(s.env 9).v=.int .i64 i) (e10:(s.env 10).v=.ref 32 n 1 0 M M) (e11:(s.env 11).v=.int .i64 0) (m32:s.mem 32 n=some (q07 (brow M fun _=>false))) (k:Ex->MSt->Option RV)
  (hk:∀ s',(∀ t,t<=10->s'.env t=s.env t)->(∀ t m,¬ (t=32/\m=n)->s'.mem t m=s.mem t m)->s.next<=s'.next->s'.mem 32 n=some (q07 (brow M g))->k (.exit 2) s'=some rv):evL allT q01 q2Y s k=some rv:=by
 refine q0b M (fun j s'=>(∀ t,t<=10->s'.env t=s.env t)/\(∀ t m,¬ (t=32/\m=n)->s'.mem t m=s.mem t m)/\s.next<=s'.next/\(s'.env 11).v=.int .i64 j/\s'.mem 32 n=some (q07 (brow M fun x=>if x<j then g x else false)))
  (fun e s'=>e=.exit 2/\(∀ t,t<=10->s'.env t=s.env t)/\(∀ t m,¬ (t=32/\m=n)->s'.mem t m=s.mem t m)/\s.next<=s'.next/\s'.mem 32 n=some (q07 (brow M g))) (fun j hj s' k h ih hk=>?_) _ _ ⟨fun _ _=>rfl,fun _ _ _=>rfl,ym _,e11,by rw [m32]; congr 2⟩ (fun e s' h=>by obtain ⟨rfl,h1,h2,h3,h4⟩:=h; exact hk _ h1 h2 h3 h4)
 obtain ⟨hE,xw,hn,fD,fm⟩:=h;have f2:=congrArg Slot.v (hE 2 (by omega));have f3:=congrArg Slot.v (hE 3 (by omega));have f9:=congrArg Slot.v (hE 9 (by omega));have f10:=congrArg Slot.v (hE 10 (by omega));have g2:=xw 2 1 (by simp);have g3:=xw 3 1 (by simp);rw [e2] at f2;rw [e3] at f3;rw [e9] at f9;rw [e10] at f10;rw [m2] at g2;rw [m3] at g3;refine q02 ?_;by_cases da:j<M
 ·have fa:(j:Int)<M:=by omega
  have hw:=q0H (i:=j);have dE:=hg j da;have mb:=q9E (M:=M) (k:=j) (fun x=>if x<j then g x else false) (g j) da;have he:q07 (brow M (fun x=>if x=j then g j else if x<j then g x else false))=q07 (brow M fun x=>if x<j + 1 then g x else false):=by
   congr 1;refine q4U fun x _=>?_
   by_cases c1:x=j
   ·subst c1; simp
   ·rw [if_neg c1];by_cases c2:x<j
    ·rw [if_pos c2,if_pos (by omega)]
    ·rw [if_neg c2,if_neg (by omega)]
  rw [he] at mb;generalize q07 (brow M fun x=>if x<j then g x else false)=R0 at *
  generalize q07 (brow M fun x=>if x<j + 1 then g x else false)=R1 at *
  simp [q2Y,-y0,-y5,-y4,y3,-q0M,-q0c,q0u,q0z,q0g,q0h,f2,f3,f9,f10,g2,g3,fD,fm,hM,fa,da,dE,mb,hw];refine ih da _ ⟨?_,?_,?_,?_,?_⟩
  ·intro t ht;simp
   repeat (rw [if_neg (by omega)])
   exact hE t ht
  ·intro t m na;simp [na];exact xw t m na
  ·dsimp only; omega
  ·simp
  ·simp
 ·have fa:¬ (j:Int)<M:=by omega
  have eH:j=M:=by omega
  simp [q2Y,-y0,-y5,-y4,y3,f3,g3,fD,hM,fa];refine hk _ _ ⟨rfl,?_,?_,?_,?_⟩
  ·intro t ht;simp
   repeat (rw [if_neg (by omega)])
   exact hE t ht
  ·exact xw
  ·dsimp only; omega
  ·dsimp only;rw [fm];congr 2;refine q4U fun x hx=>?_
   rw [if_pos (by omega)]
theorem rgreatest_ev {w r:Sch} (hw:SndE w 0) (hr:SndE r 0) {nx:Pr->List Pr} {rs:Pr->Int} (hF:SimF w r nx rs):evA 39 [.agg (schC w),.agg (schC r)] (.tup [gtA w.types.length r.types.length (fun i k=>q2J nx rs ((i:Int),(k:Int))),.int .i64 0]):=by
 have h1:=hw.2;have h2:=hr.2;have hN:=hF.wl;have hM:=hF.rl;have pg:=fun i k (hi:i<w.types.length) (hk:k<r.types.length)=>fine_ev hF (p:=((i:Int),(k:Int))) ⟨by simp,by simp; omega,by simp,by simp; omega⟩
 refine q00 (c:=q42) rfl rfl ?_;simp only [evA,schC] at h1 h2 pg;simp [q42,-y0,-y5,-y4,y3,schC,h1,h2];generalize ig:w.types.length=N at *
 generalize uB:r.types.length=M at *
 refine q0b N (fun i s=>(s.env 2).v=.ptr 2 1 0/\(s.env 3).v=.ptr 3 1 0/\s.mem 2 1=some [⟨.sl w.nl (w.types.map typC),.no⟩]/\s.mem 3 1=some [⟨.sl r.nl (r.types.map typC),.no⟩]/\(s.env 9).v=.int .i64 i/\∃ rr:List Nat,rr.length=i/\TabI 32 M (fun i k=>q2J nx rs ((i:Int),(k:Int))) rr s.mem s.next/\((i=0/\(s.env 8).v=.sl true [])\/(i≠0/\∃ m,(s.env 8).v=.ref 51 m 1 0 i i/\m<s.next/\s.mem 51 m=some (q07 (rr.map (refC 32 M))))))
  (fun e s=>e=.exit 0/\∃ rr:List Nat,rr.length=N/\TabI 32 M (fun i k=>q2J nx rs ((i:Int),(k:Int))) rr s.mem s.next/\((N=0/\(s.env 8).v=.sl true [])\/(N≠0/\∃ m,(s.env 8).v=.ref 51 m 1 0 N N/\m<s.next/\s.mem 51 m=some (q07 (rr.map (refC 32 M)))))) (fun i hi s k h ih hk=>?_) _ _ ?_ (fun e s h=>?_)
 ·obtain ⟨e2,e3,m2,m3,e9,rr,zq,hT,hO⟩:=h;refine q02 ?_;by_cases da:i<N
  ·have fa:(i:Int)<N:=by omega
   have rf:=q0H (i:=i);have pI:M<=140737488355328:=by omega
   simp [q4c,-y0,-y5,-y4,y3,e2,e3,m2,m3,e9,ig,uB,fa,pI];refine rgt_in w r i (s.next + 1) uB (by omega) (fun k=>q2J nx rs ((i:Int),(k:Int))) (fun k hk=>pg i k da hk) _ ?_ ?_ ?_ ?_ ?_ ?_ ?_ ?_ _ (fun s' hE xw hn fm=>?_)
   ·simp [e2]
   ·simp [e3]
   ·simp [m2]
   ·simp [m3]
   ·simp [e9]
   ·simp
   ·simp
   ·simp [brow0]
   ·have f2:=congrArg Slot.v (hE 2 (by omega));have f3:=congrArg Slot.v (hE 3 (by omega));have f8:=congrArg Slot.v (hE 8 (by omega));have f9:=congrArg Slot.v (hE 9 (by omega));have f10:=congrArg Slot.v (hE 10 (by omega));have g2:=xw 2 1 (by simp);have g3:=xw 3 1 (by simp);simp [e2,e3,e9,m2,m3] at f2 f3 f8 f9 f10 g2 g3;dsimp only at hn;have la:∀ j m:Nat,rr[j]?=some m->s'.mem 32 m=some (q07 (brow M fun k=>q2J nx rs ((j:Int),(k:Int)))):=fun j m hj=>by
     obtain ⟨a,b⟩:=hT.row j m hj;rw [xw 32 m (by simp; omega)];have:¬ m=s.next + 1:=by omega
     simp [this,b]
    have fE:∀ j m,(rr++[s.next + 1])[j]?=some m->(rr[j]?=some m/\j<i)\/(j=i/\m=s.next + 1):=fun j m hj=>by
     by_cases zg:j<rr.length
     ·rw [yt zg] at hj;exact .inl ⟨hj,by omega⟩
     ·have sJ:j=rr.length:=by
       have:=(yb.1 hj).1;simp at this;omega
      subst sJ;simp at hj;exact .inr ⟨zq,hj.symm⟩
    have lD:∀ (mem:Nat->Nat->Option (List Slot)) (n:Nat),s'.next<=n->(∀ m f,s'.mem 32 m=some (q07 (brow M f))->mem 32 m=some (q07 (brow M f)))->TabI 32 M (fun i k=>q2J nx rs ((i:Int),(k:Int))) (rr++[s.next + 1]) mem n:=fun mem n h1 h2=>⟨fun j m hj=>by
     rcases fE j m hj with ⟨a,b⟩ | ⟨rfl,rfl⟩
     ·exact ⟨by have:=(hT.row j m a).1; omega,h2 m _ (la j m a)⟩
     ·exact ⟨by omega,h2 _ _ fm⟩⟩
    have uS:q0Q 24 1=true:=rfl;have ue:q4M (q07 [[AV.ref 32 (s.next + 1) 1 0 M M]]) 1 0 1=some [[AV.ref 32 (s.next + 1) 1 0 M M]]:=rfl;rcases hO with ⟨h0,iI⟩ | ⟨h0,m,iI,hm,nL⟩
    ·subst h0;have po:rr=[]:=yQ zq;subst po;rw [iI] at f8;simp [-y0,-y5,-y4,y3,f8,f9,f10,AV.raws,ue,Cl.okMem,uS,rf];refine ih da _ ⟨?_,?_,?_,?_,?_,[s.next + 1],rfl,lD _ _ ?_ ?_,.inr ⟨by omega,s'.next,?_,?_,?_⟩⟩
     ·simp [f2]
     ·simp [f3]
     ·simp [g2]
     ·simp [g3]
     ·simp; rfl
     ·dsimp only; omega
     ·intro m f hf; simp [hf]
     ·simp
     ·dsimp only; omega
     ·simp [refC,q07]
    ·rw [iI] at f8;have zL:=xw 51 m (by simp);simp [nL] at zL;have tu:q4M (q07 (rr.map (refC 32 M))) 1 0 i=some (rr.map (refC 32 M)):=by
      have:=q2V (sz:=1) (L:=rr.map (refC 32 M)) (by simp [refC])
      rwa [yo,zq] at this
     have q1:=q8s 32 M rr;have ka:q0Q 24 (i + 1)=true:=by rw [q0l]; omega
     have jw:((rr.map (refC 32 M)).flatten++[AV.ref 32 (s.next + 1) 1 0 M M]).all (AV.noName 51 m)=true:=by
      rw [y7];intro v hv;rw [yB] at hv;rcases hv with hv | hv
      ·obtain ⟨c,hc,hv⟩:=List.mem_flatten.1 hv;obtain ⟨q,_,rfl⟩:=yu.1 hc;simp [refC] at hv;subst hv;simp [AV.noName]
      ·simp at hv;subst hv;simp [AV.noName]
     simp [-y0,-y5,-y4,y3,f8,f9,f10,zL,AV.raws,tu,ue,ka,jw,q1,Cl.okMem,rf];refine ih da _ ⟨?_,?_,?_,?_,?_,rr++[s.next + 1],by simp [zq],lD _ _ ?_ ?_,.inr ⟨by omega,s'.next,?_,?_,?_⟩⟩
     ·simp [f2]
     ·simp [f3]
     ·simp [g2]
     ·simp [g3]
     ·simp
     ·dsimp only; omega
     ·intro m' f hf; simp [hf,brow_kill]
     ·simp
     ·dsimp only; omega
     ·simp [refC]
  ·have fa:¬ (i:Int)<N:=by omega
   have xg:i=N:=by omega
   subst xg;simp [q4c,-y0,-y5,-y4,y3,e2,m2,e9,ig,fa];refine hk _ _ ⟨rfl,rr,zq,⟨fun j m hj=>?_⟩,?_⟩
   ·obtain ⟨a,b⟩:=hT.row j m hj;exact ⟨by dsimp only; omega,by simpa using b⟩
   ·rcases hO with ⟨a,b⟩ | ⟨a,m,b,c,d⟩
    ·exact .inl ⟨a,by simp [b]⟩
    ·exact .inr ⟨a,m,by simp [b],by dsimp only; omega,by simpa using d⟩
 ·refine ⟨?_,?_,?_,?_,?_,[],rfl,⟨fun j m hj=>by simp at hj⟩,.inl ⟨rfl,?_⟩⟩ <;> simp
 ·obtain ⟨rfl,rr,zq,hT,hO⟩:=h;rcases hO with ⟨h0,f8⟩ | ⟨h0,m,f8,hm,nL⟩
  ·subst h0;simp [-y0,-y5,-y4,y3,f8,gtA,gtab]
  ·have kr:∀ E n' ob gh,AV.frz0 ⟨E,s.mem,n',ob,gh⟩ (.ref 51 m 1 0 N N)=.sl false (gtab N M fun i k=>q2J nx rs ((i:Int),(k:Int))):=fun E n' ob gh=>by
    have:=tab_frz (s:=⟨E,s.mem,n',ob,gh⟩) (n:=s.next) ⟨hT.row⟩ (c:=N) nL
    rwa [zq] at this
   have lA:∀ s k n,AV.frz0 s (.int k n)=.int k n:=fun _ _ _=>rfl
   simp [-y0,-y5,-y4,y3,-AV.frz0,f8,kr,lA,gtA,h0]
structure Quiet (s s':MSt):Prop where
 gh:s'.gh=s.gh
 nx:s.next<=s'.next
 old:∀ t n,n<s.next->s'.mem t n=s.mem t n
theorem Quiet.refl (s:MSt):Quiet s s:=⟨rfl,ym _,fun _ _ _=>rfl⟩
theorem gF1_ev {rv:RV} {n8 no ma N M:Nat} {R28 R45:List Slot} {a b:Int} {z:Bool} {x8 gT fT a1 a2:An} {s:MSt} (h8:s.mem 8 n8=some [⟨.ref 28 no 1 0 N N,x8⟩]) (nO:s.mem 28 no=some R28) (kq:R28[a.toNat]?=some ⟨.ref 45 ma 1 0 M M,gT⟩) (cD:s.mem 45 ma=some R45) (uz:R45[b.toNat]?=some ⟨.bool z,fT⟩) (ha:0<=a) (ls:a<N) (hb:0<=b) (wa:b<M) (k:Slot->MSt->Option RV)
  (hk:∀ y s',y.v=.bool (!z)->Quiet s s'->k y s'=some rv):evH allT q01 96 [⟨.agg [.int .i64 a,.int .i64 b],a1⟩,⟨.ptr 8 n8 0,a2⟩] s k=some rv:=by
 refine q6Z q2i rfl rfl ?_;have bM:a.toNat<N:=by omega
 have pq:b.toNat<M:=by omega
 simp [q2i,-y0,-y5,-y4,y3,h8,nO,kq,cD,uz,ha,hb,bM,pq,finH,resS,qaZ];refine hk _ _ rfl ⟨rfl,?_,fun t n hn=>?_⟩
 ·dsimp only; omega
 ·have:¬ n=s.next:=by omega
  simp [this]
section
variable {rv:RV} (l:List Pr) (hl:l.length<=2000) (p:Pr->Bool) (F:Nat) (cs:List AV) (b:Bool) {a1 a2:An} {s0:MSt} (hF:∀ q∈l,∀ s k a,s0.next<=s.next->(∀ t n,n<s0.next->s.mem t n=s0.mem t n)->(∀ y s',y.v=.bool (p q)->Quiet s s'->k y s'=some rv)->evH allT q01 F (⟨.agg (prC q),a⟩ :: cs.map (⟨·,.no⟩)) s k=some rv) (k:Slot->MSt->Option RV)
include rv l hl p F cs b a1 a2 s0 hF k
theorem gidx_ev
  (hk:∀ y s',y.v=.int .i64 (idxI p l)->Quiet s0 s'->k y s'=some rv):evH allT q01 94 [⟨.sl b (l.map prC),a1⟩,⟨.fn F cs,a2⟩] s0 k=some rv:=by
 refine q6Z q1J rfl rfl ?_;simp [q1J,-y0,-y5,-y4,y3];refine q0b l.length (fun i s=>(s.env 0).v=.sl b (l.map prC)/\(s.env 1).v=.fn F cs/\(s.env 7).v=.int .i64 l.length/\(s.env 8).v=.int .i64 i/\Quiet s0 s/\idxI p l=(if idxI p (l.drop i)=-1 then -1 else idxI p (l.drop i) + i))
  (fun e s=>Quiet s0 s/\((e=.exit 0/\idxI p l=-1)\/(e=.ret/\(s.env 4).v=.int .i64 (idxI p l)))) (fun i hi s k h ih hk=>?_) _ _ ?_ (fun e s h=>?_)
 ·obtain ⟨e0,e1,e7,e8,⟨q1,q2,q3⟩,hs⟩:=h;refine q02 ?_;by_cases da:i<l.length
  ·have fa:(i:Int)<l.length:=by omega
   have g1:(l.map prC)[i]?=some (prC l[i]):=by simp [da]
   have hw:=q0H (i:=i);have hx:=hF l[i] (y8 _);rw [yf da] at hs;generalize l[i]=x at *
   simp only [prC] at g1 hx;simp [q22,-y0,-y5,-y4,y3,e0,e1,e7,e8,fa,g1];refine hx _ _ _ ?_ ?_ (fun y s' hy hq=>?_)
   ·dsimp only; omega
   ·intro t n hn; exact q3 t n hn
   ·obtain ⟨r1,r2,r3⟩:=hq;dsimp only at r1 r2 r3;cases hp:p x with
    | true =>
     rw [hp] at hy;simp [-y0,-y5,-y4,y3,hy,r1];refine hk _ _ ⟨⟨q1,by dsimp only; omega,fun t n hn=>(r3 t n (by omega)).trans (q3 t n hn)⟩,.inr ⟨rfl,?_⟩⟩;simp [hs,idxI,hp]
    | false =>
     rw [hp] at hy;simp [-y0,-y5,-y4,y3,hy,r1,e8,hw];refine ih da _ ⟨?_,?_,?_,?_,⟨q1,by dsimp only; omega,fun t n hn=>(r3 t n (by omega)).trans (q3 t n hn)⟩,?_⟩
     ·simp [e0]
     ·simp [e1]
     ·simp [e7]
     ·simp
     ·rw [hs,q6g p x _ hp];have:=q33 p (l.drop (i + 1));by_cases h1:idxI p (l.drop (i + 1))=-1
      ·simp [h1]
      ·have h2:¬ idxI p (l.drop (i + 1)) + 1=-1:=by omega
       rw [if_neg h1,if_neg h2,if_neg h1];omega
  ·have fa:¬ (i:Int)<l.length:=by omega
   simp [q22,-y0,-y5,-y4,y3,e7,e8,fa];rw [yg (by omega)] at hs;exact hk _ _ ⟨⟨q1,by dsimp only; omega,q3⟩,.inl ⟨rfl,hs⟩⟩
 ·have:=q33 p l;refine ⟨?_,?_,?_,?_,⟨rfl,by dsimp only; omega,fun t n hn=>rfl⟩,?_⟩
  ·simp
  ·simp
  ·simp
  ·simp
  ·by_cases h1:idxI p l=-1 <;> simp [h1]
 ·obtain ⟨hq,⟨rfl,h1⟩ | ⟨rfl,h1⟩⟩:=h
  ·simp [-y0,-y5,-y4,y3,finH,resS,qaZ];exact hk _ _ (by simp [h1]) ⟨hq.gh,by have:=hq.nx; dsimp only; omega,hq.old⟩
  ·simp [finH,resS,qaZ];exact hk _ _ h1 hq
theorem gcon_ev
  (hk:∀ y s',y.v=.bool (l.any p)->Quiet s0 s'->k y s'=some rv):evH allT q01 36 [⟨.sl b (l.map prC),a1⟩,⟨.fn F cs,a2⟩] s0 k=some rv:=by
 refine q6Z q1q rfl rfl ?_;simp [q1q,-y0,-y5,-y4,y3,q7i];refine gidx_ev l hl p F cs b (fun q hq s k a h1 h2 h3=>?_) _ (fun y s' hy hq=>?_)
 ·dsimp only at h1 h2;exact hF q hq s k a (by omega) (fun t n hn=>h2 t n (by omega)) h3
 ·obtain ⟨r1,r2,r3⟩:=hq;dsimp only at r1 r2 r3;have ha:=qb7 p l;simp [-y0,-y5,-y4,y3,hy,r1,finH,resS,qaZ];refine hk _ _ (by rw [ha]) ⟨?_,by dsimp only; omega,fun t n hn=>r3 t n (by omega)⟩;funext t;have ht:¬ t + 9<9:=by omega
  simp [ht]
end
def q3d (t M:Nat) (rr:List Nat) (N:Nat):List Slot:=rr.map (fun m=>⟨.ref t m 1 0 M M,.no⟩)++List.replicate (N - rr.length) ⟨.sl true [],.no⟩
theorem refRow_len {t M N:Nat} {rr:List Nat} (h:rr.length<=N):(q3d t M rr N).length=N:=by simp [q3d]; omega
theorem refRow_at {t M N j m:Nat} {rr:List Nat} (h:rr[j]?=some m):(q3d t M rr N)[j]?=some ⟨.ref t m 1 0 M M,.no⟩:=by
 have hj:=(yb.1 h).1;unfold q3d;rw [yt (by simpa using hj),yc,h];rfl
theorem qaq {t M N m:Nat} {rr:List Nat} (h:rr.length<N):q0c false 1 rr.length (q3d t M rr N) (.ref t m 1 0 M M) .no=some (q3d t M (rr++[m]) N):=by
 have hl:rr.length<(q3d t M rr N).length:=by rw [refRow_len (by omega)]; exact h
 unfold q0c;rw [if_neg (by simp),if_pos ⟨rfl,hl⟩];congr 1;unfold q3d;obtain ⟨q,hq⟩:∃ q,N - rr.length=q + 1:=⟨N - rr.length - 1,by omega⟩;have lR:N - (rr++[m]).length=q:=by simp; omega
 rw [hq,lR,List.set_append_right _ _ (by simp),yo,Nat.sub_self,List.replicate_succ,List.set_cons_zero,yR];simp
theorem refRow_full {t M:Nat} {rr:List Nat}:q3d t M rr rr.length=q07 (rr.map (refC t M)):=by
 have h:∀ l:List Nat,q07 (l.map (refC t M))=l.map fun m=>⟨.ref t m 1 0 M M,.no⟩:=fun l=>by
  induction l with
  | nil=>rfl
  | cons a q ih =>
   simp only [q07,refC,yl,yE,yR,yr] at ih ⊢;rw [ih];rfl
 simp [q3d,h]
def sucC (l:List Pr):AV:=.sl l.isEmpty (l.map prC)
def q4N (M:Nat) (nx:Nat->List Pr) (k:Nat):List Slot:=(List.range M).map fun x=>if x<k then ⟨sucC (nx x),.no⟩ else ⟨.sl true [],.no⟩
theorem sucRow_at {M k x:Nat} {nx:Nat->List Pr} (h:x<M) (hk:x<k):(q4N M nx k)[x]?=some ⟨sucC (nx x),.no⟩:=by simp [q4N,h,hk]
theorem sucRow_store {M k:Nat} {nx:Nat->List Pr} (h:k<M):q0c false 1 k (q4N M nx k) (sucC (nx k)) .no=some (q4N M nx (k + 1)):=by
 have hl:k<(q4N M nx k).length:=by simpa [q4N] using h
 unfold q0c;rw [if_neg (by simp),if_pos ⟨by simp [sucC,AV.leaf],hl⟩];congr 1;refine List.ext_getElem? fun x=>?_
 rw [List.getElem?_set];by_cases hx:k=x
 ·subst hx;simp [q4N,h]
 ·rw [if_neg hx];by_cases hM:x<M
  ·have:(x<k) ↔ (x<k + 1):=by omega
   simp [q4N,hM,this]
  ·simp [q4N,hM]
theorem sucRow_zero {M:Nat} {nx:Nat->List Pr}:q4N M nx 0=yC M ⟨.sl true [],.no⟩:=by
 simp [q4N,List.map_const']
structure NexI (M:Nat) (nx:Nat->Nat->List Pr) (ss:List Nat) (mem:Nat->Nat->Option (List Slot)) (n:Nat):Prop where
 row:∀ j m,ss[j]?=some m->m<n/\mem 49 m=some (q4N M (nx j) M)
structure GrB (w r:Sch) (N:Nat) (s:MSt):Prop where
 e2:(s.env 2).v=.ptr 2 1 0
 e3:(s.env 3).v=.ptr 3 1 0
 e8:(s.env 8).v=.ptr 8 6 0
 e9:(s.env 9).v=.ref 32 7 1 0 N N
 m2:s.mem 2 1=some [⟨.sl w.nl (w.types.map typC),.no⟩]
 m3:s.mem 3 1=some [⟨.sl r.nl (r.types.map typC),.no⟩]
 m8:s.mem 8 6=some [⟨.ref 28 6 1 0 N N,.no⟩]
theorem gr_in {rv:RV} {w r:Sch} {nx:Pr->List Pr} {rs:Pr->Int} (hF:SimF w r nx rs) (N M i m:Nat) (hN:w.types.length=N) (hM:r.types.length=M) (hi:i<N) (rr ss:List Nat) (dy:rr.length=i) (tR:ss.length=i)
  (s:MSt) (h:GrB w r N s) (e10:(s.env 10).v=.int .i64 i) (kj:(s.env 35).v=.int .i64 i) (tn:(s.env 34).v=.int .i64 N) (gD:(s.env 56).v=.int .i64 M) (eG:(s.env 57).v=.int .i64 0) (m28:s.mem 28 6=some (q3d 45 M (rr++[m]) N)) (m32:s.mem 32 7=some (q3d 49 M (ss++[m]) N)) (rC:s.mem 45 m=some (q07 (brow M fun _=>false))) (mL:s.mem 49 m=some (q4N M (fun k=>nx ((i:Int),(k:Int))) 0)) (k:Ex->MSt->Option RV)
  (hk:∀ s',GrB w r N s'->(s'.env 34).v=.int .i64 N->(s'.env 35).v=.int .i64 i->(∀ t q,¬ ((t=45\/t=49)/\q=m)->s'.mem t q=s.mem t q)->s.next<=s'.next->s'.mem 45 m=some (q07 (brow M fun k=>decide (rs ((i:Int),(k:Int))=0)))->s'.mem 49 m=some (q4N M (fun k=>nx ((i:Int),(k:Int))) M)->k (.exit 2) s'=some rv):evL allT q01 q2l s k=some rv:=by
 refine q0b M (fun j s'=>GrB w r N s'/\(s'.env 10).v=.int .i64 i/\(s'.env 34).v=.int .i64 N/\(s'.env 35).v=.int .i64 i/\(s'.env 56).v=.int .i64 M/\(s'.env 57).v=.int .i64 j/\(∀ t q,¬ ((t=45\/t=49)/\q=m)->s'.mem t q=s.mem t q)/\s.next<=s'.next/\s'.mem 45 m=some (q07 (brow M fun k=>if k<j then decide (rs ((i:Int),(k:Int))=0) else false))/\s'.mem 49 m=some (q4N M (fun k=>nx ((i:Int),(k:Int))) j))
  (fun e s'=>e=.exit 2/\GrB w r N s'/\(s'.env 34).v=.int .i64 N/\(s'.env 35).v=.int .i64 i/\(∀ t q,¬ ((t=45\/t=49)/\q=m)->s'.mem t q=s.mem t q)/\s.next<=s'.next/\s'.mem 45 m=some (q07 (brow M fun k=>decide (rs ((i:Int),(k:Int))=0)))/\s'.mem 49 m=some (q4N M (fun k=>nx ((i:Int),(k:Int))) M)) (fun j hj s' k h ih hk=>?_) _ _ ⟨h,e10,tn,kj,gD,eG,fun _ _ _=>rfl,ym _,by rw [rC]; congr 2,mL⟩ (fun e s' h=>by obtain ⟨rfl,h1,h2,h3,h4,h5,h6,h7⟩:=h; exact hk _ h1 h2 h3 h4 h5 h6 h7)
 obtain ⟨⟨e2,e3,e8,e9,m2,m3,m8⟩,e10,tn,kj,gD,eG,hm,hn,tz,bG⟩:=h;have ww:M<=32:=hM ▸ hF.rl;have uy:=hm 28 6 (by simp);have dD:=hm 32 7 (by simp);rw [m28] at uy;rw [m32] at dD;refine q02 ?_;by_cases da:j<M
 ·have fa:(j:Int)<M:=by omega
  have hw:=q0H (i:=j);have hp:inP w.types.length r.types.length ((i:Int),(j:Int)):=⟨by simp,by simp; omega,by simp,by simp; omega⟩;have h1:=hF.rsn _ hp;have h2:=hF.suc _ hp;have kq:(q3d 45 M (rr++[m]) N)[i]?=some ⟨.ref 45 m 1 0 M M,.no⟩:=refRow_at (by rw [yM (by omega)]; simp [dy]);have cG:(q3d 49 M (ss++[m]) N)[i]?=some ⟨.ref 49 m 1 0 M M,.no⟩:=refRow_at (by rw [yM (by omega)]; simp [tR]);have s1:=q9E (M:=M) (k:=j) (fun k=>if k<j then decide (rs ((i:Int),(k:Int))=0) else false) (decide (rs ((i:Int),(j:Int))=0)) da;have s2:=sucRow_store (M:=M) (k:=j) (nx:=fun k=>nx ((i:Int),(k:Int))) da;have he:q07 (brow M (fun x=>if x=j then decide (rs ((i:Int),(j:Int))=0) else if x<j then decide (rs ((i:Int),(x:Int))=0) else false))=q07 (brow M fun x=>if x<j + 1 then decide (rs ((i:Int),(x:Int))=0) else false):=by
   congr 1;refine q4U fun x _=>?_
   by_cases c1:x=j
   ·subst c1; simp
   ·rw [if_neg c1];by_cases c2:x<j
    ·rw [if_pos c2,if_pos (by omega)]
    ·rw [if_neg c2,if_neg (by omega)]
  rw [he] at s1;generalize q07 (brow M fun k=>if k<j then decide (rs ((i:Int),(k:Int))=0) else false)=R0 at *
  generalize q07 (brow M fun k=>if k<j + 1 then decide (rs ((i:Int),(k:Int))=0) else false)=R1 at *
  generalize q4N M (fun k=>nx ((i:Int),(k:Int))) j=Q0 at *
  generalize q4N M (fun k=>nx ((i:Int),(k:Int))) (j + 1)=Q1 at *
  generalize q3d 45 M (rr++[m]) N=A at *
  generalize q3d 49 M (ss++[m]) N=B at *
  simp only [evA,schC] at h1 h2;simp only [sucC] at s2;simp [q2l,-y0,-y5,-y4,y3,-q0M,-q0c,q0u,q0z,q0g,q0h,e2,e3,e8,e9,e10,gD,eG,m2,m3,m8,uy,dD,tz,bG,hi,da,fa,kq,cG,h1,h2,s1,s2,hw];refine ih da _ ⟨⟨?_,?_,?_,?_,?_,?_,?_⟩,?_,?_,?_,?_,?_,?_,?_,?_,?_⟩
  ·simp [e2]
  ·simp [e3]
  ·simp [e8]
  ·simp [e9]
  ·simp [m2]
  ·simp [m3]
  ·simp [m8]
  ·simp [e10]
  ·simp [tn]
  ·simp [kj]
  ·simp [gD]
  ·simp
  ·intro t q na;have cD:¬ (t=45/\q=m):=fun e=>na ⟨.inl e.1,e.2⟩
   have sO:¬ (t=49/\q=m):=fun e=>na ⟨.inr e.1,e.2⟩
   simp [cD,sO];exact hm t q na
  ·dsimp only; omega
  ·simp
  ·simp
 ·have fa:¬ (j:Int)<M:=by omega
  have eH:j=M:=by omega
  simp [q2l,-y0,-y5,-y4,y3,gD,eG,fa];refine hk _ _ ⟨rfl,⟨?_,?_,?_,?_,?_,?_,?_⟩,?_,?_,hm,by dsimp only; omega,?_,?_⟩
  ·simp [e2]
  ·simp [e3]
  ·simp [e8]
  ·simp [e9]
  ·simp [m2]
  ·simp [m3]
  ·simp [m8]
  ·simp [tn]
  ·simp [kj]
  ·dsimp only;rw [tz];congr 2;refine q4U fun x hx=>?_
   rw [if_pos (by omega)]
  ·dsimp only;rw [bG,eH]
structure FilI (N M:Nat) (nx:Pr->List Pr) (rs:Pr->Int) (i:Nat) (rr:List Nat) (s:MSt):Prop where
 m28:s.mem 28 6=some (q3d 45 M rr N)
 m32:s.mem 32 7=some (q3d 49 M rr N)
 lr:rr.length=i
 inj:∀ j j' m:Nat,rr[j]?=some m->rr[j']?=some m->j=j'
 tab:TabI 45 M (fun i k=>decide (rs ((i:Int),(k:Int))=0)) rr s.mem s.next
 nex:NexI M (fun i k=>nx ((i:Int),(k:Int))) rr s.mem s.next
 nn:8<=s.next
theorem qbb {rr:List Nat} {n j m:Nat} (h:(rr++[n])[j]?=some m):(rr[j]?=some m)\/(j=rr.length/\m=n):=by
 by_cases hj:j<rr.length
 ·rw [yt hj] at h;exact .inl h
 ·have h1:=(yb.1 h).1;have h2:j=rr.length:=by simp at h1; omega
  subst h2;simp at h;exact .inr ⟨rfl,h.symm⟩
theorem gr_fill {rv:RV} {w r:Sch} {nx:Pr->List Pr} {rs:Pr->Int} (hF:SimF w r nx rs) (N M:Nat) (hN:w.types.length=N) (hM:r.types.length=M) (s:MSt) (h:GrB w r N s) (tn:(s.env 34).v=.int .i64 N) (kj:(s.env 35).v=.int .i64 0) (hf:FilI N M nx rs 0 [] s) (k:Ex->MSt->Option RV)
  (hk:∀ s' rr,GrB w r N s'->FilI N M nx rs N rr s'->k (.exit 0) s'=some rv):evL allT q01 q2m s k=some rv:=by
 refine q0b N (fun i s=>GrB w r N s/\(s.env 34).v=.int .i64 N/\(s.env 35).v=.int .i64 i/\∃ rr,FilI N M nx rs i rr s) (fun e s=>e=.exit 0/\GrB w r N s/\∃ rr,FilI N M nx rs N rr s) (fun i hi s k h ih hk=>?_) _ _ ⟨h,tn,kj,[],hf⟩ (fun e s' h=>by obtain ⟨rfl,h1,rr,h2⟩:=h; exact hk _ rr h1 h2);obtain ⟨⟨e2,e3,e8,e9,m2,m3,m8⟩,tn,kj,rr,⟨m28,m32,lr,inj,tab,nex,nn⟩⟩:=h;have ww:M<=32:=hM ▸ hF.rl;have zw:N<=32:=hN ▸ hF.wl;refine q02 ?_;by_cases da:i<N
 ·have fa:(i:Int)<N:=by omega
  have hw:=q0H (i:=i);have s1:=qaq (t:=45) (M:=M) (N:=N) (m:=s.next + 1 + 1) (rr:=rr) (by omega);have s2:=qaq (t:=49) (M:=M) (N:=N) (m:=s.next + 1 + 1) (rr:=rr) (by omega);have kq:(q3d 45 M (rr++[s.next + 1 + 1]) N)[i]?=some ⟨.ref 45 (s.next + 1 + 1) 1 0 M M,.no⟩:=refRow_at (by rw [yM (by omega)]; simp [lr]);rw [lr] at s1 s2;have jx:M * 24<=140737488355328:=by omega
  have pq:M<=140737488355328:=by omega
  obtain ⟨A,hA⟩:∃ A,q3d 45 M (rr++[s.next + 1 + 1]) N=A:=⟨_,rfl⟩;obtain ⟨B,hB⟩:∃ B,q3d 49 M (rr++[s.next + 1 + 1]) N=B:=⟨_,rfl⟩;rw [hA] at s1 kq;rw [hB] at s2;generalize q3d 45 M rr N=A0 at *
  generalize q3d 49 M rr N=B0 at *
  simp [q2m,-y0,-y5,-y4,y3,-q0M,-q0c,q0u,q0z,q0g,q0h,e2,e3,e8,e9,tn,kj,m2,m3,m8,m28,m32,hM,da,fa,s1,s2,kq,jx,pq];refine gr_in hF N M i (s.next + 1 + 1) hN hM da rr rr lr lr _ ⟨?_,?_,?_,?_,?_,?_,?_⟩ ?_ ?_ ?_ ?_ ?_ ?_ ?_ ?_ ?_ _ (fun s' hG dI aI hm hn tz bG=>?_)
  ·simp [e2]
  ·simp [e3]
  ·simp [e8]
  ·simp [e9]
  ·simp [m2]
  ·simp [m3]
  ·simp [m8]
  ·simp
  ·simp [kj]
  ·simp [tn]
  ·simp
  ·simp
  ·simp [hA]
  ·simp [hB]
  ·simp [brow0]
  ·simp [sucRow_zero]
  ·dsimp only at hn;have jG:=hG;obtain ⟨f2,f3,f8,f9,q2,q3,q8⟩:=hG;have uy:=hm 28 6 (by simp);have dD:=hm 32 7 (by simp);simp at uy dD;have bg:∀ t m,(t=45\/t=49)->m<s.next->s'.mem t m=s.mem t m:=fun t m ht da=>by
    have h1:¬ m=s.next + 1 + 1:=by omega
    rw [hm t m (fun e=>h1 e.2)];rcases ht with rfl | rfl <;> simp [h1]
   have wb:∀ (S:MSt),S.mem=s'.mem->s'.next<=S.next->FilI N M nx rs (i + 1) (rr++[s.next + 1 + 1]) S:=fun S hS hSn=>⟨by rw [hS,uy,hA],by rw [hS,dD,hB],by simp [lr],fun j j' m hj dw=>by
     rcases qbb hj with hj | ⟨rfl,rfl⟩ <;> rcases qbb dw with dw | ⟨rfl,ld⟩
     ·exact inj j j' m hj dw
     ·have:=(tab.row j m hj).1; omega
     ·have:=(tab.row j' _ dw).1; omega
     ·rfl,⟨fun j m hj=>by
     rcases qbb hj with hj | ⟨rfl,rfl⟩
     ·obtain ⟨h1,h2⟩:=tab.row j m hj;exact ⟨by omega,by rw [hS,bg 45 m (.inl rfl) h1,h2]⟩
     ·exact ⟨by omega,by rw [hS,tz,lr]⟩⟩,⟨fun j m hj=>by
     rcases qbb hj with hj | ⟨rfl,rfl⟩
     ·obtain ⟨h1,h2⟩:=nex.row j m hj;exact ⟨by omega,by rw [hS,bg 49 m (.inr rfl) h1,h2]⟩
     ·exact ⟨by omega,by rw [hS,bG,lr]⟩⟩,by omega⟩
   simp [-y0,-y5,-y4,y3,aI,hw];refine ih da _ ⟨⟨?_,?_,?_,?_,?_,?_,?_⟩,?_,?_,_,wb _ rfl (by dsimp only; omega)⟩
   ·simp [f2]
   ·simp [f3]
   ·simp [f8]
   ·simp [f9]
   ·simp [q2]
   ·simp [q3]
   ·simp [q8]
   ·simp [dI]
   ·simp
 ·have fa:¬ (i:Int)<N:=by omega
  have xg:i=N:=by omega
  subst xg;simp [q2m,-y0,-y5,-y4,y3,tn,kj,fa];refine hk _ _ ⟨rfl,⟨?_,?_,?_,?_,?_,?_,?_⟩,rr,⟨m28,m32,lr,inj,⟨fun j m hj=>?_⟩,⟨fun j m hj=>?_⟩,by dsimp only; omega⟩⟩
  ·simp [e2]
  ·simp [e3]
  ·simp [e8]
  ·simp [e9]
  ·simp [m2]
  ·simp [m3]
  ·simp [m8]
  ·obtain ⟨h1,h2⟩:=tab.row j m hj;exact ⟨by dsimp only; omega,h2⟩
  ·obtain ⟨h1,h2⟩:=nex.row j m hj;exact ⟨by dsimp only; omega,h2⟩
structure GrS (w r:Sch) (N M:Nat) (nx:Pr->List Pr) (rr:List Nat) (g:Nat->Nat->Bool) (s:MSt):Prop where
 b:GrB w r N s
 m28:s.mem 28 6=some (q07 (rr.map (refC 45 M)))
 m32:s.mem 32 7=some (q07 (rr.map (refC 49 M)))
 lr:rr.length=N
 inj:∀ j j' m:Nat,rr[j]?=some m->rr[j']?=some m->j=j'
 tab:TabI 45 M g rr s.mem s.next
 nex:NexI M (fun i k=>nx ((i:Int),(k:Int))) rr s.mem s.next
 nn:8<=s.next
section
variable {w r:Sch} {N M:Nat} {nx:Pr->List Pr} {rr:List Nat} {g:Nat->Nat->Bool} {s s':MSt} (h:GrS w r N M nx rr g s)
include w r N M nx rr g s s' h
theorem GrS.of (he:∀ t,t=2\/t=3\/t=8\/t=9->(s'.env t).v=(s.env t).v) (hm:∀ t n,n<s.next->s'.mem t n=s.mem t n) (hn:s.next<=s'.next):GrS w r N M nx rr g s':=by
 obtain ⟨⟨e2,e3,e8,e9,m2,m3,m8⟩,m28,m32,lr,inj,tab,nex,nn⟩:=h;refine ⟨⟨?_,?_,?_,?_,?_,?_,?_⟩,?_,?_,lr,inj,⟨fun j m hj=>?_⟩,⟨fun j m hj=>?_⟩,by omega⟩
 ·rw [he 2 (by simp),e2]
 ·rw [he 3 (by simp),e3]
 ·rw [he 8 (by simp),e8]
 ·rw [he 9 (by simp),e9]
 ·rw [hm _ _ (by omega),m2]
 ·rw [hm _ _ (by omega),m3]
 ·rw [hm _ _ (by omega),m8]
 ·rw [hm _ _ (by omega),m28]
 ·rw [hm _ _ (by omega),m32]
 ·obtain ⟨h1,h2⟩:=tab.row j m hj;exact ⟨by omega,by rw [hm _ _ h1,h2]⟩
 ·obtain ⟨h1,h2⟩:=nex.row j m hj;exact ⟨by omega,by rw [hm _ _ h1,h2]⟩
theorem GrS.set {i j m:Nat} (hi:rr[i]?=some m) (he:∀ t,t=2\/t=3\/t=8\/t=9->(s'.env t).v=(s.env t).v) (hm:∀ t n,¬ (t=45/\n=m)->n<s.next->s'.mem t n=s.mem t n) (cD:s'.mem 45 m=some (q07 (brow M fun x=>if x=j then false else g i x))) (hn:s.next<=s'.next):GrS w r N M nx rr (setT g i j) s':=by
 obtain ⟨⟨e2,e3,e8,e9,m2,m3,m8⟩,m28,m32,lr,inj,tab,nex,nn⟩:=h;refine ⟨⟨?_,?_,?_,?_,?_,?_,?_⟩,?_,?_,lr,inj,⟨fun j' m' hj=>?_⟩,⟨fun j' m' hj=>?_⟩,by omega⟩
 ·rw [he 2 (by simp),e2]
 ·rw [he 3 (by simp),e3]
 ·rw [he 8 (by simp),e8]
 ·rw [he 9 (by simp),e9]
 ·rw [hm _ _ (by simp) (by omega),m2]
 ·rw [hm _ _ (by simp) (by omega),m3]
 ·rw [hm _ _ (by simp) (by omega),m8]
 ·rw [hm _ _ (by simp) (by omega),m28]
 ·rw [hm _ _ (by simp) (by omega),m32]
 ·obtain ⟨h1,h2⟩:=tab.row j' m' hj;refine ⟨by omega,?_⟩;by_cases e:m'=m
  ·subst e;have:=inj _ _ _ hj hi;subst this;rw [cD];congr 2;refine q4U fun x _=>?_
   simp [setT]
  ·rw [hm _ _ (fun h=>e h.2) h1,h2];congr 2;refine q4U fun x _=>?_
   have:¬ j'=i:=fun h=>by
    subst h;rw [hi] at hj;injection hj with hj;exact e hj.symm
   simp [setT,this]
 ·obtain ⟨h1,h2⟩:=nex.row j' m' hj;exact ⟨by omega,by rw [hm _ _ (by simp) h1,h2]⟩
end
structure PassI (nx:Pr->List Pr) (rs:Pr->Int) (N M:Nat) (g0 g:Nat->Nat->Bool) (ag:Bool) (i j:Nat):Prop where
 tab:TabG nx rs N M g
 les:ag=true->cntT N M g<cntT N M g0
 eq:ag=false->g=g0/\∀ a b,(a<i/\b<M\/a=i/\b<j)->g a b=true->(nx ((a:Int),(b:Int))).any (outOf g)=false
theorem cnt_pass {nx:Pr->List Pr} {rs:Pr->Int} {N M:Nat} {g0 g:Nat->Nat->Bool} {ag:Bool} {i j:Nat} (h:PassI nx rs N M g0 g ag i j):cntT N M g<=cntT N M g0:=by
 cases ag with
 | true=>exact Nat.le_of_lt (h.les rfl)
 | false=>rw [(h.eq rfl).1]; exact ym _
theorem gr_L1 {rv:RV} {w r:Sch} {nx:Pr->List Pr} {rs:Pr->Int} (hF:SimF w r nx rs) (N M i:Nat) (hN:w.types.length=N) (hM:r.types.length=M) (hi:i<N) (g0:Nat->Nat->Bool) (rr:List Nat) (s:MSt) (g:Nat->Nat->Bool) (ag:Bool) (hS:GrS w r N M nx rr g s) (hP:PassI nx rs N M g0 g ag i 0) (e12:(s.env 12).v=.bool ag) (ah:(s.env 13).v=.int .i64 i) (br:(s.env 87).v=.int .i64 N) (ir:(s.env 88).v=.int .i64 i) (tk:(s.env 95).v=.int .i64 M) (wn:(s.env 96).v=.int .i64 0) (k:Ex->MSt->Option RV)
  (hk:∀ s' g' iq,GrS w r N M nx rr g' s'->PassI nx rs N M g0 g' iq i M->(s'.env 12).v=.bool iq->(s'.env 87).v=.int .i64 N->(s'.env 88).v=.int .i64 i->k (.exit 8) s'=some rv):evL allT q01 q1E s k=some rv:=by
 refine q0b M (fun j s=>∃ g ag,GrS w r N M nx rr g s/\PassI nx rs N M g0 g ag i j/\(s.env 12).v=.bool ag/\(s.env 13).v=.int .i64 i/\(s.env 87).v=.int .i64 N/\(s.env 88).v=.int .i64 i/\(s.env 95).v=.int .i64 M/\(s.env 96).v=.int .i64 j)
  (fun e s=>e=.exit 8/\∃ g ag,GrS w r N M nx rr g s/\PassI nx rs N M g0 g ag i M/\(s.env 12).v=.bool ag/\(s.env 87).v=.int .i64 N/\(s.env 88).v=.int .i64 i) (fun j hj s k h ih hk=>?_) _ _ ⟨g,ag,hS,hP,e12,ah,br,ir,tk,wn⟩ (fun e s' h=>by obtain ⟨rfl,g',iq,h1,h2,h3,h4,h5⟩:=h; exact hk _ g' iq h1 h2 h3 h4 h5)
 obtain ⟨g,ag,hS,hP,e12,ah,br,ir,tk,wn⟩:=h;have ww:M<=32:=hM ▸ hF.rl;have zw:N<=32:=hN ▸ hF.wl;have fk:=hS;obtain ⟨⟨e2,e3,e8,e9,m2,m3,m8⟩,m28,m32,lr,inj,tab,nex,nn⟩:=hS;refine q02 ?_;by_cases da:j<M
 ·have fa:(j:Int)<M:=by omega
  have hw:=q0H (i:=j);obtain ⟨m,hm⟩:∃ m,rr[i]?=some m:=⟨_,y6 (by omega)⟩;have kq:(q07 (rr.map (refC 45 M)))[i]?=some ⟨.ref 45 m 1 0 M M,.no⟩:=q7C (q8s 45 M rr) (by rw [yc,hm]; rfl);have cG:(q07 (rr.map (refC 49 M)))[i]?=some ⟨.ref 49 m 1 0 M M,.no⟩:=q7C (q8s 49 M rr) (by rw [yc,hm]; rfl);obtain ⟨sM,rC⟩:=tab.row i m hm;obtain ⟨_,mL⟩:=nex.row i m hm;have uz:=brow_at (g i) da;have xL:=sucRow_at (nx:=fun k=>nx ((i:Int),(k:Int))) da da;have wE:inP w.types.length r.types.length ((i:Int),(j:Int)):=by rw [hN,hM]; exact inP_nat hi da
  have ja:=hF.len _ wE;have uu:=hF.rng _ wE;obtain ⟨A,hA⟩:∃ A,q07 (rr.map (refC 45 M))=A:=⟨_,rfl⟩;obtain ⟨B,hB⟩:∃ B,q07 (rr.map (refC 49 M))=B:=⟨_,rfl⟩;obtain ⟨R,hR⟩:∃ R,q07 (brow M (g i))=R:=⟨_,rfl⟩;have s1:=q9E (M:=M) (k:=j) (g i) false da;rw [hA] at m28 kq;rw [hB] at m32 cG;rw [hR] at rC uz s1;generalize hQ:q4N M (fun k=>nx ((i:Int),(k:Int))) M=Q at *
  simp only [sucC] at xL;cases hz:g i j with
  | false =>
   rw [hz] at uz;simp [q1E,-y0,-y5,-y4,y3,-q0M,-q0c,q0u,q0z,q0g,q0h,e8,e9,ah,tk,wn,m8,m28,rC,hi,da,fa,kq,uz,hw];refine ih da _ ⟨g,ag,fk.of (fun t ht=>?_) (fun t n _=>rfl) (by dsimp only; omega),⟨hP.tab,hP.les,fun h=>⟨(hP.eq h).1,fun a b jf hg=>?_⟩⟩,?_,?_,?_,?_,?_,?_⟩
   ·rcases ht with rfl | rfl | rfl | rfl <;> simp
   ·by_cases hb:a=i/\b=j
    ·rw [hb.1,hb.2,hz] at hg; cases hg
    ·exact (hP.eq h).2 a b (by omega) hg
   ·simp [e12]
   ·simp [ah]
   ·simp [br]
   ·simp [ir]
   ·simp [tk]
   ·simp
  | true =>
   rw [hz] at uz;simp [q1E,-y0,-y5,-y4,y3,-q0M,-q0c,q0u,q0z,q0g,q0h,q7i,e8,e9,ah,tk,wn,m8,m28,m32,rC,mL,hi,da,fa,kq,cG,uz,xL,hw];refine gcon_ev (nx ((i:Int),(j:Int))) ja (outOf g) _ _ _ (fun q hq s1 k1 a1 h1 h2 h3=>?_) _ (fun y s' hy hq=>?_)
   ·obtain ⟨c1,c2,c3,c4⟩:=uu q hq;dsimp only at h1 h2;obtain ⟨mq,tM⟩:∃ mq,rr[q.1.toNat]?=some mq:=⟨_,y6 (by omega)⟩;obtain ⟨t1,t2⟩:=tab.row _ _ tM;exact gF1_ev (R28:=A) (R45:=q07 (brow M (g q.1.toNat))) (z:=g q.1.toNat q.2.toNat) (by rw [h2 8 6 (by omega)]; exact m8) (by rw [h2 28 6 (by omega)]; exact m28) (by rw [<- hA]; exact q7C (q8s 45 M rr) (by rw [yc,tM]; rfl)) (by rw [h2 45 mq (by omega)]; exact t2) (brow_at _ (by omega)) c1 (by omega) c3 (by omega) k1 h3
   ·obtain ⟨r1,r2,r3⟩:=hq;dsimp only at r1 r2 r3;have f8:=r3 8 6 (by omega);have uy:=r3 28 6 (by omega);have tz:=r3 45 m (by omega);rw [m8] at f8;rw [m28] at uy;rw [rC] at tz;cases oq:(nx ((i:Int),(j:Int))).any (outOf g) with
    | false =>
     rw [oq] at hy;simp [-y0,-y5,-y4,y3,-q0M,-q0c,q0u,q0z,q0g,q0h,hy,r1,wn,hw];refine ih da _ ⟨g,ag,fk.of (fun t ht=>?_) (fun t n hn=>r3 t n (by omega)) (by dsimp only; omega),⟨hP.tab,hP.les,fun h=>⟨(hP.eq h).1,fun a b jf hg=>?_⟩⟩,?_,?_,?_,?_,?_,?_⟩
     ·rcases ht with rfl | rfl | rfl | rfl <;> simp
     ·by_cases hb:a=i/\b=j
      ·rw [hb.1,hb.2,oq]
      ·exact (hP.eq h).2 a b (by omega) hg
     ·simp [e12]
     ·simp [ah]
     ·simp [br]
     ·simp [ir]
     ·simp [tk]
     ·simp
    | true =>
     rw [oq] at hy;simp [-y0,-y5,-y4,y3,-q0M,-q0c,q0u,q0z,q0g,q0h,hy,r1,e8,ah,wn,f8,uy,tz,kq,s1,hi,da,hw];refine ih da _ ⟨setT g i j,true,fk.set (j:=j) hm (fun t ht=>?_) (fun t n na hn=>?_) ?_ (by dsimp only; omega),⟨hP.tab.set (fun p hp q hq=>by have:=hF.rng p (by rw [hN,hM]; exact hp) q hq; rwa [hN,hM] at this) zw ww hi da oq,fun _=>?_,fun h=>by cases h⟩,?_,?_,?_,?_,?_,?_⟩
     ·rcases ht with rfl | rfl | rfl | rfl <;> simp
     ·simp [na];exact r3 t n (by omega)
     ·simp
     ·have h1:=cnt_set hi da hz;have h2:=cnt_pass hP;omega
     ·simp
     ·simp [ah]
     ·simp [br]
     ·simp [ir]
     ·simp [tk]
     ·simp
 ·have fa:¬ (j:Int)<M:=by omega
  have eH:j=M:=by omega
  subst eH;simp [q1E,-y0,-y5,-y4,y3,tk,wn,fa];refine hk _ _ ⟨rfl,g,ag,fk.of (fun t ht=>?_) (fun t n _=>rfl) (by dsimp only; omega),hP,?_,?_,?_⟩
  ·rcases ht with rfl | rfl | rfl | rfl <;> simp
  ·simp [e12]
  ·simp [br]
  ·simp [ir]
theorem PassI.next {nx:Pr->List Pr} {rs:Pr->Int} {N M:Nat} {g0 g:Nat->Nat->Bool} {ag:Bool} {i:Nat} (h:PassI nx rs N M g0 g ag i M):PassI nx rs N M g0 g ag (i + 1) 0:=⟨h.tab,h.les,fun e=>⟨(h.eq e).1,fun a b jf hg=>(h.eq e).2 a b (by omega) hg⟩⟩
section
variable {rv:RV} {w r:Sch} {nx:Pr->List Pr} {rs:Pr->Int} (hF:SimF w r nx rs) (N M:Nat) (hN:w.types.length=N) (hM:r.types.length=M) (g0:Nat->Nat->Bool) (hT:TabG nx rs N M g0) (rr:List Nat) (s:MSt) (hS:GrS w r N M nx rr g0 s)
include rv w r nx rs hF N M hN hM g0 hT rr s hS
theorem gr_L2 (e12:(s.env 12).v=.bool false) (br:(s.env 87).v=.int .i64 N) (ir:(s.env 88).v=.int .i64 0) (k:Ex->MSt->Option RV)
  (hk:∀ s' g' iq,GrS w r N M nx rr g' s'->PassI nx rs N M g0 g' iq N 0->(s'.env 12).v=.bool iq->k (.exit 6) s'=some rv):evL allT q01 q2j s k=some rv:=by
 refine q0b N (fun i s=>∃ g ag,GrS w r N M nx rr g s/\PassI nx rs N M g0 g ag i 0/\(s.env 12).v=.bool ag/\(s.env 87).v=.int .i64 N/\(s.env 88).v=.int .i64 i)
  (fun e s=>e=.exit 6/\∃ g ag,GrS w r N M nx rr g s/\PassI nx rs N M g0 g ag N 0/\(s.env 12).v=.bool ag) (fun i hi s k h ih hk=>?_) _ _ ⟨g0,false,hS,⟨hT,fun h=>(by cases h),fun _=>⟨rfl,fun a b h=>by omega⟩⟩,e12,br,ir⟩ (fun e s' h=>by obtain ⟨rfl,g',iq,h1,h2,h3⟩:=h; exact hk _ g' iq h1 h2 h3)
 obtain ⟨g,ag,hS,hP,e12,br,ir⟩:=h;have zw:N<=32:=hN ▸ hF.wl;have fk:=hS;obtain ⟨⟨e2,e3,e8,e9,m2,m3,m8⟩,m28,m32,lr,inj,tab,nex,nn⟩:=hS;refine q02 ?_;by_cases da:i<N
 ·have fa:(i:Int)<N:=by omega
  have hw:=q0H (i:=i);obtain ⟨m,hm⟩:∃ m,rr[i]?=some m:=⟨_,y6 (by omega)⟩;have kq:(q07 (rr.map (refC 45 M)))[i]?=some ⟨.ref 45 m 1 0 M M,.no⟩:=q7C (q8s 45 M rr) (by rw [yc,hm]; rfl);generalize q07 (rr.map (refC 45 M))=A at *
  simp [q2j,-y0,-y5,-y4,y3,-q0M,-q0c,q0u,q0z,q0g,q0h,e8,br,ir,m8,m28,da,fa,kq];refine gr_L1 hF N M i hN hM da g0 rr _ g ag (fk.of (fun t ht=>?_) (fun t n _=>?_) ?_) hP ?_ ?_ ?_ ?_ ?_ ?_ _ (fun s' g' iq h1 h2 h3 h4 h5=>?_)
  ·rcases ht with rfl | rfl | rfl | rfl <;> simp
  ·rfl
  ·dsimp only; omega
  ·simp [e12]
  ·simp
  ·simp [br]
  ·simp [ir]
  ·simp
  ·simp
  ·simp [-y0,-y5,-y4,y3,h5,hw];refine ih da _ ⟨g',iq,h1.of (fun t ht=>?_) (fun t n _=>rfl) (by dsimp only; omega),h2.next,?_,?_,?_⟩
   ·rcases ht with rfl | rfl | rfl | rfl <;> simp
   ·simp [h3]
   ·simp [h4]
   ·simp
 ·have fa:¬ (i:Int)<N:=by omega
  have xg:i=N:=by omega
  subst xg;simp [q2j,-y0,-y5,-y4,y3,br,ir,fa];refine hk _ _ ⟨rfl,g,ag,fk.of (fun t ht=>?_) (fun t n _=>rfl) (by dsimp only; omega),hP,?_⟩
  ·rcases ht with rfl | rfl | rfl | rfl <;> simp
  ·simp [e12]
theorem gr_L3 (e12:(s.env 12).v=.bool true) (k:Ex->MSt->Option RV)
  (hk:∀ s' g',GrS w r N M nx rr g' s'->(∀ i k,i<N->k<M->g' i k=q2J nx rs ((i:Int),(k:Int)))->k (.exit 4) s'=some rv):evL allT q01 q2k s k=some rv:=by
 have ww:M<=32:=hM ▸ hF.rl;have zw:N<=32:=hN ▸ hF.wl;have hr:∀ p,inP N M p->∀ q∈nx p,inP N M q:=fun p hp q hq=>by have:=hF.rng p (by rw [hN,hM]; exact hp) q hq; rwa [hN,hM] at this
 refine q0b (N * M + 1) (fun i s=>∃ g ag,GrS w r N M nx rr g s/\TabG nx rs N M g/\(s.env 12).v=.bool ag/\(ag=true->cntT N M g + i<=N * M)/\(ag=false->∀ a b,a<N->b<M->g a b=true->(nx ((a:Int),(b:Int))).any (outOf g)=false))
  (fun e s=>e=.exit 4/\∃ g,GrS w r N M nx rr g s/\∀ i k,i<N->k<M->g i k=q2J nx rs ((i:Int),(k:Int))) (fun i hi s k h ih hk=>?_) _ _ ⟨g0,true,hS,hT,e12,fun _=>cnt_le N M g0,fun h=>by cases h⟩ (fun e s' h=>by obtain ⟨rfl,g',h1,h2⟩:=h; exact hk _ g' h1 h2)
 obtain ⟨g,ag,hS,hG,e12,hc,hz⟩:=h;have fk:=hS;obtain ⟨⟨e2,e3,e8,e9,m2,m3,m8⟩,m28,m32,lr,inj,tab,nex,nn⟩:=hS;refine q02 ?_;cases ag with
 | true =>
  have hc:=hc rfl;simp [q2k,-y0,-y5,-y4,y3,-q0M,-q0c,q0u,q0z,q0g,q0h,e8,e12,m8];refine gr_L2 hF N M hN hM g hG rr _ (fk.of (fun t ht=>?_) (fun t n _=>?_) ?_) ?_ ?_ ?_ _ (fun s' g' iq h1 h2 h3=>?_)
  ·rcases ht with rfl | rfl | rfl | rfl <;> simp
  ·rfl
  ·dsimp only; omega
  ·simp
  ·simp
  ·simp
  ·simp [-y0,-y5,-y4,y3];refine ih (by omega) _ ⟨g',iq,h1,h2.tab,h3,fun e=>?_,fun e a b ha hb hg=>(h2.eq e).2 a b (.inl ⟨ha,hb⟩) hg⟩;have:=h2.les e;omega
 | false =>
  simp [q2k,-y0,-y5,-y4,y3,e12];refine hk _ _ ⟨rfl,g,fk.of (fun t ht=>?_) (fun t n _=>rfl) (by dsimp only; omega),fun i k hi hk=>hG.eq hr (hz rfl) hi hk⟩;rcases ht with rfl | rfl | rfl | rfl <;> simp
end
theorem root_mem (nx:Pr->List Pr) (p:Pr):p∈prs (bfsE nx p):=yS (yk (bfsE_root nx p))
theorem gr_start {nx:Pr->List Pr} {rs:Pr->Int} {N M:Nat}:TabG nx rs N M fun i k=>decide (rs ((i:Int),(k:Int))=0):=⟨fun i k _ _ h=>of_decide_eq_true h,fun i k _ _ h=>by
 unfold q2J at h;rw [y7] at h;exact h _ (root_mem nx _)⟩
theorem greatest_ev {w r:Sch} (hw:SndE w 0) (hr:SndE r 0) {nx:Pr->List Pr} {rs:Pr->Int} (hF:SimF w r nx rs) (h0:0<w.types.length):evA 38 [.agg (schC w),.agg (schC r)] (.tup [gtA w.types.length r.types.length (fun i k=>q2J nx rs ((i:Int),(k:Int))),.int .i64 0]):=by
 have h1:=hw.1;have h2:=hr.1;have hN:=hF.wl;have hM:=hF.rl;refine q00 (c:=q32) rfl rfl ?_;simp only [evA,schC] at h1 h2;obtain ⟨N,ig⟩:∃ N,w.types.length=N:=⟨_,rfl⟩;obtain ⟨M,uB⟩:∃ M,r.types.length=M:=⟨_,rfl⟩;rw [ig] at hN h0 ⊢;rw [uB] at hM ⊢;have jx:N * 24<=140737488355328:=by omega
 have pq:N<=140737488355328:=by omega
 simp [q32,-y0,-y5,-y4,y3,schC,h1,h2,ig,jx,pq];refine gr_fill hF N M ig uB _ ⟨?_,?_,?_,?_,?_,?_,?_⟩ ?_ ?_ ⟨?_,?_,rfl,fun j j' m h=>by simp at h,⟨fun j m h=>by simp at h⟩,⟨fun j m h=>by simp at h⟩,?_⟩ _ (fun s' rr hG hf=>?_)
 all_goals try (simp [q3d]; done)
 obtain ⟨m28,m32,lr,inj,tab,nex,nn⟩:=hf;have jp:∀ t,q3d t M rr N=q07 (rr.map (refC t M)):=fun t=>by rw [<- lr]; exact refRow_full
 rw [jp] at m28 m32;simp [-y0,-y5,-y4,y3];refine gr_L3 hF N M ig uB _ gr_start rr _ (GrS.of (s:=s') ⟨hG,m28,m32,lr,inj,tab,nex,nn⟩ (fun t ht=>?_) (fun t n _=>?_) ?_) ?_ _ (fun s2 g' hS pg=>?_)
 ·rcases ht with rfl | rfl | rfl | rfl <;> simp
 ·rfl
 ·dsimp only; omega
 ·simp
 ·obtain ⟨⟨e2,e3,e8,e9,m2,m3,m8⟩,m28,m32,lr,inj,tab,nex,nn⟩:=hS;have tK:gtab N M g'=gtab N M (fun i k=>q2J nx rs ((i:Int),(k:Int))):=by
   unfold gtab;refine yp fun i hi=>?_
   rw [q4U fun k hk=>pg i k (by simpa using hi) hk]
  have kr:∀ E n' ob gh,AV.frz0 ⟨E,s2.mem,n',ob,gh⟩ (.ref 28 6 1 0 N N)=.sl false (gtab N M fun i k=>q2J nx rs ((i:Int),(k:Int))):=fun E n' ob gh=>by
   have:=tab_frz (s:=⟨E,s2.mem,n',ob,gh⟩) (n:=s2.next) ⟨tab.row⟩ (c:=N) m28
   rwa [lr,tK] at this
  have lA:∀ s k n,AV.frz0 s (.int k n)=.int k n:=fun _ _ _=>rfl
  have gp:¬ N=0:=by omega
  simp [-y0,-y5,-y4,y3,-AV.frz0,e8,m8,kr,lA,gtA,gp]
end Go.Proofs.YtbnlmgncbgaepaaGreat
