/- A part of the proof. -/
import Derived.Test.YtbnlmgncbgaepaaGreatTe
import Derived.Test.YtbnlmgncbgaepaaGreatTf
set_option linter.all false
set_option maxRecDepth 100000
set_option maxHeartbeats 8000000
open Option renaming bind_some → V
open List renaming range_succ → y0, map_map → y3, getElem?_eq_getElem → y5, getElem_mem → y7, drop_eq_getElem_cons → y8, drop_eq_nil_of_le → yc, getElem?_map → ye, getElem?_eq_some_iff → yf, mem_cons → yh, mem_append → yp, take_append_getElem → yE, not_mem_nil → yH, map_append → yM
open Int renaming toNat_lt → y4
open Bool renaming and_eq_true → y9
namespace Go.Proofs.YtbnlmgncbgaepaaGreat
open Go
def bB (n:Nat) (u:Int):Bool:=decide (u<0)||decide ((n:Int)<=u)
def II (l:List sA) (k:Int):Int:=match l[k.toNat]? with
 | some t=>t.kind
 | none=>0
def kC (l:List sA) (i:Nat) (t:sA):Int :=
 if gB t=false then 1
 else if t.named=true/\t.name∈(l.take i).map sA.name then 1
 else if t.usesL.any (bB l.length)=true then 4
 else if t.kind=8/\¬ (1<=II l t.key/\II l t.key<=4) then 1
 else 0
def bC (l:List sA):Nat->Nat->Int
 | 0,_=>0
 | n + 1,i=>match l[i]? with
  | some t=>if kC l i t=0 then bC l n (i + 1) else kC l i t
  | none=>0
def valid (l:List sA):Int:=if 32<l.length then 3 else bC l l.length 0
theorem AT {l:List sA} {i:Nat} (h:i<l.length):bC l (l.length - i) i=if kC l i l[i]=0 then bC l (l.length - (i + 1)) (i + 1) else kC l i l[i]:=by
 rw [show l.length - i=(l.length - (i + 1)) + 1 from by omega,bC,y5 h]
theorem HI {t:sA} (h:gB t=true):1<=t.kind/\t.kind<=9:=by
 unfold gB at h;rw [y9] at h;exact of_decide_eq_true h.1
theorem isName_ne {s:ByteArray} (h:zF s=true):s≠⟨#[]⟩:=fun e=>by
 subst e;unfold zF at h;simp only [y9] at h;have:=of_decide_eq_true h.1.1.1;exact this rfl
theorem pO {t:sA} (h:gB t=true):t.named=true ↔ t.name≠⟨#[]⟩:=by
 have hk:=HI h;unfold gB tI sA.left at h;rcases kinds t.kind with e | e | e | e | e | e | e | e | e | e
 all_goals first | exact absurd hk e | skip
 all_goals simp [e,sA.same,LB,sA.named] at h ⊢
 all_goals first | exact isName_ne h.1.1 | (simp [h]; done) | skip
theorem N3 {l:List sA} {t:sA} (h8:t.kind=8) (h:t.usesL.any (bB l.length)=false):0<=t.key/\t.key<l.length:=by
 have hm:t.key∈t.usesL:=by simp [sA.usesL,h8]
 have:=List.any_eq_false.1 h _ hm;simp [bB] at this;omega
theorem D2 (s:ByteArray):∀ l:List ByteArray,s∈l->EG (l.map LI) (.str s) (.bool true)=l.map LI
 | [],h=>by cases h
 | x :: r,hn=>by
  by_cases h:x=s
  ·simp [LI,EG,AN,h]
  ·have:=D2 s r (by
    rcases yh.1 hn with e | e
    ·exact absurd e.symm h
    ·exact e)
   simp [LI,EG,AN,h,this]
theorem seen_next (s:ByteArray) (q:List ByteArray):∃ q':List ByteArray,EG (q.map LI) (.str s) (.bool true)=q'.map LI/\∀ x,x∈q' ↔ x∈q\/x=s:=by
 by_cases h:s∈q
 ·exact ⟨q,D2 s q h,fun x=>⟨.inl,fun e=>e.elim id (fun e=>e ▸ h)⟩⟩
 ·exact ⟨q++[s],CY s q h,fun x=>by simp⟩
def DH.fine (s:DH):Prop:=s.types.length<=9223372036854775807/\∀ t∈s.types,t.fine
theorem vuses_lp (sn:Bool) (S:List sA) (U:List Int) (hU:U.length<=9223372036854775807) (bu:Bool) (r:RV) (P:pA->Prop) (hP:∀ s s':pA,s'.mem=s.mem->s'.obj=s.obj->s'.next=s'.next->(∀ t,t ∉ [2,7,41,42,43,44,45,46,47,48,49,50,51,52,53,40]->s'.env t=s.env t)->P s->P s') (k:Ex->pA->Option RV)
  (hk:∀ s',U.any (bB S.length)=false->P s'->k (.exit 2) s'=some r) (hr:∀ s':pA,U.any (bB S.length)=true->(s'.env 2).v=.int .i64 4->k .ret s'=some r)
  (s:pA) (hs:P s) (h1:(s.env 1).v=.ptr 1 1 0) (m1:s.mem 1 1=some [⟨.sl sn (S.map qA),.no⟩]) (h38:(s.env 38).v=.sl bu (U.map qC)) (h39:(s.env 39).v=.int .i64 U.length) (h40:(s.env 40).v=.int .i64 0):GG dA eA cD s k=some r:=by
 refine gA U.length (fun i s=>P s/\(s.env 1).v=.ptr 1 1 0/\s.mem 1 1=some [⟨.sl sn (S.map qA),.no⟩]/\(s.env 38).v=.sl bu (U.map qC)/\(s.env 39).v=.int .i64 U.length/\(s.env 40).v=.int .i64 i/\(U.drop i).any (bB S.length)=U.any (bB S.length))
  (fun e s=>(e=.exit 2/\U.any (bB S.length)=false/\P s)\/(e=.ret/\U.any (bB S.length)=true/\(s.env 2).v=.int .i64 4)) (fun i hi s k h ih hk=>?_) _ _ ?_ (fun e s h=>?_)
 ·obtain ⟨hp,e1,m1,e38,e39,e40,hs⟩:=h;refine tA ?_;by_cases fa:i<U.length
  ·have ga:(i:Int)<U.length:=by omega
   have g1:(U.map qC)[i]?=some (qC U[i]):=by simp [fa]
   have hw:=GA (i:=i);rw [y8 fa,List.any_cons] at hs;generalize U[i]=u at *
   simp only [qC] at g1;by_cases c1:u<0
   ·simp [cD,-V,-y4,-y3,y0,e1,m1,e38,e39,e40,ga,g1,c1];exact hk _ _ (.inr ⟨rfl,by rw [<- hs]; simp [bB,c1],by simp⟩)
   by_cases c2:(S.length:Int)<=u
   ·simp [cD,-V,-y4,-y3,y0,e1,m1,e38,e39,e40,ga,g1,c1,c2];exact hk _ _ (.inr ⟨rfl,by rw [<- hs]; simp [bB,c2],by simp⟩)
   simp [cD,-V,-y4,-y3,y0,e1,m1,e38,e39,e40,ga,g1,c1,c2,hw];refine ih fa _ ⟨hP s _ ?_ ?_ ?_ ?_ hp,?_,?_,?_,?_,?_,?_⟩
   ·rfl
   ·rfl
   ·rfl
   ·intro t ht;simp only [yh,yH,or_false,not_or] at ht;simp [tG,ht]
   ·simp [e1]
   ·simp [m1]
   ·simp [e38]
   ·simp [e39]
   ·simp
   ·rw [<- hs]; simp [bB,c1,c2]
  ·have ga:¬ (i:Int)<U.length:=by omega
   simp [cD,-V,-y4,-y3,y0,e39,e40,ga];rw [yc (by omega)] at hs;refine hk _ _ (.inl ⟨rfl,hs.symm,hP s _ ?_ ?_ ?_ ?_ hp⟩)
   ·rfl
   ·rfl
   ·rfl
   ·intro t ht;simp only [yh,yH,or_false,not_or] at ht;simp [tG,ht]
 ·simp [hs,h1,m1,h38,h39,h40]
 ·rcases h with ⟨rfl,h1,h2⟩ | ⟨rfl,h1,h2⟩
  ·exact hk s h1 h2
  ·exact hr s h1 h2
theorem uZ (s:DH) (hs:s.fine):fA 203 [.agg (TA s)] (.int .i64 (valid s.types)):=by
 obtain ⟨ia,fe⟩:=hs;refine rA (c:=CG) rfl rfl ?_;unfold valid;by_cases im:32<s.types.length
 ·have jm:(32:Int)<s.types.length:=by omega
  simp [CG,-V,-y4,-y3,y0,TA,im,jm]
 have jm:¬ (32:Int)<s.types.length:=by omega
 simp [CG,-V,-y4,-y3,y0,TA,im,jm];refine gA s.types.length (fun i σ=>(σ.env 1).v=.ptr 1 1 0/\σ.mem 1 1=some [⟨.sl s.nl (s.types.map qA),.no⟩]/\(σ.env 3).v=.mp 12 3/\(σ.env 14).v=.sl s.nl (s.types.map qA)/\(σ.env 15).v=.int .i64 s.types.length/\(σ.env 16).v=.int .i64 i/\(∃ q:List ByteArray,σ.obj 12 3=some (HF (q.map LI))/\∀ x,x∈q ↔ x∈(s.types.take i).map sA.name)/\bC s.types (s.types.length - i) i=bC s.types s.types.length 0)
  (fun e σ=>(e=.exit 0/\bC s.types s.types.length 0=0)\/(e=.ret/\(σ.env 2).v=.int .i64 (bC s.types s.types.length 0))) (fun i hi σ k h ih hk=>?_) _ _ ?_ (fun e σ h=>?_)
 ·obtain ⟨e1,m1,e3,pq,be,mc,⟨q,o,hq⟩,hv⟩:=h;refine tA ?_;by_cases fa:i<s.types.length
  ·have ga:(i:Int)<s.types.length:=by omega
   have g1:(s.types.map qA)[i]?=some (qA s.types[i]):=by simp [fa]
   have hw:=GA (i:=i);have ht:s.types.take (i + 1)=s.types.take i++[s.types[i]]:=(yE fa).symm;have hf:=form_ev s.types[i] (fe _ (y7 _));have hu:=uses_ev s.types[i] (fe _ (y7 _)).2.2 _ rfl;have su:=(fe _ (y7 fa)).2.2;rw [AT fa] at hv;generalize s.types[i]=t at *
   have hul:t.usesL.length<=9223372036854775807:=by
    unfold sA.usesL;by_cases h8:t.kind=8 <;> by_cases h7:7<=t.kind <;> simp [h8,h7] <;> omega
   simp only [fA,qA] at hf hu;simp only [qA] at g1;have hg:=XY t.name q;have nk:=X4 q;obtain ⟨q',hq',ma⟩:=seen_next t.name q;have err:∀ σ' n,kC s.types i t=n->n≠0->(σ'.env 2).v=.int .i64 n->k .ret σ'=some (.int .i64 (bC s.types s.types.length 0),none):=fun σ' n h1 h2 h3=>hk _ _ (.inr ⟨rfl,by rw [h3,<- hv,h1,if_neg h2]⟩)
   cases c1:gB t with
   | false =>
    rw [c1] at hf;simp [UB,-V,-y4,-y3,y0,e1,m1,e3,pq,be,mc,ga,g1,hf];exact err _ 1 (by simp [kC,c1]) (by decide) (by simp)
   | true =>
    rw [c1] at hf;have eb:=pO c1;have dup:t.name≠⟨#[]⟩->t.name∈q->UB.run (cE dA eA) (BJ dA eA) σ (HJ (GG dA eA) UB k)=some (.int .i64 (bC s.types s.types.length 0),none):=by
     intro hn cf;have hd:=eq_false hn;rw [if_pos cf] at hg;simp [UB,-V,-y4,-y3,y0,e1,m1,e3,pq,be,mc,ga,g1,hf,hd,o,qE,nk,lG,AV.flat,AV.scal,hg];exact err _ 1 (by unfold kC; rw [if_neg (by simp [c1]),if_pos ⟨eb.2 hn,(hq _).1 cf⟩]) (by decide) (by simp)
    have go:(t.name=⟨#[]⟩\/t.name≠⟨#[]⟩/\¬ t.name∈q)->UB.run (cE dA eA) (BJ dA eA) σ (HJ (GG dA eA) UB k)=some (.int .i64 (bC s.types s.types.length 0),none):=by
     intro hn;have c2:¬ (t.named=true/\t.name∈(s.types.take i).map sA.name):=fun ⟨h1,h2⟩=>by
      rcases hn with hn | hn
      ·exact (eb.1 h1) hn
      ·exact hn.2 ((hq _).2 h2)
     have uO:∀ (σ':pA) (k':Ex->pA->Option RV) (p:Nat),(∀ σ2:pA,(σ2.env 2).v=.int .i64 4->k' .ret σ2=k .ret σ2) →
       (∀ σ2:pA,(σ2.env 1).v=.ptr 1 1 0->σ2.mem 1 1=some [⟨.sl s.nl (s.types.map qA),.no⟩]->(σ2.env 3).v=.mp 12 3->(σ2.env 14).v=.sl s.nl (s.types.map qA)->(σ2.env 15).v=.int .i64 s.types.length->(σ2.env 16).v=.int .i64 i->σ2.obj 12 3=some (HF (q'.map LI))->(σ2.env 5).v=.ptr 5 p 0->σ2.mem 5 p=some (jA t)->t.usesL.any (bB s.types.length)=false->k' (.exit 2) σ2=some (.int .i64 (bC s.types s.types.length 0),none)) →
       (σ'.env 1).v=.ptr 1 1 0->σ'.mem 1 1=some [⟨.sl s.nl (s.types.map qA),.no⟩]->(σ'.env 3).v=.mp 12 3->(σ'.env 14).v=.sl s.nl (s.types.map qA)->(σ'.env 15).v=.int .i64 s.types.length->(σ'.env 16).v=.int .i64 i->σ'.obj 12 3=some (HF (q'.map LI))->(σ'.env 5).v=.ptr 5 p 0->σ'.mem 5 p=some (jA t)->(σ'.env 38).v=.sl t.usesL.isEmpty (t.usesL.map qC)->(σ'.env 39).v=.int .i64 t.usesL.length->(σ'.env 40).v=.int .i64 0->GG dA eA cD σ' k'=some (.int .i64 (bC s.types s.types.length 0),none):=by
      intro σ' k' p hret kp f1 fm f3 f14 fj f16 fo f5 fp f38 f39 f40;refine vuses_lp s.nl s.types t.usesL hul t.usesL.isEmpty _ (fun σ2=>(σ2.env 1).v=.ptr 1 1 0/\σ2.mem 1 1=some [⟨.sl s.nl (s.types.map qA),.no⟩]/\(σ2.env 3).v=.mp 12 3/\(σ2.env 14).v=.sl s.nl (s.types.map qA)/\(σ2.env 15).v=.int .i64 s.types.length/\(σ2.env 16).v=.int .i64 i/\σ2.obj 12 3=some (HF (q'.map LI))/\(σ2.env 5).v=.ptr 5 p 0/\σ2.mem 5 p=some (jA t)) (fun a b hm ho _ he h=>?_) k' (fun σ2 hu h=>?_) (fun σ2 hu h2=>?_) σ' ⟨f1,fm,f3,f14,fj,f16,fo,f5,fp⟩ f1 fm f38 f39 f40
      ·rw [hm,ho,he 1 (by decide),he 3 (by decide),he 14 (by decide),he 15 (by decide),he 16 (by decide),he 5 (by decide)];exact h
      ·obtain ⟨f1,fm,f3,f14,fj,f16,fo,f5,fp⟩:=h;exact kp σ2 f1 fm f3 f14 fj f16 fo f5 fp hu
      ·rw [hret σ2 h2];exact err _ 4 (by unfold kC; rw [if_neg (by simp [c1]),if_neg c2,if_pos hu]) (by decide) h2
     have key:t.usesL.any (bB s.types.length)=false->t.kind=8->0<=t.key/\∃ y:sA,(s.types.map qA)[t.key.toNat]?=some (qA y)/\II s.types t.key=y.kind:=fun hu h8=>by
      obtain ⟨h1,h2⟩:=N3 h8 hu;have h3:t.key.toNat<s.types.length:=by omega
      exact ⟨h1,s.types[t.key.toNat],by rw [ye,y5 h3]; rfl,by unfold II; rw [y5 h3]⟩
     have next:kC s.types i t=0->∀ σ2:pA,(σ2.env 1).v=.ptr 1 1 0->σ2.mem 1 1=some [⟨.sl s.nl (s.types.map qA),.no⟩]->(σ2.env 3).v=.mp 12 3->(σ2.env 14).v=.sl s.nl (s.types.map qA)->(σ2.env 15).v=.int .i64 s.types.length->(σ2.env 16).v=.int .i64 ((i + 1:Nat):Int)->σ2.obj 12 3=some (HF (q'.map LI))->GG dA eA UB σ2 k=some (.int .i64 (bC s.types s.types.length 0),none):=fun h0 σ2 f1 fm f3 f14 fj f16 fo=>ih fa _ ⟨f1,fm,f3,f14,fj,f16,⟨q',fo,fun x=>by rw [ma,ht,yM,yp,hq]; simp⟩,by rw [<- hv,h0]; rfl⟩
     have hgn:t.name=⟨#[]⟩\/t.name≠⟨#[]⟩/\PH (q.map LI) (.str t.name)=none:=by
      rcases hn with hn | ⟨h1,h2⟩
      ·exact .inl hn
      ·exact .inr ⟨h1,by rw [hg,if_neg h2]⟩
     rcases hgn with hd | ⟨hd,hg⟩
     ·have hd:=eq_true hd;simp [UB,-V,-y4,-y3,y0,e1,m1,e3,pq,be,mc,ga,g1,hf,hu,hd,o,qE,nk,lG,AV.flat,AV.scal,hq'];refine uO _ _ (σ.next + 1) (fun σ2 _=>rfl) (fun σ2 f1 fm f3 f14 fj f16 fo f5 fp nd=>?_) ?_ ?_ ?_ ?_ ?_ ?_ ?_ ?_ ?_ ?_ ?_ ?_
      rotate_left
      ·simp [e1]
      ·simp [m1]
      ·simp [e3]
      ·simp [pq]
      ·simp [be]
      ·simp [mc]
      ·simp
      ·simp
      ·simp
      ·simp
      ·simp
      ·simp
      have c3:=nd;by_cases h8:t.kind=8
      ·obtain ⟨wg,y,gy,hy⟩:=key nd h8;simp only [qA] at gy;by_cases c4:y.kind<1
       ·simp [-V,-y4,-y3,y0,f1,fm,f5,fp,h8,wg,gy,c4];exact err _ 1 (by unfold kC; rw [if_neg (by simp [c1]),if_neg c2,if_neg (by simp [c3]),if_pos ⟨h8,by rw [hy]; omega⟩]) (by decide) (by simp)
       ·by_cases c5:4<y.kind
        ·simp [-V,-y4,-y3,y0,f1,fm,f5,fp,h8,wg,gy,c4,c5];exact err _ 1 (by unfold kC; rw [if_neg (by simp [c1]),if_neg c2,if_neg (by simp [c3]),if_pos ⟨h8,by rw [hy]; omega⟩]) (by decide) (by simp)
        ·simp [-V,-y4,-y3,y0,f1,fm,f5,fp,f16,h8,wg,gy,c4,c5,hw];refine next (by unfold kC; rw [if_neg (by simp [c1]),if_neg c2,if_neg (by simp [c3]),if_neg fun h=>h.2 (by rw [hy]; omega)]) _ ?_ ?_ ?_ ?_ ?_ ?_ ?_ <;> simp [f1,fm,f3,f14,fj,fo]
      ·simp [-V,-y4,-y3,y0,f1,fm,f5,fp,f16,h8,hw];refine next (by unfold kC; rw [if_neg (by simp [c1]),if_neg c2,if_neg (by simp [c3]),if_neg fun h=>h8 h.1]) _ ?_ ?_ ?_ ?_ ?_ ?_ ?_ <;> simp [f1,fm,f3,f14,fj,fo]
     ·have hd:=eq_false hd;simp [UB,-V,-y4,-y3,y0,e1,m1,e3,pq,be,mc,ga,g1,hf,hu,hd,hg,o,qE,nk,lG,AV.flat,AV.scal,hq'];refine uO _ _ (σ.next + 1) (fun σ2 _=>rfl) (fun σ2 f1 fm f3 f14 fj f16 fo f5 fp nd=>?_) ?_ ?_ ?_ ?_ ?_ ?_ ?_ ?_ ?_ ?_ ?_ ?_
      rotate_left
      ·simp [e1]
      ·simp [m1]
      ·simp [e3]
      ·simp [pq]
      ·simp [be]
      ·simp [mc]
      ·simp
      ·simp
      ·simp
      ·simp
      ·simp
      ·simp
      have c3:=nd;by_cases h8:t.kind=8
      ·obtain ⟨wg,y,gy,hy⟩:=key nd h8;simp only [qA] at gy;by_cases c4:y.kind<1
       ·simp [-V,-y4,-y3,y0,f1,fm,f5,fp,h8,wg,gy,c4];exact err _ 1 (by unfold kC; rw [if_neg (by simp [c1]),if_neg c2,if_neg (by simp [c3]),if_pos ⟨h8,by rw [hy]; omega⟩]) (by decide) (by simp)
       ·by_cases c5:4<y.kind
        ·simp [-V,-y4,-y3,y0,f1,fm,f5,fp,h8,wg,gy,c4,c5];exact err _ 1 (by unfold kC; rw [if_neg (by simp [c1]),if_neg c2,if_neg (by simp [c3]),if_pos ⟨h8,by rw [hy]; omega⟩]) (by decide) (by simp)
        ·simp [-V,-y4,-y3,y0,f1,fm,f5,fp,f16,h8,wg,gy,c4,c5,hw];refine next (by unfold kC; rw [if_neg (by simp [c1]),if_neg c2,if_neg (by simp [c3]),if_neg fun h=>h.2 (by rw [hy]; omega)]) _ ?_ ?_ ?_ ?_ ?_ ?_ ?_ <;> simp [f1,fm,f3,f14,fj,fo]
      ·simp [-V,-y4,-y3,y0,f1,fm,f5,fp,f16,h8,hw];refine next (by unfold kC; rw [if_neg (by simp [c1]),if_neg c2,if_neg (by simp [c3]),if_neg fun h=>h8 h.1]) _ ?_ ?_ ?_ ?_ ?_ ?_ ?_ <;> simp [f1,fm,f3,f14,fj,fo]
    by_cases cf:t.name≠⟨#[]⟩/\t.name∈q
    ·exact dup cf.1 cf.2
    ·refine go ?_;by_cases he:t.name=⟨#[]⟩
     ·exact .inl he
     ·exact .inr ⟨he,fun h=>cf ⟨he,h⟩⟩
  ·have ga:¬ (i:Int)<s.types.length:=by omega
   simp [UB,-V,-y4,-y3,y0,be,mc,ga];refine hk _ _ (.inl ⟨rfl,?_⟩);rw [<- hv,show s.types.length - i=0 from by omega,bC]
 ·refine ⟨?_,?_,?_,?_,?_,?_,⟨[],?_,?_⟩,?_⟩ <;> simp [HF]
 ·rcases h with ⟨rfl,h1⟩ | ⟨rfl,h1⟩
  ·simp [-V,-y4,-y3,y0,h1]
  ·simp [-V,-y4,-y3,y0,h1]
def KA {α:Type} (p:α->Bool):List α->Int
 | []=>-1
 | x :: r=>if p x=true then 0 else if KA p r=-1 then -1 else KA p r + 1
theorem XC {α:Type} (p:α->Bool):∀ l:List α,-1<=KA p l
 | []=>by simp [KA]
 | x :: r=>by
  have:=XC p r;simp only [KA];split
  ·omega
  ·split <;> omega
theorem mG {α:Type} (p:α->Bool) (x:α) (r:List α) (h:p x=false):KA p (x :: r)=if KA p r=-1 then -1 else KA p r + 1:=by simp [KA,h]
theorem PN {α:Type} (p:α->Bool):∀ l:List α,KA p l≠-1->∃ x,l[(KA p l).toNat]?=some x/\p x=true
 | [],h=>absurd rfl h
 | x :: r,h=>by
  simp only [KA] at h ⊢;by_cases hx:p x=true
  ·rw [if_pos hx]; exact ⟨x,rfl,hx⟩
  ·rw [if_neg hx] at h ⊢;by_cases h1:KA p r=-1
   ·rw [if_pos h1] at h; exact absurd rfl h
   ·rw [if_neg h1];obtain ⟨y,h2,h3⟩:=PN p r h1;have:=XC p r;refine ⟨y,?_,h3⟩;rw [show (KA p r + 1).toNat=(KA p r).toNat + 1 from by omega,List.getElem?_cons_succ];exact h2
theorem idxI_lt {α:Type} (p:α->Bool) (l:List α):KA p l<l.length:=by
 by_cases h:KA p l=-1
 ·omega
 ·obtain ⟨x,h1,_⟩:=PN p l h;have:=(yf.1 h1).1;have:=XC p l;omega
theorem ON {α:Type} (p:α->Bool):∀ l:List α,(decide (0<=KA p l))=l.any p
 | []=>by simp [KA]
 | x :: r=>by
  have h1:=ON p r;have h2:=XC p r;rw [List.any_cons,<- h1];simp only [KA];by_cases hx:p x=true
  ·simp [hx]
  ·by_cases h:KA p r=-1
   ·simp [hx,h]
   ·simp [hx,h]; omega
theorem sZ (F:Nat) (caps:List AV) (l:List SB) (p:SB->Bool) (hl:l.length<=9223372036854775807) (le:∀ (s:pA) (cl:Cl),nD s cl caps=some caps) (hF:∀ x∈l,fA F (.agg (zA x) :: caps) (.bool (p x))) (b:Bool):fA 159 [.sl b (l.map zA),.fn F caps] (.int .i64 (KA p l)):=by
 refine rA (c:=LC) rfl rfl ?_;simp [LC,-V,-y4,-y3,y0];refine gA l.length (fun i s=>(s.env 0).v=.sl b (l.map zA)/\(s.env 1).v=.fn F caps/\(s.env 7).v=.int .i64 l.length/\(s.env 8).v=.int .i64 i/\KA p l=(if KA p (l.drop i)=-1 then -1 else KA p (l.drop i) + i))
  (fun e s=>(e=.exit 0/\KA p l=-1)\/(e=.ret/\(s.env 4).v=.int .i64 (KA p l))) (fun i hi s k h ih hk=>?_) _ _ ?_ (fun e s h=>?_)
 ·obtain ⟨e0,e1,e7,e8,hs⟩:=h;refine tA ?_;by_cases fa:i<l.length
  ·have ga:(i:Int)<l.length:=by omega
   have g1:(l.map zA)[i]?=some (zA l[i]):=by simp [fa]
   have hw:=GA (i:=i);have hx:=hF l[i] (y7 _);rw [y8 fa] at hs;generalize l[i]=x at *
   simp only [fA,zA] at g1 hx;cases hp:p x with
   | true =>
    rw [hp] at hx;simp [sC,-V,-y4,-y3,y0,e0,e1,e7,e8,ga,g1,le,hx];refine hk _ _ (.inr ⟨rfl,?_⟩);simp [hs,KA,hp]
   | false =>
    rw [hp] at hx;simp [sC,-V,-y4,-y3,y0,e0,e1,e7,e8,ga,g1,le,hx,hw];refine ih fa _ ⟨?_,?_,?_,?_,?_⟩
    ·simp [e0]
    ·simp [e1]
    ·simp [e7]
    ·simp
    ·rw [hs,mG p x _ hp];have:=XC p (l.drop (i + 1));by_cases h1:KA p (l.drop (i + 1))=-1
     ·simp [h1]
     ·have h2:¬ KA p (l.drop (i + 1)) + 1=-1:=by omega
      rw [if_neg h1,if_neg h2,if_neg h1];omega
  ·have ga:¬ (i:Int)<l.length:=by omega
   simp [sC,-V,-y4,-y3,y0,e7,e8,ga];rw [yc (by omega)] at hs;exact hk _ _ (.inl ⟨rfl,hs⟩)
 ·have:=XC p l;by_cases h1:KA p l=-1 <;> simp [h1]
 ·rcases h with ⟨rfl,h1⟩ | ⟨rfl,h1⟩ <;> simp [-V,-y4,-y3,y0,h1]
theorem dZ (F:Nat) (caps:List AV) (l:List aN) (p:aN->Bool) (hl:l.length<=9223372036854775807) (le:∀ (s:pA) (cl:Cl),nD s cl caps=some caps) (hF:∀ x∈l,fA F (.agg (DC x) :: caps) (.bool (p x))) (b:Bool):fA 192 [.sl b (l.map DC),.fn F caps] (.int .i64 (KA p l)):=by
 refine rA (c:=ZC) rfl rfl ?_;simp [ZC,-V,-y4,-y3,y0];refine gA l.length (fun i s=>(s.env 0).v=.sl b (l.map DC)/\(s.env 1).v=.fn F caps/\(s.env 7).v=.int .i64 l.length/\(s.env 8).v=.int .i64 i/\KA p l=(if KA p (l.drop i)=-1 then -1 else KA p (l.drop i) + i))
  (fun e s=>(e=.exit 0/\KA p l=-1)\/(e=.ret/\(s.env 4).v=.int .i64 (KA p l))) (fun i hi s k h ih hk=>?_) _ _ ?_ (fun e s h=>?_)
 ·obtain ⟨e0,e1,e7,e8,hs⟩:=h;refine tA ?_;by_cases fa:i<l.length
  ·have ga:(i:Int)<l.length:=by omega
   have g1:(l.map DC)[i]?=some (DC l[i]):=by simp [fa]
   have hw:=GA (i:=i);have hx:=hF l[i] (y7 _);rw [y8 fa] at hs;generalize l[i]=x at *
   simp only [fA,DC] at g1 hx;cases hp:p x with
   | true =>
    rw [hp] at hx;simp [dC,-V,-y4,-y3,y0,e0,e1,e7,e8,ga,g1,le,hx];refine hk _ _ (.inr ⟨rfl,?_⟩);simp [hs,KA,hp]
   | false =>
    rw [hp] at hx;simp [dC,-V,-y4,-y3,y0,e0,e1,e7,e8,ga,g1,le,hx,hw];refine ih fa _ ⟨?_,?_,?_,?_,?_⟩
    ·simp [e0]
    ·simp [e1]
    ·simp [e7]
    ·simp
    ·rw [hs,mG p x _ hp];have:=XC p (l.drop (i + 1));by_cases h1:KA p (l.drop (i + 1))=-1
     ·simp [h1]
     ·have h2:¬ KA p (l.drop (i + 1)) + 1=-1:=by omega
      rw [if_neg h1,if_neg h2,if_neg h1];omega
  ·have ga:¬ (i:Int)<l.length:=by omega
   simp [dC,-V,-y4,-y3,y0,e7,e8,ga];rw [yc (by omega)] at hs;exact hk _ _ (.inl ⟨rfl,hs⟩)
 ·have:=XC p l;by_cases h1:KA p l=-1 <;> simp [h1]
 ·rcases h with ⟨rfl,h1⟩ | ⟨rfl,h1⟩ <;> simp [-V,-y4,-y3,y0,h1]
theorem L3 (F:Nat) (caps:List AV) (l:List Vl) (p:Vl->Bool) (hl:l.length<=9223372036854775807) (le:∀ (s:pA) (cl:Cl),nD s cl caps=some caps) (hF:∀ x∈l,fA F (.agg (lA x) :: caps) (.bool (p x))) (b:Bool):fA 266 [.sl b (l.map lA),.fn F caps] (.int .i64 (KA p l)):=by
 refine rA (c:=pD) rfl rfl ?_;simp [pD,-V,-y4,-y3,y0];refine gA l.length (fun i s=>(s.env 0).v=.sl b (l.map lA)/\(s.env 1).v=.fn F caps/\(s.env 7).v=.int .i64 l.length/\(s.env 8).v=.int .i64 i/\KA p l=(if KA p (l.drop i)=-1 then -1 else KA p (l.drop i) + i))
  (fun e s=>(e=.exit 0/\KA p l=-1)\/(e=.ret/\(s.env 4).v=.int .i64 (KA p l))) (fun i hi s k h ih hk=>?_) _ _ ?_ (fun e s h=>?_)
 ·obtain ⟨e0,e1,e7,e8,hs⟩:=h;refine tA ?_;by_cases fa:i<l.length
  ·have ga:(i:Int)<l.length:=by omega
   have g1:(l.map lA)[i]?=some (lA l[i]):=by simp [fa]
   have hw:=GA (i:=i);have hx:=hF l[i] (y7 _);rw [y8 fa] at hs;generalize l[i]=x at *
   simp only [fA,uA] at g1 hx;cases hp:p x with
   | true =>
    rw [hp] at hx;simp [cC,-V,-y4,-y3,y0,e0,e1,e7,e8,ga,g1,le,hx];refine hk _ _ (.inr ⟨rfl,?_⟩);simp [hs,KA,hp]
   | false =>
    rw [hp] at hx;simp [cC,-V,-y4,-y3,y0,e0,e1,e7,e8,ga,g1,le,hx,hw];refine ih fa _ ⟨?_,?_,?_,?_,?_⟩
    ·simp [e0]
    ·simp [e1]
    ·simp [e7]
    ·simp
    ·rw [hs,mG p x _ hp];have:=XC p (l.drop (i + 1));by_cases h1:KA p (l.drop (i + 1))=-1
     ·simp [h1]
     ·have h2:¬ KA p (l.drop (i + 1)) + 1=-1:=by omega
      rw [if_neg h1,if_neg h2,if_neg h1];omega
  ·have ga:¬ (i:Int)<l.length:=by omega
   simp [cC,-V,-y4,-y3,y0,e7,e8,ga];rw [yc (by omega)] at hs;exact hk _ _ (.inl ⟨rfl,hs⟩)
 ·have:=XC p l;by_cases h1:KA p l=-1 <;> simp [h1]
 ·rcases h with ⟨rfl,h1⟩ | ⟨rfl,h1⟩ <;> simp [-V,-y4,-y3,y0,h1]
theorem mem1_ev (x:SB) (id:Int):fA 160 [.agg (zA x),.bp [.int .i64 id]] (.bool (decide (x.id=id))):=by
 refine rA (c:=NF) rfl rfl ?_;simp [NF,-V,-y4,-y3,y0,zA]
def QB (l:List SB) (id:Int):Int:=KA (fun x=>decide (x.id=id)) l
def GQ (l:List SB) (id:Int):AV:=.tup [.int .i64 (max (QB l id) 0),.bool (decide (0<=QB l id))]
theorem FX (t:sA) (id:Int) (hl:t.mems.length<=9223372036854775807):fA 137 [.agg (qA t),.int .i64 id] (GQ t.mems id):=by
 refine rA (c:=zI) rfl rfl ?_;have h:=sZ 160 [.bp [.int .i64 id]] t.mems (fun x=>decide (x.id=id)) hl (fun _ _=>rfl) (fun x _=>mem1_ev x id) t.mn;simp only [fA] at h;unfold GQ QB;simp [zI,-V,-y4,-y3,y0,qA,h]
theorem TT (t:sA) (id:Int) (hl:t.mems.length<=9223372036854775807):fA 99 [.agg (qA t),.int .i64 id] (GQ t.mems id):=by
 refine rA (c:=qJ) rfl rfl ?_;obtain ⟨p,hp⟩:∃ p:SB->Bool,p=fun x=>decide (x.id=id):=⟨_,rfl⟩
 unfold GQ QB;rw [<- hp];simp [qJ,-V,-y4,-y3,y0,qA];refine gA t.mems.length (fun i s=>(s.env 1).v=.int .i64 id/\(s.env 2).v=.ptr 2 1 0/\s.mem 2 1=some (jA t)/\(s.env 6).v=.int .i64 i/\KA p t.mems=(if KA p (t.mems.drop i)=-1 then -1 else KA p (t.mems.drop i) + i))
  (fun e s=>(e=.exit 0/\KA p t.mems=-1)\/(e=.ret/\0<=KA p t.mems/\(s.env 4).v=.int .i64 (KA p t.mems)/\(s.env 5).v=.bool true)) (fun i hi s k h ih hk=>?_) _ _ ?_ (fun e s h=>?_)
 ·obtain ⟨e1,e2,m2,e6,hs⟩:=h;refine tA ?_;by_cases fa:i<t.mems.length
  ·have ga:(i:Int)<t.mems.length:=by omega
   have g1:(t.mems.map zA)[i]?=some (zA t.mems[i]):=by simp [fa]
   have hw:=GA (i:=i);rw [y8 fa] at hs;generalize t.mems[i]=x at *
   simp only [zA] at g1;by_cases hx:x.id=id
   ·simp [UG,-V,-y4,-y3,y0,e1,e2,m2,e6,ga,g1,hx];have lw:p x=true:=by rw [hp]; exact decide_eq_true hx
    refine hk _ _ (.inr ⟨rfl,?_,?_,?_⟩)
    ·rw [hs]; simp [KA,lw]
    ·simp [hs,KA,lw]
    ·simp
   ·have lw:p x=false:=by rw [hp]; exact decide_eq_false hx
    simp [UG,-V,-y4,-y3,y0,e1,e2,m2,e6,ga,g1,hx,hw];refine ih fa _ ⟨?_,?_,?_,?_,?_⟩
    ·simp [e1]
    ·simp [e2]
    ·simp [m2]
    ·simp
    ·rw [hs,mG p x _ lw];have:=XC p (t.mems.drop (i + 1));by_cases h1:KA p (t.mems.drop (i + 1))=-1
     ·simp [h1]
     ·have h2:¬ KA p (t.mems.drop (i + 1)) + 1=-1:=by omega
      rw [if_neg h1,if_neg h2,if_neg h1];omega
  ·have ga:¬ (i:Int)<t.mems.length:=by omega
   simp [UG,-V,-y4,-y3,y0,e2,m2,e6,ga];rw [yc (by omega)] at hs;exact hk _ _ (.inl ⟨rfl,hs⟩)
 ·have:=XC p t.mems;by_cases h1:KA p t.mems=-1 <;> simp [h1]
 ·rcases h with ⟨rfl,h1⟩ | ⟨rfl,h0,h1,h2⟩
  ·simp [-V,-y4,-y3,y0,h1];rfl
  ·simp [-V,-y4,-y3,y0,h1,h2,h0,Int.max_eq_left h0]
theorem sym1_ev (x:aN) (id:Int):fA 193 [.agg (DC x),.bp [.int .i64 id]] (.bool (decide (x.id=id))):=by
 refine rA (c:=MF) rfl rfl ?_;simp [MF,-V,-y4,-y3,y0,DC]
def bG (l:List aN) (id:Int):Int:=KA (fun x=>decide (x.id=id)) l
def nW (l:List aN) (id:Int):AV:=.tup [.int .i64 (max (bG l id) 0),.bool (decide (0<=bG l id))]
theorem sym_ev (t:sA) (id:Int) (hl:t.syms.length<=9223372036854775807):fA 154 [.agg (qA t),.int .i64 id] (nW t.syms id):=by
 refine rA (c:=xI) rfl rfl ?_;have h:=dZ 193 [.bp [.int .i64 id]] t.syms (fun x=>decide (x.id=id)) hl (fun _ _=>rfl) (fun x _=>sym1_ev x id) t.sn;simp only [fA] at h;unfold nW bG;simp [xI,-V,-y4,-y3,y0,qA,h]
theorem Z4 (t:sA) (id:Int) (hl:t.syms.length<=9223372036854775807):fA 123 [.agg (qA t),.int .i64 id] (nW t.syms id):=by
 refine rA (c:=wJ) rfl rfl ?_;obtain ⟨p,hp⟩:∃ p:aN->Bool,p=fun x=>decide (x.id=id):=⟨_,rfl⟩
 unfold nW bG;rw [<- hp];simp [wJ,-V,-y4,-y3,y0,qA];refine gA t.syms.length (fun i s=>(s.env 1).v=.int .i64 id/\(s.env 2).v=.ptr 2 1 0/\s.mem 2 1=some (jA t)/\(s.env 6).v=.int .i64 i/\KA p t.syms=(if KA p (t.syms.drop i)=-1 then -1 else KA p (t.syms.drop i) + i))
  (fun e s=>(e=.exit 0/\KA p t.syms=-1)\/(e=.ret/\0<=KA p t.syms/\(s.env 4).v=.int .i64 (KA p t.syms)/\(s.env 5).v=.bool true)) (fun i hi s k h ih hk=>?_) _ _ ?_ (fun e s h=>?_)
 ·obtain ⟨e1,e2,m2,e6,hs⟩:=h;refine tA ?_;by_cases fa:i<t.syms.length
  ·have ga:(i:Int)<t.syms.length:=by omega
   have g1:(t.syms.map DC)[i]?=some (DC t.syms[i]):=by simp [fa]
   have hw:=GA (i:=i);rw [y8 fa] at hs;generalize t.syms[i]=x at *
   simp only [DC] at g1;by_cases hx:x.id=id
   ·simp [IG,-V,-y4,-y3,y0,e1,e2,m2,e6,ga,g1,hx];have lw:p x=true:=by rw [hp]; exact decide_eq_true hx
    refine hk _ _ (.inr ⟨rfl,?_,?_,?_⟩)
    ·rw [hs]; simp [KA,lw]
    ·simp [hs,KA,lw]
    ·simp
   ·have lw:p x=false:=by rw [hp]; exact decide_eq_false hx
    simp [IG,-V,-y4,-y3,y0,e1,e2,m2,e6,ga,g1,hx,hw];refine ih fa _ ⟨?_,?_,?_,?_,?_⟩
    ·simp [e1]
    ·simp [e2]
    ·simp [m2]
    ·simp
    ·rw [hs,mG p x _ lw];have:=XC p (t.syms.drop (i + 1));by_cases h1:KA p (t.syms.drop (i + 1))=-1
     ·simp [h1]
     ·have h2:¬ KA p (t.syms.drop (i + 1)) + 1=-1:=by omega
      rw [if_neg h1,if_neg h2,if_neg h1];omega
  ·have ga:¬ (i:Int)<t.syms.length:=by omega
   simp [IG,-V,-y4,-y3,y0,e2,m2,e6,ga];rw [yc (by omega)] at hs;exact hk _ _ (.inl ⟨rfl,hs⟩)
 ·have:=XC p t.syms;by_cases h1:KA p t.syms=-1 <;> simp [h1]
 ·rcases h with ⟨rfl,h1⟩ | ⟨rfl,h0,h1,h2⟩
  ·simp [-V,-y4,-y3,y0,h1];rfl
  ·simp [-V,-y4,-y3,y0,h1,h2,h0,Int.max_eq_left h0]
theorem rnames_lp (sn:Bool) (S:List sA) (i:Nat) (hiS:i<S.length) (hS:S.length<=9223372036854775807) (t:sA) (p:Nat) (r:RV) (P:pA->Prop) (hP:∀ s s':pA,s'.mem=s.mem->s'.obj=s.obj->(∀ t,t ∉ [2,5,27,28,29,30,31,32,33,34,35,36,37,38,39,40,41,42,43,44,45]->s'.env t=s.env t)->P s->P s') (k:Ex->pA->Option RV)
  (hk:∀ s',¬ (t.named=true/\t.name∈(S.take i).map sA.name)->P s'->k (.exit 2) s'=some r) (hr:∀ s':pA,t.named=true/\t.name∈(S.take i).map sA.name->(s'.env 2).v=.int .i64 1->k .ret s'=some r)
  (s:pA) (hs:P s) (h1:(s.env 1).v=.ptr 1 1 0) (m1:s.mem 1 1=some [⟨.sl sn (S.map qA),.no⟩]) (h3:(s.env 3).v=.int .i64 i) (h4:(s.env 4).v=.ptr 4 p 0) (m4:s.mem 4 p=some (jA t)) (h5:(s.env 5).v=.int .i64 0):GG dA eA DD s k=some r:=by
 have eb:=rD t.kind;change fA _ _ (.bool t.named) at eb;simp only [fA] at eb;refine gA i (fun j s=>P s/\(s.env 1).v=.ptr 1 1 0/\s.mem 1 1=some [⟨.sl sn (S.map qA),.no⟩]/\(s.env 3).v=.int .i64 i/\(s.env 4).v=.ptr 4 p 0/\s.mem 4 p=some (jA t)/\(s.env 5).v=.int .i64 j/\¬ (t.named=true/\t.name∈(S.take j).map sA.name))
  (fun e s=>(e=.exit 2/\¬ (t.named=true/\t.name∈(S.take i).map sA.name)/\P s)\/(e=.ret/\(t.named=true/\t.name∈(S.take i).map sA.name)/\(s.env 2).v=.int .i64 1)) (fun j hj s k h ih hk=>?_) _ _ ?_ (fun e s h=>?_)
 ·obtain ⟨hp,e1,m1,e3,e4,m4,e5,hs⟩:=h;refine tA ?_;by_cases fa:j<i
  ·have ga:(j:Int)<i:=by omega
   have hjS:j<S.length:=by omega
   have g1:(S.map qA)[j]?=some (qA S[j]):=by simp [hjS]
   have hw:=GA (i:=j);have ht:S.take (j + 1)=S.take j++[S[j]]:=(yE hjS).symm;have ma:S[j]∈S.take i:=List.mem_take_iff_getElem.2 ⟨j,by omega,rfl⟩;generalize S[j]=u at *
   simp only [qA] at g1;have nxt:∀ s',s'.mem=s.mem->s'.obj=s.obj->(∀ t,t ∉ [2,5,27,28,29,30,31,32,33,34,35,36,37,38,39,40,41,42,43,44,45]->s'.env t=s.env t)->(s'.env 5).v=.int .i64 ((j + 1:Nat):Int)->¬ (t.named=true/\u.name=t.name)->GG dA eA DD s' k=some r:=fun s' hm ho he h5 hn=>by
    refine ih fa _ ⟨hP s s' hm ho he hp,?_,?_,?_,?_,?_,h5,?_⟩
    ·rw [he 1 (by decide)]; exact e1
    ·rw [hm]; exact m1
    ·rw [he 3 (by decide)]; exact e3
    ·rw [he 4 (by decide)]; exact e4
    ·rw [hm]; exact m4
    ·rw [ht,yM,yp];rintro ⟨h1,h2 | h2⟩
     ·exact hs ⟨h1,h2⟩
     ·simp at h2; exact hn ⟨h1,h2.symm⟩
   cases hb:t.named with
   | false =>
    rw [hb] at eb;simp [DD,-V,-y4,-y3,y0,e1,m1,e3,e4,m4,e5,ga,g1,eb,hw];refine nxt _ rfl rfl ?_ ?_ (by simp [hb])
    ·intro t ht;simp only [yh,yH,or_false,not_or] at ht;simp [tG,ht]
    ·simp
   | true =>
    rw [hb] at eb;by_cases la:u.name=t.name
    ·simp [DD,-V,-y4,-y3,y0,e1,m1,e3,e4,m4,e5,ga,g1,eb,la];exact hk _ _ (.inr ⟨rfl,⟨hb,la ▸ List.mem_map_of_mem ma⟩,by simp⟩)
    ·simp [DD,-V,-y4,-y3,y0,e1,m1,e3,e4,m4,e5,ga,g1,eb,la,hw];refine nxt _ rfl rfl ?_ ?_ (by simp [la])
     ·intro t ht;simp only [yh,yH,or_false,not_or] at ht;simp [tG,ht]
     ·simp
  ·have ga:¬ (j:Int)<i:=by omega
   have hji:j=i:=by omega
   simp [DD,-V,-y4,-y3,y0,e3,e5,ga];refine hk _ _ (.inl ⟨rfl,hji ▸ hs,hP s _ rfl rfl ?_ hp⟩);intro t ht;simp only [yh,yH,or_false,not_or] at ht;simp [tG,ht]
 ·simp [hs,h1,m1,h3,h4,m4,h5]
 ·rcases h with ⟨rfl,h1,h2⟩ | ⟨rfl,h1,h2⟩
  ·exact hk s h1 h2
  ·exact hr s h1 h2
theorem rvuses_lp (sn:Bool) (S:List sA) (U:List Int) (hU:U.length<=9223372036854775807) (bu:Bool) (r:RV) (P:pA->Prop) (hP:∀ s s':pA,s'.mem=s.mem->s'.obj=s.obj->(∀ t,t ∉ [2,7,48,49,50,51,52,53,54,55,56,57,58,59,60,61,62,63,64,65,66,67,68]->s'.env t=s.env t)->P s->P s') (k:Ex->pA->Option RV)
  (hk:∀ s',U.any (bB S.length)=false->P s'->k (.exit 4) s'=some r) (hr:∀ s':pA,U.any (bB S.length)=true->(s'.env 2).v=.int .i64 4->k .ret s'=some r)
  (s:pA) (hs:P s) (h1:(s.env 1).v=.ptr 1 1 0) (m1:s.mem 1 1=some [⟨.sl sn (S.map qA),.no⟩]) (h6:(s.env 6).v=.sl bu (U.map qC)) (h7:(s.env 7).v=.int .i64 0):GG dA eA WE s k=some r:=by
 refine gA U.length (fun i s=>P s/\(s.env 1).v=.ptr 1 1 0/\s.mem 1 1=some [⟨.sl sn (S.map qA),.no⟩]/\(s.env 6).v=.sl bu (U.map qC)/\(s.env 7).v=.int .i64 i/\(U.drop i).any (bB S.length)=U.any (bB S.length))
  (fun e s=>(e=.exit 4/\U.any (bB S.length)=false/\P s)\/(e=.ret/\U.any (bB S.length)=true/\(s.env 2).v=.int .i64 4)) (fun i hi s k h ih hk=>?_) _ _ ?_ (fun e s h=>?_)
 ·obtain ⟨hp,e1,m1,e6,e7,hs⟩:=h;refine tA ?_;by_cases fa:i<U.length
  ·have ga:(i:Int)<U.length:=by omega
   have g1:(U.map qC)[i]?=some (qC U[i]):=by simp [fa]
   have hw:=GA (i:=i);rw [y8 fa,List.any_cons] at hs;generalize U[i]=u at *
   simp only [qC] at g1;by_cases c1:u<0
   ·simp [WE,-V,-y4,-y3,y0,e1,m1,e6,e7,ga,g1,c1];exact hk _ _ (.inr ⟨rfl,by rw [<- hs]; simp [bB,c1],by simp⟩)
   by_cases c2:(S.length:Int)<=u
   ·simp [WE,-V,-y4,-y3,y0,e1,m1,e6,e7,ga,g1,c1,c2];exact hk _ _ (.inr ⟨rfl,by rw [<- hs]; simp [bB,c2],by simp⟩)
   simp [WE,-V,-y4,-y3,y0,e1,m1,e6,e7,ga,g1,c1,c2,hw];refine ih fa _ ⟨hP s _ rfl rfl ?_ hp,?_,?_,?_,?_,?_⟩
   ·intro t ht;simp only [yh,yH,or_false,not_or] at ht;simp [tG,ht]
   ·simp [e1]
   ·simp [m1]
   ·simp [e6]
   ·simp
   ·rw [<- hs]; simp [bB,c1,c2]
  ·have ga:¬ (i:Int)<U.length:=by omega
   simp [WE,-V,-y4,-y3,y0,e6,e7,ga];rw [yc (by omega)] at hs;refine hk _ _ (.inl ⟨rfl,hs.symm,hP s _ rfl rfl ?_ hp⟩);intro t ht;simp only [yh,yH,or_false,not_or] at ht;simp [tG,ht]
 ·simp [hs,h1,m1,h6,h7]
 ·rcases h with ⟨rfl,h1,h2⟩ | ⟨rfl,h1,h2⟩
  ·exact hk s h1 h2
  ·exact hr s h1 h2
theorem qV (s:DH) (hs:s.fine):fA 150 [.agg (TA s)] (.int .i64 (valid s.types)):=by
 obtain ⟨ia,fe⟩:=hs;refine rA (c:=HH) rfl rfl ?_;unfold valid;by_cases im:32<s.types.length
 ·have jm:(32:Int)<s.types.length:=by omega
  simp [HH,-V,-y4,-y3,y0,TA,im,jm]
 have jm:¬ (32:Int)<s.types.length:=by omega
 simp [HH,-V,-y4,-y3,y0,TA,im,jm];refine gA s.types.length (fun i σ=>(σ.env 1).v=.ptr 1 1 0/\σ.mem 1 1=some [⟨.sl s.nl (s.types.map qA),.no⟩]/\(σ.env 3).v=.int .i64 i/\bC s.types (s.types.length - i) i=bC s.types s.types.length 0)
  (fun e σ=>(e=.exit 0/\bC s.types s.types.length 0=0)\/(e=.ret/\(σ.env 2).v=.int .i64 (bC s.types s.types.length 0))) (fun i hi σ k h ih hk=>?_) _ _ ?_ (fun e σ h=>?_)
 ·obtain ⟨e1,m1,e3,hv⟩:=h;refine tA ?_;by_cases fa:i<s.types.length
  ·have ga:(i:Int)<s.types.length:=by omega
   have g1:(s.types.map qA)[i]?=some (qA s.types[i]):=by simp [fa]
   have hw:=GA (i:=i);have hf:=own_ev s.types[i] (fe _ (y7 _));have hu:=fun h9:(s.types[i]'fa).kind<=9=>ruses_ev (s.types[i]'fa) (fe _ (y7 fa)).2.2 h9 _ rfl
   have su:=(fe _ (y7 fa)).2.2;rw [AT fa] at hv;generalize s.types[i]=t at *
   have hul:t.usesL.length<=9223372036854775807:=by
    unfold sA.usesL;by_cases h8:t.kind=8 <;> by_cases h7:7<=t.kind <;> simp [h8,h7] <;> omega
   simp only [fA,qA] at hf hu;simp only [qA] at g1;have err:∀ σ' n,kC s.types i t=n->n≠0->(σ'.env 2).v=.int .i64 n->k .ret σ'=some (.int .i64 (bC s.types s.types.length 0),none):=fun σ' n h1 h2 h3=>hk _ _ (.inr ⟨rfl,by rw [h3,<- hv,h1,if_neg h2]⟩)
   cases c1:gB t with
   | false =>
    rw [c1] at hf;simp [kH,-V,-y4,-y3,y0,e1,m1,e3,ga,g1,hf];exact err _ 1 (by simp [kC,c1]) (by decide) (by simp)
   | true =>
    rw [c1] at hf;have hu:=hu (HI c1).2;simp [kH,-V,-y4,-y3,y0,e1,m1,e3,ga,g1,hf];refine rnames_lp s.nl s.types i fa ia t (σ.next + 1) _ (fun σ2=>(σ2.env 1).v=.ptr 1 1 0/\σ2.mem 1 1=some [⟨.sl s.nl (s.types.map qA),.no⟩]/\(σ2.env 3).v=.int .i64 i/\(σ2.env 4).v=.ptr 4 (σ.next + 1) 0/\σ2.mem 4 (σ.next + 1)=some (jA t)) (fun a b hm ho he h=>?_) _ (fun σ2 c2 h=>?_) (fun σ2 c2 h2=>?_) _ ⟨?_,?_,?_,?_,?_⟩ ?_ ?_ ?_ ?_ ?_ ?_
    ·rw [hm,he 1 (by decide),he 3 (by decide),he 4 (by decide)];exact h
    ·obtain ⟨f1,fm,f3,f4,fp⟩:=h;simp [-V,-y4,-y3,y0,f1,fm,f3,f4,fp,hu];refine rvuses_lp s.nl s.types t.usesL hul t.usesL.isEmpty _ (fun σ2=>(σ2.env 1).v=.ptr 1 1 0/\σ2.mem 1 1=some [⟨.sl s.nl (s.types.map qA),.no⟩]/\(σ2.env 3).v=.int .i64 i/\(σ2.env 4).v=.ptr 4 (σ.next + 1) 0/\σ2.mem 4 (σ.next + 1)=some (jA t)) (fun a b hm ho he h=>?_) _ (fun σ2 c3 h=>?_) (fun σ2 c3 h2=>?_) _ ⟨?_,?_,?_,?_,?_⟩ ?_ ?_ ?_ ?_
     ·rw [hm,he 1 (by decide),he 3 (by decide),he 4 (by decide)];exact h
     ·obtain ⟨f1,fm,f3,f4,fp⟩:=h;by_cases h8:t.kind=8
      ·obtain ⟨wg,wb⟩:=N3 h8 c3;have h3:t.key.toNat<s.types.length:=by omega
       have gy:(s.types.map qA)[t.key.toNat]?=some (qA s.types[t.key.toNat]):=by rw [ye,y5 h3]; rfl
       have hy:II s.types t.key=s.types[t.key.toNat].kind:=by unfold II; rw [y5 h3]
       generalize s.types[t.key.toNat]=y at *
       have rb:=RX y.kind;simp only [qA] at gy;simp only [fA] at rb;by_cases c4:1<=y.kind/\y.kind<=4
       ·rw [decide_eq_true c4] at rb;simp [-V,-y4,-y3,y0,f1,fm,f3,f4,fp,h8,wg,gy,rb,hw];refine ih fa _ ⟨?_,?_,?_,?_⟩
        ·simp [f1]
        ·simp [fm]
        ·simp
        ·rw [<- hv,if_pos];unfold kC;rw [if_neg (by simp [c1]),if_neg c2,if_neg (by simp [c3]),if_neg fun h=>h.2 (by rw [hy]; exact c4)]
       ·rw [decide_eq_false c4] at rb;simp [-V,-y4,-y3,y0,f1,fm,f3,f4,fp,h8,wg,gy,rb];exact err _ 1 (by unfold kC; rw [if_neg (by simp [c1]),if_neg c2,if_neg (by simp [c3]),if_pos ⟨h8,by rw [hy]; exact c4⟩]) (by decide) (by simp)
      ·simp [-V,-y4,-y3,y0,f1,fm,f3,f4,fp,h8,hw];refine ih fa _ ⟨?_,?_,?_,?_⟩
       ·simp [f1]
       ·simp [fm]
       ·simp
       ·rw [<- hv,if_pos];unfold kC;rw [if_neg (by simp [c1]),if_neg c2,if_neg (by simp [c3]),if_neg fun h=>h8 h.1]
     ·simp [-V,-y4,-y3,y0];exact err _ 4 (by unfold kC; rw [if_neg (by simp [c1]),if_neg c2,if_pos c3]) (by decide) h2
     all_goals simp [f1,fm,f3,f4,fp]
    ·simp [-V,-y4,-y3,y0];exact err _ 1 (by unfold kC; rw [if_neg (by simp [c1]),if_pos c2]) (by decide) h2
    all_goals simp [e1,m1,e3]
  ·have ga:¬ (i:Int)<s.types.length:=by omega
   simp [kH,-V,-y4,-y3,y0,e1,m1,e3,ga];refine hk _ _ (.inl ⟨rfl,?_⟩);rw [<- hv,show s.types.length - i=0 from by omega,bC]
 ·refine ⟨?_,?_,?_,?_⟩ <;> simp
 ·rcases h with ⟨rfl,h1⟩ | ⟨rfl,h1⟩
  ·simp [-V,-y4,-y3,y0,h1]
  ·simp [-V,-y4,-y3,y0,h1]
end Go.Proofs.YtbnlmgncbgaepaaGreat
