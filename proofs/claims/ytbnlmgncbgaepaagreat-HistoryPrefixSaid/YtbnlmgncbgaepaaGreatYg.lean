/- A part of the proof. -/
import Derived.Test.YtbnlmgncbgaepaaGreatYe
import Derived.Test.YtbnlmgncbgaepaaGreatYf
set_option linter.all false
set_option maxRecDepth 100000
set_option maxHeartbeats 8000000
open Option renaming bind_some → V
open List renaming range_succ → J, map_map → y0, getElem?_eq_getElem → y4, getElem_mem → y6, drop_eq_getElem_cons → y9, getElem?_map → yc, drop_eq_nil_of_le → ye, mem_cons → yh, mem_append → yw, take_append_getElem → yI, not_mem_nil → yJ, map_append → yU, mem_map_of_mem → Y01
open Int renaming toNat_lt → y3
open Bool renaming and_eq_true → y8
namespace Go.Proofs.YtbnlmgncbgaepaaGreat
open Go
def cB (n:Nat) (u:Int):Bool:=decide (u<0)||decide ((n:Int)<=u)
def RI (l:List dA) (k:Int):Int:=match l[k.toNat]? with
 | some t=>t.kind
 | none=>0
def SC (l:List dA) (i:Nat) (t:dA):Int :=
 if mB t=false then 1
 else if t.named=true/\t.name∈(l.take i).map dA.name then 1
 else if t.usesL.any (cB l.length)=true then 4
 else if t.kind=8/\¬ (1<=RI l t.key/\RI l t.key<=4) then 1
 else 0
def GC (l:List dA):Nat->Nat->Int
 | 0,_=>0
 | n + 1,i=>match l[i]? with
  | some t=>if SC l i t=0 then GC l n (i + 1) else SC l i t
  | none=>0
def valid (l:List dA):Int:=if 32<l.length then 3 else GC l l.length 0
theorem fT {l:List dA} {i:Nat} (h:i<l.length):GC l (l.length - i) i=if SC l i l[i]=0 then GC l (l.length - (i + 1)) (i + 1) else SC l i l[i]:=by
 rw [show l.length - i=(l.length - (i + 1)) + 1 from by omega,GC,y4 h]
theorem pK {t:dA} (h:mB t=true):1<=t.kind/\t.kind<=9:=by
 unfold mB at h;rw [y8] at h;exact of_decide_eq_true h.1
theorem isName_ne {s:ByteArray} (h:sF s=true):s≠⟨#[]⟩:=fun e=>by
 subst e;unfold sF at h;simp only [y8] at h;have:=of_decide_eq_true h.1.1.1;exact this rfl
theorem X9 {t:dA} (h:mB t=true):t.named=true ↔ t.name≠⟨#[]⟩:=by
 have hk:=pK h;unfold mB JI dA.left at h;rcases kinds t.kind with e | e | e | e | e | e | e | e | e | e
 all_goals first | exact absurd hk e | skip
 all_goals simp [e,dA.same,LB,dA.named] at h ⊢
 all_goals first | exact isName_ne h.1.1 | (simp [h]; done) | skip
theorem P2 {l:List dA} {t:dA} (h8:t.kind=8) (h:t.usesL.any (cB l.length)=false):0<=t.key/\t.key<l.length:=by
 have hm:t.key∈t.usesL:=by simp [dA.usesL,h8]
 have:=List.any_eq_false.1 h _ hm;simp [cB] at this;omega
theorem i1 (s:ByteArray):∀ l:List ByteArray,s∈l->TG (l.map HI) (.str s) (.bool true)=l.map HI
 | [],h=>by cases h
 | x :: r,hn=>by
  by_cases h:x=s
  ·simp [HI,TG,AO,h]
  ·have:=i1 s r (by
    rcases yh.1 hn with e | e
    ·exact absurd e.symm h
    ·exact e)
   simp [HI,TG,AO,h,this]
theorem seen_next (s:ByteArray) (q:List ByteArray):∃ q':List ByteArray,TG (q.map HI) (.str s) (.bool true)=q'.map HI/\∀ x,x∈q' ↔ x∈q\/x=s:=by
 by_cases h:s∈q
 ·exact ⟨q,i1 s q h,fun x=>⟨.inl,fun e=>e.elim id (fun e=>e ▸ h)⟩⟩
 ·exact ⟨q++[s],cY s q h,fun x=>by simp⟩
def wI.fine (s:wI):Prop:=s.types.length<=9223372036854775807/\∀ t∈s.types,t.fine
theorem vuses_lp (sn:Bool) (S:List dA) (U:List Int) (hU:U.length<=9223372036854775807) (bu:Bool) (r:RV) (P:pA->Prop) (hP:∀ s s':pA,s'.mem=s.mem->s'.obj=s.obj->s'.next=s'.next->(∀ t,t ∉ [2,7,41,42,43,44,45,46,47,48,49,50,51,52,53,40]->s'.env t=s.env t)->P s->P s') (k:Ex->pA->Option RV)
  (hk:∀ s',U.any (cB S.length)=false->P s'->k (.exit 2) s'=some r) (hr:∀ s':pA,U.any (cB S.length)=true->(s'.env 2).v=.int .i64 4->k .ret s'=some r)
  (s:pA) (hs:P s) (h1:(s.env 1).v=.ptr 1 1 0) (m1:s.mem 1 1=some [⟨.sl sn (S.map rA),.no⟩]) (h38:(s.env 38).v=.sl bu (U.map xH)) (h39:(s.env 39).v=.int .i64 U.length) (h40:(s.env 40).v=.int .i64 0):TH gA eA fD s k=some r:=by
 refine lA U.length (fun i s=>P s/\(s.env 1).v=.ptr 1 1 0/\s.mem 1 1=some [⟨.sl sn (S.map rA),.no⟩]/\(s.env 38).v=.sl bu (U.map xH)/\(s.env 39).v=.int .i64 U.length/\(s.env 40).v=.int .i64 i/\(U.drop i).any (cB S.length)=U.any (cB S.length))
  (fun e s=>(e=.exit 2/\U.any (cB S.length)=false/\P s)\/(e=.ret/\U.any (cB S.length)=true/\(s.env 2).v=.int .i64 4)) (fun i hi s k h ih hk=>?_) _ _ ?_ (fun e s h=>?_)
 ·obtain ⟨hp,e1,m1,e38,e39,e40,hs⟩:=h;refine tA ?_;by_cases fa:i<U.length
  ·have ga:(i:Int)<U.length:=by omega
   have g1:(U.map xH)[i]?=some (xH U[i]):=by simp [fa]
   have hw:=ZA (i:=i);rw [y9 fa,List.any_cons] at hs;generalize U[i]=u at *
   simp only [xH] at g1;by_cases c1:u<0
   ·simp [fD,-V,-y3,-y0,J,e1,m1,e38,e39,e40,ga,g1,c1];exact hk _ _ (.inr ⟨rfl,by rw [<- hs]; simp [cB,c1],by simp⟩)
   by_cases c2:(S.length:Int)<=u
   ·simp [fD,-V,-y3,-y0,J,e1,m1,e38,e39,e40,ga,g1,c1,c2];exact hk _ _ (.inr ⟨rfl,by rw [<- hs]; simp [cB,c2],by simp⟩)
   simp [fD,-V,-y3,-y0,J,e1,m1,e38,e39,e40,ga,g1,c1,c2,hw];refine ih fa _ ⟨hP s _ ?_ ?_ ?_ ?_ hp,?_,?_,?_,?_,?_,?_⟩
   ·rfl
   ·rfl
   ·rfl
   ·intro t ht;simp only [yh,yJ,or_false,not_or] at ht;simp [qG,ht]
   ·simp [e1]
   ·simp [m1]
   ·simp [e38]
   ·simp [e39]
   ·simp
   ·rw [<- hs]; simp [cB,c1,c2]
  ·have ga:¬ (i:Int)<U.length:=by omega
   simp [fD,-V,-y3,-y0,J,e39,e40,ga];rw [ye (by omega)] at hs;refine hk _ _ (.inl ⟨rfl,hs.symm,hP s _ ?_ ?_ ?_ ?_ hp⟩)
   ·rfl
   ·rfl
   ·rfl
   ·intro t ht;simp only [yh,yJ,or_false,not_or] at ht;simp [qG,ht]
 ·simp [hs,h1,m1,h38,h39,h40]
 ·rcases h with ⟨rfl,h1,h2⟩ | ⟨rfl,h1,h2⟩
  ·exact hk s h1 h2
  ·exact hr s h1 h2
theorem RY (s:wI) (hs:s.fine):fA 203 [.agg (UA s)] (.int .i64 (valid s.types)):=by
 obtain ⟨ia,je⟩:=hs;refine wA (c:=CG) rfl rfl ?_;unfold valid;by_cases lu:32<s.types.length
 ·have om:(32:Int)<s.types.length:=by omega
  simp [CG,-V,-y3,-y0,J,UA,lu,om]
 have om:¬ (32:Int)<s.types.length:=by omega
 simp [CG,-V,-y3,-y0,J,UA,lu,om];refine lA s.types.length (fun i σ=>(σ.env 1).v=.ptr 1 1 0/\σ.mem 1 1=some [⟨.sl s.nl (s.types.map rA),.no⟩]/\(σ.env 3).v=.mp 12 3/\(σ.env 14).v=.sl s.nl (s.types.map rA)/\(σ.env 15).v=.int .i64 s.types.length/\(σ.env 16).v=.int .i64 i/\(∃ q:List ByteArray,σ.obj 12 3=some (FG (q.map HI))/\∀ x,x∈q ↔ x∈(s.types.take i).map dA.name)/\GC s.types (s.types.length - i) i=GC s.types s.types.length 0)
  (fun e σ=>(e=.exit 0/\GC s.types s.types.length 0=0)\/(e=.ret/\(σ.env 2).v=.int .i64 (GC s.types s.types.length 0))) (fun i hi σ k h ih hk=>?_) _ _ ?_ (fun e σ h=>?_)
 ·obtain ⟨e1,m1,e3,er,e15,e16,⟨q,o,hq⟩,hv⟩:=h;refine tA ?_;by_cases fa:i<s.types.length
  ·have ga:(i:Int)<s.types.length:=by omega
   have g1:(s.types.map rA)[i]?=some (rA s.types[i]):=by simp [fa]
   have hw:=ZA (i:=i);have ht:s.types.take (i + 1)=s.types.take i++[s.types[i]]:=(yI fa).symm;have hf:=form_ev s.types[i] (je _ (y6 _));have hu:=uses_ev s.types[i] (je _ (y6 _)).2.2 _ rfl;have uq:=(je _ (y6 fa)).2.2;rw [fT fa] at hv;generalize s.types[i]=t at *
   have hul:t.usesL.length<=9223372036854775807:=by
    unfold dA.usesL;by_cases h8:t.kind=8 <;> by_cases h7:7<=t.kind <;> simp [h8,h7] <;> omega
   simp only [fA,rA] at hf hu;simp only [rA] at g1;have hg:=xY t.name q;have fq:=P3 q;obtain ⟨q',hq',ra⟩:=seen_next t.name q;have err:∀ σ' n,SC s.types i t=n->n≠0->(σ'.env 2).v=.int .i64 n->k .ret σ'=some (.int .i64 (GC s.types s.types.length 0),none):=fun σ' n h1 h2 h3=>hk _ _ (.inr ⟨rfl,by rw [h3,<- hv,h1,if_neg h2]⟩)
   cases c1:mB t with
   | false =>
    rw [c1] at hf;simp [TB,-V,-y3,-y0,J,e1,m1,e3,er,e15,e16,ga,g1,hf];exact err _ 1 (by simp [SC,c1]) (by decide) (by simp)
   | true =>
    rw [c1] at hf;have ab:=X9 c1;have dup:t.name≠⟨#[]⟩->t.name∈q->TB.run (UF gA eA) (KJ gA eA) σ (PJ (TH gA eA) TB k)=some (.int .i64 (GC s.types s.types.length 0),none):=by
     intro hn fe;have hd:=eq_false hn;rw [if_pos fe] at hg;simp [TB,-V,-y3,-y0,J,e1,m1,e3,er,e15,e16,ga,g1,hf,hd,o,kG,fq,SG,AV.flat,AV.scal,hg];exact err _ 1 (by unfold SC; rw [if_neg (by simp [c1]),if_pos ⟨ab.2 hn,(hq _).1 fe⟩]) (by decide) (by simp)
    have go:(t.name=⟨#[]⟩\/t.name≠⟨#[]⟩/\¬ t.name∈q)->TB.run (UF gA eA) (KJ gA eA) σ (PJ (TH gA eA) TB k)=some (.int .i64 (GC s.types s.types.length 0),none):=by
     intro hn;have c2:¬ (t.named=true/\t.name∈(s.types.take i).map dA.name):=fun ⟨h1,h2⟩=>by
      rcases hn with hn | hn
      ·exact (ab.1 h1) hn
      ·exact hn.2 ((hq _).2 h2)
     have XN:∀ (σ':pA) (k':Ex->pA->Option RV) (p:Nat),(∀ σ2:pA,(σ2.env 2).v=.int .i64 4->k' .ret σ2=k .ret σ2) →
       (∀ σ2:pA,(σ2.env 1).v=.ptr 1 1 0->σ2.mem 1 1=some [⟨.sl s.nl (s.types.map rA),.no⟩]->(σ2.env 3).v=.mp 12 3->(σ2.env 14).v=.sl s.nl (s.types.map rA)->(σ2.env 15).v=.int .i64 s.types.length->(σ2.env 16).v=.int .i64 i->σ2.obj 12 3=some (FG (q'.map HI))->(σ2.env 5).v=.ptr 5 p 0->σ2.mem 5 p=some (jA t)->t.usesL.any (cB s.types.length)=false->k' (.exit 2) σ2=some (.int .i64 (GC s.types s.types.length 0),none)) →
       (σ'.env 1).v=.ptr 1 1 0->σ'.mem 1 1=some [⟨.sl s.nl (s.types.map rA),.no⟩]->(σ'.env 3).v=.mp 12 3->(σ'.env 14).v=.sl s.nl (s.types.map rA)->(σ'.env 15).v=.int .i64 s.types.length->(σ'.env 16).v=.int .i64 i->σ'.obj 12 3=some (FG (q'.map HI))->(σ'.env 5).v=.ptr 5 p 0->σ'.mem 5 p=some (jA t)->(σ'.env 38).v=.sl t.usesL.isEmpty (t.usesL.map xH)->(σ'.env 39).v=.int .i64 t.usesL.length->(σ'.env 40).v=.int .i64 0->TH gA eA fD σ' k'=some (.int .i64 (GC s.types s.types.length 0),none):=by
      intro σ' k' p hret xp f1 fm f3 f14 f15 f16 fo f5 fp f38 f39 f40;refine vuses_lp s.nl s.types t.usesL hul t.usesL.isEmpty _ (fun σ2=>(σ2.env 1).v=.ptr 1 1 0/\σ2.mem 1 1=some [⟨.sl s.nl (s.types.map rA),.no⟩]/\(σ2.env 3).v=.mp 12 3/\(σ2.env 14).v=.sl s.nl (s.types.map rA)/\(σ2.env 15).v=.int .i64 s.types.length/\(σ2.env 16).v=.int .i64 i/\σ2.obj 12 3=some (FG (q'.map HI))/\(σ2.env 5).v=.ptr 5 p 0/\σ2.mem 5 p=some (jA t)) (fun a b hm ho _ he h=>?_) k' (fun σ2 hu h=>?_) (fun σ2 hu h2=>?_) σ' ⟨f1,fm,f3,f14,f15,f16,fo,f5,fp⟩ f1 fm f38 f39 f40
      ·rw [hm,ho,he 1 (by decide),he 3 (by decide),he 14 (by decide),he 15 (by decide),he 16 (by decide),he 5 (by decide)];exact h
      ·obtain ⟨f1,fm,f3,f14,f15,f16,fo,f5,fp⟩:=h;exact xp σ2 f1 fm f3 f14 f15 f16 fo f5 fp hu
      ·rw [hret σ2 h2];exact err _ 4 (by unfold SC; rw [if_neg (by simp [c1]),if_neg c2,if_pos hu]) (by decide) h2
     have key:t.usesL.any (cB s.types.length)=false->t.kind=8->0<=t.key/\∃ y:dA,(s.types.map rA)[t.key.toNat]?=some (rA y)/\RI s.types t.key=y.kind:=fun hu h8=>by
      obtain ⟨h1,h2⟩:=P2 h8 hu;have h3:t.key.toNat<s.types.length:=by omega
      exact ⟨h1,s.types[t.key.toNat],by rw [yc,y4 h3]; rfl,by unfold RI; rw [y4 h3]⟩
     have next:SC s.types i t=0->∀ σ2:pA,(σ2.env 1).v=.ptr 1 1 0->σ2.mem 1 1=some [⟨.sl s.nl (s.types.map rA),.no⟩]->(σ2.env 3).v=.mp 12 3->(σ2.env 14).v=.sl s.nl (s.types.map rA)->(σ2.env 15).v=.int .i64 s.types.length->(σ2.env 16).v=.int .i64 ((i + 1:Nat):Int)->σ2.obj 12 3=some (FG (q'.map HI))->TH gA eA TB σ2 k=some (.int .i64 (GC s.types s.types.length 0),none):=fun h0 σ2 f1 fm f3 f14 f15 f16 fo=>ih fa _ ⟨f1,fm,f3,f14,f15,f16,⟨q',fo,fun x=>by rw [ra,ht,yU,yw,hq]; simp⟩,by rw [<- hv,h0]; rfl⟩
     have hgn:t.name=⟨#[]⟩\/t.name≠⟨#[]⟩/\TI (q.map HI) (.str t.name)=none:=by
      rcases hn with hn | ⟨h1,h2⟩
      ·exact .inl hn
      ·exact .inr ⟨h1,by rw [hg,if_neg h2]⟩
     rcases hgn with hd | ⟨hd,hg⟩
     ·have hd:=eq_true hd;simp [TB,-V,-y3,-y0,J,e1,m1,e3,er,e15,e16,ga,g1,hf,hu,hd,o,kG,fq,SG,AV.flat,AV.scal,hq'];refine XN _ _ (σ.next + 1) (fun σ2 _=>rfl) (fun σ2 f1 fm f3 f14 f15 f16 fo f5 fp pd=>?_) ?_ ?_ ?_ ?_ ?_ ?_ ?_ ?_ ?_ ?_ ?_ ?_
      rotate_left
      ·simp [e1]
      ·simp [m1]
      ·simp [e3]
      ·simp [er]
      ·simp [e15]
      ·simp [e16]
      ·simp
      ·simp
      ·simp
      ·simp
      ·simp
      ·simp
      have c3:=pd;by_cases h8:t.kind=8
      ·obtain ⟨ak,y,gy,hy⟩:=key pd h8;simp only [rA] at gy;by_cases c4:y.kind<1
       ·simp [-V,-y3,-y0,J,f1,fm,f5,fp,h8,ak,gy,c4];exact err _ 1 (by unfold SC; rw [if_neg (by simp [c1]),if_neg c2,if_neg (by simp [c3]),if_pos ⟨h8,by rw [hy]; omega⟩]) (by decide) (by simp)
       ·by_cases c5:4<y.kind
        ·simp [-V,-y3,-y0,J,f1,fm,f5,fp,h8,ak,gy,c4,c5];exact err _ 1 (by unfold SC; rw [if_neg (by simp [c1]),if_neg c2,if_neg (by simp [c3]),if_pos ⟨h8,by rw [hy]; omega⟩]) (by decide) (by simp)
        ·simp [-V,-y3,-y0,J,f1,fm,f5,fp,f16,h8,ak,gy,c4,c5,hw];refine next (by unfold SC; rw [if_neg (by simp [c1]),if_neg c2,if_neg (by simp [c3]),if_neg fun h=>h.2 (by rw [hy]; omega)]) _ ?_ ?_ ?_ ?_ ?_ ?_ ?_ <;> simp [f1,fm,f3,f14,f15,fo]
      ·simp [-V,-y3,-y0,J,f1,fm,f5,fp,f16,h8,hw];refine next (by unfold SC; rw [if_neg (by simp [c1]),if_neg c2,if_neg (by simp [c3]),if_neg fun h=>h8 h.1]) _ ?_ ?_ ?_ ?_ ?_ ?_ ?_ <;> simp [f1,fm,f3,f14,f15,fo]
     ·have hd:=eq_false hd;simp [TB,-V,-y3,-y0,J,e1,m1,e3,er,e15,e16,ga,g1,hf,hu,hd,hg,o,kG,fq,SG,AV.flat,AV.scal,hq'];refine XN _ _ (σ.next + 1) (fun σ2 _=>rfl) (fun σ2 f1 fm f3 f14 f15 f16 fo f5 fp pd=>?_) ?_ ?_ ?_ ?_ ?_ ?_ ?_ ?_ ?_ ?_ ?_ ?_
      rotate_left
      ·simp [e1]
      ·simp [m1]
      ·simp [e3]
      ·simp [er]
      ·simp [e15]
      ·simp [e16]
      ·simp
      ·simp
      ·simp
      ·simp
      ·simp
      ·simp
      have c3:=pd;by_cases h8:t.kind=8
      ·obtain ⟨ak,y,gy,hy⟩:=key pd h8;simp only [rA] at gy;by_cases c4:y.kind<1
       ·simp [-V,-y3,-y0,J,f1,fm,f5,fp,h8,ak,gy,c4];exact err _ 1 (by unfold SC; rw [if_neg (by simp [c1]),if_neg c2,if_neg (by simp [c3]),if_pos ⟨h8,by rw [hy]; omega⟩]) (by decide) (by simp)
       ·by_cases c5:4<y.kind
        ·simp [-V,-y3,-y0,J,f1,fm,f5,fp,h8,ak,gy,c4,c5];exact err _ 1 (by unfold SC; rw [if_neg (by simp [c1]),if_neg c2,if_neg (by simp [c3]),if_pos ⟨h8,by rw [hy]; omega⟩]) (by decide) (by simp)
        ·simp [-V,-y3,-y0,J,f1,fm,f5,fp,f16,h8,ak,gy,c4,c5,hw];refine next (by unfold SC; rw [if_neg (by simp [c1]),if_neg c2,if_neg (by simp [c3]),if_neg fun h=>h.2 (by rw [hy]; omega)]) _ ?_ ?_ ?_ ?_ ?_ ?_ ?_ <;> simp [f1,fm,f3,f14,f15,fo]
      ·simp [-V,-y3,-y0,J,f1,fm,f5,fp,f16,h8,hw];refine next (by unfold SC; rw [if_neg (by simp [c1]),if_neg c2,if_neg (by simp [c3]),if_neg fun h=>h8 h.1]) _ ?_ ?_ ?_ ?_ ?_ ?_ ?_ <;> simp [f1,fm,f3,f14,f15,fo]
    by_cases fe:t.name≠⟨#[]⟩/\t.name∈q
    ·exact dup fe.1 fe.2
    ·refine go ?_;by_cases he:t.name=⟨#[]⟩
     ·exact .inl he
     ·exact .inr ⟨he,fun h=>fe ⟨he,h⟩⟩
  ·have ga:¬ (i:Int)<s.types.length:=by omega
   simp [TB,-V,-y3,-y0,J,e15,e16,ga];refine hk _ _ (.inl ⟨rfl,?_⟩);rw [<- hv,show s.types.length - i=0 from by omega,GC]
 ·refine ⟨?_,?_,?_,?_,?_,?_,⟨[],?_,?_⟩,?_⟩ <;> simp [FG]
 ·rcases h with ⟨rfl,h1⟩ | ⟨rfl,h1⟩
  ·simp [-V,-y3,-y0,J,h1]
  ·simp [-V,-y3,-y0,J,h1]
def IB {α:Type} (p:α->Bool):List α->Int
 | []=>-1
 | x :: r=>if p x=true then 0 else if IB p r=-1 then -1 else IB p r + 1
theorem wF {α:Type} (p:α->Bool):∀ l:List α,-1<=IB p l
 | []=>by simp [IB]
 | x :: r=>by
  have:=wF p r;simp only [IB];split
  ·omega
  ·split <;> omega
theorem GL {α:Type} (p:α->Bool) (x:α) (r:List α) (h:p x=false):IB p (x :: r)=if IB p r=-1 then -1 else IB p r + 1:=by simp [IB,h]
theorem NP {α:Type} (p:α->Bool):∀ l:List α,IB p l≠-1->∃ x,l[(IB p l).toNat]?=some x/\p x=true
 | [],h=>absurd rfl h
 | x :: r,h=>by
  simp only [IB] at h ⊢;by_cases hx:p x=true
  ·rw [if_pos hx]; exact ⟨x,rfl,hx⟩
  ·rw [if_neg hx] at h ⊢;by_cases h1:IB p r=-1
   ·rw [if_pos h1] at h; exact absurd rfl h
   ·rw [if_neg h1];obtain ⟨y,h2,h3⟩:=NP p r h1;have:=wF p r;refine ⟨y,?_,h3⟩;rw [show (IB p r + 1).toNat=(IB p r).toNat + 1 from by omega,List.getElem?_cons_succ];exact h2
theorem NW {α:Type} (p:α->Bool):∀ l:List α,(decide (0<=IB p l))=l.any p
 | []=>by simp [IB]
 | x :: r=>by
  have h1:=NW p r;have h2:=wF p r;rw [List.any_cons,<- h1];simp only [IB];by_cases hx:p x=true
  ·simp [hx]
  ·by_cases h:IB p r=-1
   ·simp [hx,h]
   ·simp [hx,h]; omega
theorem PY (F:Nat) (caps:List AV) (l:List uC) (p:uC->Bool) (hl:l.length<=9223372036854775807) (dg:∀ (s:pA) (cl:Cl),cD s cl caps=some caps) (hF:∀ x∈l,fA F (.agg (bA x) :: caps) (.bool (p x))) (b:Bool):fA 159 [.sl b (l.map bA),.fn F caps] (.int .i64 (IB p l)):=by
 refine wA (c:=DC) rfl rfl ?_;simp [DC,-V,-y3,-y0,J];refine lA l.length (fun i s=>(s.env 0).v=.sl b (l.map bA)/\(s.env 1).v=.fn F caps/\(s.env 7).v=.int .i64 l.length/\(s.env 8).v=.int .i64 i/\IB p l=(if IB p (l.drop i)=-1 then -1 else IB p (l.drop i) + i))
  (fun e s=>(e=.exit 0/\IB p l=-1)\/(e=.ret/\(s.env 4).v=.int .i64 (IB p l))) (fun i hi s k h ih hk=>?_) _ _ ?_ (fun e s h=>?_)
 ·obtain ⟨e0,e1,e7,e8,hs⟩:=h;refine tA ?_;by_cases fa:i<l.length
  ·have ga:(i:Int)<l.length:=by omega
   have g1:(l.map bA)[i]?=some (bA l[i]):=by simp [fa]
   have hw:=ZA (i:=i);have hx:=hF l[i] (y6 _);rw [y9 fa] at hs;generalize l[i]=x at *
   simp only [fA,bA] at g1 hx;cases hp:p x with
   | true =>
    rw [hp] at hx;simp [aC,-V,-y3,-y0,J,e0,e1,e7,e8,ga,g1,dg,hx];refine hk _ _ (.inr ⟨rfl,?_⟩);simp [hs,IB,hp]
   | false =>
    rw [hp] at hx;simp [aC,-V,-y3,-y0,J,e0,e1,e7,e8,ga,g1,dg,hx,hw];refine ih fa _ ⟨?_,?_,?_,?_,?_⟩
    ·simp [e0]
    ·simp [e1]
    ·simp [e7]
    ·simp
    ·rw [hs,GL p x _ hp];have:=wF p (l.drop (i + 1));by_cases h1:IB p (l.drop (i + 1))=-1
     ·simp [h1]
     ·have h2:¬ IB p (l.drop (i + 1)) + 1=-1:=by omega
      rw [if_neg h1,if_neg h2,if_neg h1];omega
  ·have ga:¬ (i:Int)<l.length:=by omega
   simp [aC,-V,-y3,-y0,J,e7,e8,ga];rw [ye (by omega)] at hs;exact hk _ _ (.inl ⟨rfl,hs⟩)
 ·have:=wF p l;by_cases h1:IB p l=-1 <;> simp [h1]
 ·rcases h with ⟨rfl,h1⟩ | ⟨rfl,h1⟩ <;> simp [-V,-y3,-y0,J,h1]
theorem AY (F:Nat) (caps:List AV) (l:List NV) (p:NV->Bool) (hl:l.length<=9223372036854775807) (dg:∀ (s:pA) (cl:Cl),cD s cl caps=some caps) (hF:∀ x∈l,fA F (.agg (lD x) :: caps) (.bool (p x))) (b:Bool):fA 192 [.sl b (l.map lD),.fn F caps] (.int .i64 (IB p l)):=by
 refine wA (c:=FC) rfl rfl ?_;simp [FC,-V,-y3,-y0,J];refine lA l.length (fun i s=>(s.env 0).v=.sl b (l.map lD)/\(s.env 1).v=.fn F caps/\(s.env 7).v=.int .i64 l.length/\(s.env 8).v=.int .i64 i/\IB p l=(if IB p (l.drop i)=-1 then -1 else IB p (l.drop i) + i))
  (fun e s=>(e=.exit 0/\IB p l=-1)\/(e=.ret/\(s.env 4).v=.int .i64 (IB p l))) (fun i hi s k h ih hk=>?_) _ _ ?_ (fun e s h=>?_)
 ·obtain ⟨e0,e1,e7,e8,hs⟩:=h;refine tA ?_;by_cases fa:i<l.length
  ·have ga:(i:Int)<l.length:=by omega
   have g1:(l.map lD)[i]?=some (lD l[i]):=by simp [fa]
   have hw:=ZA (i:=i);have hx:=hF l[i] (y6 _);rw [y9 fa] at hs;generalize l[i]=x at *
   simp only [fA,lD] at g1 hx;cases hp:p x with
   | true =>
    rw [hp] at hx;simp [sC,-V,-y3,-y0,J,e0,e1,e7,e8,ga,g1,dg,hx];refine hk _ _ (.inr ⟨rfl,?_⟩);simp [hs,IB,hp]
   | false =>
    rw [hp] at hx;simp [sC,-V,-y3,-y0,J,e0,e1,e7,e8,ga,g1,dg,hx,hw];refine ih fa _ ⟨?_,?_,?_,?_,?_⟩
    ·simp [e0]
    ·simp [e1]
    ·simp [e7]
    ·simp
    ·rw [hs,GL p x _ hp];have:=wF p (l.drop (i + 1));by_cases h1:IB p (l.drop (i + 1))=-1
     ·simp [h1]
     ·have h2:¬ IB p (l.drop (i + 1)) + 1=-1:=by omega
      rw [if_neg h1,if_neg h2,if_neg h1];omega
  ·have ga:¬ (i:Int)<l.length:=by omega
   simp [sC,-V,-y3,-y0,J,e7,e8,ga];rw [ye (by omega)] at hs;exact hk _ _ (.inl ⟨rfl,hs⟩)
 ·have:=wF p l;by_cases h1:IB p l=-1 <;> simp [h1]
 ·rcases h with ⟨rfl,h1⟩ | ⟨rfl,h1⟩ <;> simp [-V,-y3,-y0,J,h1]
theorem T2 (F:Nat) (caps:List AV) (l:List Vl) (p:Vl->Bool) (hl:l.length<=9223372036854775807) (dg:∀ (s:pA) (cl:Cl),cD s cl caps=some caps) (hF:∀ x∈l,fA F (.agg (zA x) :: caps) (.bool (p x))) (b:Bool):fA 266 [.sl b (l.map zA),.fn F caps] (.int .i64 (IB p l)):=by
 refine wA (c:=eD) rfl rfl ?_;simp [eD,-V,-y3,-y0,J];refine lA l.length (fun i s=>(s.env 0).v=.sl b (l.map zA)/\(s.env 1).v=.fn F caps/\(s.env 7).v=.int .i64 l.length/\(s.env 8).v=.int .i64 i/\IB p l=(if IB p (l.drop i)=-1 then -1 else IB p (l.drop i) + i))
  (fun e s=>(e=.exit 0/\IB p l=-1)\/(e=.ret/\(s.env 4).v=.int .i64 (IB p l))) (fun i hi s k h ih hk=>?_) _ _ ?_ (fun e s h=>?_)
 ·obtain ⟨e0,e1,e7,e8,hs⟩:=h;refine tA ?_;by_cases fa:i<l.length
  ·have ga:(i:Int)<l.length:=by omega
   have g1:(l.map zA)[i]?=some (zA l[i]):=by simp [fa]
   have hw:=ZA (i:=i);have hx:=hF l[i] (y6 _);rw [y9 fa] at hs;generalize l[i]=x at *
   simp only [fA,uA] at g1 hx;cases hp:p x with
   | true =>
    rw [hp] at hx;simp [zC,-V,-y3,-y0,J,e0,e1,e7,e8,ga,g1,dg,hx];refine hk _ _ (.inr ⟨rfl,?_⟩);simp [hs,IB,hp]
   | false =>
    rw [hp] at hx;simp [zC,-V,-y3,-y0,J,e0,e1,e7,e8,ga,g1,dg,hx,hw];refine ih fa _ ⟨?_,?_,?_,?_,?_⟩
    ·simp [e0]
    ·simp [e1]
    ·simp [e7]
    ·simp
    ·rw [hs,GL p x _ hp];have:=wF p (l.drop (i + 1));by_cases h1:IB p (l.drop (i + 1))=-1
     ·simp [h1]
     ·have h2:¬ IB p (l.drop (i + 1)) + 1=-1:=by omega
      rw [if_neg h1,if_neg h2,if_neg h1];omega
  ·have ga:¬ (i:Int)<l.length:=by omega
   simp [zC,-V,-y3,-y0,J,e7,e8,ga];rw [ye (by omega)] at hs;exact hk _ _ (.inl ⟨rfl,hs⟩)
 ·have:=wF p l;by_cases h1:IB p l=-1 <;> simp [h1]
 ·rcases h with ⟨rfl,h1⟩ | ⟨rfl,h1⟩ <;> simp [-V,-y3,-y0,J,h1]
theorem mem1_ev (x:uC) (id:Int):fA 160 [.agg (bA x),.bp [.int .i64 id]] (.bool (decide (x.id=id))):=by
 refine wA (c:=KF) rfl rfl ?_;simp [KF,-V,-y3,-y0,J,bA]
def QB (l:List uC) (id:Int):Int:=IB (fun x=>decide (x.id=id)) l
def bQ (l:List uC) (id:Int):AV:=.tup [.int .i64 (max (QB l id) 0),.bool (decide (0<=QB l id))]
theorem jX (t:dA) (id:Int) (hl:t.mems.length<=9223372036854775807):fA 137 [.agg (rA t),.int .i64 id] (bQ t.mems id):=by
 refine wA (c:=jI) rfl rfl ?_;have h:=PY 160 [.bp [.int .i64 id]] t.mems (fun x=>decide (x.id=id)) hl (fun _ _=>rfl) (fun x _=>mem1_ev x id) t.mn;simp only [fA] at h;unfold bQ QB;simp [jI,-V,-y3,-y0,J,rA,h]
theorem oT (t:dA) (id:Int) (hl:t.mems.length<=9223372036854775807):fA 99 [.agg (rA t),.int .i64 id] (bQ t.mems id):=by
 refine wA (c:=NI) rfl rfl ?_;obtain ⟨p,hp⟩:∃ p:uC->Bool,p=fun x=>decide (x.id=id):=⟨_,rfl⟩
 unfold bQ QB;rw [<- hp];simp [NI,-V,-y3,-y0,J,rA];refine lA t.mems.length (fun i s=>(s.env 1).v=.int .i64 id/\(s.env 2).v=.ptr 2 1 0/\s.mem 2 1=some (jA t)/\(s.env 6).v=.int .i64 i/\IB p t.mems=(if IB p (t.mems.drop i)=-1 then -1 else IB p (t.mems.drop i) + i))
  (fun e s=>(e=.exit 0/\IB p t.mems=-1)\/(e=.ret/\0<=IB p t.mems/\(s.env 4).v=.int .i64 (IB p t.mems)/\(s.env 5).v=.bool true)) (fun i hi s k h ih hk=>?_) _ _ ?_ (fun e s h=>?_)
 ·obtain ⟨e1,e2,m2,e6,hs⟩:=h;refine tA ?_;by_cases fa:i<t.mems.length
  ·have ga:(i:Int)<t.mems.length:=by omega
   have g1:(t.mems.map bA)[i]?=some (bA t.mems[i]):=by simp [fa]
   have hw:=ZA (i:=i);rw [y9 fa] at hs;generalize t.mems[i]=x at *
   simp only [bA] at g1;by_cases hx:x.id=id
   ·simp [IG,-V,-y3,-y0,J,e1,e2,m2,e6,ga,g1,hx];have iw:p x=true:=by rw [hp]; exact decide_eq_true hx
    refine hk _ _ (.inr ⟨rfl,?_,?_,?_⟩)
    ·rw [hs]; simp [IB,iw]
    ·simp [hs,IB,iw]
    ·simp
   ·have iw:p x=false:=by rw [hp]; exact decide_eq_false hx
    simp [IG,-V,-y3,-y0,J,e1,e2,m2,e6,ga,g1,hx,hw];refine ih fa _ ⟨?_,?_,?_,?_,?_⟩
    ·simp [e1]
    ·simp [e2]
    ·simp [m2]
    ·simp
    ·rw [hs,GL p x _ iw];have:=wF p (t.mems.drop (i + 1));by_cases h1:IB p (t.mems.drop (i + 1))=-1
     ·simp [h1]
     ·have h2:¬ IB p (t.mems.drop (i + 1)) + 1=-1:=by omega
      rw [if_neg h1,if_neg h2,if_neg h1];omega
  ·have ga:¬ (i:Int)<t.mems.length:=by omega
   simp [IG,-V,-y3,-y0,J,e2,m2,e6,ga];rw [ye (by omega)] at hs;exact hk _ _ (.inl ⟨rfl,hs⟩)
 ·have:=wF p t.mems;by_cases h1:IB p t.mems=-1 <;> simp [h1]
 ·rcases h with ⟨rfl,h1⟩ | ⟨rfl,h0,h1,h2⟩
  ·simp [-V,-y3,-y0,J,h1];rfl
  ·simp [-V,-y3,-y0,J,h1,h2,h0,Int.max_eq_left h0]
theorem sym1_ev (x:NV) (id:Int):fA 193 [.agg (lD x),.bp [.int .i64 id]] (.bool (decide (x.id=id))):=by
 refine wA (c:=LF) rfl rfl ?_;simp [LF,-V,-y3,-y0,J,lD]
def xG (l:List NV) (id:Int):Int:=IB (fun x=>decide (x.id=id)) l
def BV (l:List NV) (id:Int):AV:=.tup [.int .i64 (max (xG l id) 0),.bool (decide (0<=xG l id))]
theorem sym_ev (t:dA) (id:Int) (hl:t.syms.length<=9223372036854775807):fA 154 [.agg (rA t),.int .i64 id] (BV t.syms id):=by
 refine wA (c:=kI) rfl rfl ?_;have h:=AY 193 [.bp [.int .i64 id]] t.syms (fun x=>decide (x.id=id)) hl (fun _ _=>rfl) (fun x _=>sym1_ev x id) t.sn;simp only [fA] at h;unfold BV xG;simp [kI,-V,-y3,-y0,J,rA,h]
theorem O3 (t:dA) (id:Int) (hl:t.syms.length<=9223372036854775807):fA 123 [.agg (rA t),.int .i64 id] (BV t.syms id):=by
 refine wA (c:=MI) rfl rfl ?_;obtain ⟨p,hp⟩:∃ p:NV->Bool,p=fun x=>decide (x.id=id):=⟨_,rfl⟩
 unfold BV xG;rw [<- hp];simp [MI,-V,-y3,-y0,J,rA];refine lA t.syms.length (fun i s=>(s.env 1).v=.int .i64 id/\(s.env 2).v=.ptr 2 1 0/\s.mem 2 1=some (jA t)/\(s.env 6).v=.int .i64 i/\IB p t.syms=(if IB p (t.syms.drop i)=-1 then -1 else IB p (t.syms.drop i) + i))
  (fun e s=>(e=.exit 0/\IB p t.syms=-1)\/(e=.ret/\0<=IB p t.syms/\(s.env 4).v=.int .i64 (IB p t.syms)/\(s.env 5).v=.bool true)) (fun i hi s k h ih hk=>?_) _ _ ?_ (fun e s h=>?_)
 ·obtain ⟨e1,e2,m2,e6,hs⟩:=h;refine tA ?_;by_cases fa:i<t.syms.length
  ·have ga:(i:Int)<t.syms.length:=by omega
   have g1:(t.syms.map lD)[i]?=some (lD t.syms[i]):=by simp [fa]
   have hw:=ZA (i:=i);rw [y9 fa] at hs;generalize t.syms[i]=x at *
   simp only [lD] at g1;by_cases hx:x.id=id
   ·simp [OG,-V,-y3,-y0,J,e1,e2,m2,e6,ga,g1,hx];have iw:p x=true:=by rw [hp]; exact decide_eq_true hx
    refine hk _ _ (.inr ⟨rfl,?_,?_,?_⟩)
    ·rw [hs]; simp [IB,iw]
    ·simp [hs,IB,iw]
    ·simp
   ·have iw:p x=false:=by rw [hp]; exact decide_eq_false hx
    simp [OG,-V,-y3,-y0,J,e1,e2,m2,e6,ga,g1,hx,hw];refine ih fa _ ⟨?_,?_,?_,?_,?_⟩
    ·simp [e1]
    ·simp [e2]
    ·simp [m2]
    ·simp
    ·rw [hs,GL p x _ iw];have:=wF p (t.syms.drop (i + 1));by_cases h1:IB p (t.syms.drop (i + 1))=-1
     ·simp [h1]
     ·have h2:¬ IB p (t.syms.drop (i + 1)) + 1=-1:=by omega
      rw [if_neg h1,if_neg h2,if_neg h1];omega
  ·have ga:¬ (i:Int)<t.syms.length:=by omega
   simp [OG,-V,-y3,-y0,J,e2,m2,e6,ga];rw [ye (by omega)] at hs;exact hk _ _ (.inl ⟨rfl,hs⟩)
 ·have:=wF p t.syms;by_cases h1:IB p t.syms=-1 <;> simp [h1]
 ·rcases h with ⟨rfl,h1⟩ | ⟨rfl,h0,h1,h2⟩
  ·simp [-V,-y3,-y0,J,h1];rfl
  ·simp [-V,-y3,-y0,J,h1,h2,h0,Int.max_eq_left h0]
theorem rnames_lp (sn:Bool) (S:List dA) (i:Nat) (hiS:i<S.length) (hS:S.length<=9223372036854775807) (t:dA) (p:Nat) (r:RV) (P:pA->Prop) (hP:∀ s s':pA,s'.mem=s.mem->s'.obj=s.obj->(∀ t,t ∉ [2,5,27,28,29,30,31,32,33,34,35,36,37,38,39,40,41,42,43,44,45]->s'.env t=s.env t)->P s->P s') (k:Ex->pA->Option RV)
  (hk:∀ s',¬ (t.named=true/\t.name∈(S.take i).map dA.name)->P s'->k (.exit 2) s'=some r) (hr:∀ s':pA,t.named=true/\t.name∈(S.take i).map dA.name->(s'.env 2).v=.int .i64 1->k .ret s'=some r)
  (s:pA) (hs:P s) (h1:(s.env 1).v=.ptr 1 1 0) (m1:s.mem 1 1=some [⟨.sl sn (S.map rA),.no⟩]) (h3:(s.env 3).v=.int .i64 i) (h4:(s.env 4).v=.ptr 4 p 0) (m4:s.mem 4 p=some (jA t)) (h5:(s.env 5).v=.int .i64 0):TH gA eA AD s k=some r:=by
 have ab:=pD t.kind;change fA _ _ (.bool t.named) at ab;simp only [fA] at ab;refine lA i (fun j s=>P s/\(s.env 1).v=.ptr 1 1 0/\s.mem 1 1=some [⟨.sl sn (S.map rA),.no⟩]/\(s.env 3).v=.int .i64 i/\(s.env 4).v=.ptr 4 p 0/\s.mem 4 p=some (jA t)/\(s.env 5).v=.int .i64 j/\¬ (t.named=true/\t.name∈(S.take j).map dA.name))
  (fun e s=>(e=.exit 2/\¬ (t.named=true/\t.name∈(S.take i).map dA.name)/\P s)\/(e=.ret/\(t.named=true/\t.name∈(S.take i).map dA.name)/\(s.env 2).v=.int .i64 1)) (fun j hj s k h ih hk=>?_) _ _ ?_ (fun e s h=>?_)
 ·obtain ⟨hp,e1,m1,e3,e4,m4,e5,hs⟩:=h;refine tA ?_;by_cases fa:j<i
  ·have ga:(j:Int)<i:=by omega
   have hjS:j<S.length:=by omega
   have g1:(S.map rA)[j]?=some (rA S[j]):=by simp [hjS]
   have hw:=ZA (i:=j);have ht:S.take (j + 1)=S.take j++[S[j]]:=(yI hjS).symm;have ra:S[j]∈S.take i:=List.mem_take_iff_getElem.2 ⟨j,by omega,rfl⟩;generalize S[j]=u at *
   simp only [rA] at g1;have nxt:∀ s',s'.mem=s.mem->s'.obj=s.obj->(∀ t,t ∉ [2,5,27,28,29,30,31,32,33,34,35,36,37,38,39,40,41,42,43,44,45]->s'.env t=s.env t)->(s'.env 5).v=.int .i64 ((j + 1:Nat):Int)->¬ (t.named=true/\u.name=t.name)->TH gA eA AD s' k=some r:=fun s' hm ho he h5 hn=>by
    refine ih fa _ ⟨hP s s' hm ho he hp,?_,?_,?_,?_,?_,h5,?_⟩
    ·rw [he 1 (by decide)]; exact e1
    ·rw [hm]; exact m1
    ·rw [he 3 (by decide)]; exact e3
    ·rw [he 4 (by decide)]; exact e4
    ·rw [hm]; exact m4
    ·rw [ht,yU,yw];rintro ⟨h1,h2 | h2⟩
     ·exact hs ⟨h1,h2⟩
     ·simp at h2; exact hn ⟨h1,h2.symm⟩
   cases hb:t.named with
   | false =>
    rw [hb] at ab;simp [AD,-V,-y3,-y0,J,e1,m1,e3,e4,m4,e5,ga,g1,ab,hw];refine nxt _ rfl rfl ?_ ?_ (by simp [hb])
    ·intro t ht;simp only [yh,yJ,or_false,not_or] at ht;simp [qG,ht]
    ·simp
   | true =>
    rw [hb] at ab;by_cases oa:u.name=t.name
    ·simp [AD,-V,-y3,-y0,J,e1,m1,e3,e4,m4,e5,ga,g1,ab,oa];exact hk _ _ (.inr ⟨rfl,⟨hb,oa ▸ Y01 ra⟩,by simp⟩)
    ·simp [AD,-V,-y3,-y0,J,e1,m1,e3,e4,m4,e5,ga,g1,ab,oa,hw];refine nxt _ rfl rfl ?_ ?_ (by simp [oa])
     ·intro t ht;simp only [yh,yJ,or_false,not_or] at ht;simp [qG,ht]
     ·simp
  ·have ga:¬ (j:Int)<i:=by omega
   have hji:j=i:=by omega
   simp [AD,-V,-y3,-y0,J,e3,e5,ga];refine hk _ _ (.inl ⟨rfl,hji ▸ hs,hP s _ rfl rfl ?_ hp⟩);intro t ht;simp only [yh,yJ,or_false,not_or] at ht;simp [qG,ht]
 ·simp [hs,h1,m1,h3,h4,m4,h5]
 ·rcases h with ⟨rfl,h1,h2⟩ | ⟨rfl,h1,h2⟩
  ·exact hk s h1 h2
  ·exact hr s h1 h2
theorem rvuses_lp (sn:Bool) (S:List dA) (U:List Int) (hU:U.length<=9223372036854775807) (bu:Bool) (r:RV) (P:pA->Prop) (hP:∀ s s':pA,s'.mem=s.mem->s'.obj=s.obj->(∀ t,t ∉ [2,7,48,49,50,51,52,53,54,55,56,57,58,59,60,61,62,63,64,65,66,67,68]->s'.env t=s.env t)->P s->P s') (k:Ex->pA->Option RV)
  (hk:∀ s',U.any (cB S.length)=false->P s'->k (.exit 4) s'=some r) (hr:∀ s':pA,U.any (cB S.length)=true->(s'.env 2).v=.int .i64 4->k .ret s'=some r)
  (s:pA) (hs:P s) (h1:(s.env 1).v=.ptr 1 1 0) (m1:s.mem 1 1=some [⟨.sl sn (S.map rA),.no⟩]) (h6:(s.env 6).v=.sl bu (U.map xH)) (h7:(s.env 7).v=.int .i64 0):TH gA eA xE s k=some r:=by
 refine lA U.length (fun i s=>P s/\(s.env 1).v=.ptr 1 1 0/\s.mem 1 1=some [⟨.sl sn (S.map rA),.no⟩]/\(s.env 6).v=.sl bu (U.map xH)/\(s.env 7).v=.int .i64 i/\(U.drop i).any (cB S.length)=U.any (cB S.length))
  (fun e s=>(e=.exit 4/\U.any (cB S.length)=false/\P s)\/(e=.ret/\U.any (cB S.length)=true/\(s.env 2).v=.int .i64 4)) (fun i hi s k h ih hk=>?_) _ _ ?_ (fun e s h=>?_)
 ·obtain ⟨hp,e1,m1,e6,e7,hs⟩:=h;refine tA ?_;by_cases fa:i<U.length
  ·have ga:(i:Int)<U.length:=by omega
   have g1:(U.map xH)[i]?=some (xH U[i]):=by simp [fa]
   have hw:=ZA (i:=i);rw [y9 fa,List.any_cons] at hs;generalize U[i]=u at *
   simp only [xH] at g1;by_cases c1:u<0
   ·simp [xE,-V,-y3,-y0,J,e1,m1,e6,e7,ga,g1,c1];exact hk _ _ (.inr ⟨rfl,by rw [<- hs]; simp [cB,c1],by simp⟩)
   by_cases c2:(S.length:Int)<=u
   ·simp [xE,-V,-y3,-y0,J,e1,m1,e6,e7,ga,g1,c1,c2];exact hk _ _ (.inr ⟨rfl,by rw [<- hs]; simp [cB,c2],by simp⟩)
   simp [xE,-V,-y3,-y0,J,e1,m1,e6,e7,ga,g1,c1,c2,hw];refine ih fa _ ⟨hP s _ rfl rfl ?_ hp,?_,?_,?_,?_,?_⟩
   ·intro t ht;simp only [yh,yJ,or_false,not_or] at ht;simp [qG,ht]
   ·simp [e1]
   ·simp [m1]
   ·simp [e6]
   ·simp
   ·rw [<- hs]; simp [cB,c1,c2]
  ·have ga:¬ (i:Int)<U.length:=by omega
   simp [xE,-V,-y3,-y0,J,e6,e7,ga];rw [ye (by omega)] at hs;refine hk _ _ (.inl ⟨rfl,hs.symm,hP s _ rfl rfl ?_ hp⟩);intro t ht;simp only [yh,yJ,or_false,not_or] at ht;simp [qG,ht]
 ·simp [hs,h1,m1,h6,h7]
 ·rcases h with ⟨rfl,h1,h2⟩ | ⟨rfl,h1,h2⟩
  ·exact hk s h1 h2
  ·exact hr s h1 h2
theorem RU (s:wI) (hs:s.fine):fA 150 [.agg (UA s)] (.int .i64 (valid s.types)):=by
 obtain ⟨ia,je⟩:=hs;refine wA (c:=AH) rfl rfl ?_;unfold valid;by_cases lu:32<s.types.length
 ·have om:(32:Int)<s.types.length:=by omega
  simp [AH,-V,-y3,-y0,J,UA,lu,om]
 have om:¬ (32:Int)<s.types.length:=by omega
 simp [AH,-V,-y3,-y0,J,UA,lu,om];refine lA s.types.length (fun i σ=>(σ.env 1).v=.ptr 1 1 0/\σ.mem 1 1=some [⟨.sl s.nl (s.types.map rA),.no⟩]/\(σ.env 3).v=.int .i64 i/\GC s.types (s.types.length - i) i=GC s.types s.types.length 0)
  (fun e σ=>(e=.exit 0/\GC s.types s.types.length 0=0)\/(e=.ret/\(σ.env 2).v=.int .i64 (GC s.types s.types.length 0))) (fun i hi σ k h ih hk=>?_) _ _ ?_ (fun e σ h=>?_)
 ·obtain ⟨e1,m1,e3,hv⟩:=h;refine tA ?_;by_cases fa:i<s.types.length
  ·have ga:(i:Int)<s.types.length:=by omega
   have g1:(s.types.map rA)[i]?=some (rA s.types[i]):=by simp [fa]
   have hw:=ZA (i:=i);have hf:=own_ev s.types[i] (je _ (y6 _));have hu:=fun h9:(s.types[i]'fa).kind<=9=>ruses_ev (s.types[i]'fa) (je _ (y6 fa)).2.2 h9 _ rfl
   have uq:=(je _ (y6 fa)).2.2;rw [fT fa] at hv;generalize s.types[i]=t at *
   have hul:t.usesL.length<=9223372036854775807:=by
    unfold dA.usesL;by_cases h8:t.kind=8 <;> by_cases h7:7<=t.kind <;> simp [h8,h7] <;> omega
   simp only [fA,rA] at hf hu;simp only [rA] at g1;have err:∀ σ' n,SC s.types i t=n->n≠0->(σ'.env 2).v=.int .i64 n->k .ret σ'=some (.int .i64 (GC s.types s.types.length 0),none):=fun σ' n h1 h2 h3=>hk _ _ (.inr ⟨rfl,by rw [h3,<- hv,h1,if_neg h2]⟩)
   cases c1:mB t with
   | false =>
    rw [c1] at hf;simp [gH,-V,-y3,-y0,J,e1,m1,e3,ga,g1,hf];exact err _ 1 (by simp [SC,c1]) (by decide) (by simp)
   | true =>
    rw [c1] at hf;have hu:=hu (pK c1).2;simp [gH,-V,-y3,-y0,J,e1,m1,e3,ga,g1,hf];refine rnames_lp s.nl s.types i fa ia t (σ.next + 1) _ (fun σ2=>(σ2.env 1).v=.ptr 1 1 0/\σ2.mem 1 1=some [⟨.sl s.nl (s.types.map rA),.no⟩]/\(σ2.env 3).v=.int .i64 i/\(σ2.env 4).v=.ptr 4 (σ.next + 1) 0/\σ2.mem 4 (σ.next + 1)=some (jA t)) (fun a b hm ho he h=>?_) _ (fun σ2 c2 h=>?_) (fun σ2 c2 h2=>?_) _ ⟨?_,?_,?_,?_,?_⟩ ?_ ?_ ?_ ?_ ?_ ?_
    ·rw [hm,he 1 (by decide),he 3 (by decide),he 4 (by decide)];exact h
    ·obtain ⟨f1,fm,f3,f4,fp⟩:=h;simp [-V,-y3,-y0,J,f1,fm,f3,f4,fp,hu];refine rvuses_lp s.nl s.types t.usesL hul t.usesL.isEmpty _ (fun σ2=>(σ2.env 1).v=.ptr 1 1 0/\σ2.mem 1 1=some [⟨.sl s.nl (s.types.map rA),.no⟩]/\(σ2.env 3).v=.int .i64 i/\(σ2.env 4).v=.ptr 4 (σ.next + 1) 0/\σ2.mem 4 (σ.next + 1)=some (jA t)) (fun a b hm ho he h=>?_) _ (fun σ2 c3 h=>?_) (fun σ2 c3 h2=>?_) _ ⟨?_,?_,?_,?_,?_⟩ ?_ ?_ ?_ ?_
     ·rw [hm,he 1 (by decide),he 3 (by decide),he 4 (by decide)];exact h
     ·obtain ⟨f1,fm,f3,f4,fp⟩:=h;by_cases h8:t.kind=8
      ·obtain ⟨ak,jc⟩:=P2 h8 c3;have h3:t.key.toNat<s.types.length:=by omega
       have gy:(s.types.map rA)[t.key.toNat]?=some (rA s.types[t.key.toNat]):=by rw [yc,y4 h3]; rfl
       have hy:RI s.types t.key=s.types[t.key.toNat].kind:=by unfold RI; rw [y4 h3]
       generalize s.types[t.key.toNat]=y at *
       have ub:=tX y.kind;simp only [rA] at gy;simp only [fA] at ub;by_cases c4:1<=y.kind/\y.kind<=4
       ·rw [decide_eq_true c4] at ub;simp [-V,-y3,-y0,J,f1,fm,f3,f4,fp,h8,ak,gy,ub,hw];refine ih fa _ ⟨?_,?_,?_,?_⟩
        ·simp [f1]
        ·simp [fm]
        ·simp
        ·rw [<- hv,if_pos];unfold SC;rw [if_neg (by simp [c1]),if_neg c2,if_neg (by simp [c3]),if_neg fun h=>h.2 (by rw [hy]; exact c4)]
       ·rw [decide_eq_false c4] at ub;simp [-V,-y3,-y0,J,f1,fm,f3,f4,fp,h8,ak,gy,ub];exact err _ 1 (by unfold SC; rw [if_neg (by simp [c1]),if_neg c2,if_neg (by simp [c3]),if_pos ⟨h8,by rw [hy]; exact c4⟩]) (by decide) (by simp)
      ·simp [-V,-y3,-y0,J,f1,fm,f3,f4,fp,h8,hw];refine ih fa _ ⟨?_,?_,?_,?_⟩
       ·simp [f1]
       ·simp [fm]
       ·simp
       ·rw [<- hv,if_pos];unfold SC;rw [if_neg (by simp [c1]),if_neg c2,if_neg (by simp [c3]),if_neg fun h=>h8 h.1]
     ·simp [-V,-y3,-y0,J];exact err _ 4 (by unfold SC; rw [if_neg (by simp [c1]),if_neg c2,if_pos c3]) (by decide) h2
     all_goals simp [f1,fm,f3,f4,fp]
    ·simp [-V,-y3,-y0,J];exact err _ 1 (by unfold SC; rw [if_neg (by simp [c1]),if_pos c2]) (by decide) h2
    all_goals simp [e1,m1,e3]
  ·have ga:¬ (i:Int)<s.types.length:=by omega
   simp [gH,-V,-y3,-y0,J,e1,m1,e3,ga];refine hk _ _ (.inl ⟨rfl,?_⟩);rw [<- hv,show s.types.length - i=0 from by omega,GC]
 ·refine ⟨?_,?_,?_,?_⟩ <;> simp
 ·rcases h with ⟨rfl,h1⟩ | ⟨rfl,h1⟩
  ·simp [-V,-y3,-y0,J,h1]
  ·simp [-V,-y3,-y0,J,h1]
end Go.Proofs.YtbnlmgncbgaepaaGreat
