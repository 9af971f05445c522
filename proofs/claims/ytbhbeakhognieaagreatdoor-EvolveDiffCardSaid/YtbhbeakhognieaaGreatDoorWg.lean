/- A part of the proof. -/
import Derived.Test.YtbhbeakhognieaaGreatDoorWe
import Derived.Test.YtbhbeakhognieaaGreatDoorWf
set_option linter.all false
set_option maxRecDepth 100000
set_option maxHeartbeats 8000000
open Option renaming bind_some → J
open List renaming range_succ → y0, map_map → y5, getElem?_eq_getElem → yg, getElem?_map → yh, drop_eq_nil_of_le → yj, drop_eq_getElem_cons → yk, getElem?_eq_some_iff → yq, getElem_mem → yx, mem_cons → yA, mem_append → yI, take_append_getElem → yS
open Int renaming toNat_lt → y6
open Bool renaming and_eq_true → yc
namespace Go.Proofs.YtbhbeakhognieaaGreatDoor
open Go
def aC (n:Nat) (u:Int):Bool:=decide (u<0)||decide ((n:Int)<=u)
def bR (l:List XA) (k:Int):Int:=match l[k.toNat]? with
 | some t=>t.kind
 | none=>0
def IC (l:List XA) (i:Nat) (t:XA):Int :=
 if OD t=false then 1
 else if t.named=true/\t.name∈(l.take i).map XA.name then 1
 else if t.usesL.any (aC l.length)=true then 4
 else if t.kind=8/\¬ (1<=bR l t.key/\bR l t.key<=4) then 1
 else 0
def nC (l:List XA):Nat->Nat->Int
 | 0,_=>0
 | n + 1,i=>match l[i]? with
  | some t=>if IC l i t=0 then nC l n (i + 1) else IC l i t
  | none=>0
def tD (l:List XA):Int:=if 32<l.length then 3 else nC l l.length 0
theorem LQ {l:List XA} {i:Nat} (h:i<l.length):nC l (l.length - i) i=if IC l i l[i]=0 then nC l (l.length - (i + 1)) (i + 1) else IC l i l[i]:=by
 rw [show l.length - i=(l.length - (i + 1)) + 1 from by omega,nC,yg h]
theorem sR {t:XA} (h:OD t=true):1<=t.kind/\t.kind<=9:=by
 unfold OD at h;rw [yc] at h;exact of_decide_eq_true h.1
theorem j7 {s:ByteArray} (h:CE s=true):s≠⟨#[]⟩:=fun e=>by
 subst e;unfold CE at h;simp only [yc] at h;have:=of_decide_eq_true h.1.1.1;exact this rfl
theorem D0 {t:XA} (h:OD t=true):t.named=true ↔ t.name≠⟨#[]⟩:=by
 have hk:=sR h;unfold OD kX XA.left at h;rcases kinds t.kind with e | e | e | e | e | e | e | e | e | e
 all_goals first | exact absurd hk e | skip
 all_goals simp [e,XA.same,HC,XA.named] at h ⊢
 all_goals first | exact j7 h.1.1 | (simp [h]; done) | skip
theorem key_in {l:List XA} {t:XA} (h8:t.kind=8) (h:t.usesL.any (aC l.length)=false):0<=t.key/\t.key<l.length:=by
 have hm:t.key∈t.usesL:=by simp [XA.usesL,h8]
 have:=List.any_eq_false.1 h _ hm;simp [aC] at this;omega
theorem jX (s:ByteArray):∀ l:List ByteArray,s∈l->eG (l.map kG) (.str s) (.bool true)=l.map kG
 | [],h=>by cases h
 | x :: r,hn=>by
  by_cases h:x=s
  ·simp [kG,eG,FO,h]
  ·have:=jX s r (by
    rcases yA.1 hn with e | e
    ·exact absurd e.symm h
    ·exact e)
   simp [kG,eG,FO,h,this]
theorem L7 (s:ByteArray) (q:List ByteArray):∃ q':List ByteArray,eG (q.map kG) (.str s) (.bool true)=q'.map kG/\∀ x,x∈q' ↔ x∈q\/x=s:=by
 by_cases h:s∈q
 ·exact ⟨q,jX s q h,fun x=>⟨.inl,fun e=>e.elim id (fun e=>e ▸ h)⟩⟩
 ·exact ⟨q++[s],PV s q h,fun x=>by simp⟩
def ZV.fine (s:ZV):Prop:=s.types.length<=9223372036854775807/\∀ t∈s.types,t.fine
theorem vuses_lp (sn:Bool) (S:List XA) (U:List Int) (hU:U.length<=9223372036854775807) (bu:Bool) (r:RV) (P:uA->Prop) (hP:∀ s s':uA,s'.mem=s.mem->s'.obj=s.obj->s'.next=s'.next->(∀ t,t ∉ [2,7,41,42,43,44,45,46,47,48,49,50,51,52,53,40]->s'.env t=s.env t)->P s->P s') (k:Ex->uA->Option RV)
  (hk:∀ s',U.any (aC S.length)=false->P s'->k (.exit 2) s'=some r) (hr:∀ s':uA,U.any (aC S.length)=true->(s'.env 2).v=.int .i64 4->k .ret s'=some r)
  (s:uA) (hs:P s) (h1:(s.env 1).v=.ptr 1 1 0) (m1:s.mem 1 1=some [⟨.sl sn (S.map qA),.no⟩]) (h38:(s.env 38).v=.sl bu (U.map zF)) (h39:(s.env 39).v=.int .i64 U.length) (h40:(s.env 40).v=.int .i64 0):CF lA zA WC s k=some r:=by
 refine cB U.length (fun i s=>P s/\(s.env 1).v=.ptr 1 1 0/\s.mem 1 1=some [⟨.sl sn (S.map qA),.no⟩]/\(s.env 38).v=.sl bu (U.map zF)/\(s.env 39).v=.int .i64 U.length/\(s.env 40).v=.int .i64 i/\(U.drop i).any (aC S.length)=U.any (aC S.length))
  (fun e s=>(e=.exit 2/\U.any (aC S.length)=false/\P s)\/(e=.ret/\U.any (aC S.length)=true/\(s.env 2).v=.int .i64 4)) (fun i hi s k h ih hk=>?_) _ _ ?_ (fun e s h=>?_)
 ·obtain ⟨hp,e1,m1,ky,ev,ly,hs⟩:=h;refine aA ?_;by_cases ia:i<U.length
  ·have da:(i:Int)<U.length:=by omega
   have g1:(U.map zF)[i]?=some (zF U[i]):=by simp [ia]
   have hw:=mB (i:=i);rw [yk ia,List.any_cons] at hs;generalize U[i]=u at *
   simp only [zF] at g1;by_cases c1:u<0
   ·simp [WC,-J,-y6,-y5,y0,e1,m1,ky,ev,ly,da,g1,c1];exact hk _ _ (.inr ⟨rfl,by rw [<- hs]; simp [aC,c1],by simp⟩)
   by_cases c2:(S.length:Int)<=u
   ·simp [WC,-J,-y6,-y5,y0,e1,m1,ky,ev,ly,da,g1,c1,c2];exact hk _ _ (.inr ⟨rfl,by rw [<- hs]; simp [aC,c2],by simp⟩)
   simp [WC,-J,-y6,-y5,y0,e1,m1,ky,ev,ly,da,g1,c1,c2,hw];refine ih ia _ ⟨hP s _ ?_ ?_ ?_ ?_ hp,?_,?_,?_,?_,?_,?_⟩
   ·rfl
   ·rfl
   ·rfl
   ·intro t ht;simp only [yA,List.not_mem_nil,or_false,not_or] at ht;simp [LJ,ht]
   ·simp [e1]
   ·simp [m1]
   ·simp [ky]
   ·simp [ev]
   ·simp
   ·rw [<- hs]; simp [aC,c1,c2]
  ·have da:¬ (i:Int)<U.length:=by omega
   simp [WC,-J,-y6,-y5,y0,ev,ly,da];rw [yj (by omega)] at hs;refine hk _ _ (.inl ⟨rfl,hs.symm,hP s _ ?_ ?_ ?_ ?_ hp⟩)
   ·rfl
   ·rfl
   ·rfl
   ·intro t ht;simp only [yA,List.not_mem_nil,or_false,not_or] at ht;simp [LJ,ht]
 ·simp [hs,h1,m1,h38,h39,h40]
 ·rcases h with ⟨rfl,h1,h2⟩ | ⟨rfl,h1,h2⟩
  ·exact hk s h1 h2
  ·exact hr s h1 h2
theorem CZ (s:ZV) (hs:s.fine):wB 34 [.agg (tG s)] (.int .i64 (tD s.types)):=by
 obtain ⟨ea,ah⟩:=hs;refine cA (c:=ZE) rfl rfl ?_;unfold tD;by_cases ep:32<s.types.length
 ·have fk:(32:Int)<s.types.length:=by omega
  simp [ZE,-J,-y6,-y5,y0,tG,ep,fk]
 have fk:¬ (32:Int)<s.types.length:=by omega
 simp [ZE,-J,-y6,-y5,y0,tG,ep,fk];refine cB s.types.length (fun i σ=>(σ.env 1).v=.ptr 1 1 0/\σ.mem 1 1=some [⟨.sl s.nl (s.types.map qA),.no⟩]/\(σ.env 3).v=.mp 12 3/\(σ.env 14).v=.sl s.nl (s.types.map qA)/\(σ.env 15).v=.int .i64 s.types.length/\(σ.env 16).v=.int .i64 i/\(∃ q:List ByteArray,σ.obj 12 3=some (qF (q.map kG))/\∀ x,x∈q ↔ x∈(s.types.take i).map XA.name)/\nC s.types (s.types.length - i) i=nC s.types s.types.length 0)
  (fun e σ=>(e=.exit 0/\nC s.types s.types.length 0=0)\/(e=.ret/\(σ.env 2).v=.int .i64 (nC s.types s.types.length 0))) (fun i hi σ k h ih hk=>?_) _ _ ?_ (fun e σ h=>?_)
 ·obtain ⟨e1,m1,e3,ll,wg,kh,⟨q,o,hq⟩,hv⟩:=h;refine aA ?_;by_cases ia:i<s.types.length
  ·have da:(i:Int)<s.types.length:=by omega
   have g1:(s.types.map qA)[i]?=some (qA s.types[i]):=by simp [ia]
   have hw:=mB (i:=i);have ht:s.types.take (i + 1)=s.types.take i++[s.types[i]]:=(yS ia).symm;have hf:=form_ev s.types[i] (ah _ (yx _));have hu:=uses_ev s.types[i] (ah _ (yx _)).2.2 _ rfl;have gc:=(ah _ (yx ia)).2.2;rw [LQ ia] at hv;generalize s.types[i]=t at *
   have hul:t.usesL.length<=9223372036854775807:=by
    unfold XA.usesL;by_cases h8:t.kind=8 <;> by_cases h7:7<=t.kind <;> simp [h8,h7] <;> omega
   simp only [wB,qA] at hf hu;simp only [qA] at g1;have hg:=OV t.name q;have up:=bY q;obtain ⟨q',bi,ge⟩:=L7 t.name q;have err:∀ σ' n,IC s.types i t=n->n≠0->(σ'.env 2).v=.int .i64 n->k .ret σ'=some (.int .i64 (nC s.types s.types.length 0),none):=fun σ' n h1 h2 h3=>hk _ _ (.inr ⟨rfl,by rw [h3,<- hv,h1,if_neg h2]⟩)
   cases c1:OD t with
   | false =>
    rw [c1] at hf;simp [NA,-J,-y6,-y5,y0,e1,m1,e3,ll,wg,kh,da,g1,hf];exact err _ 1 (by simp [IC,c1]) (by decide) (by simp)
   | true =>
    rw [c1] at hf;have uc:=D0 c1;have dup:t.name≠⟨#[]⟩->t.name∈q->NA.run (WF lA zA) (SO lA zA) σ (SL (CF lA zA) NA k)=some (.int .i64 (nC s.types s.types.length 0),none):=by
     intro hn tp;have hd:=eq_false hn;rw [if_pos tp] at hg;simp [NA,-J,-y6,-y5,y0,e1,m1,e3,ll,wg,kh,da,g1,hf,hd,o,UG,up,sG,AV.flat,AV.scal,hg];exact err _ 1 (by unfold IC; rw [if_neg (by simp [c1]),if_pos ⟨uc.2 hn,(hq _).1 tp⟩]) (by decide) (by simp)
    have go:(t.name=⟨#[]⟩\/t.name≠⟨#[]⟩/\¬ t.name∈q)->NA.run (WF lA zA) (SO lA zA) σ (SL (CF lA zA) NA k)=some (.int .i64 (nC s.types s.types.length 0),none):=by
     intro hn;have c2:¬ (t.named=true/\t.name∈(s.types.take i).map XA.name):=fun ⟨h1,h2⟩=>by
      rcases hn with hn | hn
      ·exact (uc.1 h1) hn
      ·exact hn.2 ((hq _).2 h2)
     have xU:∀ (σ':uA) (k':Ex->uA->Option RV) (p:Nat),(∀ σ2:uA,(σ2.env 2).v=.int .i64 4->k' .ret σ2=k .ret σ2) →
       (∀ σ2:uA,(σ2.env 1).v=.ptr 1 1 0->σ2.mem 1 1=some [⟨.sl s.nl (s.types.map qA),.no⟩]->(σ2.env 3).v=.mp 12 3->(σ2.env 14).v=.sl s.nl (s.types.map qA)->(σ2.env 15).v=.int .i64 s.types.length->(σ2.env 16).v=.int .i64 i->σ2.obj 12 3=some (qF (q'.map kG))->(σ2.env 5).v=.ptr 5 p 0->σ2.mem 5 p=some (pD t)->t.usesL.any (aC s.types.length)=false->k' (.exit 2) σ2=some (.int .i64 (nC s.types s.types.length 0),none)) →
       (σ'.env 1).v=.ptr 1 1 0->σ'.mem 1 1=some [⟨.sl s.nl (s.types.map qA),.no⟩]->(σ'.env 3).v=.mp 12 3->(σ'.env 14).v=.sl s.nl (s.types.map qA)->(σ'.env 15).v=.int .i64 s.types.length->(σ'.env 16).v=.int .i64 i->σ'.obj 12 3=some (qF (q'.map kG))->(σ'.env 5).v=.ptr 5 p 0->σ'.mem 5 p=some (pD t)->(σ'.env 38).v=.sl t.usesL.isEmpty (t.usesL.map zF)->(σ'.env 39).v=.int .i64 t.usesL.length->(σ'.env 40).v=.int .i64 0->CF lA zA WC σ' k'=some (.int .i64 (nC s.types s.types.length 0),none):=by
      intro σ' k' p hret fh f1 fm f3 om f15 f16 fo f5 fp f38 f39 f40;refine vuses_lp s.nl s.types t.usesL hul t.usesL.isEmpty _ (fun σ2=>(σ2.env 1).v=.ptr 1 1 0/\σ2.mem 1 1=some [⟨.sl s.nl (s.types.map qA),.no⟩]/\(σ2.env 3).v=.mp 12 3/\(σ2.env 14).v=.sl s.nl (s.types.map qA)/\(σ2.env 15).v=.int .i64 s.types.length/\(σ2.env 16).v=.int .i64 i/\σ2.obj 12 3=some (qF (q'.map kG))/\(σ2.env 5).v=.ptr 5 p 0/\σ2.mem 5 p=some (pD t)) (fun a b hm ho _ he h=>?_) k' (fun σ2 hu h=>?_) (fun σ2 hu h2=>?_) σ' ⟨f1,fm,f3,om,f15,f16,fo,f5,fp⟩ f1 fm f38 f39 f40
      ·rw [hm,ho,he 1 (by decide),he 3 (by decide),he 14 (by decide),he 15 (by decide),he 16 (by decide),he 5 (by decide)];exact h
      ·obtain ⟨f1,fm,f3,om,f15,f16,fo,f5,fp⟩:=h;exact fh σ2 f1 fm f3 om f15 f16 fo f5 fp hu
      ·rw [hret σ2 h2];exact err _ 4 (by unfold IC; rw [if_neg (by simp [c1]),if_neg c2,if_pos hu]) (by decide) h2
     have key:t.usesL.any (aC s.types.length)=false->t.kind=8->0<=t.key/\∃ y:XA,(s.types.map qA)[t.key.toNat]?=some (qA y)/\bR s.types t.key=y.kind:=fun hu h8=>by
      obtain ⟨h1,h2⟩:=key_in h8 hu;have h3:t.key.toNat<s.types.length:=by omega
      exact ⟨h1,s.types[t.key.toNat],by rw [yh,yg h3]; rfl,by unfold bR; rw [yg h3]⟩
     have next:IC s.types i t=0->∀ σ2:uA,(σ2.env 1).v=.ptr 1 1 0->σ2.mem 1 1=some [⟨.sl s.nl (s.types.map qA),.no⟩]->(σ2.env 3).v=.mp 12 3->(σ2.env 14).v=.sl s.nl (s.types.map qA)->(σ2.env 15).v=.int .i64 s.types.length->(σ2.env 16).v=.int .i64 ((i + 1:Nat):Int)->σ2.obj 12 3=some (qF (q'.map kG))->CF lA zA NA σ2 k=some (.int .i64 (nC s.types s.types.length 0),none):=fun h0 σ2 f1 fm f3 om f15 f16 fo=>ih ia _ ⟨f1,fm,f3,om,f15,f16,⟨q',fo,fun x=>by rw [ge,ht,List.map_append,yI,hq]; simp⟩,by rw [<- hv,h0]; rfl⟩
     have hgn:t.name=⟨#[]⟩\/t.name≠⟨#[]⟩/\aH (q.map kG) (.str t.name)=none:=by
      rcases hn with hn | ⟨h1,h2⟩
      ·exact .inl hn
      ·exact .inr ⟨h1,by rw [hg,if_neg h2]⟩
     rcases hgn with hd | ⟨hd,hg⟩
     ·have hd:=eq_true hd;simp [NA,-J,-y6,-y5,y0,e1,m1,e3,ll,wg,kh,da,g1,hf,hu,hd,o,UG,up,sG,AV.flat,AV.scal,bi];refine xU _ _ (σ.next + 1) (fun σ2 _=>rfl) (fun σ2 f1 fm f3 om f15 f16 fo f5 fp fd=>?_) ?_ ?_ ?_ ?_ ?_ ?_ ?_ ?_ ?_ ?_ ?_ ?_
      rotate_left
      ·simp [e1]
      ·simp [m1]
      ·simp [e3]
      ·simp [ll]
      ·simp [wg]
      ·simp [kh]
      ·simp
      ·simp
      ·simp
      ·simp
      ·simp
      ·simp
      have c3:=fd;by_cases h8:t.kind=8
      ·obtain ⟨gj,y,gy,hy⟩:=key fd h8;simp only [qA] at gy;by_cases c4:y.kind<1
       ·simp [-J,-y6,-y5,y0,f1,fm,f5,fp,h8,gj,gy,c4];exact err _ 1 (by unfold IC; rw [if_neg (by simp [c1]),if_neg c2,if_neg (by simp [c3]),if_pos ⟨h8,by rw [hy]; omega⟩]) (by decide) (by simp)
       ·by_cases c5:4<y.kind
        ·simp [-J,-y6,-y5,y0,f1,fm,f5,fp,h8,gj,gy,c4,c5];exact err _ 1 (by unfold IC; rw [if_neg (by simp [c1]),if_neg c2,if_neg (by simp [c3]),if_pos ⟨h8,by rw [hy]; omega⟩]) (by decide) (by simp)
        ·simp [-J,-y6,-y5,y0,f1,fm,f5,fp,f16,h8,gj,gy,c4,c5,hw];refine next (by unfold IC; rw [if_neg (by simp [c1]),if_neg c2,if_neg (by simp [c3]),if_neg fun h=>h.2 (by rw [hy]; omega)]) _ ?_ ?_ ?_ ?_ ?_ ?_ ?_ <;> simp [f1,fm,f3,om,f15,fo]
      ·simp [-J,-y6,-y5,y0,f1,fm,f5,fp,f16,h8,hw];refine next (by unfold IC; rw [if_neg (by simp [c1]),if_neg c2,if_neg (by simp [c3]),if_neg fun h=>h8 h.1]) _ ?_ ?_ ?_ ?_ ?_ ?_ ?_ <;> simp [f1,fm,f3,om,f15,fo]
     ·have hd:=eq_false hd;simp [NA,-J,-y6,-y5,y0,e1,m1,e3,ll,wg,kh,da,g1,hf,hu,hd,hg,o,UG,up,sG,AV.flat,AV.scal,bi];refine xU _ _ (σ.next + 1) (fun σ2 _=>rfl) (fun σ2 f1 fm f3 om f15 f16 fo f5 fp fd=>?_) ?_ ?_ ?_ ?_ ?_ ?_ ?_ ?_ ?_ ?_ ?_ ?_
      rotate_left
      ·simp [e1]
      ·simp [m1]
      ·simp [e3]
      ·simp [ll]
      ·simp [wg]
      ·simp [kh]
      ·simp
      ·simp
      ·simp
      ·simp
      ·simp
      ·simp
      have c3:=fd;by_cases h8:t.kind=8
      ·obtain ⟨gj,y,gy,hy⟩:=key fd h8;simp only [qA] at gy;by_cases c4:y.kind<1
       ·simp [-J,-y6,-y5,y0,f1,fm,f5,fp,h8,gj,gy,c4];exact err _ 1 (by unfold IC; rw [if_neg (by simp [c1]),if_neg c2,if_neg (by simp [c3]),if_pos ⟨h8,by rw [hy]; omega⟩]) (by decide) (by simp)
       ·by_cases c5:4<y.kind
        ·simp [-J,-y6,-y5,y0,f1,fm,f5,fp,h8,gj,gy,c4,c5];exact err _ 1 (by unfold IC; rw [if_neg (by simp [c1]),if_neg c2,if_neg (by simp [c3]),if_pos ⟨h8,by rw [hy]; omega⟩]) (by decide) (by simp)
        ·simp [-J,-y6,-y5,y0,f1,fm,f5,fp,f16,h8,gj,gy,c4,c5,hw];refine next (by unfold IC; rw [if_neg (by simp [c1]),if_neg c2,if_neg (by simp [c3]),if_neg fun h=>h.2 (by rw [hy]; omega)]) _ ?_ ?_ ?_ ?_ ?_ ?_ ?_ <;> simp [f1,fm,f3,om,f15,fo]
      ·simp [-J,-y6,-y5,y0,f1,fm,f5,fp,f16,h8,hw];refine next (by unfold IC; rw [if_neg (by simp [c1]),if_neg c2,if_neg (by simp [c3]),if_neg fun h=>h8 h.1]) _ ?_ ?_ ?_ ?_ ?_ ?_ ?_ <;> simp [f1,fm,f3,om,f15,fo]
    by_cases tp:t.name≠⟨#[]⟩/\t.name∈q
    ·exact dup tp.1 tp.2
    ·refine go ?_;by_cases he:t.name=⟨#[]⟩
     ·exact .inl he
     ·exact .inr ⟨he,fun h=>tp ⟨he,h⟩⟩
  ·have da:¬ (i:Int)<s.types.length:=by omega
   simp [NA,-J,-y6,-y5,y0,wg,kh,da];refine hk _ _ (.inl ⟨rfl,?_⟩);rw [<- hv,show s.types.length - i=0 from by omega,nC]
 ·refine ⟨?_,?_,?_,?_,?_,?_,⟨[],?_,?_⟩,?_⟩ <;> simp [qF]
 ·rcases h with ⟨rfl,h1⟩ | ⟨rfl,h1⟩
  ·simp [-J,-y6,-y5,y0,h1]
  ·simp [-J,-y6,-y5,y0,h1]
def mC {α:Type} (p:α->Bool):List α->Int
 | []=>-1
 | x :: r=>if p x=true then 0 else if mC p r=-1 then -1 else mC p r + 1
theorem TG {α:Type} (p:α->Bool):∀ l:List α,-1<=mC p l
 | []=>by simp [mC]
 | x :: r=>by
  have:=TG p r;simp only [mC];split
  ·omega
  ·split <;> omega
theorem FN {α:Type} (p:α->Bool) (x:α) (r:List α) (h:p x=false):mC p (x :: r)=if mC p r=-1 then -1 else mC p r + 1:=by simp [mC,h]
theorem nI {α:Type} (p:α->Bool):∀ l:List α,mC p l≠-1->∃ x,l[(mC p l).toNat]?=some x/\p x=true
 | [],h=>absurd rfl h
 | x :: r,h=>by
  simp only [mC] at h ⊢;by_cases hx:p x=true
  ·rw [if_pos hx]; exact ⟨x,rfl,hx⟩
  ·rw [if_neg hx] at h ⊢;by_cases h1:mC p r=-1
   ·rw [if_pos h1] at h; exact absurd rfl h
   ·rw [if_neg h1];obtain ⟨y,h2,h3⟩:=nI p r h1;have:=TG p r;refine ⟨y,?_,h3⟩;rw [show (mC p r + 1).toNat=(mC p r).toNat + 1 from by omega,List.getElem?_cons_succ];exact h2
theorem ZT {α:Type} (p:α->Bool) (l:List α):mC p l<l.length:=by
 by_cases h:mC p l=-1
 ·omega
 ·obtain ⟨x,h1,_⟩:=nI p l h;have:=(yq.1 h1).1;have:=TG p l;omega
theorem tW (F:Nat) (caps:List AV) (l:List EE) (p:EE->Bool) (hl:l.length<=9223372036854775807) (jd:∀ (s:uA) (cl:Cl),UC s cl caps=some caps) (hF:∀ x∈l,wB F (.agg (WA x) :: caps) (.bool (p x))) (b:Bool):wB 105 [.sl b (l.map WA),.fn F caps] (.int .i64 (mC p l)):=by
 refine cA (c:=eC) rfl rfl ?_;simp [eC,-J,-y6,-y5,y0];refine cB l.length (fun i s=>(s.env 0).v=.sl b (l.map WA)/\(s.env 1).v=.fn F caps/\(s.env 7).v=.int .i64 l.length/\(s.env 8).v=.int .i64 i/\mC p l=(if mC p (l.drop i)=-1 then -1 else mC p (l.drop i) + i))
  (fun e s=>(e=.exit 0/\mC p l=-1)\/(e=.ret/\(s.env 4).v=.int .i64 (mC p l))) (fun i hi s k h ih hk=>?_) _ _ ?_ (fun e s h=>?_)
 ·obtain ⟨e0,e1,e7,e8,hs⟩:=h;refine aA ?_;by_cases ia:i<l.length
  ·have da:(i:Int)<l.length:=by omega
   have g1:(l.map WA)[i]?=some (WA l[i]):=by simp [ia]
   have hw:=mB (i:=i);have hx:=hF l[i] (yx _);rw [yk ia] at hs;generalize l[i]=x at *
   simp only [wB,WA] at g1 hx;cases hp:p x with
   | true =>
    rw [hp] at hx;simp [UB,-J,-y6,-y5,y0,e0,e1,e7,e8,da,g1,jd,hx];refine hk _ _ (.inr ⟨rfl,?_⟩);simp [hs,mC,hp]
   | false =>
    rw [hp] at hx;simp [UB,-J,-y6,-y5,y0,e0,e1,e7,e8,da,g1,jd,hx,hw];refine ih ia _ ⟨?_,?_,?_,?_,?_⟩
    ·simp [e0]
    ·simp [e1]
    ·simp [e7]
    ·simp
    ·rw [hs,FN p x _ hp];have:=TG p (l.drop (i + 1));by_cases h1:mC p (l.drop (i + 1))=-1
     ·simp [h1]
     ·have h2:¬ mC p (l.drop (i + 1)) + 1=-1:=by omega
      rw [if_neg h1,if_neg h2,if_neg h1];omega
  ·have da:¬ (i:Int)<l.length:=by omega
   simp [UB,-J,-y6,-y5,y0,e7,e8,da];rw [yj (by omega)] at hs;exact hk _ _ (.inl ⟨rfl,hs⟩)
 ·have:=TG p l;by_cases h1:mC p l=-1 <;> simp [h1]
 ·rcases h with ⟨rfl,h1⟩ | ⟨rfl,h1⟩ <;> simp [-J,-y6,-y5,y0,h1]
theorem uW (F:Nat) (caps:List AV) (l:List AM) (p:AM->Bool) (hl:l.length<=9223372036854775807) (jd:∀ (s:uA) (cl:Cl),UC s cl caps=some caps) (hF:∀ x∈l,wB F (.agg (FA x) :: caps) (.bool (p x))) (b:Bool):wB 109 [.sl b (l.map FA),.fn F caps] (.int .i64 (mC p l)):=by
 refine cA (c:=rC) rfl rfl ?_;simp [rC,-J,-y6,-y5,y0];refine cB l.length (fun i s=>(s.env 0).v=.sl b (l.map FA)/\(s.env 1).v=.fn F caps/\(s.env 7).v=.int .i64 l.length/\(s.env 8).v=.int .i64 i/\mC p l=(if mC p (l.drop i)=-1 then -1 else mC p (l.drop i) + i))
  (fun e s=>(e=.exit 0/\mC p l=-1)\/(e=.ret/\(s.env 4).v=.int .i64 (mC p l))) (fun i hi s k h ih hk=>?_) _ _ ?_ (fun e s h=>?_)
 ·obtain ⟨e0,e1,e7,e8,hs⟩:=h;refine aA ?_;by_cases ia:i<l.length
  ·have da:(i:Int)<l.length:=by omega
   have g1:(l.map FA)[i]?=some (FA l[i]):=by simp [ia]
   have hw:=mB (i:=i);have hx:=hF l[i] (yx _);rw [yk ia] at hs;generalize l[i]=x at *
   simp only [wB,FA] at g1 hx;cases hp:p x with
   | true =>
    rw [hp] at hx;simp [IB,-J,-y6,-y5,y0,e0,e1,e7,e8,da,g1,jd,hx];refine hk _ _ (.inr ⟨rfl,?_⟩);simp [hs,mC,hp]
   | false =>
    rw [hp] at hx;simp [IB,-J,-y6,-y5,y0,e0,e1,e7,e8,da,g1,jd,hx,hw];refine ih ia _ ⟨?_,?_,?_,?_,?_⟩
    ·simp [e0]
    ·simp [e1]
    ·simp [e7]
    ·simp
    ·rw [hs,FN p x _ hp];have:=TG p (l.drop (i + 1));by_cases h1:mC p (l.drop (i + 1))=-1
     ·simp [h1]
     ·have h2:¬ mC p (l.drop (i + 1)) + 1=-1:=by omega
      rw [if_neg h1,if_neg h2,if_neg h1];omega
  ·have da:¬ (i:Int)<l.length:=by omega
   simp [IB,-J,-y6,-y5,y0,e7,e8,da];rw [yj (by omega)] at hs;exact hk _ _ (.inl ⟨rfl,hs⟩)
 ·have:=TG p l;by_cases h1:mC p l=-1 <;> simp [h1]
 ·rcases h with ⟨rfl,h1⟩ | ⟨rfl,h1⟩ <;> simp [-J,-y6,-y5,y0,h1]
def KB (l:List EE) (id:Int):Int:=mC (fun x=>decide (x.id=id)) l
def memA (l:List EE) (id:Int):AV:=.tup [.int .i64 (max (KB l id) 0),.bool (decide (0<=KB l id))]
theorem kY (t:XA) (id:Int) (hl:t.mems.length<=9223372036854775807):wB 82 [.agg (qA t),.int .i64 id] (memA t.mems id):=by
 refine cA (c:=mG) rfl rfl ?_;obtain ⟨p,hp⟩:∃ p:EE->Bool,p=fun x=>decide (x.id=id):=⟨_,rfl⟩
 unfold memA KB;rw [<- hp];simp [mG,-J,-y6,-y5,y0,qA];refine cB t.mems.length (fun i s=>(s.env 1).v=.int .i64 id/\(s.env 2).v=.ptr 2 1 0/\s.mem 2 1=some (pD t)/\(s.env 6).v=.int .i64 i/\mC p t.mems=(if mC p (t.mems.drop i)=-1 then -1 else mC p (t.mems.drop i) + i))
  (fun e s=>(e=.exit 0/\mC p t.mems=-1)\/(e=.ret/\0<=mC p t.mems/\(s.env 4).v=.int .i64 (mC p t.mems)/\(s.env 5).v=.bool true)) (fun i hi s k h ih hk=>?_) _ _ ?_ (fun e s h=>?_)
 ·obtain ⟨e1,e2,m2,e6,hs⟩:=h;refine aA ?_;by_cases ia:i<t.mems.length
  ·have da:(i:Int)<t.mems.length:=by omega
   have g1:(t.mems.map WA)[i]?=some (WA t.mems[i]):=by simp [ia]
   have hw:=mB (i:=i);rw [yk ia] at hs;generalize t.mems[i]=x at *
   simp only [WA] at g1;by_cases hx:x.id=id
   ·simp [IE,-J,-y6,-y5,y0,e1,e2,m2,e6,da,g1,hx];have fr:p x=true:=by rw [hp]; exact decide_eq_true hx
    refine hk _ _ (.inr ⟨rfl,?_,?_,?_⟩)
    ·rw [hs]; simp [mC,fr]
    ·simp [hs,mC,fr]
    ·simp
   ·have fr:p x=false:=by rw [hp]; exact decide_eq_false hx
    simp [IE,-J,-y6,-y5,y0,e1,e2,m2,e6,da,g1,hx,hw];refine ih ia _ ⟨?_,?_,?_,?_,?_⟩
    ·simp [e1]
    ·simp [e2]
    ·simp [m2]
    ·simp
    ·rw [hs,FN p x _ fr];have:=TG p (t.mems.drop (i + 1));by_cases h1:mC p (t.mems.drop (i + 1))=-1
     ·simp [h1]
     ·have h2:¬ mC p (t.mems.drop (i + 1)) + 1=-1:=by omega
      rw [if_neg h1,if_neg h2,if_neg h1];omega
  ·have da:¬ (i:Int)<t.mems.length:=by omega
   simp [IE,-J,-y6,-y5,y0,e2,m2,e6,da];rw [yj (by omega)] at hs;exact hk _ _ (.inl ⟨rfl,hs⟩)
 ·have:=TG p t.mems;by_cases h1:mC p t.mems=-1 <;> simp [h1]
 ·rcases h with ⟨rfl,h1⟩ | ⟨rfl,h0,h1,h2⟩
  ·simp [-J,-y6,-y5,y0,h1];rfl
  ·simp [-J,-y6,-y5,y0,h1,h2,h0,Int.max_eq_left h0]
def ZB (l:List AM) (id:Int):Int:=mC (fun x=>decide (x.id=id)) l
def symA (l:List AM) (id:Int):AV:=.tup [.int .i64 (max (ZB l id) 0),.bool (decide (0<=ZB l id))]
theorem cY (t:XA) (id:Int) (hl:t.syms.length<=9223372036854775807):wB 83 [.agg (qA t),.int .i64 id] (symA t.syms id):=by
 refine cA (c:=QG) rfl rfl ?_;obtain ⟨p,hp⟩:∃ p:AM->Bool,p=fun x=>decide (x.id=id):=⟨_,rfl⟩
 unfold symA ZB;rw [<- hp];simp [QG,-J,-y6,-y5,y0,qA];refine cB t.syms.length (fun i s=>(s.env 1).v=.int .i64 id/\(s.env 2).v=.ptr 2 1 0/\s.mem 2 1=some (pD t)/\(s.env 6).v=.int .i64 i/\mC p t.syms=(if mC p (t.syms.drop i)=-1 then -1 else mC p (t.syms.drop i) + i))
  (fun e s=>(e=.exit 0/\mC p t.syms=-1)\/(e=.ret/\0<=mC p t.syms/\(s.env 4).v=.int .i64 (mC p t.syms)/\(s.env 5).v=.bool true)) (fun i hi s k h ih hk=>?_) _ _ ?_ (fun e s h=>?_)
 ·obtain ⟨e1,e2,m2,e6,hs⟩:=h;refine aA ?_;by_cases ia:i<t.syms.length
  ·have da:(i:Int)<t.syms.length:=by omega
   have g1:(t.syms.map FA)[i]?=some (FA t.syms[i]):=by simp [ia]
   have hw:=mB (i:=i);rw [yk ia] at hs;generalize t.syms[i]=x at *
   simp only [FA] at g1;by_cases hx:x.id=id
   ·simp [OE,-J,-y6,-y5,y0,e1,e2,m2,e6,da,g1,hx];have fr:p x=true:=by rw [hp]; exact decide_eq_true hx
    refine hk _ _ (.inr ⟨rfl,?_,?_,?_⟩)
    ·rw [hs]; simp [mC,fr]
    ·simp [hs,mC,fr]
    ·simp
   ·have fr:p x=false:=by rw [hp]; exact decide_eq_false hx
    simp [OE,-J,-y6,-y5,y0,e1,e2,m2,e6,da,g1,hx,hw];refine ih ia _ ⟨?_,?_,?_,?_,?_⟩
    ·simp [e1]
    ·simp [e2]
    ·simp [m2]
    ·simp
    ·rw [hs,FN p x _ fr];have:=TG p (t.syms.drop (i + 1));by_cases h1:mC p (t.syms.drop (i + 1))=-1
     ·simp [h1]
     ·have h2:¬ mC p (t.syms.drop (i + 1)) + 1=-1:=by omega
      rw [if_neg h1,if_neg h2,if_neg h1];omega
  ·have da:¬ (i:Int)<t.syms.length:=by omega
   simp [OE,-J,-y6,-y5,y0,e2,m2,e6,da];rw [yj (by omega)] at hs;exact hk _ _ (.inl ⟨rfl,hs⟩)
 ·have:=TG p t.syms;by_cases h1:mC p t.syms=-1 <;> simp [h1]
 ·rcases h with ⟨rfl,h1⟩ | ⟨rfl,h0,h1,h2⟩
  ·simp [-J,-y6,-y5,y0,h1];rfl
  ·simp [-J,-y6,-y5,y0,h1,h2,h0,Int.max_eq_left h0]
theorem D7 (sn:Bool) (S:List XA) (i:Nat) (hiS:i<S.length) (hS:S.length<=9223372036854775807) (t:XA) (p:Nat) (r:RV) (P:uA->Prop) (hP:∀ s s':uA,s'.mem=s.mem->s'.obj=s.obj->(∀ t,t ∉ [2,5,27,28,29,30,31,32,33,34,35,36,37,38,39,40,41,42,43,44,45]->s'.env t=s.env t)->P s->P s') (k:Ex->uA->Option RV)
  (hk:∀ s',¬ (t.named=true/\t.name∈(S.take i).map XA.name)->P s'->k (.exit 2) s'=some r) (hr:∀ s':uA,t.named=true/\t.name∈(S.take i).map XA.name->(s'.env 2).v=.int .i64 1->k .ret s'=some r)
  (s:uA) (hs:P s) (h1:(s.env 1).v=.ptr 1 1 0) (m1:s.mem 1 1=some [⟨.sl sn (S.map qA),.no⟩]) (h3:(s.env 3).v=.int .i64 i) (h4:(s.env 4).v=.ptr 4 p 0) (m4:s.mem 4 p=some (pD t)) (h5:(s.env 5).v=.int .i64 0):CF lA zA LC s k=some r:=by
 have uc:=PF t.kind;change wB _ _ (.bool t.named) at uc;simp only [wB] at uc;refine cB i (fun j s=>P s/\(s.env 1).v=.ptr 1 1 0/\s.mem 1 1=some [⟨.sl sn (S.map qA),.no⟩]/\(s.env 3).v=.int .i64 i/\(s.env 4).v=.ptr 4 p 0/\s.mem 4 p=some (pD t)/\(s.env 5).v=.int .i64 j/\¬ (t.named=true/\t.name∈(S.take j).map XA.name))
  (fun e s=>(e=.exit 2/\¬ (t.named=true/\t.name∈(S.take i).map XA.name)/\P s)\/(e=.ret/\(t.named=true/\t.name∈(S.take i).map XA.name)/\(s.env 2).v=.int .i64 1)) (fun j hj s k h ih hk=>?_) _ _ ?_ (fun e s h=>?_)
 ·obtain ⟨hp,e1,m1,e3,e4,m4,e5,hs⟩:=h;refine aA ?_;by_cases ia:j<i
  ·have da:(j:Int)<i:=by omega
   have hjS:j<S.length:=by omega
   have g1:(S.map qA)[j]?=some (qA S[j]):=by simp [hjS]
   have hw:=mB (i:=j);have ht:S.take (j + 1)=S.take j++[S[j]]:=(yS hjS).symm;have ge:S[j]∈S.take i:=List.mem_take_iff_getElem.2 ⟨j,by omega,rfl⟩;generalize S[j]=u at *
   simp only [qA] at g1;have nxt:∀ s',s'.mem=s.mem->s'.obj=s.obj->(∀ t,t ∉ [2,5,27,28,29,30,31,32,33,34,35,36,37,38,39,40,41,42,43,44,45]->s'.env t=s.env t)->(s'.env 5).v=.int .i64 ((j + 1:Nat):Int)->¬ (t.named=true/\u.name=t.name)->CF lA zA LC s' k=some r:=fun s' hm ho he h5 hn=>by
    refine ih ia _ ⟨hP s s' hm ho he hp,?_,?_,?_,?_,?_,h5,?_⟩
    ·rw [he 1 (by decide)]; exact e1
    ·rw [hm]; exact m1
    ·rw [he 3 (by decide)]; exact e3
    ·rw [he 4 (by decide)]; exact e4
    ·rw [hm]; exact m4
    ·rw [ht,List.map_append,yI];rintro ⟨h1,h2 | h2⟩
     ·exact hs ⟨h1,h2⟩
     ·simp at h2; exact hn ⟨h1,h2.symm⟩
   cases hb:t.named with
   | false =>
    rw [hb] at uc;simp [LC,-J,-y6,-y5,y0,e1,m1,e3,e4,m4,e5,da,g1,uc,hw];refine nxt _ rfl rfl ?_ ?_ (by simp [hb])
    ·intro t ht;simp only [yA,List.not_mem_nil,or_false,not_or] at ht;simp [LJ,ht]
    ·simp
   | true =>
    rw [hb] at uc;by_cases jb:u.name=t.name
    ·simp [LC,-J,-y6,-y5,y0,e1,m1,e3,e4,m4,e5,da,g1,uc,jb];exact hk _ _ (.inr ⟨rfl,⟨hb,jb ▸ List.mem_map_of_mem ge⟩,by simp⟩)
    ·simp [LC,-J,-y6,-y5,y0,e1,m1,e3,e4,m4,e5,da,g1,uc,jb,hw];refine nxt _ rfl rfl ?_ ?_ (by simp [jb])
     ·intro t ht;simp only [yA,List.not_mem_nil,or_false,not_or] at ht;simp [LJ,ht]
     ·simp
  ·have da:¬ (j:Int)<i:=by omega
   have aw:j=i:=by omega
   simp [LC,-J,-y6,-y5,y0,e3,e5,da];refine hk _ _ (.inl ⟨rfl,aw ▸ hs,hP s _ rfl rfl ?_ hp⟩);intro t ht;simp only [yA,List.not_mem_nil,or_false,not_or] at ht;simp [LJ,ht]
 ·simp [hs,h1,m1,h3,h4,m4,h5]
 ·rcases h with ⟨rfl,h1,h2⟩ | ⟨rfl,h1,h2⟩
  ·exact hk s h1 h2
  ·exact hr s h1 h2
theorem J7 (sn:Bool) (S:List XA) (U:List Int) (hU:U.length<=9223372036854775807) (bu:Bool) (r:RV) (P:uA->Prop) (hP:∀ s s':uA,s'.mem=s.mem->s'.obj=s.obj->(∀ t,t ∉ [2,7,48,49,50,51,52,53,54,55,56,57,58,59,60,61,62,63,64,65,66,67,68]->s'.env t=s.env t)->P s->P s') (k:Ex->uA->Option RV)
  (hk:∀ s',U.any (aC S.length)=false->P s'->k (.exit 4) s'=some r) (hr:∀ s':uA,U.any (aC S.length)=true->(s'.env 2).v=.int .i64 4->k .ret s'=some r)
  (s:uA) (hs:P s) (h1:(s.env 1).v=.ptr 1 1 0) (m1:s.mem 1 1=some [⟨.sl sn (S.map qA),.no⟩]) (h6:(s.env 6).v=.sl bu (U.map zF)) (h7:(s.env 7).v=.int .i64 0):CF lA zA kD s k=some r:=by
 refine cB U.length (fun i s=>P s/\(s.env 1).v=.ptr 1 1 0/\s.mem 1 1=some [⟨.sl sn (S.map qA),.no⟩]/\(s.env 6).v=.sl bu (U.map zF)/\(s.env 7).v=.int .i64 i/\(U.drop i).any (aC S.length)=U.any (aC S.length))
  (fun e s=>(e=.exit 4/\U.any (aC S.length)=false/\P s)\/(e=.ret/\U.any (aC S.length)=true/\(s.env 2).v=.int .i64 4)) (fun i hi s k h ih hk=>?_) _ _ ?_ (fun e s h=>?_)
 ·obtain ⟨hp,e1,m1,e6,e7,hs⟩:=h;refine aA ?_;by_cases ia:i<U.length
  ·have da:(i:Int)<U.length:=by omega
   have g1:(U.map zF)[i]?=some (zF U[i]):=by simp [ia]
   have hw:=mB (i:=i);rw [yk ia,List.any_cons] at hs;generalize U[i]=u at *
   simp only [zF] at g1;by_cases c1:u<0
   ·simp [kD,-J,-y6,-y5,y0,e1,m1,e6,e7,da,g1,c1];exact hk _ _ (.inr ⟨rfl,by rw [<- hs]; simp [aC,c1],by simp⟩)
   by_cases c2:(S.length:Int)<=u
   ·simp [kD,-J,-y6,-y5,y0,e1,m1,e6,e7,da,g1,c1,c2];exact hk _ _ (.inr ⟨rfl,by rw [<- hs]; simp [aC,c2],by simp⟩)
   simp [kD,-J,-y6,-y5,y0,e1,m1,e6,e7,da,g1,c1,c2,hw];refine ih ia _ ⟨hP s _ rfl rfl ?_ hp,?_,?_,?_,?_,?_⟩
   ·intro t ht;simp only [yA,List.not_mem_nil,or_false,not_or] at ht;simp [LJ,ht]
   ·simp [e1]
   ·simp [m1]
   ·simp [e6]
   ·simp
   ·rw [<- hs]; simp [aC,c1,c2]
  ·have da:¬ (i:Int)<U.length:=by omega
   simp [kD,-J,-y6,-y5,y0,e6,e7,da];rw [yj (by omega)] at hs;refine hk _ _ (.inl ⟨rfl,hs.symm,hP s _ rfl rfl ?_ hp⟩);intro t ht;simp only [yA,List.not_mem_nil,or_false,not_or] at ht;simp [LJ,ht]
 ·simp [hs,h1,m1,h6,h7]
 ·rcases h with ⟨rfl,h1,h2⟩ | ⟨rfl,h1,h2⟩
  ·exact hk s h1 h2
  ·exact hr s h1 h2
theorem gX (s:ZV) (hs:s.fine):wB 38 [.agg (tG s)] (.int .i64 (tD s.types)):=by
 obtain ⟨ea,ah⟩:=hs;refine cA (c:=RF) rfl rfl ?_;unfold tD;by_cases ep:32<s.types.length
 ·have fk:(32:Int)<s.types.length:=by omega
  simp [RF,-J,-y6,-y5,y0,tG,ep,fk]
 have fk:¬ (32:Int)<s.types.length:=by omega
 simp [RF,-J,-y6,-y5,y0,tG,ep,fk];refine cB s.types.length (fun i σ=>(σ.env 1).v=.ptr 1 1 0/\σ.mem 1 1=some [⟨.sl s.nl (s.types.map qA),.no⟩]/\(σ.env 3).v=.int .i64 i/\nC s.types (s.types.length - i) i=nC s.types s.types.length 0)
  (fun e σ=>(e=.exit 0/\nC s.types s.types.length 0=0)\/(e=.ret/\(σ.env 2).v=.int .i64 (nC s.types s.types.length 0))) (fun i hi σ k h ih hk=>?_) _ _ ?_ (fun e σ h=>?_)
 ·obtain ⟨e1,m1,e3,hv⟩:=h;refine aA ?_;by_cases ia:i<s.types.length
  ·have da:(i:Int)<s.types.length:=by omega
   have g1:(s.types.map qA)[i]?=some (qA s.types[i]):=by simp [ia]
   have hw:=mB (i:=i);have hf:=own_ev s.types[i] (ah _ (yx _));have hu:=fun h9:(s.types[i]'ia).kind<=9=>ruses_ev (s.types[i]'ia) (ah _ (yx ia)).2.2 h9 _ rfl
   have gc:=(ah _ (yx ia)).2.2;rw [LQ ia] at hv;generalize s.types[i]=t at *
   have hul:t.usesL.length<=9223372036854775807:=by
    unfold XA.usesL;by_cases h8:t.kind=8 <;> by_cases h7:7<=t.kind <;> simp [h8,h7] <;> omega
   simp only [wB,qA] at hf hu;simp only [qA] at g1;have err:∀ σ' n,IC s.types i t=n->n≠0->(σ'.env 2).v=.int .i64 n->k .ret σ'=some (.int .i64 (nC s.types s.types.length 0),none):=fun σ' n h1 h2 h3=>hk _ _ (.inr ⟨rfl,by rw [h3,<- hv,h1,if_neg h2]⟩)
   cases c1:OD t with
   | false =>
    rw [c1] at hf;simp [gF,-J,-y6,-y5,y0,e1,m1,e3,da,g1,hf];exact err _ 1 (by simp [IC,c1]) (by decide) (by simp)
   | true =>
    rw [c1] at hf;have hu:=hu (sR c1).2;simp [gF,-J,-y6,-y5,y0,e1,m1,e3,da,g1,hf];refine D7 s.nl s.types i ia ea t (σ.next + 1) _ (fun σ2=>(σ2.env 1).v=.ptr 1 1 0/\σ2.mem 1 1=some [⟨.sl s.nl (s.types.map qA),.no⟩]/\(σ2.env 3).v=.int .i64 i/\(σ2.env 4).v=.ptr 4 (σ.next + 1) 0/\σ2.mem 4 (σ.next + 1)=some (pD t)) (fun a b hm ho he h=>?_) _ (fun σ2 c2 h=>?_) (fun σ2 c2 h2=>?_) _ ⟨?_,?_,?_,?_,?_⟩ ?_ ?_ ?_ ?_ ?_ ?_
    ·rw [hm,he 1 (by decide),he 3 (by decide),he 4 (by decide)];exact h
    ·obtain ⟨f1,fm,f3,f4,fp⟩:=h;simp [-J,-y6,-y5,y0,f1,fm,f3,f4,fp,hu];refine J7 s.nl s.types t.usesL hul t.usesL.isEmpty _ (fun σ2=>(σ2.env 1).v=.ptr 1 1 0/\σ2.mem 1 1=some [⟨.sl s.nl (s.types.map qA),.no⟩]/\(σ2.env 3).v=.int .i64 i/\(σ2.env 4).v=.ptr 4 (σ.next + 1) 0/\σ2.mem 4 (σ.next + 1)=some (pD t)) (fun a b hm ho he h=>?_) _ (fun σ2 c3 h=>?_) (fun σ2 c3 h2=>?_) _ ⟨?_,?_,?_,?_,?_⟩ ?_ ?_ ?_ ?_
     ·rw [hm,he 1 (by decide),he 3 (by decide),he 4 (by decide)];exact h
     ·obtain ⟨f1,fm,f3,f4,fp⟩:=h;by_cases h8:t.kind=8
      ·obtain ⟨gj,od⟩:=key_in h8 c3;have h3:t.key.toNat<s.types.length:=by omega
       have gy:(s.types.map qA)[t.key.toNat]?=some (qA s.types[t.key.toNat]):=by rw [yh,yg h3]; rfl
       have hy:bR s.types t.key=s.types[t.key.toNat].kind:=by unfold bR; rw [yg h3]
       generalize s.types[t.key.toNat]=y at *
       have th:=X0 y.kind;simp only [qA] at gy;simp only [wB] at th;by_cases c4:1<=y.kind/\y.kind<=4
       ·rw [decide_eq_true c4] at th;simp [-J,-y6,-y5,y0,f1,fm,f3,f4,fp,h8,gj,gy,th,hw];refine ih ia _ ⟨?_,?_,?_,?_⟩
        ·simp [f1]
        ·simp [fm]
        ·simp
        ·rw [<- hv,if_pos];unfold IC;rw [if_neg (by simp [c1]),if_neg c2,if_neg (by simp [c3]),if_neg fun h=>h.2 (by rw [hy]; exact c4)]
       ·rw [decide_eq_false c4] at th;simp [-J,-y6,-y5,y0,f1,fm,f3,f4,fp,h8,gj,gy,th];exact err _ 1 (by unfold IC; rw [if_neg (by simp [c1]),if_neg c2,if_neg (by simp [c3]),if_pos ⟨h8,by rw [hy]; exact c4⟩]) (by decide) (by simp)
      ·simp [-J,-y6,-y5,y0,f1,fm,f3,f4,fp,h8,hw];refine ih ia _ ⟨?_,?_,?_,?_⟩
       ·simp [f1]
       ·simp [fm]
       ·simp
       ·rw [<- hv,if_pos];unfold IC;rw [if_neg (by simp [c1]),if_neg c2,if_neg (by simp [c3]),if_neg fun h=>h8 h.1]
     ·simp [-J,-y6,-y5,y0];exact err _ 4 (by unfold IC; rw [if_neg (by simp [c1]),if_neg c2,if_pos c3]) (by decide) h2
     all_goals simp [f1,fm,f3,f4,fp]
    ·simp [-J,-y6,-y5,y0];exact err _ 1 (by unfold IC; rw [if_neg (by simp [c1]),if_pos c2]) (by decide) h2
    all_goals simp [e1,m1,e3]
  ·have da:¬ (i:Int)<s.types.length:=by omega
   simp [gF,-J,-y6,-y5,y0,e1,m1,e3,da];refine hk _ _ (.inl ⟨rfl,?_⟩);rw [<- hv,show s.types.length - i=0 from by omega,nC]
 ·refine ⟨?_,?_,?_,?_⟩ <;> simp
 ·rcases h with ⟨rfl,h1⟩ | ⟨rfl,h1⟩
  ·simp [-J,-y6,-y5,y0,h1]
  ·simp [-J,-y6,-y5,y0,h1]
end Go.Proofs.YtbhbeakhognieaaGreatDoor
