/- A part of the proof. -/
import Derived.Test.YtbhbeakhognieaaGreatDoorWe
import Derived.Test.YtbhbeakhognieaaGreatDoorWf
set_option linter.all false
set_option maxRecDepth 100000
set_option maxHeartbeats 8000000
open Option renaming bind_some → J
open List renaming range_succ → y0, map_map → y5, getElem?_map → yc, getElem?_eq_getElem → yg, getElem?_eq_some_iff → yh, drop_eq_getElem_cons → yj, drop_eq_nil_of_le → yn, mem_append → yq, mem_cons → yw, getElem_mem → yF, getElem?_cons_succ → yZ, take_append_getElem → Y08
open Int renaming toNat_lt → y6
open Bool renaming and_eq_true → ye
namespace Go.Proofs.YtbhbeakhognieaaGreatDoor
open Go
def KC (n:Nat) (u:Int):Bool:=decide (u<0)||decide ((n:Int)<=u)
def WN (l:List QA) (k:Int):Int:=match l[k.toNat]? with
 | some t=>t.kind
 | none=>0
def EC (l:List QA) (i:Nat) (t:QA):Int :=
 if zD t=false then 1
 else if t.named=true/\t.name∈(l.take i).map QA.name then 1
 else if t.usesL.any (KC l.length)=true then 4
 else if t.kind=8/\¬ (1<=WN l t.key/\WN l t.key<=4) then 1
 else 0
def dC (l:List QA):Nat->Nat->Int
 | 0,_=>0
 | n + 1,i=>match l[i]? with
  | some t=>if EC l i t=0 then dC l n (i + 1) else EC l i t
  | none=>0
def EB (l:List QA):Int:=if 32<l.length then 3 else dC l l.length 0
theorem ZT {l:List QA} {i:Nat} (h:i<l.length):dC l (l.length - i) i=if EC l i l[i]=0 then dC l (l.length - (i + 1)) (i + 1) else EC l i l[i]:=by
 rw [show l.length - i=(l.length - (i + 1)) + 1 from by omega,dC,yg h]
theorem dU {t:QA} (h:zD t=true):1<=t.kind/\t.kind<=9:=by
 unfold zD at h;rw [ye] at h;exact of_decide_eq_true h.1
theorem isName_ne {s:ByteArray} (h:cG s=true):s≠⟨#[]⟩:=fun e=>by
 subst e;unfold cG at h;simp only [ye] at h;have:=of_decide_eq_true h.1.1.1;exact this rfl
theorem i8 {t:QA} (h:zD t=true):t.named=true ↔ t.name≠⟨#[]⟩:=by
 have hk:=dU h;unfold zD GO QA.left at h;rcases kinds t.kind with e | e | e | e | e | e | e | e | e | e
 all_goals first | exact absurd hk e | skip
 all_goals simp [e,QA.same,xD,QA.named] at h ⊢
 all_goals first | exact isName_ne h.1.1 | (simp [h]; done) | skip
theorem key_in {l:List QA} {t:QA} (h8:t.kind=8) (h:t.usesL.any (KC l.length)=false):0<=t.key/\t.key<l.length:=by
 have hm:t.key∈t.usesL:=by simp [QA.usesL,h8]
 have:=List.any_eq_false.1 h _ hm;simp [KC] at this;omega
theorem Q3 (s:ByteArray):∀ l:List ByteArray,s∈l->IH (l.map ZH) (.str s) (.bool true)=l.map ZH
 | [],h=>by cases h
 | x :: r,hn=>by
  by_cases h:x=s
  ·simp [ZH,IH,lR,h]
  ·have:=Q3 s r (by
    rcases yw.1 hn with e | e
    ·exact absurd e.symm h
    ·exact e)
   simp [ZH,IH,lR,h,this]
theorem seen_next (s:ByteArray) (q:List ByteArray):∃ q':List ByteArray,IH (q.map ZH) (.str s) (.bool true)=q'.map ZH/\∀ x,x∈q' ↔ x∈q\/x=s:=by
 by_cases h:s∈q
 ·exact ⟨q,Q3 s q h,fun x=>⟨.inl,fun e=>e.elim id (fun e=>e ▸ h)⟩⟩
 ·exact ⟨q++[s],RZ s q h,fun x=>by simp⟩
def wP.fine (s:wP):Prop:=s.types.length<=9223372036854775807/\∀ t∈s.types,t.fine
theorem vuses_lp (sn:Bool) (S:List QA) (U:List Int) (hU:U.length<=9223372036854775807) (bu:Bool) (r:RV) (P:pA->Prop) (hP:∀ s s':pA,s'.mem=s.mem->s'.obj=s.obj->s'.next=s'.next->(∀ t,t ∉ [2,7,41,42,43,44,45,46,47,48,49,50,51,52,53,40]->s'.env t=s.env t)->P s->P s') (k:Ex->pA->Option RV)
  (hk:∀ s',U.any (KC S.length)=false->P s'->k (.exit 2) s'=some r) (hr:∀ s':pA,U.any (KC S.length)=true->(s'.env 2).v=.int .i64 4->k .ret s'=some r)
  (s:pA) (hs:P s) (h1:(s.env 1).v=.ptr 1 1 0) (m1:s.mem 1 1=some [⟨.sl sn (S.map iA),.no⟩]) (h38:(s.env 38).v=.sl bu (U.map CG)) (h39:(s.env 39).v=.int .i64 U.length) (h40:(s.env 40).v=.int .i64 0):zF lA dA dD s k=some r:=by
 refine IB U.length (fun i s=>P s/\(s.env 1).v=.ptr 1 1 0/\s.mem 1 1=some [⟨.sl sn (S.map iA),.no⟩]/\(s.env 38).v=.sl bu (U.map CG)/\(s.env 39).v=.int .i64 U.length/\(s.env 40).v=.int .i64 i/\(U.drop i).any (KC S.length)=U.any (KC S.length))
  (fun e s=>(e=.exit 2/\U.any (KC S.length)=false/\P s)\/(e=.ret/\U.any (KC S.length)=true/\(s.env 2).v=.int .i64 4)) (fun i hi s k h ih hk=>?_) _ _ ?_ (fun e s h=>?_)
 ·obtain ⟨hp,e1,m1,e38,e39,e40,hs⟩:=h;refine gA ?_;by_cases ba:i<U.length
  ·have ea:(i:Int)<U.length:=by omega
   have g1:(U.map CG)[i]?=some (CG U[i]):=by simp [ba]
   have hw:=eB (i:=i);rw [yj ba,List.any_cons] at hs;generalize U[i]=u at *
   simp only [CG] at g1;by_cases c1:u<0
   ·simp [dD,-J,-y6,-y5,y0,e1,m1,e38,e39,e40,ea,g1,c1];exact hk _ _ (.inr ⟨rfl,by rw [<- hs]; simp [KC,c1],by simp⟩)
   by_cases c2:(S.length:Int)<=u
   ·simp [dD,-J,-y6,-y5,y0,e1,m1,e38,e39,e40,ea,g1,c1,c2];exact hk _ _ (.inr ⟨rfl,by rw [<- hs]; simp [KC,c2],by simp⟩)
   simp [dD,-J,-y6,-y5,y0,e1,m1,e38,e39,e40,ea,g1,c1,c2,hw];refine ih ba _ ⟨hP s _ ?_ ?_ ?_ ?_ hp,?_,?_,?_,?_,?_,?_⟩
   ·rfl
   ·rfl
   ·rfl
   ·intro t ht;simp only [yw,List.not_mem_nil,or_false,not_or] at ht;simp [zK,ht]
   ·simp [e1]
   ·simp [m1]
   ·simp [e38]
   ·simp [e39]
   ·simp
   ·rw [<- hs]; simp [KC,c1,c2]
  ·have ea:¬ (i:Int)<U.length:=by omega
   simp [dD,-J,-y6,-y5,y0,e39,e40,ea];rw [yn (by omega)] at hs;refine hk _ _ (.inl ⟨rfl,hs.symm,hP s _ ?_ ?_ ?_ ?_ hp⟩)
   ·rfl
   ·rfl
   ·rfl
   ·intro t ht;simp only [yw,List.not_mem_nil,or_false,not_or] at ht;simp [zK,ht]
 ·simp [hs,h1,m1,h38,h39,h40]
 ·rcases h with ⟨rfl,h1,h2⟩ | ⟨rfl,h1,h2⟩
  ·exact hk s h1 h2
  ·exact hr s h1 h2
theorem XT (s:wP) (hs:s.fine):wB 34 [.agg (lD s)] (.int .i64 (EB s.types)):=by
 obtain ⟨da,mj⟩:=hs;refine EA (c:=zG) rfl rfl ?_;unfold EB;by_cases js:32<s.types.length
 ·have pp:(32:Int)<s.types.length:=by omega
  simp [zG,-J,-y6,-y5,y0,lD,js,pp]
 have pp:¬ (32:Int)<s.types.length:=by omega
 simp [zG,-J,-y6,-y5,y0,lD,js,pp];refine IB s.types.length (fun i σ=>(σ.env 1).v=.ptr 1 1 0/\σ.mem 1 1=some [⟨.sl s.nl (s.types.map iA),.no⟩]/\(σ.env 3).v=.mp 12 3/\(σ.env 14).v=.sl s.nl (s.types.map iA)/\(σ.env 15).v=.int .i64 s.types.length/\(σ.env 16).v=.int .i64 i/\(∃ q:List ByteArray,σ.obj 12 3=some (QG (q.map ZH))/\∀ x,x∈q ↔ x∈(s.types.take i).map QA.name)/\dC s.types (s.types.length - i) i=dC s.types s.types.length 0)
  (fun e σ=>(e=.exit 0/\dC s.types s.types.length 0=0)\/(e=.ret/\(σ.env 2).v=.int .i64 (dC s.types s.types.length 0))) (fun i hi σ k h ih hk=>?_) _ _ ?_ (fun e σ h=>?_)
 ·obtain ⟨e1,m1,e3,e14,bj,gk,⟨q,o,hq⟩,hv⟩:=h;refine gA ?_;by_cases ba:i<s.types.length
  ·have ea:(i:Int)<s.types.length:=by omega
   have g1:(s.types.map iA)[i]?=some (iA s.types[i]):=by simp [ba]
   have hw:=eB (i:=i);have ht:s.types.take (i + 1)=s.types.take i++[s.types[i]]:=(Y08 ba).symm;have hf:=form_ev s.types[i] (mj _ (yF _));have hu:=uses_ev s.types[i] (mj _ (yF _)).2.2 _ rfl;have kb:=(mj _ (yF ba)).2.2;rw [ZT ba] at hv;generalize s.types[i]=t at *
   have hul:t.usesL.length<=9223372036854775807:=by
    unfold QA.usesL;by_cases h8:t.kind=8 <;> by_cases h7:7<=t.kind <;> simp [h8,h7] <;> omega
   simp only [wB,iA] at hf hu;simp only [iA] at g1;have hg:=EZ t.name q;have cw:=p5 q;obtain ⟨q',ul,we⟩:=seen_next t.name q;have err:∀ σ' n,EC s.types i t=n->n≠0->(σ'.env 2).v=.int .i64 n->k .ret σ'=some (.int .i64 (dC s.types s.types.length 0),none):=fun σ' n h1 h2 h3=>hk _ _ (.inr ⟨rfl,by rw [h3,<- hv,h1,if_neg h2]⟩)
   cases c1:zD t with
   | false =>
    rw [c1] at hf;simp [kB,-J,-y6,-y5,y0,e1,m1,e3,e14,bj,gk,ea,g1,hf];exact err _ 1 (by simp [EC,c1]) (by decide) (by simp)
   | true =>
    rw [c1] at hf;have gd:=i8 c1;have dup:t.name≠⟨#[]⟩->t.name∈q->kB.run (rD lA dA) (IF lA dA) σ (RK (zF lA dA) kB k)=some (.int .i64 (dC s.types s.types.length 0),none):=by
     intro hn zf;have hd:=eq_false hn;rw [if_pos zf] at hg;simp [kB,-J,-y6,-y5,y0,e1,m1,e3,e14,bj,gk,ea,g1,hf,hd,o,aI,cw,GH,AV.flat,AV.scal,hg];exact err _ 1 (by unfold EC; rw [if_neg (by simp [c1]),if_pos ⟨gd.2 hn,(hq _).1 zf⟩]) (by decide) (by simp)
    have go:(t.name=⟨#[]⟩\/t.name≠⟨#[]⟩/\¬ t.name∈q)->kB.run (rD lA dA) (IF lA dA) σ (RK (zF lA dA) kB k)=some (.int .i64 (dC s.types s.types.length 0),none):=by
     intro hn;have c2:¬ (t.named=true/\t.name∈(s.types.take i).map QA.name):=fun ⟨h1,h2⟩=>by
      rcases hn with hn | hn
      ·exact (gd.1 h1) hn
      ·exact hn.2 ((hq _).2 h2)
     have mI:∀ (σ':pA) (k':Ex->pA->Option RV) (p:Nat),(∀ σ2:pA,(σ2.env 2).v=.int .i64 4->k' .ret σ2=k .ret σ2) →
       (∀ σ2:pA,(σ2.env 1).v=.ptr 1 1 0->σ2.mem 1 1=some [⟨.sl s.nl (s.types.map iA),.no⟩]->(σ2.env 3).v=.mp 12 3->(σ2.env 14).v=.sl s.nl (s.types.map iA)->(σ2.env 15).v=.int .i64 s.types.length->(σ2.env 16).v=.int .i64 i->σ2.obj 12 3=some (QG (q'.map ZH))->(σ2.env 5).v=.ptr 5 p 0->σ2.mem 5 p=some (wE t)->t.usesL.any (KC s.types.length)=false->k' (.exit 2) σ2=some (.int .i64 (dC s.types s.types.length 0),none)) →
       (σ'.env 1).v=.ptr 1 1 0->σ'.mem 1 1=some [⟨.sl s.nl (s.types.map iA),.no⟩]->(σ'.env 3).v=.mp 12 3->(σ'.env 14).v=.sl s.nl (s.types.map iA)->(σ'.env 15).v=.int .i64 s.types.length->(σ'.env 16).v=.int .i64 i->σ'.obj 12 3=some (QG (q'.map ZH))->(σ'.env 5).v=.ptr 5 p 0->σ'.mem 5 p=some (wE t)->(σ'.env 38).v=.sl t.usesL.isEmpty (t.usesL.map CG)->(σ'.env 39).v=.int .i64 t.usesL.length->(σ'.env 40).v=.int .i64 0->zF lA dA dD σ' k'=some (.int .i64 (dC s.types s.types.length 0),none):=by
      intro σ' k' p hret kj f1 fm f3 mt ot pt fo f5 fp f38 f39 f40;refine vuses_lp s.nl s.types t.usesL hul t.usesL.isEmpty _ (fun σ2=>(σ2.env 1).v=.ptr 1 1 0/\σ2.mem 1 1=some [⟨.sl s.nl (s.types.map iA),.no⟩]/\(σ2.env 3).v=.mp 12 3/\(σ2.env 14).v=.sl s.nl (s.types.map iA)/\(σ2.env 15).v=.int .i64 s.types.length/\(σ2.env 16).v=.int .i64 i/\σ2.obj 12 3=some (QG (q'.map ZH))/\(σ2.env 5).v=.ptr 5 p 0/\σ2.mem 5 p=some (wE t)) (fun a b hm ho _ he h=>?_) k' (fun σ2 hu h=>?_) (fun σ2 hu h2=>?_) σ' ⟨f1,fm,f3,mt,ot,pt,fo,f5,fp⟩ f1 fm f38 f39 f40
      ·rw [hm,ho,he 1 (by decide),he 3 (by decide),he 14 (by decide),he 15 (by decide),he 16 (by decide),he 5 (by decide)];exact h
      ·obtain ⟨f1,fm,f3,mt,ot,pt,fo,f5,fp⟩:=h;exact kj σ2 f1 fm f3 mt ot pt fo f5 fp hu
      ·rw [hret σ2 h2];exact err _ 4 (by unfold EC; rw [if_neg (by simp [c1]),if_neg c2,if_pos hu]) (by decide) h2
     have key:t.usesL.any (KC s.types.length)=false->t.kind=8->0<=t.key/\∃ y:QA,(s.types.map iA)[t.key.toNat]?=some (iA y)/\WN s.types t.key=y.kind:=fun hu h8=>by
      obtain ⟨h1,h2⟩:=key_in h8 hu;have h3:t.key.toNat<s.types.length:=by omega
      exact ⟨h1,s.types[t.key.toNat],by rw [yc,yg h3]; rfl,by unfold WN; rw [yg h3]⟩
     have next:EC s.types i t=0->∀ σ2:pA,(σ2.env 1).v=.ptr 1 1 0->σ2.mem 1 1=some [⟨.sl s.nl (s.types.map iA),.no⟩]->(σ2.env 3).v=.mp 12 3->(σ2.env 14).v=.sl s.nl (s.types.map iA)->(σ2.env 15).v=.int .i64 s.types.length->(σ2.env 16).v=.int .i64 ((i + 1:Nat):Int)->σ2.obj 12 3=some (QG (q'.map ZH))->zF lA dA kB σ2 k=some (.int .i64 (dC s.types s.types.length 0),none):=fun h0 σ2 f1 fm f3 mt ot pt fo=>ih ba _ ⟨f1,fm,f3,mt,ot,pt,⟨q',fo,fun x=>by rw [we,ht,List.map_append,yq,hq]; simp⟩,by rw [<- hv,h0]; rfl⟩
     have hgn:t.name=⟨#[]⟩\/t.name≠⟨#[]⟩/\MI (q.map ZH) (.str t.name)=none:=by
      rcases hn with hn | ⟨h1,h2⟩
      ·exact .inl hn
      ·exact .inr ⟨h1,by rw [hg,if_neg h2]⟩
     rcases hgn with hd | ⟨hd,hg⟩
     ·have hd:=eq_true hd;simp [kB,-J,-y6,-y5,y0,e1,m1,e3,e14,bj,gk,ea,g1,hf,hu,hd,o,aI,cw,GH,AV.flat,AV.scal,ul];refine mI _ _ (σ.next + 1) (fun σ2 _=>rfl) (fun σ2 f1 fm f3 mt ot pt fo f5 fp de=>?_) ?_ ?_ ?_ ?_ ?_ ?_ ?_ ?_ ?_ ?_ ?_ ?_
      rotate_left
      ·simp [e1]
      ·simp [m1]
      ·simp [e3]
      ·simp [e14]
      ·simp [bj]
      ·simp [gk]
      ·simp
      ·simp
      ·simp
      ·simp
      ·simp
      ·simp
      have c3:=de;by_cases h8:t.kind=8
      ·obtain ⟨ze,y,gy,hy⟩:=key de h8;simp only [iA] at gy;by_cases c4:y.kind<1
       ·simp [-J,-y6,-y5,y0,f1,fm,f5,fp,h8,ze,gy,c4];exact err _ 1 (by unfold EC; rw [if_neg (by simp [c1]),if_neg c2,if_neg (by simp [c3]),if_pos ⟨h8,by rw [hy]; omega⟩]) (by decide) (by simp)
       ·by_cases c5:4<y.kind
        ·simp [-J,-y6,-y5,y0,f1,fm,f5,fp,h8,ze,gy,c4,c5];exact err _ 1 (by unfold EC; rw [if_neg (by simp [c1]),if_neg c2,if_neg (by simp [c3]),if_pos ⟨h8,by rw [hy]; omega⟩]) (by decide) (by simp)
        ·simp [-J,-y6,-y5,y0,f1,fm,f5,fp,pt,h8,ze,gy,c4,c5,hw];refine next (by unfold EC; rw [if_neg (by simp [c1]),if_neg c2,if_neg (by simp [c3]),if_neg fun h=>h.2 (by rw [hy]; omega)]) _ ?_ ?_ ?_ ?_ ?_ ?_ ?_ <;> simp [f1,fm,f3,mt,ot,fo]
      ·simp [-J,-y6,-y5,y0,f1,fm,f5,fp,pt,h8,hw];refine next (by unfold EC; rw [if_neg (by simp [c1]),if_neg c2,if_neg (by simp [c3]),if_neg fun h=>h8 h.1]) _ ?_ ?_ ?_ ?_ ?_ ?_ ?_ <;> simp [f1,fm,f3,mt,ot,fo]
     ·have hd:=eq_false hd;simp [kB,-J,-y6,-y5,y0,e1,m1,e3,e14,bj,gk,ea,g1,hf,hu,hd,hg,o,aI,cw,GH,AV.flat,AV.scal,ul];refine mI _ _ (σ.next + 1) (fun σ2 _=>rfl) (fun σ2 f1 fm f3 mt ot pt fo f5 fp de=>?_) ?_ ?_ ?_ ?_ ?_ ?_ ?_ ?_ ?_ ?_ ?_ ?_
      rotate_left
      ·simp [e1]
      ·simp [m1]
      ·simp [e3]
      ·simp [e14]
      ·simp [bj]
      ·simp [gk]
      ·simp
      ·simp
      ·simp
      ·simp
      ·simp
      ·simp
      have c3:=de;by_cases h8:t.kind=8
      ·obtain ⟨ze,y,gy,hy⟩:=key de h8;simp only [iA] at gy;by_cases c4:y.kind<1
       ·simp [-J,-y6,-y5,y0,f1,fm,f5,fp,h8,ze,gy,c4];exact err _ 1 (by unfold EC; rw [if_neg (by simp [c1]),if_neg c2,if_neg (by simp [c3]),if_pos ⟨h8,by rw [hy]; omega⟩]) (by decide) (by simp)
       ·by_cases c5:4<y.kind
        ·simp [-J,-y6,-y5,y0,f1,fm,f5,fp,h8,ze,gy,c4,c5];exact err _ 1 (by unfold EC; rw [if_neg (by simp [c1]),if_neg c2,if_neg (by simp [c3]),if_pos ⟨h8,by rw [hy]; omega⟩]) (by decide) (by simp)
        ·simp [-J,-y6,-y5,y0,f1,fm,f5,fp,pt,h8,ze,gy,c4,c5,hw];refine next (by unfold EC; rw [if_neg (by simp [c1]),if_neg c2,if_neg (by simp [c3]),if_neg fun h=>h.2 (by rw [hy]; omega)]) _ ?_ ?_ ?_ ?_ ?_ ?_ ?_ <;> simp [f1,fm,f3,mt,ot,fo]
      ·simp [-J,-y6,-y5,y0,f1,fm,f5,fp,pt,h8,hw];refine next (by unfold EC; rw [if_neg (by simp [c1]),if_neg c2,if_neg (by simp [c3]),if_neg fun h=>h8 h.1]) _ ?_ ?_ ?_ ?_ ?_ ?_ ?_ <;> simp [f1,fm,f3,mt,ot,fo]
    by_cases zf:t.name≠⟨#[]⟩/\t.name∈q
    ·exact dup zf.1 zf.2
    ·refine go ?_;by_cases he:t.name=⟨#[]⟩
     ·exact .inl he
     ·exact .inr ⟨he,fun h=>zf ⟨he,h⟩⟩
  ·have ea:¬ (i:Int)<s.types.length:=by omega
   simp [kB,-J,-y6,-y5,y0,bj,gk,ea];refine hk _ _ (.inl ⟨rfl,?_⟩);rw [<- hv,show s.types.length - i=0 from by omega,dC]
 ·refine ⟨?_,?_,?_,?_,?_,?_,⟨[],?_,?_⟩,?_⟩ <;> simp [QG]
 ·rcases h with ⟨rfl,h1⟩ | ⟨rfl,h1⟩
  ·simp [-J,-y6,-y5,y0,h1]
  ·simp [-J,-y6,-y5,y0,h1]
def GC {α:Type} (p:α->Bool):List α->Int
 | []=>-1
 | x :: r=>if p x=true then 0 else if GC p r=-1 then -1 else GC p r + 1
theorem aG {α:Type} (p:α->Bool):∀ l:List α,-1<=GC p l
 | []=>by simp [GC]
 | x :: r=>by
  have:=aG p r;simp only [GC];split
  ·omega
  ·split <;> omega
theorem fQ {α:Type} (p:α->Bool) (x:α) (r:List α) (h:p x=false):GC p (x :: r)=if GC p r=-1 then -1 else GC p r + 1:=by simp [GC,h]
theorem FH {α:Type} (p:α->Bool):∀ l:List α,GC p l≠-1->∃ x,l[(GC p l).toNat]?=some x/\p x=true
 | [],h=>absurd rfl h
 | x :: r,h=>by
  simp only [GC] at h ⊢;by_cases hx:p x=true
  ·rw [if_pos hx]; exact ⟨x,rfl,hx⟩
  ·rw [if_neg hx] at h ⊢;by_cases h1:GC p r=-1
   ·rw [if_pos h1] at h; exact absurd rfl h
   ·rw [if_neg h1];obtain ⟨y,h2,h3⟩:=FH p r h1;have:=aG p r;refine ⟨y,?_,h3⟩;rw [show (GC p r + 1).toNat=(GC p r).toNat + 1 from by omega,yZ];exact h2
theorem iX {α:Type} (p:α->Bool) (l:List α):GC p l<l.length:=by
 by_cases h:GC p l=-1
 ·omega
 ·obtain ⟨x,h1,_⟩:=FH p l h;have:=(yh.1 h1).1;have:=aG p l;omega
theorem qL {α:Type} (p:α->Bool):∀ l:List α,(decide (0<=GC p l))=l.any p
 | []=>by simp [GC]
 | x :: r=>by
  have h1:=qL p r;have h2:=aG p r;rw [List.any_cons,<- h1];simp only [GC];by_cases hx:p x=true
  ·simp [hx]
  ·by_cases h:GC p r=-1
   ·simp [hx,h]
   ·simp [hx,h]; omega
theorem CZ (F:Nat) (caps:List AV) (l:List fB) (p:fB->Bool) (hl:l.length<=9223372036854775807) (ff:∀ (s:pA) (cl:Cl),kD s cl caps=some caps) (hF:∀ x∈l,wB F (.agg (fA x) :: caps) (.bool (p x))) (b:Bool):wB 105 [.sl b (l.map fA),.fn F caps] (.int .i64 (GC p l)):=by
 refine EA (c:=OC) rfl rfl ?_;simp [OC,-J,-y6,-y5,y0];refine IB l.length (fun i s=>(s.env 0).v=.sl b (l.map fA)/\(s.env 1).v=.fn F caps/\(s.env 7).v=.int .i64 l.length/\(s.env 8).v=.int .i64 i/\GC p l=(if GC p (l.drop i)=-1 then -1 else GC p (l.drop i) + i))
  (fun e s=>(e=.exit 0/\GC p l=-1)\/(e=.ret/\(s.env 4).v=.int .i64 (GC p l))) (fun i hi s k h ih hk=>?_) _ _ ?_ (fun e s h=>?_)
 ·obtain ⟨e0,e1,e7,e8,hs⟩:=h;refine gA ?_;by_cases ba:i<l.length
  ·have ea:(i:Int)<l.length:=by omega
   have g1:(l.map fA)[i]?=some (fA l[i]):=by simp [ba]
   have hw:=eB (i:=i);have hx:=hF l[i] (yF _);rw [yj ba] at hs;generalize l[i]=x at *
   simp only [wB,fA] at g1 hx;cases hp:p x with
   | true =>
    rw [hp] at hx;simp [pC,-J,-y6,-y5,y0,e0,e1,e7,e8,ea,g1,ff,hx];refine hk _ _ (.inr ⟨rfl,?_⟩);simp [hs,GC,hp]
   | false =>
    rw [hp] at hx;simp [pC,-J,-y6,-y5,y0,e0,e1,e7,e8,ea,g1,ff,hx,hw];refine ih ba _ ⟨?_,?_,?_,?_,?_⟩
    ·simp [e0]
    ·simp [e1]
    ·simp [e7]
    ·simp
    ·rw [hs,fQ p x _ hp];have:=aG p (l.drop (i + 1));by_cases h1:GC p (l.drop (i + 1))=-1
     ·simp [h1]
     ·have h2:¬ GC p (l.drop (i + 1)) + 1=-1:=by omega
      rw [if_neg h1,if_neg h2,if_neg h1];omega
  ·have ea:¬ (i:Int)<l.length:=by omega
   simp [pC,-J,-y6,-y5,y0,e7,e8,ea];rw [yn (by omega)] at hs;exact hk _ _ (.inl ⟨rfl,hs⟩)
 ·have:=aG p l;by_cases h1:GC p l=-1 <;> simp [h1]
 ·rcases h with ⟨rfl,h1⟩ | ⟨rfl,h1⟩ <;> simp [-J,-y6,-y5,y0,h1]
theorem BZ (F:Nat) (caps:List AV) (l:List LC) (p:LC->Bool) (hl:l.length<=9223372036854775807) (ff:∀ (s:pA) (cl:Cl),kD s cl caps=some caps) (hF:∀ x∈l,wB F (.agg (jA x) :: caps) (.bool (p x))) (b:Bool):wB 109 [.sl b (l.map jA),.fn F caps] (.int .i64 (GC p l)):=by
 refine EA (c:=PC) rfl rfl ?_;simp [PC,-J,-y6,-y5,y0];refine IB l.length (fun i s=>(s.env 0).v=.sl b (l.map jA)/\(s.env 1).v=.fn F caps/\(s.env 7).v=.int .i64 l.length/\(s.env 8).v=.int .i64 i/\GC p l=(if GC p (l.drop i)=-1 then -1 else GC p (l.drop i) + i))
  (fun e s=>(e=.exit 0/\GC p l=-1)\/(e=.ret/\(s.env 4).v=.int .i64 (GC p l))) (fun i hi s k h ih hk=>?_) _ _ ?_ (fun e s h=>?_)
 ·obtain ⟨e0,e1,e7,e8,hs⟩:=h;refine gA ?_;by_cases ba:i<l.length
  ·have ea:(i:Int)<l.length:=by omega
   have g1:(l.map jA)[i]?=some (jA l[i]):=by simp [ba]
   have hw:=eB (i:=i);have hx:=hF l[i] (yF _);rw [yj ba] at hs;generalize l[i]=x at *
   simp only [wB,jA] at g1 hx;cases hp:p x with
   | true =>
    rw [hp] at hx;simp [aC,-J,-y6,-y5,y0,e0,e1,e7,e8,ea,g1,ff,hx];refine hk _ _ (.inr ⟨rfl,?_⟩);simp [hs,GC,hp]
   | false =>
    rw [hp] at hx;simp [aC,-J,-y6,-y5,y0,e0,e1,e7,e8,ea,g1,ff,hx,hw];refine ih ba _ ⟨?_,?_,?_,?_,?_⟩
    ·simp [e0]
    ·simp [e1]
    ·simp [e7]
    ·simp
    ·rw [hs,fQ p x _ hp];have:=aG p (l.drop (i + 1));by_cases h1:GC p (l.drop (i + 1))=-1
     ·simp [h1]
     ·have h2:¬ GC p (l.drop (i + 1)) + 1=-1:=by omega
      rw [if_neg h1,if_neg h2,if_neg h1];omega
  ·have ea:¬ (i:Int)<l.length:=by omega
   simp [aC,-J,-y6,-y5,y0,e7,e8,ea];rw [yn (by omega)] at hs;exact hk _ _ (.inl ⟨rfl,hs⟩)
 ·have:=aG p l;by_cases h1:GC p l=-1 <;> simp [h1]
 ·rcases h with ⟨rfl,h1⟩ | ⟨rfl,h1⟩ <;> simp [-J,-y6,-y5,y0,h1]
def TB (l:List fB) (id:Int):Int:=GC (fun x=>decide (x.id=id)) l
def R8 (l:List fB) (id:Int):AV:=.tup [.int .i64 (max (TB l id) 0),.bool (decide (0<=TB l id))]
theorem EH (t:QA) (id:Int) (hl:t.mems.length<=9223372036854775807):wB 82 [.agg (iA t),.int .i64 id] (R8 t.mems id):=by
 refine EA (c:=eI) rfl rfl ?_;obtain ⟨p,hp⟩:∃ p:fB->Bool,p=fun x=>decide (x.id=id):=⟨_,rfl⟩
 unfold R8 TB;rw [<- hp];simp [eI,-J,-y6,-y5,y0,iA];refine IB t.mems.length (fun i s=>(s.env 1).v=.int .i64 id/\(s.env 2).v=.ptr 2 1 0/\s.mem 2 1=some (wE t)/\(s.env 6).v=.int .i64 i/\GC p t.mems=(if GC p (t.mems.drop i)=-1 then -1 else GC p (t.mems.drop i) + i))
  (fun e s=>(e=.exit 0/\GC p t.mems=-1)\/(e=.ret/\0<=GC p t.mems/\(s.env 4).v=.int .i64 (GC p t.mems)/\(s.env 5).v=.bool true)) (fun i hi s k h ih hk=>?_) _ _ ?_ (fun e s h=>?_)
 ·obtain ⟨e1,e2,m2,e6,hs⟩:=h;refine gA ?_;by_cases ba:i<t.mems.length
  ·have ea:(i:Int)<t.mems.length:=by omega
   have g1:(t.mems.map fA)[i]?=some (fA t.mems[i]):=by simp [ba]
   have hw:=eB (i:=i);rw [yj ba] at hs;generalize t.mems[i]=x at *
   simp only [fA] at g1;by_cases hx:x.id=id
   ·simp [uG,-J,-y6,-y5,y0,e1,e2,m2,e6,ea,g1,hx];have jy:p x=true:=by rw [hp]; exact decide_eq_true hx
    refine hk _ _ (.inr ⟨rfl,?_,?_,?_⟩)
    ·rw [hs]; simp [GC,jy]
    ·simp [hs,GC,jy]
    ·simp
   ·have jy:p x=false:=by rw [hp]; exact decide_eq_false hx
    simp [uG,-J,-y6,-y5,y0,e1,e2,m2,e6,ea,g1,hx,hw];refine ih ba _ ⟨?_,?_,?_,?_,?_⟩
    ·simp [e1]
    ·simp [e2]
    ·simp [m2]
    ·simp
    ·rw [hs,fQ p x _ jy];have:=aG p (t.mems.drop (i + 1));by_cases h1:GC p (t.mems.drop (i + 1))=-1
     ·simp [h1]
     ·have h2:¬ GC p (t.mems.drop (i + 1)) + 1=-1:=by omega
      rw [if_neg h1,if_neg h2,if_neg h1];omega
  ·have ea:¬ (i:Int)<t.mems.length:=by omega
   simp [uG,-J,-y6,-y5,y0,e2,m2,e6,ea];rw [yn (by omega)] at hs;exact hk _ _ (.inl ⟨rfl,hs⟩)
 ·have:=aG p t.mems;by_cases h1:GC p t.mems=-1 <;> simp [h1]
 ·rcases h with ⟨rfl,h1⟩ | ⟨rfl,h0,h1,h2⟩
  ·simp [-J,-y6,-y5,y0,h1];rfl
  ·simp [-J,-y6,-y5,y0,h1,h2,h0,Int.max_eq_left h0]
def UB (l:List LC) (id:Int):Int:=GC (fun x=>decide (x.id=id)) l
def i9 (l:List LC) (id:Int):AV:=.tup [.int .i64 (max (UB l id) 0),.bool (decide (0<=UB l id))]
theorem RH (t:QA) (id:Int) (hl:t.syms.length<=9223372036854775807):wB 83 [.agg (iA t),.int .i64 id] (i9 t.syms id):=by
 refine EA (c:=rI) rfl rfl ?_;obtain ⟨p,hp⟩:∃ p:LC->Bool,p=fun x=>decide (x.id=id):=⟨_,rfl⟩
 unfold i9 UB;rw [<- hp];simp [rI,-J,-y6,-y5,y0,iA];refine IB t.syms.length (fun i s=>(s.env 1).v=.int .i64 id/\(s.env 2).v=.ptr 2 1 0/\s.mem 2 1=some (wE t)/\(s.env 6).v=.int .i64 i/\GC p t.syms=(if GC p (t.syms.drop i)=-1 then -1 else GC p (t.syms.drop i) + i))
  (fun e s=>(e=.exit 0/\GC p t.syms=-1)\/(e=.ret/\0<=GC p t.syms/\(s.env 4).v=.int .i64 (GC p t.syms)/\(s.env 5).v=.bool true)) (fun i hi s k h ih hk=>?_) _ _ ?_ (fun e s h=>?_)
 ·obtain ⟨e1,e2,m2,e6,hs⟩:=h;refine gA ?_;by_cases ba:i<t.syms.length
  ·have ea:(i:Int)<t.syms.length:=by omega
   have g1:(t.syms.map jA)[i]?=some (jA t.syms[i]):=by simp [ba]
   have hw:=eB (i:=i);rw [yj ba] at hs;generalize t.syms[i]=x at *
   simp only [jA] at g1;by_cases hx:x.id=id
   ·simp [iG,-J,-y6,-y5,y0,e1,e2,m2,e6,ea,g1,hx];have jy:p x=true:=by rw [hp]; exact decide_eq_true hx
    refine hk _ _ (.inr ⟨rfl,?_,?_,?_⟩)
    ·rw [hs]; simp [GC,jy]
    ·simp [hs,GC,jy]
    ·simp
   ·have jy:p x=false:=by rw [hp]; exact decide_eq_false hx
    simp [iG,-J,-y6,-y5,y0,e1,e2,m2,e6,ea,g1,hx,hw];refine ih ba _ ⟨?_,?_,?_,?_,?_⟩
    ·simp [e1]
    ·simp [e2]
    ·simp [m2]
    ·simp
    ·rw [hs,fQ p x _ jy];have:=aG p (t.syms.drop (i + 1));by_cases h1:GC p (t.syms.drop (i + 1))=-1
     ·simp [h1]
     ·have h2:¬ GC p (t.syms.drop (i + 1)) + 1=-1:=by omega
      rw [if_neg h1,if_neg h2,if_neg h1];omega
  ·have ea:¬ (i:Int)<t.syms.length:=by omega
   simp [iG,-J,-y6,-y5,y0,e2,m2,e6,ea];rw [yn (by omega)] at hs;exact hk _ _ (.inl ⟨rfl,hs⟩)
 ·have:=aG p t.syms;by_cases h1:GC p t.syms=-1 <;> simp [h1]
 ·rcases h with ⟨rfl,h1⟩ | ⟨rfl,h0,h1,h2⟩
  ·simp [-J,-y6,-y5,y0,h1];rfl
  ·simp [-J,-y6,-y5,y0,h1,h2,h0,Int.max_eq_left h0]
theorem rnames_lp (sn:Bool) (S:List QA) (i:Nat) (hiS:i<S.length) (hS:S.length<=9223372036854775807) (t:QA) (p:Nat) (r:RV) (P:pA->Prop) (hP:∀ s s':pA,s'.mem=s.mem->s'.obj=s.obj->(∀ t,t ∉ [2,5,27,28,29,30,31,32,33,34,35,36,37,38,39,40,41,42,43,44,45]->s'.env t=s.env t)->P s->P s') (k:Ex->pA->Option RV)
  (hk:∀ s',¬ (t.named=true/\t.name∈(S.take i).map QA.name)->P s'->k (.exit 2) s'=some r) (hr:∀ s':pA,t.named=true/\t.name∈(S.take i).map QA.name->(s'.env 2).v=.int .i64 1->k .ret s'=some r)
  (s:pA) (hs:P s) (h1:(s.env 1).v=.ptr 1 1 0) (m1:s.mem 1 1=some [⟨.sl sn (S.map iA),.no⟩]) (h3:(s.env 3).v=.int .i64 i) (h4:(s.env 4).v=.ptr 4 p 0) (m4:s.mem 4 p=some (wE t)) (h5:(s.env 5).v=.int .i64 0):zF lA dA PD s k=some r:=by
 have gd:=WG t.kind;change wB _ _ (.bool t.named) at gd;simp only [wB] at gd;refine IB i (fun j s=>P s/\(s.env 1).v=.ptr 1 1 0/\s.mem 1 1=some [⟨.sl sn (S.map iA),.no⟩]/\(s.env 3).v=.int .i64 i/\(s.env 4).v=.ptr 4 p 0/\s.mem 4 p=some (wE t)/\(s.env 5).v=.int .i64 j/\¬ (t.named=true/\t.name∈(S.take j).map QA.name))
  (fun e s=>(e=.exit 2/\¬ (t.named=true/\t.name∈(S.take i).map QA.name)/\P s)\/(e=.ret/\(t.named=true/\t.name∈(S.take i).map QA.name)/\(s.env 2).v=.int .i64 1)) (fun j hj s k h ih hk=>?_) _ _ ?_ (fun e s h=>?_)
 ·obtain ⟨hp,e1,m1,e3,e4,m4,e5,hs⟩:=h;refine gA ?_;by_cases ba:j<i
  ·have ea:(j:Int)<i:=by omega
   have hjS:j<S.length:=by omega
   have g1:(S.map iA)[j]?=some (iA S[j]):=by simp [hjS]
   have hw:=eB (i:=j);have ht:S.take (j + 1)=S.take j++[S[j]]:=(Y08 hjS).symm;have we:S[j]∈S.take i:=List.mem_take_iff_getElem.2 ⟨j,by omega,rfl⟩;generalize S[j]=u at *
   simp only [iA] at g1;have nxt:∀ s',s'.mem=s.mem->s'.obj=s.obj->(∀ t,t ∉ [2,5,27,28,29,30,31,32,33,34,35,36,37,38,39,40,41,42,43,44,45]->s'.env t=s.env t)->(s'.env 5).v=.int .i64 ((j + 1:Nat):Int)->¬ (t.named=true/\u.name=t.name)->zF lA dA PD s' k=some r:=fun s' hm ho he h5 hn=>by
    refine ih ba _ ⟨hP s s' hm ho he hp,?_,?_,?_,?_,?_,h5,?_⟩
    ·rw [he 1 (by decide)]; exact e1
    ·rw [hm]; exact m1
    ·rw [he 3 (by decide)]; exact e3
    ·rw [he 4 (by decide)]; exact e4
    ·rw [hm]; exact m4
    ·rw [ht,List.map_append,yq];rintro ⟨h1,h2 | h2⟩
     ·exact hs ⟨h1,h2⟩
     ·simp at h2; exact hn ⟨h1,h2.symm⟩
   cases hb:t.named with
   | false =>
    rw [hb] at gd;simp [PD,-J,-y6,-y5,y0,e1,m1,e3,e4,m4,e5,ea,g1,gd,hw];refine nxt _ rfl rfl ?_ ?_ (by simp [hb])
    ·intro t ht;simp only [yw,List.not_mem_nil,or_false,not_or] at ht;simp [zK,ht]
    ·simp
   | true =>
    rw [hb] at gd;by_cases za:u.name=t.name
    ·simp [PD,-J,-y6,-y5,y0,e1,m1,e3,e4,m4,e5,ea,g1,gd,za];exact hk _ _ (.inr ⟨rfl,⟨hb,za ▸ List.mem_map_of_mem we⟩,by simp⟩)
    ·simp [PD,-J,-y6,-y5,y0,e1,m1,e3,e4,m4,e5,ea,g1,gd,za,hw];refine nxt _ rfl rfl ?_ ?_ (by simp [za])
     ·intro t ht;simp only [yw,List.not_mem_nil,or_false,not_or] at ht;simp [zK,ht]
     ·simp
  ·have ea:¬ (j:Int)<i:=by omega
   have gt:j=i:=by omega
   simp [PD,-J,-y6,-y5,y0,e3,e5,ea];refine hk _ _ (.inl ⟨rfl,gt ▸ hs,hP s _ rfl rfl ?_ hp⟩);intro t ht;simp only [yw,List.not_mem_nil,or_false,not_or] at ht;simp [zK,ht]
 ·simp [hs,h1,m1,h3,h4,m4,h5]
 ·rcases h with ⟨rfl,h1,h2⟩ | ⟨rfl,h1,h2⟩
  ·exact hk s h1 h2
  ·exact hr s h1 h2
theorem rvuses_lp (sn:Bool) (S:List QA) (U:List Int) (hU:U.length<=9223372036854775807) (bu:Bool) (r:RV) (P:pA->Prop) (hP:∀ s s':pA,s'.mem=s.mem->s'.obj=s.obj->(∀ t,t ∉ [2,7,48,49,50,51,52,53,54,55,56,57,58,59,60,61,62,63,64,65,66,67,68]->s'.env t=s.env t)->P s->P s') (k:Ex->pA->Option RV)
  (hk:∀ s',U.any (KC S.length)=false->P s'->k (.exit 4) s'=some r) (hr:∀ s':pA,U.any (KC S.length)=true->(s'.env 2).v=.int .i64 4->k .ret s'=some r)
  (s:pA) (hs:P s) (h1:(s.env 1).v=.ptr 1 1 0) (m1:s.mem 1 1=some [⟨.sl sn (S.map iA),.no⟩]) (h6:(s.env 6).v=.sl bu (U.map CG)) (h7:(s.env 7).v=.int .i64 0):zF lA dA sE s k=some r:=by
 refine IB U.length (fun i s=>P s/\(s.env 1).v=.ptr 1 1 0/\s.mem 1 1=some [⟨.sl sn (S.map iA),.no⟩]/\(s.env 6).v=.sl bu (U.map CG)/\(s.env 7).v=.int .i64 i/\(U.drop i).any (KC S.length)=U.any (KC S.length))
  (fun e s=>(e=.exit 4/\U.any (KC S.length)=false/\P s)\/(e=.ret/\U.any (KC S.length)=true/\(s.env 2).v=.int .i64 4)) (fun i hi s k h ih hk=>?_) _ _ ?_ (fun e s h=>?_)
 ·obtain ⟨hp,e1,m1,e6,e7,hs⟩:=h;refine gA ?_;by_cases ba:i<U.length
  ·have ea:(i:Int)<U.length:=by omega
   have g1:(U.map CG)[i]?=some (CG U[i]):=by simp [ba]
   have hw:=eB (i:=i);rw [yj ba,List.any_cons] at hs;generalize U[i]=u at *
   simp only [CG] at g1;by_cases c1:u<0
   ·simp [sE,-J,-y6,-y5,y0,e1,m1,e6,e7,ea,g1,c1];exact hk _ _ (.inr ⟨rfl,by rw [<- hs]; simp [KC,c1],by simp⟩)
   by_cases c2:(S.length:Int)<=u
   ·simp [sE,-J,-y6,-y5,y0,e1,m1,e6,e7,ea,g1,c1,c2];exact hk _ _ (.inr ⟨rfl,by rw [<- hs]; simp [KC,c2],by simp⟩)
   simp [sE,-J,-y6,-y5,y0,e1,m1,e6,e7,ea,g1,c1,c2,hw];refine ih ba _ ⟨hP s _ rfl rfl ?_ hp,?_,?_,?_,?_,?_⟩
   ·intro t ht;simp only [yw,List.not_mem_nil,or_false,not_or] at ht;simp [zK,ht]
   ·simp [e1]
   ·simp [m1]
   ·simp [e6]
   ·simp
   ·rw [<- hs]; simp [KC,c1,c2]
  ·have ea:¬ (i:Int)<U.length:=by omega
   simp [sE,-J,-y6,-y5,y0,e6,e7,ea];rw [yn (by omega)] at hs;refine hk _ _ (.inl ⟨rfl,hs.symm,hP s _ rfl rfl ?_ hp⟩);intro t ht;simp only [yw,List.not_mem_nil,or_false,not_or] at ht;simp [zK,ht]
 ·simp [hs,h1,m1,h6,h7]
 ·rcases h with ⟨rfl,h1,h2⟩ | ⟨rfl,h1,h2⟩
  ·exact hk s h1 h2
  ·exact hr s h1 h2
theorem xQ (s:wP) (hs:s.fine):wB 38 [.agg (lD s)] (.int .i64 (EB s.types)):=by
 obtain ⟨da,mj⟩:=hs;refine EA (c:=uH) rfl rfl ?_;unfold EB;by_cases js:32<s.types.length
 ·have pp:(32:Int)<s.types.length:=by omega
  simp [uH,-J,-y6,-y5,y0,lD,js,pp]
 have pp:¬ (32:Int)<s.types.length:=by omega
 simp [uH,-J,-y6,-y5,y0,lD,js,pp];refine IB s.types.length (fun i σ=>(σ.env 1).v=.ptr 1 1 0/\σ.mem 1 1=some [⟨.sl s.nl (s.types.map iA),.no⟩]/\(σ.env 3).v=.int .i64 i/\dC s.types (s.types.length - i) i=dC s.types s.types.length 0)
  (fun e σ=>(e=.exit 0/\dC s.types s.types.length 0=0)\/(e=.ret/\(σ.env 2).v=.int .i64 (dC s.types s.types.length 0))) (fun i hi σ k h ih hk=>?_) _ _ ?_ (fun e σ h=>?_)
 ·obtain ⟨e1,m1,e3,hv⟩:=h;refine gA ?_;by_cases ba:i<s.types.length
  ·have ea:(i:Int)<s.types.length:=by omega
   have g1:(s.types.map iA)[i]?=some (iA s.types[i]):=by simp [ba]
   have hw:=eB (i:=i);have hf:=own_ev s.types[i] (mj _ (yF _));have hu:=fun h9:(s.types[i]'ba).kind<=9=>ruses_ev (s.types[i]'ba) (mj _ (yF ba)).2.2 h9 _ rfl
   have kb:=(mj _ (yF ba)).2.2;rw [ZT ba] at hv;generalize s.types[i]=t at *
   have hul:t.usesL.length<=9223372036854775807:=by
    unfold QA.usesL;by_cases h8:t.kind=8 <;> by_cases h7:7<=t.kind <;> simp [h8,h7] <;> omega
   simp only [wB,iA] at hf hu;simp only [iA] at g1;have err:∀ σ' n,EC s.types i t=n->n≠0->(σ'.env 2).v=.int .i64 n->k .ret σ'=some (.int .i64 (dC s.types s.types.length 0),none):=fun σ' n h1 h2 h3=>hk _ _ (.inr ⟨rfl,by rw [h3,<- hv,h1,if_neg h2]⟩)
   cases c1:zD t with
   | false =>
    rw [c1] at hf;simp [JG,-J,-y6,-y5,y0,e1,m1,e3,ea,g1,hf];exact err _ 1 (by simp [EC,c1]) (by decide) (by simp)
   | true =>
    rw [c1] at hf;have hu:=hu (dU c1).2;simp [JG,-J,-y6,-y5,y0,e1,m1,e3,ea,g1,hf];refine rnames_lp s.nl s.types i ba da t (σ.next + 1) _ (fun σ2=>(σ2.env 1).v=.ptr 1 1 0/\σ2.mem 1 1=some [⟨.sl s.nl (s.types.map iA),.no⟩]/\(σ2.env 3).v=.int .i64 i/\(σ2.env 4).v=.ptr 4 (σ.next + 1) 0/\σ2.mem 4 (σ.next + 1)=some (wE t)) (fun a b hm ho he h=>?_) _ (fun σ2 c2 h=>?_) (fun σ2 c2 h2=>?_) _ ⟨?_,?_,?_,?_,?_⟩ ?_ ?_ ?_ ?_ ?_ ?_
    ·rw [hm,he 1 (by decide),he 3 (by decide),he 4 (by decide)];exact h
    ·obtain ⟨f1,fm,f3,f4,fp⟩:=h;simp [-J,-y6,-y5,y0,f1,fm,f3,f4,fp,hu];refine rvuses_lp s.nl s.types t.usesL hul t.usesL.isEmpty _ (fun σ2=>(σ2.env 1).v=.ptr 1 1 0/\σ2.mem 1 1=some [⟨.sl s.nl (s.types.map iA),.no⟩]/\(σ2.env 3).v=.int .i64 i/\(σ2.env 4).v=.ptr 4 (σ.next + 1) 0/\σ2.mem 4 (σ.next + 1)=some (wE t)) (fun a b hm ho he h=>?_) _ (fun σ2 c3 h=>?_) (fun σ2 c3 h2=>?_) _ ⟨?_,?_,?_,?_,?_⟩ ?_ ?_ ?_ ?_
     ·rw [hm,he 1 (by decide),he 3 (by decide),he 4 (by decide)];exact h
     ·obtain ⟨f1,fm,f3,f4,fp⟩:=h;by_cases h8:t.kind=8
      ·obtain ⟨ze,ge⟩:=key_in h8 c3;have h3:t.key.toNat<s.types.length:=by omega
       have gy:(s.types.map iA)[t.key.toNat]?=some (iA s.types[t.key.toNat]):=by rw [yc,yg h3]; rfl
       have hy:WN s.types t.key=s.types[t.key.toNat].kind:=by unfold WN; rw [yg h3]
       generalize s.types[t.key.toNat]=y at *
       have zk:=j8 y.kind;simp only [iA] at gy;simp only [wB] at zk;by_cases c4:1<=y.kind/\y.kind<=4
       ·rw [decide_eq_true c4] at zk;simp [-J,-y6,-y5,y0,f1,fm,f3,f4,fp,h8,ze,gy,zk,hw];refine ih ba _ ⟨?_,?_,?_,?_⟩
        ·simp [f1]
        ·simp [fm]
        ·simp
        ·rw [<- hv,if_pos];unfold EC;rw [if_neg (by simp [c1]),if_neg c2,if_neg (by simp [c3]),if_neg fun h=>h.2 (by rw [hy]; exact c4)]
       ·rw [decide_eq_false c4] at zk;simp [-J,-y6,-y5,y0,f1,fm,f3,f4,fp,h8,ze,gy,zk];exact err _ 1 (by unfold EC; rw [if_neg (by simp [c1]),if_neg c2,if_neg (by simp [c3]),if_pos ⟨h8,by rw [hy]; exact c4⟩]) (by decide) (by simp)
      ·simp [-J,-y6,-y5,y0,f1,fm,f3,f4,fp,h8,hw];refine ih ba _ ⟨?_,?_,?_,?_⟩
       ·simp [f1]
       ·simp [fm]
       ·simp
       ·rw [<- hv,if_pos];unfold EC;rw [if_neg (by simp [c1]),if_neg c2,if_neg (by simp [c3]),if_neg fun h=>h8 h.1]
     ·simp [-J,-y6,-y5,y0];exact err _ 4 (by unfold EC; rw [if_neg (by simp [c1]),if_neg c2,if_pos c3]) (by decide) h2
     all_goals simp [f1,fm,f3,f4,fp]
    ·simp [-J,-y6,-y5,y0];exact err _ 1 (by unfold EC; rw [if_neg (by simp [c1]),if_pos c2]) (by decide) h2
    all_goals simp [e1,m1,e3]
  ·have ea:¬ (i:Int)<s.types.length:=by omega
   simp [JG,-J,-y6,-y5,y0,e1,m1,e3,ea];refine hk _ _ (.inl ⟨rfl,?_⟩);rw [<- hv,show s.types.length - i=0 from by omega,dC]
 ·refine ⟨?_,?_,?_,?_⟩ <;> simp
 ·rcases h with ⟨rfl,h1⟩ | ⟨rfl,h1⟩
  ·simp [-J,-y6,-y5,y0,h1]
  ·simp [-J,-y6,-y5,y0,h1]
end Go.Proofs.YtbhbeakhognieaaGreatDoor
