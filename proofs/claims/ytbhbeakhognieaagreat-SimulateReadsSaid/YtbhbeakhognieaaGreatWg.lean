/- A part of the proof. -/
import Derived.Test.YtbhbeakhognieaaGreatWe
import Derived.Test.YtbhbeakhognieaaGreatWf
set_option linter.all false
set_option maxRecDepth 100000
set_option maxHeartbeats 8000000
open Option renaming bind_some → J
open List renaming range_succ → y0, map_map → y3, getElem?_eq_getElem → y5, getElem_mem → y8, drop_eq_getElem_cons → yb, getElem?_map → yc, mem_cons → yg, drop_eq_nil_of_le → yk, mem_append → yx, map_append → yH, take_append_getElem → yJ, not_mem_nil → yP, mem_map_of_mem → Y00
open Int renaming toNat_lt → y4
open Bool renaming and_eq_true → y7
namespace Go.Proofs.YtbhbeakhognieaaGreat
open Go
def sB (n:Nat) (u:Int):Bool:=decide (u<0)||decide ((n:Int)<=u)
def MJ (l:List pA) (k:Int):Int:=match l[k.toNat]? with
 | some t=>t.kind
 | none=>0
def tD (l:List pA) (i:Nat) (t:pA):Int :=
 if dB t=false then 1
 else if t.named=true/\t.name∈(l.take i).map pA.name then 1
 else if t.usesL.any (sB l.length)=true then 4
 else if t.kind=8/\¬ (1<=MJ l t.key/\MJ l t.key<=4) then 1
 else 0
def XC (l:List pA):Nat->Nat->Int
 | 0,_=>0
 | n + 1,i=>match l[i]? with
  | some t=>if tD l i t=0 then XC l n (i + 1) else tD l i t
  | none=>0
def valid (l:List pA):Int:=if 32<l.length then 3 else XC l l.length 0
theorem RT {l:List pA} {i:Nat} (h:i<l.length):XC l (l.length - i) i=if tD l i l[i]=0 then XC l (l.length - (i + 1)) (i + 1) else tD l i l[i]:=by
 rw [show l.length - i=(l.length - (i + 1)) + 1 from by omega,XC,y5 h]
theorem lH {t:pA} (h:dB t=true):1<=t.kind/\t.kind<=9:=by
 unfold dB at h;rw [y7] at h;exact of_decide_eq_true h.1
theorem isName_ne {s:ByteArray} (h:xF s=true):s≠⟨#[]⟩:=fun e=>by
 subst e;unfold xF at h;simp only [y7] at h;have:=of_decide_eq_true h.1.1.1;exact this rfl
theorem G9 {t:pA} (h:dB t=true):t.named=true ↔ t.name≠⟨#[]⟩:=by
 have hk:=lH h;unfold dB LG pA.left at h;rcases kinds t.kind with e | e | e | e | e | e | e | e | e | e
 all_goals first | exact absurd hk e | skip
 all_goals simp [e,pA.same,tC,pA.named] at h ⊢
 all_goals first | exact isName_ne h.1.1 | (simp [h]; done) | skip
theorem key_in {l:List pA} {t:pA} (h8:t.kind=8) (h:t.usesL.any (sB l.length)=false):0<=t.key/\t.key<l.length:=by
 have hm:t.key∈t.usesL:=by simp [pA.usesL,h8]
 have:=List.any_eq_false.1 h _ hm;simp [sB] at this;omega
theorem E3 (s:ByteArray):∀ l:List ByteArray,s∈l->UG (l.map PI) (.str s) (.bool true)=l.map PI
 | [],h=>by cases h
 | x :: r,hn=>by
  by_cases h:x=s
  ·simp [PI,UG,LO,h]
  ·have:=E3 s r (by
    rcases yg.1 hn with e | e
    ·exact absurd e.symm h
    ·exact e)
   simp [PI,UG,LO,h,this]
theorem seen_next (s:ByteArray) (q:List ByteArray):∃ q':List ByteArray,UG (q.map PI) (.str s) (.bool true)=q'.map PI/\∀ x,x∈q' ↔ x∈q\/x=s:=by
 by_cases h:s∈q
 ·exact ⟨q,E3 s q h,fun x=>⟨.inl,fun e=>e.elim id (fun e=>e ▸ h)⟩⟩
 ·exact ⟨q++[s],ZY s q h,fun x=>by simp⟩
def FI.fine (s:FI):Prop:=s.types.length<=9223372036854775807/\∀ t∈s.types,t.fine
theorem vuses_lp (sn:Bool) (S:List pA) (U:List Int) (hU:U.length<=9223372036854775807) (bu:Bool) (r:RV) (P:aA->Prop) (hP:∀ s s':aA,s'.mem=s.mem->s'.obj=s.obj->s'.next=s'.next->(∀ t,t ∉ [2,7,41,42,43,44,45,46,47,48,49,50,51,52,53,40]->s'.env t=s.env t)->P s->P s') (k:Ex->aA->Option RV)
  (hk:∀ s',U.any (sB S.length)=false->P s'->k (.exit 2) s'=some r) (hr:∀ s':aA,U.any (sB S.length)=true->(s'.env 2).v=.int .i64 4->k .ret s'=some r)
  (s:aA) (hs:P s) (h1:(s.env 1).v=.ptr 1 1 0) (m1:s.mem 1 1=some [⟨.sl sn (S.map eA),.no⟩]) (h38:(s.env 38).v=.sl bu (U.map CD)) (h39:(s.env 39).v=.int .i64 U.length) (h40:(s.env 40).v=.int .i64 0):WI jA tA cD s k=some r:=by
 refine RA U.length (fun i s=>P s/\(s.env 1).v=.ptr 1 1 0/\s.mem 1 1=some [⟨.sl sn (S.map eA),.no⟩]/\(s.env 38).v=.sl bu (U.map CD)/\(s.env 39).v=.int .i64 U.length/\(s.env 40).v=.int .i64 i/\(U.drop i).any (sB S.length)=U.any (sB S.length))
  (fun e s=>(e=.exit 2/\U.any (sB S.length)=false/\P s)\/(e=.ret/\U.any (sB S.length)=true/\(s.env 2).v=.int .i64 4)) (fun i hi s k h ih hk=>?_) _ _ ?_ (fun e s h=>?_)
 ·obtain ⟨hp,e1,m1,e38,e39,e40,hs⟩:=h;refine iA ?_;by_cases fa:i<U.length
  ·have ga:(i:Int)<U.length:=by omega
   have g1:(U.map CD)[i]?=some (CD U[i]):=by simp [fa]
   have hw:=WB (i:=i);rw [yb fa,List.any_cons] at hs;generalize U[i]=u at *
   simp only [CD] at g1;by_cases c1:u<0
   ·simp [cD,-J,-y4,-y3,y0,e1,m1,e38,e39,e40,ga,g1,c1];exact hk _ _ (.inr ⟨rfl,by rw [<- hs]; simp [sB,c1],by simp⟩)
   by_cases c2:(S.length:Int)<=u
   ·simp [cD,-J,-y4,-y3,y0,e1,m1,e38,e39,e40,ga,g1,c1,c2];exact hk _ _ (.inr ⟨rfl,by rw [<- hs]; simp [sB,c2],by simp⟩)
   simp [cD,-J,-y4,-y3,y0,e1,m1,e38,e39,e40,ga,g1,c1,c2,hw];refine ih fa _ ⟨hP s _ ?_ ?_ ?_ ?_ hp,?_,?_,?_,?_,?_,?_⟩
   ·rfl
   ·rfl
   ·rfl
   ·intro t ht;simp only [yg,yP,or_false,not_or] at ht;simp [nH,ht]
   ·simp [e1]
   ·simp [m1]
   ·simp [e38]
   ·simp [e39]
   ·simp
   ·rw [<- hs]; simp [sB,c1,c2]
  ·have ga:¬ (i:Int)<U.length:=by omega
   simp [cD,-J,-y4,-y3,y0,e39,e40,ga];rw [yk (by omega)] at hs;refine hk _ _ (.inl ⟨rfl,hs.symm,hP s _ ?_ ?_ ?_ ?_ hp⟩)
   ·rfl
   ·rfl
   ·rfl
   ·intro t ht;simp only [yg,yP,or_false,not_or] at ht;simp [nH,ht]
 ·simp [hs,h1,m1,h38,h39,h40]
 ·rcases h with ⟨rfl,h1,h2⟩ | ⟨rfl,h1,h2⟩
  ·exact hk s h1 h2
  ·exact hr s h1 h2
theorem uZ (s:FI) (hs:s.fine):gA 74 [.agg (GA s)] (.int .i64 (valid s.types)):=by
 obtain ⟨ia,rg⟩:=hs;refine rA (c:=qH) rfl rfl ?_;unfold valid;by_cases wv:32<s.types.length
 ·have so:(32:Int)<s.types.length:=by omega
  simp [qH,-J,-y4,-y3,y0,GA,wv,so]
 have so:¬ (32:Int)<s.types.length:=by omega
 simp [qH,-J,-y4,-y3,y0,GA,wv,so];refine RA s.types.length (fun i σ=>(σ.env 1).v=.ptr 1 1 0/\σ.mem 1 1=some [⟨.sl s.nl (s.types.map eA),.no⟩]/\(σ.env 3).v=.mp 12 3/\(σ.env 14).v=.sl s.nl (s.types.map eA)/\(σ.env 15).v=.int .i64 s.types.length/\(σ.env 16).v=.int .i64 i/\(∃ q:List ByteArray,σ.obj 12 3=some (TI (q.map PI))/\∀ x,x∈q ↔ x∈(s.types.take i).map pA.name)/\XC s.types (s.types.length - i) i=XC s.types s.types.length 0)
  (fun e σ=>(e=.exit 0/\XC s.types s.types.length 0=0)\/(e=.ret/\(σ.env 2).v=.int .i64 (XC s.types s.types.length 0))) (fun i hi σ k h ih hk=>?_) _ _ ?_ (fun e σ h=>?_)
 ·obtain ⟨e1,m1,e3,jc,df,af,⟨q,o,hq⟩,hv⟩:=h;refine iA ?_;by_cases fa:i<s.types.length
  ·have ga:(i:Int)<s.types.length:=by omega
   have g1:(s.types.map eA)[i]?=some (eA s.types[i]):=by simp [fa]
   have hw:=WB (i:=i);have ht:s.types.take (i + 1)=s.types.take i++[s.types[i]]:=(yJ fa).symm;have hf:=form_ev s.types[i] (rg _ (y8 _));have hu:=uses_ev s.types[i] (rg _ (y8 _)).2.2 _ rfl;have rj:=(rg _ (y8 fa)).2.2;rw [RT fa] at hv;generalize s.types[i]=t at *
   have hul:t.usesL.length<=9223372036854775807:=by
    unfold pA.usesL;by_cases h8:t.kind=8 <;> by_cases h7:7<=t.kind <;> simp [h8,h7] <;> omega
   simp only [gA,eA] at hf hu;simp only [eA] at g1;have hg:=LY t.name q;have wq:=j5 q;obtain ⟨q',hq',la⟩:=seen_next t.name q;have err:∀ σ' n,tD s.types i t=n->n≠0->(σ'.env 2).v=.int .i64 n->k .ret σ'=some (.int .i64 (XC s.types s.types.length 0),none):=fun σ' n h1 h2 h3=>hk _ _ (.inr ⟨rfl,by rw [h3,<- hv,h1,if_neg h2]⟩)
   cases c1:dB t with
   | false =>
    rw [c1] at hf;simp [GB,-J,-y4,-y3,y0,e1,m1,e3,jc,df,af,ga,g1,hf];exact err _ 1 (by simp [tD,c1]) (by decide) (by simp)
   | true =>
    rw [c1] at hf;have ab:=G9 c1;have dup:t.name≠⟨#[]⟩->t.name∈q->GB.run (dF jA tA) (RJ jA tA) σ (tL (WI jA tA) GB k)=some (.int .i64 (XC s.types s.types.length 0),none):=by
     intro hn pe;have hd:=eq_false hn;rw [if_pos pe] at hg;simp [GB,-J,-y4,-y3,y0,e1,m1,e3,jc,df,af,ga,g1,hf,hd,o,cG,wq,HG,AV.flat,AV.scal,hg];exact err _ 1 (by unfold tD; rw [if_neg (by simp [c1]),if_pos ⟨ab.2 hn,(hq _).1 pe⟩]) (by decide) (by simp)
    have go:(t.name=⟨#[]⟩\/t.name≠⟨#[]⟩/\¬ t.name∈q)->GB.run (dF jA tA) (RJ jA tA) σ (tL (WI jA tA) GB k)=some (.int .i64 (XC s.types s.types.length 0),none):=by
     intro hn;have c2:¬ (t.named=true/\t.name∈(s.types.take i).map pA.name):=fun ⟨h1,h2⟩=>by
      rcases hn with hn | hn
      ·exact (ab.1 h1) hn
      ·exact hn.2 ((hq _).2 h2)
     have fin:∀ (σ':aA) (k':Ex->aA->Option RV) (p:Nat),(∀ σ2:aA,(σ2.env 2).v=.int .i64 4->k' .ret σ2=k .ret σ2) →
       (∀ σ2:aA,(σ2.env 1).v=.ptr 1 1 0->σ2.mem 1 1=some [⟨.sl s.nl (s.types.map eA),.no⟩]->(σ2.env 3).v=.mp 12 3->(σ2.env 14).v=.sl s.nl (s.types.map eA)->(σ2.env 15).v=.int .i64 s.types.length->(σ2.env 16).v=.int .i64 i->σ2.obj 12 3=some (TI (q'.map PI))->(σ2.env 5).v=.ptr 5 p 0->σ2.mem 5 p=some (sA t)->t.usesL.any (sB s.types.length)=false->k' (.exit 2) σ2=some (.int .i64 (XC s.types s.types.length 0),none)) →
       (σ'.env 1).v=.ptr 1 1 0->σ'.mem 1 1=some [⟨.sl s.nl (s.types.map eA),.no⟩]->(σ'.env 3).v=.mp 12 3->(σ'.env 14).v=.sl s.nl (s.types.map eA)->(σ'.env 15).v=.int .i64 s.types.length->(σ'.env 16).v=.int .i64 i->σ'.obj 12 3=some (TI (q'.map PI))->(σ'.env 5).v=.ptr 5 p 0->σ'.mem 5 p=some (sA t)->(σ'.env 38).v=.sl t.usesL.isEmpty (t.usesL.map CD)->(σ'.env 39).v=.int .i64 t.usesL.length->(σ'.env 40).v=.int .i64 0->WI jA tA cD σ' k'=some (.int .i64 (XC s.types s.types.length 0),none):=by
      intro σ' k' p hret sq f1 fm f3 f14 jk f16 fo f5 fp f38 f39 f40;refine vuses_lp s.nl s.types t.usesL hul t.usesL.isEmpty _ (fun σ2=>(σ2.env 1).v=.ptr 1 1 0/\σ2.mem 1 1=some [⟨.sl s.nl (s.types.map eA),.no⟩]/\(σ2.env 3).v=.mp 12 3/\(σ2.env 14).v=.sl s.nl (s.types.map eA)/\(σ2.env 15).v=.int .i64 s.types.length/\(σ2.env 16).v=.int .i64 i/\σ2.obj 12 3=some (TI (q'.map PI))/\(σ2.env 5).v=.ptr 5 p 0/\σ2.mem 5 p=some (sA t)) (fun a b hm ho _ he h=>?_) k' (fun σ2 hu h=>?_) (fun σ2 hu h2=>?_) σ' ⟨f1,fm,f3,f14,jk,f16,fo,f5,fp⟩ f1 fm f38 f39 f40
      ·rw [hm,ho,he 1 (by decide),he 3 (by decide),he 14 (by decide),he 15 (by decide),he 16 (by decide),he 5 (by decide)];exact h
      ·obtain ⟨f1,fm,f3,f14,jk,f16,fo,f5,fp⟩:=h;exact sq σ2 f1 fm f3 f14 jk f16 fo f5 fp hu
      ·rw [hret σ2 h2];exact err _ 4 (by unfold tD; rw [if_neg (by simp [c1]),if_neg c2,if_pos hu]) (by decide) h2
     have key:t.usesL.any (sB s.types.length)=false->t.kind=8->0<=t.key/\∃ y:pA,(s.types.map eA)[t.key.toNat]?=some (eA y)/\MJ s.types t.key=y.kind:=fun hu h8=>by
      obtain ⟨h1,h2⟩:=key_in h8 hu;have h3:t.key.toNat<s.types.length:=by omega
      exact ⟨h1,s.types[t.key.toNat],by rw [yc,y5 h3]; rfl,by unfold MJ; rw [y5 h3]⟩
     have next:tD s.types i t=0->∀ σ2:aA,(σ2.env 1).v=.ptr 1 1 0->σ2.mem 1 1=some [⟨.sl s.nl (s.types.map eA),.no⟩]->(σ2.env 3).v=.mp 12 3->(σ2.env 14).v=.sl s.nl (s.types.map eA)->(σ2.env 15).v=.int .i64 s.types.length->(σ2.env 16).v=.int .i64 ((i + 1:Nat):Int)->σ2.obj 12 3=some (TI (q'.map PI))->WI jA tA GB σ2 k=some (.int .i64 (XC s.types s.types.length 0),none):=fun h0 σ2 f1 fm f3 f14 jk f16 fo=>ih fa _ ⟨f1,fm,f3,f14,jk,f16,⟨q',fo,fun x=>by rw [la,ht,yH,yx,hq]; simp⟩,by rw [<- hv,h0]; rfl⟩
     have hgn:t.name=⟨#[]⟩\/t.name≠⟨#[]⟩/\cI (q.map PI) (.str t.name)=none:=by
      rcases hn with hn | ⟨h1,h2⟩
      ·exact .inl hn
      ·exact .inr ⟨h1,by rw [hg,if_neg h2]⟩
     rcases hgn with hd | ⟨hd,hg⟩
     ·have hd:=eq_true hd;simp [GB,-J,-y4,-y3,y0,e1,m1,e3,jc,df,af,ga,g1,hf,hu,hd,o,cG,wq,HG,AV.flat,AV.scal,hq'];refine fin _ _ (σ.next + 1) (fun σ2 _=>rfl) (fun σ2 f1 fm f3 f14 jk f16 fo f5 fp zd=>?_) ?_ ?_ ?_ ?_ ?_ ?_ ?_ ?_ ?_ ?_ ?_ ?_
      rotate_left
      ·simp [e1]
      ·simp [m1]
      ·simp [e3]
      ·simp [jc]
      ·simp [df]
      ·simp [af]
      ·simp
      ·simp
      ·simp
      ·simp
      ·simp
      ·simp
      have c3:=zd;by_cases h8:t.kind=8
      ·obtain ⟨pm,y,gy,hy⟩:=key zd h8;simp only [eA] at gy;by_cases c4:y.kind<1
       ·simp [-J,-y4,-y3,y0,f1,fm,f5,fp,h8,pm,gy,c4];exact err _ 1 (by unfold tD; rw [if_neg (by simp [c1]),if_neg c2,if_neg (by simp [c3]),if_pos ⟨h8,by rw [hy]; omega⟩]) (by decide) (by simp)
       ·by_cases c5:4<y.kind
        ·simp [-J,-y4,-y3,y0,f1,fm,f5,fp,h8,pm,gy,c4,c5];exact err _ 1 (by unfold tD; rw [if_neg (by simp [c1]),if_neg c2,if_neg (by simp [c3]),if_pos ⟨h8,by rw [hy]; omega⟩]) (by decide) (by simp)
        ·simp [-J,-y4,-y3,y0,f1,fm,f5,fp,f16,h8,pm,gy,c4,c5,hw];refine next (by unfold tD; rw [if_neg (by simp [c1]),if_neg c2,if_neg (by simp [c3]),if_neg fun h=>h.2 (by rw [hy]; omega)]) _ ?_ ?_ ?_ ?_ ?_ ?_ ?_ <;> simp [f1,fm,f3,f14,jk,fo]
      ·simp [-J,-y4,-y3,y0,f1,fm,f5,fp,f16,h8,hw];refine next (by unfold tD; rw [if_neg (by simp [c1]),if_neg c2,if_neg (by simp [c3]),if_neg fun h=>h8 h.1]) _ ?_ ?_ ?_ ?_ ?_ ?_ ?_ <;> simp [f1,fm,f3,f14,jk,fo]
     ·have hd:=eq_false hd;simp [GB,-J,-y4,-y3,y0,e1,m1,e3,jc,df,af,ga,g1,hf,hu,hd,hg,o,cG,wq,HG,AV.flat,AV.scal,hq'];refine fin _ _ (σ.next + 1) (fun σ2 _=>rfl) (fun σ2 f1 fm f3 f14 jk f16 fo f5 fp zd=>?_) ?_ ?_ ?_ ?_ ?_ ?_ ?_ ?_ ?_ ?_ ?_ ?_
      rotate_left
      ·simp [e1]
      ·simp [m1]
      ·simp [e3]
      ·simp [jc]
      ·simp [df]
      ·simp [af]
      ·simp
      ·simp
      ·simp
      ·simp
      ·simp
      ·simp
      have c3:=zd;by_cases h8:t.kind=8
      ·obtain ⟨pm,y,gy,hy⟩:=key zd h8;simp only [eA] at gy;by_cases c4:y.kind<1
       ·simp [-J,-y4,-y3,y0,f1,fm,f5,fp,h8,pm,gy,c4];exact err _ 1 (by unfold tD; rw [if_neg (by simp [c1]),if_neg c2,if_neg (by simp [c3]),if_pos ⟨h8,by rw [hy]; omega⟩]) (by decide) (by simp)
       ·by_cases c5:4<y.kind
        ·simp [-J,-y4,-y3,y0,f1,fm,f5,fp,h8,pm,gy,c4,c5];exact err _ 1 (by unfold tD; rw [if_neg (by simp [c1]),if_neg c2,if_neg (by simp [c3]),if_pos ⟨h8,by rw [hy]; omega⟩]) (by decide) (by simp)
        ·simp [-J,-y4,-y3,y0,f1,fm,f5,fp,f16,h8,pm,gy,c4,c5,hw];refine next (by unfold tD; rw [if_neg (by simp [c1]),if_neg c2,if_neg (by simp [c3]),if_neg fun h=>h.2 (by rw [hy]; omega)]) _ ?_ ?_ ?_ ?_ ?_ ?_ ?_ <;> simp [f1,fm,f3,f14,jk,fo]
      ·simp [-J,-y4,-y3,y0,f1,fm,f5,fp,f16,h8,hw];refine next (by unfold tD; rw [if_neg (by simp [c1]),if_neg c2,if_neg (by simp [c3]),if_neg fun h=>h8 h.1]) _ ?_ ?_ ?_ ?_ ?_ ?_ ?_ <;> simp [f1,fm,f3,f14,jk,fo]
    by_cases pe:t.name≠⟨#[]⟩/\t.name∈q
    ·exact dup pe.1 pe.2
    ·refine go ?_;by_cases he:t.name=⟨#[]⟩
     ·exact .inl he
     ·exact .inr ⟨he,fun h=>pe ⟨he,h⟩⟩
  ·have ga:¬ (i:Int)<s.types.length:=by omega
   simp [GB,-J,-y4,-y3,y0,df,af,ga];refine hk _ _ (.inl ⟨rfl,?_⟩);rw [<- hv,show s.types.length - i=0 from by omega,XC]
 ·refine ⟨?_,?_,?_,?_,?_,?_,⟨[],?_,?_⟩,?_⟩ <;> simp [TI]
 ·rcases h with ⟨rfl,h1⟩ | ⟨rfl,h1⟩
  ·simp [-J,-y4,-y3,y0,h1]
  ·simp [-J,-y4,-y3,y0,h1]
def FB {α:Type} (p:α->Bool):List α->Int
 | []=>-1
 | x :: r=>if p x=true then 0 else if FB p r=-1 then -1 else FB p r + 1
theorem qF {α:Type} (p:α->Bool):∀ l:List α,-1<=FB p l
 | []=>by simp [FB]
 | x :: r=>by
  have:=qF p r;simp only [FB];split
  ·omega
  ·split <;> omega
theorem AL {α:Type} (p:α->Bool) (x:α) (r:List α) (h:p x=false):FB p (x :: r)=if FB p r=-1 then -1 else FB p r + 1:=by simp [FB,h]
theorem EI {α:Type} (p:α->Bool):∀ l:List α,FB p l≠-1->∃ x,l[(FB p l).toNat]?=some x/\p x=true
 | [],h=>absurd rfl h
 | x :: r,h=>by
  simp only [FB] at h ⊢;by_cases hx:p x=true
  ·rw [if_pos hx]; exact ⟨x,rfl,hx⟩
  ·rw [if_neg hx] at h ⊢;by_cases h1:FB p r=-1
   ·rw [if_pos h1] at h; exact absurd rfl h
   ·rw [if_neg h1];obtain ⟨y,h2,h3⟩:=EI p r h1;have:=qF p r;refine ⟨y,?_,h3⟩;rw [show (FB p r + 1).toNat=(FB p r).toNat + 1 from by omega,List.getElem?_cons_succ];exact h2
theorem GH {α:Type} (p:α->Bool):∀ l:List α,(decide (0<=FB p l))=l.any p
 | []=>by simp [FB]
 | x :: r=>by
  have h1:=GH p r;have h2:=qF p r;rw [List.any_cons,<- h1];simp only [FB];by_cases hx:p x=true
  ·simp [hx]
  ·by_cases h:FB p r=-1
   ·simp [hx,h]
   ·simp [hx,h]; omega
theorem lZ (F:Nat) (caps:List AV) (l:List zB) (p:zB->Bool) (hl:l.length<=9223372036854775807) (jh:∀ (s:aA) (cl:Cl),RD s cl caps=some caps) (hF:∀ x∈l,gA F (.agg (nA x) :: caps) (.bool (p x))) (b:Bool):gA 138 [.sl b (l.map nA),.fn F caps] (.int .i64 (FB p l)):=by
 refine rA (c:=LC) rfl rfl ?_;simp [LC,-J,-y4,-y3,y0];refine RA l.length (fun i s=>(s.env 0).v=.sl b (l.map nA)/\(s.env 1).v=.fn F caps/\(s.env 7).v=.int .i64 l.length/\(s.env 8).v=.int .i64 i/\FB p l=(if FB p (l.drop i)=-1 then -1 else FB p (l.drop i) + i))
  (fun e s=>(e=.exit 0/\FB p l=-1)\/(e=.ret/\(s.env 4).v=.int .i64 (FB p l))) (fun i hi s k h ih hk=>?_) _ _ ?_ (fun e s h=>?_)
 ·obtain ⟨e0,e1,e7,e8,hs⟩:=h;refine iA ?_;by_cases fa:i<l.length
  ·have ga:(i:Int)<l.length:=by omega
   have g1:(l.map nA)[i]?=some (nA l[i]):=by simp [fa]
   have hw:=WB (i:=i);have hx:=hF l[i] (y8 _);rw [yb fa] at hs;generalize l[i]=x at *
   simp only [gA,nA] at g1 hx;cases hp:p x with
   | true =>
    rw [hp] at hx;simp [xC,-J,-y4,-y3,y0,e0,e1,e7,e8,ga,g1,jh,hx];refine hk _ _ (.inr ⟨rfl,?_⟩);simp [hs,FB,hp]
   | false =>
    rw [hp] at hx;simp [xC,-J,-y4,-y3,y0,e0,e1,e7,e8,ga,g1,jh,hx,hw];refine ih fa _ ⟨?_,?_,?_,?_,?_⟩
    ·simp [e0]
    ·simp [e1]
    ·simp [e7]
    ·simp
    ·rw [hs,AL p x _ hp];have:=qF p (l.drop (i + 1));by_cases h1:FB p (l.drop (i + 1))=-1
     ·simp [h1]
     ·have h2:¬ FB p (l.drop (i + 1)) + 1=-1:=by omega
      rw [if_neg h1,if_neg h2,if_neg h1];omega
  ·have ga:¬ (i:Int)<l.length:=by omega
   simp [xC,-J,-y4,-y3,y0,e7,e8,ga];rw [yk (by omega)] at hs;exact hk _ _ (.inl ⟨rfl,hs⟩)
 ·have:=qF p l;by_cases h1:FB p l=-1 <;> simp [h1]
 ·rcases h with ⟨rfl,h1⟩ | ⟨rfl,h1⟩ <;> simp [-J,-y4,-y3,y0,h1]
theorem zZ (F:Nat) (caps:List AV) (l:List nQ) (p:nQ->Bool) (hl:l.length<=9223372036854775807) (jh:∀ (s:aA) (cl:Cl),RD s cl caps=some caps) (hF:∀ x∈l,gA F (.agg (WD x) :: caps) (.bool (p x))) (b:Bool):gA 183 [.sl b (l.map WD),.fn F caps] (.int .i64 (FB p l)):=by
 refine rA (c:=ZC) rfl rfl ?_;simp [ZC,-J,-y4,-y3,y0];refine RA l.length (fun i s=>(s.env 0).v=.sl b (l.map WD)/\(s.env 1).v=.fn F caps/\(s.env 7).v=.int .i64 l.length/\(s.env 8).v=.int .i64 i/\FB p l=(if FB p (l.drop i)=-1 then -1 else FB p (l.drop i) + i))
  (fun e s=>(e=.exit 0/\FB p l=-1)\/(e=.ret/\(s.env 4).v=.int .i64 (FB p l))) (fun i hi s k h ih hk=>?_) _ _ ?_ (fun e s h=>?_)
 ·obtain ⟨e0,e1,e7,e8,hs⟩:=h;refine iA ?_;by_cases fa:i<l.length
  ·have ga:(i:Int)<l.length:=by omega
   have g1:(l.map WD)[i]?=some (WD l[i]):=by simp [fa]
   have hw:=WB (i:=i);have hx:=hF l[i] (y8 _);rw [yb fa] at hs;generalize l[i]=x at *
   simp only [gA,WD] at g1 hx;cases hp:p x with
   | true =>
    rw [hp] at hx;simp [cC,-J,-y4,-y3,y0,e0,e1,e7,e8,ga,g1,jh,hx];refine hk _ _ (.inr ⟨rfl,?_⟩);simp [hs,FB,hp]
   | false =>
    rw [hp] at hx;simp [cC,-J,-y4,-y3,y0,e0,e1,e7,e8,ga,g1,jh,hx,hw];refine ih fa _ ⟨?_,?_,?_,?_,?_⟩
    ·simp [e0]
    ·simp [e1]
    ·simp [e7]
    ·simp
    ·rw [hs,AL p x _ hp];have:=qF p (l.drop (i + 1));by_cases h1:FB p (l.drop (i + 1))=-1
     ·simp [h1]
     ·have h2:¬ FB p (l.drop (i + 1)) + 1=-1:=by omega
      rw [if_neg h1,if_neg h2,if_neg h1];omega
  ·have ga:¬ (i:Int)<l.length:=by omega
   simp [cC,-J,-y4,-y3,y0,e7,e8,ga];rw [yk (by omega)] at hs;exact hk _ _ (.inl ⟨rfl,hs⟩)
 ·have:=qF p l;by_cases h1:FB p l=-1 <;> simp [h1]
 ·rcases h with ⟨rfl,h1⟩ | ⟨rfl,h1⟩ <;> simp [-J,-y4,-y3,y0,h1]
theorem b4 (F:Nat) (caps:List AV) (l:List Vl) (p:Vl->Bool) (hl:l.length<=9223372036854775807) (jh:∀ (s:aA) (cl:Cl),RD s cl caps=some caps) (hF:∀ x∈l,gA F (.agg (fA x) :: caps) (.bool (p x))) (b:Bool):gA 241 [.sl b (l.map fA),.fn F caps] (.int .i64 (FB p l)):=by
 refine rA (c:=aD) rfl rfl ?_;simp [aD,-J,-y4,-y3,y0];refine RA l.length (fun i s=>(s.env 0).v=.sl b (l.map fA)/\(s.env 1).v=.fn F caps/\(s.env 7).v=.int .i64 l.length/\(s.env 8).v=.int .i64 i/\FB p l=(if FB p (l.drop i)=-1 then -1 else FB p (l.drop i) + i))
  (fun e s=>(e=.exit 0/\FB p l=-1)\/(e=.ret/\(s.env 4).v=.int .i64 (FB p l))) (fun i hi s k h ih hk=>?_) _ _ ?_ (fun e s h=>?_)
 ·obtain ⟨e0,e1,e7,e8,hs⟩:=h;refine iA ?_;by_cases fa:i<l.length
  ·have ga:(i:Int)<l.length:=by omega
   have g1:(l.map fA)[i]?=some (fA l[i]):=by simp [fa]
   have hw:=WB (i:=i);have hx:=hF l[i] (y8 _);rw [yb fa] at hs;generalize l[i]=x at *
   simp only [gA,qA] at g1 hx;cases hp:p x with
   | true =>
    rw [hp] at hx;simp [WC,-J,-y4,-y3,y0,e0,e1,e7,e8,ga,g1,jh,hx];refine hk _ _ (.inr ⟨rfl,?_⟩);simp [hs,FB,hp]
   | false =>
    rw [hp] at hx;simp [WC,-J,-y4,-y3,y0,e0,e1,e7,e8,ga,g1,jh,hx,hw];refine ih fa _ ⟨?_,?_,?_,?_,?_⟩
    ·simp [e0]
    ·simp [e1]
    ·simp [e7]
    ·simp
    ·rw [hs,AL p x _ hp];have:=qF p (l.drop (i + 1));by_cases h1:FB p (l.drop (i + 1))=-1
     ·simp [h1]
     ·have h2:¬ FB p (l.drop (i + 1)) + 1=-1:=by omega
      rw [if_neg h1,if_neg h2,if_neg h1];omega
  ·have ga:¬ (i:Int)<l.length:=by omega
   simp [WC,-J,-y4,-y3,y0,e7,e8,ga];rw [yk (by omega)] at hs;exact hk _ _ (.inl ⟨rfl,hs⟩)
 ·have:=qF p l;by_cases h1:FB p l=-1 <;> simp [h1]
 ·rcases h with ⟨rfl,h1⟩ | ⟨rfl,h1⟩ <;> simp [-J,-y4,-y3,y0,h1]
theorem mem1_ev (x:zB) (id:Int):gA 139 [.agg (nA x),.bp [.int .i64 id]] (.bool (decide (x.id=id))):=by
 refine rA (c:=qG) rfl rfl ?_;simp [qG,-J,-y4,-y3,y0,nA]
def QA (l:List zB) (id:Int):Int:=FB (fun x=>decide (x.id=id)) l
def BO (l:List zB) (id:Int):AV:=.tup [.int .i64 (max (QA l id) 0),.bool (decide (0<=QA l id))]
theorem AX (t:pA) (id:Int) (hl:t.mems.length<=9223372036854775807):gA 109 [.agg (eA t),.int .i64 id] (BO t.mems id):=by
 refine rA (c:=iI) rfl rfl ?_;have h:=lZ 139 [.bp [.int .i64 id]] t.mems (fun x=>decide (x.id=id)) hl (fun _ _=>rfl) (fun x _=>mem1_ev x id) t.mn;simp only [gA] at h;unfold BO QA;simp [iI,-J,-y4,-y3,y0,eA,h]
theorem kO (t:pA) (id:Int) (hl:t.mems.length<=9223372036854775807):gA 131 [.agg (eA t),.int .i64 id] (BO t.mems id):=by
 refine rA (c:=BI) rfl rfl ?_;obtain ⟨p,hp⟩:∃ p:zB->Bool,p=fun x=>decide (x.id=id):=⟨_,rfl⟩
 unfold BO QA;rw [<- hp];simp [BI,-J,-y4,-y3,y0,eA];refine RA t.mems.length (fun i s=>(s.env 1).v=.int .i64 id/\(s.env 2).v=.ptr 2 1 0/\s.mem 2 1=some (sA t)/\(s.env 6).v=.int .i64 i/\FB p t.mems=(if FB p (t.mems.drop i)=-1 then -1 else FB p (t.mems.drop i) + i))
  (fun e s=>(e=.exit 0/\FB p t.mems=-1)\/(e=.ret/\0<=FB p t.mems/\(s.env 4).v=.int .i64 (FB p t.mems)/\(s.env 5).v=.bool true)) (fun i hi s k h ih hk=>?_) _ _ ?_ (fun e s h=>?_)
 ·obtain ⟨e1,e2,m2,e6,hs⟩:=h;refine iA ?_;by_cases fa:i<t.mems.length
  ·have ga:(i:Int)<t.mems.length:=by omega
   have g1:(t.mems.map nA)[i]?=some (nA t.mems[i]):=by simp [fa]
   have hw:=WB (i:=i);rw [yb fa] at hs;generalize t.mems[i]=x at *
   simp only [nA] at g1;by_cases hx:x.id=id
   ·simp [SG,-J,-y4,-y3,y0,e1,e2,m2,e6,ga,g1,hx];have rx:p x=true:=by rw [hp]; exact decide_eq_true hx
    refine hk _ _ (.inr ⟨rfl,?_,?_,?_⟩)
    ·rw [hs]; simp [FB,rx]
    ·simp [hs,FB,rx]
    ·simp
   ·have rx:p x=false:=by rw [hp]; exact decide_eq_false hx
    simp [SG,-J,-y4,-y3,y0,e1,e2,m2,e6,ga,g1,hx,hw];refine ih fa _ ⟨?_,?_,?_,?_,?_⟩
    ·simp [e1]
    ·simp [e2]
    ·simp [m2]
    ·simp
    ·rw [hs,AL p x _ rx];have:=qF p (t.mems.drop (i + 1));by_cases h1:FB p (t.mems.drop (i + 1))=-1
     ·simp [h1]
     ·have h2:¬ FB p (t.mems.drop (i + 1)) + 1=-1:=by omega
      rw [if_neg h1,if_neg h2,if_neg h1];omega
  ·have ga:¬ (i:Int)<t.mems.length:=by omega
   simp [SG,-J,-y4,-y3,y0,e2,m2,e6,ga];rw [yk (by omega)] at hs;exact hk _ _ (.inl ⟨rfl,hs⟩)
 ·have:=qF p t.mems;by_cases h1:FB p t.mems=-1 <;> simp [h1]
 ·rcases h with ⟨rfl,h1⟩ | ⟨rfl,h0,h1,h2⟩
  ·simp [-J,-y4,-y3,y0,h1];rfl
  ·simp [-J,-y4,-y3,y0,h1,h2,h0,Int.max_eq_left h0]
theorem sym1_ev (x:nQ) (id:Int):gA 184 [.agg (WD x),.bp [.int .i64 id]] (.bool (decide (x.id=id))):=by
 refine rA (c:=wG) rfl rfl ?_;simp [wG,-J,-y4,-y3,y0,WD]
def ZF (l:List nQ) (id:Int):Int:=FB (fun x=>decide (x.id=id)) l
def qZ (l:List nQ) (id:Int):AV:=.tup [.int .i64 (max (ZF l id) 0),.bool (decide (0<=ZF l id))]
theorem sym_ev (t:pA) (id:Int) (hl:t.syms.length<=9223372036854775807):gA 134 [.agg (eA t),.int .i64 id] (qZ t.syms id):=by
 refine rA (c:=pI) rfl rfl ?_;have h:=zZ 184 [.bp [.int .i64 id]] t.syms (fun x=>decide (x.id=id)) hl (fun _ _=>rfl) (fun x _=>sym1_ev x id) t.sn;simp only [gA] at h;unfold qZ ZF;simp [pI,-J,-y4,-y3,y0,eA,h]
theorem rsym_ev (t:pA) (id:Int) (hl:t.syms.length<=9223372036854775807):gA 98 [.agg (eA t),.int .i64 id] (qZ t.syms id):=by
 refine rA (c:=NI) rfl rfl ?_;obtain ⟨p,hp⟩:∃ p:nQ->Bool,p=fun x=>decide (x.id=id):=⟨_,rfl⟩
 unfold qZ ZF;rw [<- hp];simp [NI,-J,-y4,-y3,y0,eA];refine RA t.syms.length (fun i s=>(s.env 1).v=.int .i64 id/\(s.env 2).v=.ptr 2 1 0/\s.mem 2 1=some (sA t)/\(s.env 6).v=.int .i64 i/\FB p t.syms=(if FB p (t.syms.drop i)=-1 then -1 else FB p (t.syms.drop i) + i))
  (fun e s=>(e=.exit 0/\FB p t.syms=-1)\/(e=.ret/\0<=FB p t.syms/\(s.env 4).v=.int .i64 (FB p t.syms)/\(s.env 5).v=.bool true)) (fun i hi s k h ih hk=>?_) _ _ ?_ (fun e s h=>?_)
 ·obtain ⟨e1,e2,m2,e6,hs⟩:=h;refine iA ?_;by_cases fa:i<t.syms.length
  ·have ga:(i:Int)<t.syms.length:=by omega
   have g1:(t.syms.map WD)[i]?=some (WD t.syms[i]):=by simp [fa]
   have hw:=WB (i:=i);rw [yb fa] at hs;generalize t.syms[i]=x at *
   simp only [WD] at g1;by_cases hx:x.id=id
   ·simp [DG,-J,-y4,-y3,y0,e1,e2,m2,e6,ga,g1,hx];have rx:p x=true:=by rw [hp]; exact decide_eq_true hx
    refine hk _ _ (.inr ⟨rfl,?_,?_,?_⟩)
    ·rw [hs]; simp [FB,rx]
    ·simp [hs,FB,rx]
    ·simp
   ·have rx:p x=false:=by rw [hp]; exact decide_eq_false hx
    simp [DG,-J,-y4,-y3,y0,e1,e2,m2,e6,ga,g1,hx,hw];refine ih fa _ ⟨?_,?_,?_,?_,?_⟩
    ·simp [e1]
    ·simp [e2]
    ·simp [m2]
    ·simp
    ·rw [hs,AL p x _ rx];have:=qF p (t.syms.drop (i + 1));by_cases h1:FB p (t.syms.drop (i + 1))=-1
     ·simp [h1]
     ·have h2:¬ FB p (t.syms.drop (i + 1)) + 1=-1:=by omega
      rw [if_neg h1,if_neg h2,if_neg h1];omega
  ·have ga:¬ (i:Int)<t.syms.length:=by omega
   simp [DG,-J,-y4,-y3,y0,e2,m2,e6,ga];rw [yk (by omega)] at hs;exact hk _ _ (.inl ⟨rfl,hs⟩)
 ·have:=qF p t.syms;by_cases h1:FB p t.syms=-1 <;> simp [h1]
 ·rcases h with ⟨rfl,h1⟩ | ⟨rfl,h0,h1,h2⟩
  ·simp [-J,-y4,-y3,y0,h1];rfl
  ·simp [-J,-y4,-y3,y0,h1,h2,h0,Int.max_eq_left h0]
theorem rnames_lp (sn:Bool) (S:List pA) (i:Nat) (hiS:i<S.length) (hS:S.length<=9223372036854775807) (t:pA) (p:Nat) (r:RV) (P:aA->Prop) (hP:∀ s s':aA,s'.mem=s.mem->s'.obj=s.obj->(∀ t,t ∉ [2,5,27,28,29,30,31,32,33,34,35,36,37,38,39,40,41,42,43,44,45]->s'.env t=s.env t)->P s->P s') (k:Ex->aA->Option RV)
  (hk:∀ s',¬ (t.named=true/\t.name∈(S.take i).map pA.name)->P s'->k (.exit 2) s'=some r) (hr:∀ s':aA,t.named=true/\t.name∈(S.take i).map pA.name->(s'.env 2).v=.int .i64 1->k .ret s'=some r)
  (s:aA) (hs:P s) (h1:(s.env 1).v=.ptr 1 1 0) (m1:s.mem 1 1=some [⟨.sl sn (S.map eA),.no⟩]) (h3:(s.env 3).v=.int .i64 i) (h4:(s.env 4).v=.ptr 4 p 0) (m4:s.mem 4 p=some (sA t)) (h5:(s.env 5).v=.int .i64 0):WI jA tA KD s k=some r:=by
 have ab:=kD t.kind;change gA _ _ (.bool t.named) at ab;simp only [gA] at ab;refine RA i (fun j s=>P s/\(s.env 1).v=.ptr 1 1 0/\s.mem 1 1=some [⟨.sl sn (S.map eA),.no⟩]/\(s.env 3).v=.int .i64 i/\(s.env 4).v=.ptr 4 p 0/\s.mem 4 p=some (sA t)/\(s.env 5).v=.int .i64 j/\¬ (t.named=true/\t.name∈(S.take j).map pA.name))
  (fun e s=>(e=.exit 2/\¬ (t.named=true/\t.name∈(S.take i).map pA.name)/\P s)\/(e=.ret/\(t.named=true/\t.name∈(S.take i).map pA.name)/\(s.env 2).v=.int .i64 1)) (fun j hj s k h ih hk=>?_) _ _ ?_ (fun e s h=>?_)
 ·obtain ⟨hp,e1,m1,e3,e4,m4,e5,hs⟩:=h;refine iA ?_;by_cases fa:j<i
  ·have ga:(j:Int)<i:=by omega
   have hjS:j<S.length:=by omega
   have g1:(S.map eA)[j]?=some (eA S[j]):=by simp [hjS]
   have hw:=WB (i:=j);have ht:S.take (j + 1)=S.take j++[S[j]]:=(yJ hjS).symm;have la:S[j]∈S.take i:=List.mem_take_iff_getElem.2 ⟨j,by omega,rfl⟩;generalize S[j]=u at *
   simp only [eA] at g1;have nxt:∀ s',s'.mem=s.mem->s'.obj=s.obj->(∀ t,t ∉ [2,5,27,28,29,30,31,32,33,34,35,36,37,38,39,40,41,42,43,44,45]->s'.env t=s.env t)->(s'.env 5).v=.int .i64 ((j + 1:Nat):Int)->¬ (t.named=true/\u.name=t.name)->WI jA tA KD s' k=some r:=fun s' hm ho he h5 hn=>by
    refine ih fa _ ⟨hP s s' hm ho he hp,?_,?_,?_,?_,?_,h5,?_⟩
    ·rw [he 1 (by decide)]; exact e1
    ·rw [hm]; exact m1
    ·rw [he 3 (by decide)]; exact e3
    ·rw [he 4 (by decide)]; exact e4
    ·rw [hm]; exact m4
    ·rw [ht,yH,yx];rintro ⟨h1,h2 | h2⟩
     ·exact hs ⟨h1,h2⟩
     ·simp at h2; exact hn ⟨h1,h2.symm⟩
   cases hb:t.named with
   | false =>
    rw [hb] at ab;simp [KD,-J,-y4,-y3,y0,e1,m1,e3,e4,m4,e5,ga,g1,ab,hw];refine nxt _ rfl rfl ?_ ?_ (by simp [hb])
    ·intro t ht;simp only [yg,yP,or_false,not_or] at ht;simp [nH,ht]
    ·simp
   | true =>
    rw [hb] at ab;by_cases ma:u.name=t.name
    ·simp [KD,-J,-y4,-y3,y0,e1,m1,e3,e4,m4,e5,ga,g1,ab,ma];exact hk _ _ (.inr ⟨rfl,⟨hb,ma ▸ Y00 la⟩,by simp⟩)
    ·simp [KD,-J,-y4,-y3,y0,e1,m1,e3,e4,m4,e5,ga,g1,ab,ma,hw];refine nxt _ rfl rfl ?_ ?_ (by simp [ma])
     ·intro t ht;simp only [yg,yP,or_false,not_or] at ht;simp [nH,ht]
     ·simp
  ·have ga:¬ (j:Int)<i:=by omega
   have hji:j=i:=by omega
   simp [KD,-J,-y4,-y3,y0,e3,e5,ga];refine hk _ _ (.inl ⟨rfl,hji ▸ hs,hP s _ rfl rfl ?_ hp⟩);intro t ht;simp only [yg,yP,or_false,not_or] at ht;simp [nH,ht]
 ·simp [hs,h1,m1,h3,h4,m4,h5]
 ·rcases h with ⟨rfl,h1,h2⟩ | ⟨rfl,h1,h2⟩
  ·exact hk s h1 h2
  ·exact hr s h1 h2
theorem rvuses_lp (sn:Bool) (S:List pA) (U:List Int) (hU:U.length<=9223372036854775807) (bu:Bool) (r:RV) (P:aA->Prop) (hP:∀ s s':aA,s'.mem=s.mem->s'.obj=s.obj->(∀ t,t ∉ [2,7,48,49,50,51,52,53,54,55,56,57,58,59,60,61,62,63,64,65,66,67,68]->s'.env t=s.env t)->P s->P s') (k:Ex->aA->Option RV)
  (hk:∀ s',U.any (sB S.length)=false->P s'->k (.exit 4) s'=some r) (hr:∀ s':aA,U.any (sB S.length)=true->(s'.env 2).v=.int .i64 4->k .ret s'=some r)
  (s:aA) (hs:P s) (h1:(s.env 1).v=.ptr 1 1 0) (m1:s.mem 1 1=some [⟨.sl sn (S.map eA),.no⟩]) (h6:(s.env 6).v=.sl bu (U.map CD)) (h7:(s.env 7).v=.int .i64 0):WI jA tA TE s k=some r:=by
 refine RA U.length (fun i s=>P s/\(s.env 1).v=.ptr 1 1 0/\s.mem 1 1=some [⟨.sl sn (S.map eA),.no⟩]/\(s.env 6).v=.sl bu (U.map CD)/\(s.env 7).v=.int .i64 i/\(U.drop i).any (sB S.length)=U.any (sB S.length))
  (fun e s=>(e=.exit 4/\U.any (sB S.length)=false/\P s)\/(e=.ret/\U.any (sB S.length)=true/\(s.env 2).v=.int .i64 4)) (fun i hi s k h ih hk=>?_) _ _ ?_ (fun e s h=>?_)
 ·obtain ⟨hp,e1,m1,e6,e7,hs⟩:=h;refine iA ?_;by_cases fa:i<U.length
  ·have ga:(i:Int)<U.length:=by omega
   have g1:(U.map CD)[i]?=some (CD U[i]):=by simp [fa]
   have hw:=WB (i:=i);rw [yb fa,List.any_cons] at hs;generalize U[i]=u at *
   simp only [CD] at g1;by_cases c1:u<0
   ·simp [TE,-J,-y4,-y3,y0,e1,m1,e6,e7,ga,g1,c1];exact hk _ _ (.inr ⟨rfl,by rw [<- hs]; simp [sB,c1],by simp⟩)
   by_cases c2:(S.length:Int)<=u
   ·simp [TE,-J,-y4,-y3,y0,e1,m1,e6,e7,ga,g1,c1,c2];exact hk _ _ (.inr ⟨rfl,by rw [<- hs]; simp [sB,c2],by simp⟩)
   simp [TE,-J,-y4,-y3,y0,e1,m1,e6,e7,ga,g1,c1,c2,hw];refine ih fa _ ⟨hP s _ rfl rfl ?_ hp,?_,?_,?_,?_,?_⟩
   ·intro t ht;simp only [yg,yP,or_false,not_or] at ht;simp [nH,ht]
   ·simp [e1]
   ·simp [m1]
   ·simp [e6]
   ·simp
   ·rw [<- hs]; simp [sB,c1,c2]
  ·have ga:¬ (i:Int)<U.length:=by omega
   simp [TE,-J,-y4,-y3,y0,e6,e7,ga];rw [yk (by omega)] at hs;refine hk _ _ (.inl ⟨rfl,hs.symm,hP s _ rfl rfl ?_ hp⟩);intro t ht;simp only [yg,yP,or_false,not_or] at ht;simp [nH,ht]
 ·simp [hs,h1,m1,h6,h7]
 ·rcases h with ⟨rfl,h1,h2⟩ | ⟨rfl,h1,h2⟩
  ·exact hk s h1 h2
  ·exact hr s h1 h2
theorem rvalid_ev (s:FI) (hs:s.fine):gA 72 [.agg (GA s)] (.int .i64 (valid s.types)):=by
 obtain ⟨ia,rg⟩:=hs;refine rA (c:=AH) rfl rfl ?_;unfold valid;by_cases wv:32<s.types.length
 ·have so:(32:Int)<s.types.length:=by omega
  simp [AH,-J,-y4,-y3,y0,GA,wv,so]
 have so:¬ (32:Int)<s.types.length:=by omega
 simp [AH,-J,-y4,-y3,y0,GA,wv,so];refine RA s.types.length (fun i σ=>(σ.env 1).v=.ptr 1 1 0/\σ.mem 1 1=some [⟨.sl s.nl (s.types.map eA),.no⟩]/\(σ.env 3).v=.int .i64 i/\XC s.types (s.types.length - i) i=XC s.types s.types.length 0)
  (fun e σ=>(e=.exit 0/\XC s.types s.types.length 0=0)\/(e=.ret/\(σ.env 2).v=.int .i64 (XC s.types s.types.length 0))) (fun i hi σ k h ih hk=>?_) _ _ ?_ (fun e σ h=>?_)
 ·obtain ⟨e1,m1,e3,hv⟩:=h;refine iA ?_;by_cases fa:i<s.types.length
  ·have ga:(i:Int)<s.types.length:=by omega
   have g1:(s.types.map eA)[i]?=some (eA s.types[i]):=by simp [fa]
   have hw:=WB (i:=i);have hf:=own_ev s.types[i] (rg _ (y8 _));have hu:=fun h9:(s.types[i]'fa).kind<=9=>ruses_ev (s.types[i]'fa) (rg _ (y8 fa)).2.2 h9 _ rfl
   have rj:=(rg _ (y8 fa)).2.2;rw [RT fa] at hv;generalize s.types[i]=t at *
   have hul:t.usesL.length<=9223372036854775807:=by
    unfold pA.usesL;by_cases h8:t.kind=8 <;> by_cases h7:7<=t.kind <;> simp [h8,h7] <;> omega
   simp only [gA,eA] at hf hu;simp only [eA] at g1;have err:∀ σ' n,tD s.types i t=n->n≠0->(σ'.env 2).v=.int .i64 n->k .ret σ'=some (.int .i64 (XC s.types s.types.length 0),none):=fun σ' n h1 h2 h3=>hk _ _ (.inr ⟨rfl,by rw [h3,<- hv,h1,if_neg h2]⟩)
   cases c1:dB t with
   | false =>
    rw [c1] at hf;simp [gH,-J,-y4,-y3,y0,e1,m1,e3,ga,g1,hf];exact err _ 1 (by simp [tD,c1]) (by decide) (by simp)
   | true =>
    rw [c1] at hf;have hu:=hu (lH c1).2;simp [gH,-J,-y4,-y3,y0,e1,m1,e3,ga,g1,hf];refine rnames_lp s.nl s.types i fa ia t (σ.next + 1) _ (fun σ2=>(σ2.env 1).v=.ptr 1 1 0/\σ2.mem 1 1=some [⟨.sl s.nl (s.types.map eA),.no⟩]/\(σ2.env 3).v=.int .i64 i/\(σ2.env 4).v=.ptr 4 (σ.next + 1) 0/\σ2.mem 4 (σ.next + 1)=some (sA t)) (fun a b hm ho he h=>?_) _ (fun σ2 c2 h=>?_) (fun σ2 c2 h2=>?_) _ ⟨?_,?_,?_,?_,?_⟩ ?_ ?_ ?_ ?_ ?_ ?_
    ·rw [hm,he 1 (by decide),he 3 (by decide),he 4 (by decide)];exact h
    ·obtain ⟨f1,fm,f3,f4,fp⟩:=h;simp [-J,-y4,-y3,y0,f1,fm,f3,f4,fp,hu];refine rvuses_lp s.nl s.types t.usesL hul t.usesL.isEmpty _ (fun σ2=>(σ2.env 1).v=.ptr 1 1 0/\σ2.mem 1 1=some [⟨.sl s.nl (s.types.map eA),.no⟩]/\(σ2.env 3).v=.int .i64 i/\(σ2.env 4).v=.ptr 4 (σ.next + 1) 0/\σ2.mem 4 (σ.next + 1)=some (sA t)) (fun a b hm ho he h=>?_) _ (fun σ2 c3 h=>?_) (fun σ2 c3 h2=>?_) _ ⟨?_,?_,?_,?_,?_⟩ ?_ ?_ ?_ ?_
     ·rw [hm,he 1 (by decide),he 3 (by decide),he 4 (by decide)];exact h
     ·obtain ⟨f1,fm,f3,f4,fp⟩:=h;by_cases h8:t.kind=8
      ·obtain ⟨pm,od⟩:=key_in h8 c3;have h3:t.key.toNat<s.types.length:=by omega
       have gy:(s.types.map eA)[t.key.toNat]?=some (eA s.types[t.key.toNat]):=by rw [yc,y5 h3]; rfl
       have hy:MJ s.types t.key=s.types[t.key.toNat].kind:=by unfold MJ; rw [y5 h3]
       generalize s.types[t.key.toNat]=y at *
       have jb:=bX y.kind;simp only [eA] at gy;simp only [gA] at jb;by_cases c4:1<=y.kind/\y.kind<=4
       ·rw [decide_eq_true c4] at jb;simp [-J,-y4,-y3,y0,f1,fm,f3,f4,fp,h8,pm,gy,jb,hw];refine ih fa _ ⟨?_,?_,?_,?_⟩
        ·simp [f1]
        ·simp [fm]
        ·simp
        ·rw [<- hv,if_pos];unfold tD;rw [if_neg (by simp [c1]),if_neg c2,if_neg (by simp [c3]),if_neg fun h=>h.2 (by rw [hy]; exact c4)]
       ·rw [decide_eq_false c4] at jb;simp [-J,-y4,-y3,y0,f1,fm,f3,f4,fp,h8,pm,gy,jb];exact err _ 1 (by unfold tD; rw [if_neg (by simp [c1]),if_neg c2,if_neg (by simp [c3]),if_pos ⟨h8,by rw [hy]; exact c4⟩]) (by decide) (by simp)
      ·simp [-J,-y4,-y3,y0,f1,fm,f3,f4,fp,h8,hw];refine ih fa _ ⟨?_,?_,?_,?_⟩
       ·simp [f1]
       ·simp [fm]
       ·simp
       ·rw [<- hv,if_pos];unfold tD;rw [if_neg (by simp [c1]),if_neg c2,if_neg (by simp [c3]),if_neg fun h=>h8 h.1]
     ·simp [-J,-y4,-y3,y0];exact err _ 4 (by unfold tD; rw [if_neg (by simp [c1]),if_neg c2,if_pos c3]) (by decide) h2
     all_goals simp [f1,fm,f3,f4,fp]
    ·simp [-J,-y4,-y3,y0];exact err _ 1 (by unfold tD; rw [if_neg (by simp [c1]),if_pos c2]) (by decide) h2
    all_goals simp [e1,m1,e3]
  ·have ga:¬ (i:Int)<s.types.length:=by omega
   simp [gH,-J,-y4,-y3,y0,e1,m1,e3,ga];refine hk _ _ (.inl ⟨rfl,?_⟩);rw [<- hv,show s.types.length - i=0 from by omega,XC]
 ·refine ⟨?_,?_,?_,?_⟩ <;> simp
 ·rcases h with ⟨rfl,h1⟩ | ⟨rfl,h1⟩
  ·simp [-J,-y4,-y3,y0,h1]
  ·simp [-J,-y4,-y3,y0,h1]
end Go.Proofs.YtbhbeakhognieaaGreat
