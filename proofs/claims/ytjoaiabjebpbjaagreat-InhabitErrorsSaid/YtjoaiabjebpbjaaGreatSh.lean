/- A part of the proof. -/
import Derived.Test.YtjoaiabjebpbjaaGreatSf
import Derived.Test.YtjoaiabjebpbjaaGreatSg
set_option linter.all false
set_option maxRecDepth 100000
set_option maxHeartbeats 8000000
open Option renaming bind_some → V
open List renaming range_succ → J, map_map → y0, getElem?_eq_getElem → y4, getElem_mem → y5, getElem?_map → y8, drop_eq_getElem_cons → y9, mem_cons → yc, drop_eq_nil_of_le → ye, take_append_getElem → yr, mem_append → yE, not_mem_nil → yH
open Int renaming toNat_lt → y3
open Bool renaming and_eq_true → y7
namespace Go.Proofs.YtjoaiabjebpbjaaGreat
open Go
def tB (n:Nat) (u:Int):Bool:=decide (u<0)||decide ((n:Int)<=u)
def AO (l:List gA) (k:Int):Int:=match l[k.toNat]? with
 | some t=>t.kind
 | none=>0
def dD (l:List gA) (i:Nat) (t:gA):Int :=
 if aB t=false then 1
 else if t.named=true/\t.name∈(l.take i).map gA.name then 1
 else if t.usesL.any (tB l.length)=true then 4
 else if t.kind=8/\¬ (1<=AO l t.key/\AO l t.key<=4) then 1
 else 0
def wD (l:List gA):Nat->Nat->Int
 | 0,_=>0
 | n + 1,i=>match l[i]? with
  | some t=>if dD l i t=0 then wD l n (i + 1) else dD l i t
  | none=>0
def valid (l:List gA):Int:=if 32<l.length then 3 else wD l l.length 0
theorem BT {l:List gA} {i:Nat} (h:i<l.length):wD l (l.length - i) i=if dD l i l[i]=0 then wD l (l.length - (i + 1)) (i + 1) else dD l i l[i]:=by
 rw [show l.length - i=(l.length - (i + 1)) + 1 from by omega,wD,y4 h]
theorem JE {t:gA} (h:aB t=true):1<=t.kind/\t.kind<=9:=by
 unfold aB at h;rw [y7] at h;exact of_decide_eq_true h.1
theorem isName_ne {s:ByteArray} (h:GF s=true):s≠⟨#[]⟩:=fun e=>by
 subst e;unfold GF at h;simp only [y7] at h;have:=of_decide_eq_true h.1.1.1;exact this rfl
theorem good_named {t:gA} (h:aB t=true):t.named=true ↔ t.name≠⟨#[]⟩:=by
 have hk:=JE h;unfold aB kF gA.left at h;rcases kinds t.kind with e | e | e | e | e | e | e | e | e | e
 all_goals first | exact absurd hk e | skip
 all_goals simp [e,gA.same,sC,gA.named] at h ⊢
 all_goals first | exact isName_ne h.1.1 | (simp [h]; done) | skip
theorem s5 {l:List gA} {t:gA} (h8:t.kind=8) (h:t.usesL.any (tB l.length)=false):0<=t.key/\t.key<l.length:=by
 have hm:t.key∈t.usesL:=by simp [gA.usesL,h8]
 have:=List.any_eq_false.1 h _ hm;simp [tB] at this;omega
theorem r4 (s:ByteArray):∀ l:List ByteArray,s∈l->NI (l.map fJ) (.str s) (.bool true)=l.map fJ
 | [],h=>by cases h
 | x :: r,hn=>by
  by_cases h:x=s
  ·simp [fJ,NI,xR,h]
  ·have:=r4 s r (by
    rcases yc.1 hn with e | e
    ·exact absurd e.symm h
    ·exact e)
   simp [fJ,NI,xR,h,this]
theorem seen_next (s:ByteArray) (q:List ByteArray):∃ q':List ByteArray,NI (q.map fJ) (.str s) (.bool true)=q'.map fJ/\∀ x,x∈q' ↔ x∈q\/x=s:=by
 by_cases h:s∈q
 ·exact ⟨q,r4 s q h,fun x=>⟨.inl,fun e=>e.elim id (fun e=>e ▸ h)⟩⟩
 ·exact ⟨q++[s],TZ s q h,fun x=>by simp⟩
def PM.fine (s:PM):Prop:=s.types.length<=9223372036854775807/\∀ t∈s.types,t.fine
theorem vuses_lp (sn:Bool) (S:List gA) (U:List Int) (hU:U.length<=9223372036854775807) (bu:Bool) (r:RV) (P:aA->Prop) (hP:∀ s s':aA,s'.mem=s.mem->s'.obj=s.obj->s'.next=s'.next->(∀ t,t ∉ [2,7,41,42,43,44,45,46,47,48,49,50,51,52,53,40]->s'.env t=s.env t)->P s->P s') (k:Ex->aA->Option RV)
  (hk:∀ s',U.any (tB S.length)=false->P s'->k (.exit 2) s'=some r) (hr:∀ s':aA,U.any (tB S.length)=true->(s'.env 2).v=.int .i64 4->k .ret s'=some r)
  (s:aA) (hs:P s) (h1:(s.env 1).v=.ptr 1 1 0) (m1:s.mem 1 1=some [⟨.sl sn (S.map eA),.no⟩]) (h38:(s.env 38).v=.sl bu (U.map GH)) (h39:(s.env 39).v=.int .i64 U.length) (h40:(s.env 40).v=.int .i64 0):kI kA tA SD s k=some r:=by
 refine bA U.length (fun i s=>P s/\(s.env 1).v=.ptr 1 1 0/\s.mem 1 1=some [⟨.sl sn (S.map eA),.no⟩]/\(s.env 38).v=.sl bu (U.map GH)/\(s.env 39).v=.int .i64 U.length/\(s.env 40).v=.int .i64 i/\(U.drop i).any (tB S.length)=U.any (tB S.length))
  (fun e s=>(e=.exit 2/\U.any (tB S.length)=false/\P s)\/(e=.ret/\U.any (tB S.length)=true/\(s.env 2).v=.int .i64 4)) (fun i hi s k h ih hk=>?_) _ _ ?_ (fun e s h=>?_)
 ·obtain ⟨hp,e1,m1,e38,e39,e40,hs⟩:=h;refine uA ?_;by_cases fa:i<U.length
  ·have ga:(i:Int)<U.length:=by omega
   have g1:(U.map GH)[i]?=some (GH U[i]):=by simp [fa]
   have hw:=LA (i:=i);rw [y9 fa,List.any_cons] at hs;generalize U[i]=u at *
   simp only [GH] at g1;by_cases c1:u<0
   ·simp [SD,-V,-y3,-y0,J,e1,m1,e38,e39,e40,ga,g1,c1];exact hk _ _ (.inr ⟨rfl,by rw [<- hs]; simp [tB,c1],by simp⟩)
   by_cases c2:(S.length:Int)<=u
   ·simp [SD,-V,-y3,-y0,J,e1,m1,e38,e39,e40,ga,g1,c1,c2];exact hk _ _ (.inr ⟨rfl,by rw [<- hs]; simp [tB,c2],by simp⟩)
   simp [SD,-V,-y3,-y0,J,e1,m1,e38,e39,e40,ga,g1,c1,c2,hw];refine ih fa _ ⟨hP s _ ?_ ?_ ?_ ?_ hp,?_,?_,?_,?_,?_,?_⟩
   ·rfl
   ·rfl
   ·rfl
   ·intro t ht;simp only [yc,yH,or_false,not_or] at ht;simp [BF,ht]
   ·simp [e1]
   ·simp [m1]
   ·simp [e38]
   ·simp [e39]
   ·simp
   ·rw [<- hs]; simp [tB,c1,c2]
  ·have ga:¬ (i:Int)<U.length:=by omega
   simp [SD,-V,-y3,-y0,J,e39,e40,ga];rw [ye (by omega)] at hs;refine hk _ _ (.inl ⟨rfl,hs.symm,hP s _ ?_ ?_ ?_ ?_ hp⟩)
   ·rfl
   ·rfl
   ·rfl
   ·intro t ht;simp only [yc,yH,or_false,not_or] at ht;simp [BF,ht]
 ·simp [hs,h1,m1,h38,h39,h40]
 ·rcases h with ⟨rfl,h1,h2⟩ | ⟨rfl,h1,h2⟩
  ·exact hk s h1 h2
  ·exact hr s h1 h2
theorem XZ (s:PM) (hs:s.fine):sA 108 [.agg (JA s)] (.int .i64 (valid s.types)):=by
 obtain ⟨ba,df⟩:=hs;refine wA (c:=jH) rfl rfl ?_;unfold valid;by_cases pw:32<s.types.length
 ·have ro:(32:Int)<s.types.length:=by omega
  simp [jH,-V,-y3,-y0,J,JA,pw,ro]
 have ro:¬ (32:Int)<s.types.length:=by omega
 simp [jH,-V,-y3,-y0,J,JA,pw,ro];refine bA s.types.length (fun i σ=>(σ.env 1).v=.ptr 1 1 0/\σ.mem 1 1=some [⟨.sl s.nl (s.types.map eA),.no⟩]/\(σ.env 3).v=.mp 12 3/\(σ.env 14).v=.sl s.nl (s.types.map eA)/\(σ.env 15).v=.int .i64 s.types.length/\(σ.env 16).v=.int .i64 i/\(∃ q:List ByteArray,σ.obj 12 3=some (zH (q.map fJ))/\∀ x,x∈q ↔ x∈(s.types.take i).map gA.name)/\wD s.types (s.types.length - i) i=wD s.types s.types.length 0)
  (fun e σ=>(e=.exit 0/\wD s.types s.types.length 0=0)\/(e=.ret/\(σ.env 2).v=.int .i64 (wD s.types s.types.length 0))) (fun i hi σ k h ih hk=>?_) _ _ ?_ (fun e σ h=>?_)
 ·obtain ⟨e1,m1,e3,gd,bd,je,⟨q,o,hq⟩,hv⟩:=h;refine uA ?_;by_cases fa:i<s.types.length
  ·have ga:(i:Int)<s.types.length:=by omega
   have g1:(s.types.map eA)[i]?=some (eA s.types[i]):=by simp [fa]
   have hw:=LA (i:=i);have ht:s.types.take (i + 1)=s.types.take i++[s.types[i]]:=(yr fa).symm;have hf:=form_ev s.types[i] (df _ (y5 _));have hu:=uses_ev s.types[i] (df _ (y5 _)).2.2 _ rfl;have ik:=(df _ (y5 fa)).2.2;rw [BT fa] at hv;generalize s.types[i]=t at *
   have hul:t.usesL.length<=9223372036854775807:=by
    unfold gA.usesL;by_cases h8:t.kind=8 <;> by_cases h7:7<=t.kind <;> simp [h8,h7] <;> omega
   simp only [sA,eA] at hf hu;simp only [eA] at g1;have hg:=RZ t.name q;have xw:=B5 q;obtain ⟨q',hq',jb⟩:=seen_next t.name q;have err:∀ σ' n,dD s.types i t=n->n≠0->(σ'.env 2).v=.int .i64 n->k .ret σ'=some (.int .i64 (wD s.types s.types.length 0),none):=fun σ' n h1 h2 h3=>hk _ _ (.inr ⟨rfl,by rw [h3,<- hv,h1,if_neg h2]⟩)
   cases c1:aB t with
   | false =>
    rw [c1] at hf;simp [TB,-V,-y3,-y0,J,e1,m1,e3,gd,bd,je,ga,g1,hf];exact err _ 1 (by simp [dD,c1]) (by decide) (by simp)
   | true =>
    rw [c1] at hf;have sb:=good_named c1;have dup:t.name≠⟨#[]⟩->t.name∈q->TB.run (BI kA tA) (aN kA tA) σ (AM (kI kA tA) TB k)=some (.int .i64 (wD s.types s.types.length 0),none):=by
     intro hn ai;have hd:=eq_false hn;rw [if_pos ai] at hg;simp [TB,-V,-y3,-y0,J,e1,m1,e3,gd,bd,je,ga,g1,hf,hd,o,BJ,xw,uJ,AV.flat,AV.scal,hg];exact err _ 1 (by unfold dD; rw [if_neg (by simp [c1]),if_pos ⟨sb.2 hn,(hq _).1 ai⟩]) (by decide) (by simp)
    have go:(t.name=⟨#[]⟩\/t.name≠⟨#[]⟩/\¬ t.name∈q)->TB.run (BI kA tA) (aN kA tA) σ (AM (kI kA tA) TB k)=some (.int .i64 (wD s.types s.types.length 0),none):=by
     intro hn;have c2:¬ (t.named=true/\t.name∈(s.types.take i).map gA.name):=fun ⟨h1,h2⟩=>by
      rcases hn with hn | hn
      ·exact (sb.1 h1) hn
      ·exact hn.2 ((hq _).2 h2)
     have fin:∀ (σ':aA) (k':Ex->aA->Option RV) (p:Nat),(∀ σ2:aA,(σ2.env 2).v=.int .i64 4->k' .ret σ2=k .ret σ2) →
       (∀ σ2:aA,(σ2.env 1).v=.ptr 1 1 0->σ2.mem 1 1=some [⟨.sl s.nl (s.types.map eA),.no⟩]->(σ2.env 3).v=.mp 12 3->(σ2.env 14).v=.sl s.nl (s.types.map eA)->(σ2.env 15).v=.int .i64 s.types.length->(σ2.env 16).v=.int .i64 i->σ2.obj 12 3=some (zH (q'.map fJ))->(σ2.env 5).v=.ptr 5 p 0->σ2.mem 5 p=some (MA t)->t.usesL.any (tB s.types.length)=false->k' (.exit 2) σ2=some (.int .i64 (wD s.types s.types.length 0),none)) →
       (σ'.env 1).v=.ptr 1 1 0->σ'.mem 1 1=some [⟨.sl s.nl (s.types.map eA),.no⟩]->(σ'.env 3).v=.mp 12 3->(σ'.env 14).v=.sl s.nl (s.types.map eA)->(σ'.env 15).v=.int .i64 s.types.length->(σ'.env 16).v=.int .i64 i->σ'.obj 12 3=some (zH (q'.map fJ))->(σ'.env 5).v=.ptr 5 p 0->σ'.mem 5 p=some (MA t)->(σ'.env 38).v=.sl t.usesL.isEmpty (t.usesL.map GH)->(σ'.env 39).v=.int .i64 t.usesL.length->(σ'.env 40).v=.int .i64 0->kI kA tA SD σ' k'=some (.int .i64 (wD s.types s.types.length 0),none):=by
      intro σ' k' p hret wr f1 fm f3 si dk wk fo f5 fp f38 f39 f40;refine vuses_lp s.nl s.types t.usesL hul t.usesL.isEmpty _ (fun σ2=>(σ2.env 1).v=.ptr 1 1 0/\σ2.mem 1 1=some [⟨.sl s.nl (s.types.map eA),.no⟩]/\(σ2.env 3).v=.mp 12 3/\(σ2.env 14).v=.sl s.nl (s.types.map eA)/\(σ2.env 15).v=.int .i64 s.types.length/\(σ2.env 16).v=.int .i64 i/\σ2.obj 12 3=some (zH (q'.map fJ))/\(σ2.env 5).v=.ptr 5 p 0/\σ2.mem 5 p=some (MA t)) (fun a b hm ho _ he h=>?_) k' (fun σ2 hu h=>?_) (fun σ2 hu h2=>?_) σ' ⟨f1,fm,f3,si,dk,wk,fo,f5,fp⟩ f1 fm f38 f39 f40
      ·rw [hm,ho,he 1 (by decide),he 3 (by decide),he 14 (by decide),he 15 (by decide),he 16 (by decide),he 5 (by decide)];exact h
      ·obtain ⟨f1,fm,f3,si,dk,wk,fo,f5,fp⟩:=h;exact wr σ2 f1 fm f3 si dk wk fo f5 fp hu
      ·rw [hret σ2 h2];exact err _ 4 (by unfold dD; rw [if_neg (by simp [c1]),if_neg c2,if_pos hu]) (by decide) h2
     have key:t.usesL.any (tB s.types.length)=false->t.kind=8->0<=t.key/\∃ y:gA,(s.types.map eA)[t.key.toNat]?=some (eA y)/\AO s.types t.key=y.kind:=fun hu h8=>by
      obtain ⟨h1,h2⟩:=s5 h8 hu;have h3:t.key.toNat<s.types.length:=by omega
      exact ⟨h1,s.types[t.key.toNat],by rw [y8,y4 h3]; rfl,by unfold AO; rw [y4 h3]⟩
     have next:dD s.types i t=0->∀ σ2:aA,(σ2.env 1).v=.ptr 1 1 0->σ2.mem 1 1=some [⟨.sl s.nl (s.types.map eA),.no⟩]->(σ2.env 3).v=.mp 12 3->(σ2.env 14).v=.sl s.nl (s.types.map eA)->(σ2.env 15).v=.int .i64 s.types.length->(σ2.env 16).v=.int .i64 ((i + 1:Nat):Int)->σ2.obj 12 3=some (zH (q'.map fJ))->kI kA tA TB σ2 k=some (.int .i64 (wD s.types s.types.length 0),none):=fun h0 σ2 f1 fm f3 si dk wk fo=>ih fa _ ⟨f1,fm,f3,si,dk,wk,⟨q',fo,fun x=>by rw [jb,ht,List.map_append,yE,hq]; simp⟩,by rw [<- hv,h0]; rfl⟩
     have hgn:t.name=⟨#[]⟩\/t.name≠⟨#[]⟩/\UK (q.map fJ) (.str t.name)=none:=by
      rcases hn with hn | ⟨h1,h2⟩
      ·exact .inl hn
      ·exact .inr ⟨h1,by rw [hg,if_neg h2]⟩
     rcases hgn with hd | ⟨hd,hg⟩
     ·have hd:=eq_true hd;simp [TB,-V,-y3,-y0,J,e1,m1,e3,gd,bd,je,ga,g1,hf,hu,hd,o,BJ,xw,uJ,AV.flat,AV.scal,hq'];refine fin _ _ (σ.next + 1) (fun σ2 _=>rfl) (fun σ2 f1 fm f3 si dk wk fo f5 fp sd=>?_) ?_ ?_ ?_ ?_ ?_ ?_ ?_ ?_ ?_ ?_ ?_ ?_
      rotate_left
      ·simp [e1]
      ·simp [m1]
      ·simp [e3]
      ·simp [gd]
      ·simp [bd]
      ·simp [je]
      ·simp
      ·simp
      ·simp
      ·simp
      ·simp
      ·simp
      have c3:=sd;by_cases h8:t.kind=8
      ·obtain ⟨wd,y,gy,hy⟩:=key sd h8;simp only [eA] at gy;by_cases c4:y.kind<1
       ·simp [-V,-y3,-y0,J,f1,fm,f5,fp,h8,wd,gy,c4];exact err _ 1 (by unfold dD; rw [if_neg (by simp [c1]),if_neg c2,if_neg (by simp [c3]),if_pos ⟨h8,by rw [hy]; omega⟩]) (by decide) (by simp)
       ·by_cases c5:4<y.kind
        ·simp [-V,-y3,-y0,J,f1,fm,f5,fp,h8,wd,gy,c4,c5];exact err _ 1 (by unfold dD; rw [if_neg (by simp [c1]),if_neg c2,if_neg (by simp [c3]),if_pos ⟨h8,by rw [hy]; omega⟩]) (by decide) (by simp)
        ·simp [-V,-y3,-y0,J,f1,fm,f5,fp,wk,h8,wd,gy,c4,c5,hw];refine next (by unfold dD; rw [if_neg (by simp [c1]),if_neg c2,if_neg (by simp [c3]),if_neg fun h=>h.2 (by rw [hy]; omega)]) _ ?_ ?_ ?_ ?_ ?_ ?_ ?_ <;> simp [f1,fm,f3,si,dk,fo]
      ·simp [-V,-y3,-y0,J,f1,fm,f5,fp,wk,h8,hw];refine next (by unfold dD; rw [if_neg (by simp [c1]),if_neg c2,if_neg (by simp [c3]),if_neg fun h=>h8 h.1]) _ ?_ ?_ ?_ ?_ ?_ ?_ ?_ <;> simp [f1,fm,f3,si,dk,fo]
     ·have hd:=eq_false hd;simp [TB,-V,-y3,-y0,J,e1,m1,e3,gd,bd,je,ga,g1,hf,hu,hd,hg,o,BJ,xw,uJ,AV.flat,AV.scal,hq'];refine fin _ _ (σ.next + 1) (fun σ2 _=>rfl) (fun σ2 f1 fm f3 si dk wk fo f5 fp sd=>?_) ?_ ?_ ?_ ?_ ?_ ?_ ?_ ?_ ?_ ?_ ?_ ?_
      rotate_left
      ·simp [e1]
      ·simp [m1]
      ·simp [e3]
      ·simp [gd]
      ·simp [bd]
      ·simp [je]
      ·simp
      ·simp
      ·simp
      ·simp
      ·simp
      ·simp
      have c3:=sd;by_cases h8:t.kind=8
      ·obtain ⟨wd,y,gy,hy⟩:=key sd h8;simp only [eA] at gy;by_cases c4:y.kind<1
       ·simp [-V,-y3,-y0,J,f1,fm,f5,fp,h8,wd,gy,c4];exact err _ 1 (by unfold dD; rw [if_neg (by simp [c1]),if_neg c2,if_neg (by simp [c3]),if_pos ⟨h8,by rw [hy]; omega⟩]) (by decide) (by simp)
       ·by_cases c5:4<y.kind
        ·simp [-V,-y3,-y0,J,f1,fm,f5,fp,h8,wd,gy,c4,c5];exact err _ 1 (by unfold dD; rw [if_neg (by simp [c1]),if_neg c2,if_neg (by simp [c3]),if_pos ⟨h8,by rw [hy]; omega⟩]) (by decide) (by simp)
        ·simp [-V,-y3,-y0,J,f1,fm,f5,fp,wk,h8,wd,gy,c4,c5,hw];refine next (by unfold dD; rw [if_neg (by simp [c1]),if_neg c2,if_neg (by simp [c3]),if_neg fun h=>h.2 (by rw [hy]; omega)]) _ ?_ ?_ ?_ ?_ ?_ ?_ ?_ <;> simp [f1,fm,f3,si,dk,fo]
      ·simp [-V,-y3,-y0,J,f1,fm,f5,fp,wk,h8,hw];refine next (by unfold dD; rw [if_neg (by simp [c1]),if_neg c2,if_neg (by simp [c3]),if_neg fun h=>h8 h.1]) _ ?_ ?_ ?_ ?_ ?_ ?_ ?_ <;> simp [f1,fm,f3,si,dk,fo]
    by_cases ai:t.name≠⟨#[]⟩/\t.name∈q
    ·exact dup ai.1 ai.2
    ·refine go ?_;by_cases he:t.name=⟨#[]⟩
     ·exact .inl he
     ·exact .inr ⟨he,fun h=>ai ⟨he,h⟩⟩
  ·have ga:¬ (i:Int)<s.types.length:=by omega
   simp [TB,-V,-y3,-y0,J,bd,je,ga];refine hk _ _ (.inl ⟨rfl,?_⟩);rw [<- hv,show s.types.length - i=0 from by omega,wD]
 ·refine ⟨?_,?_,?_,?_,?_,?_,⟨[],?_,?_⟩,?_⟩ <;> simp [zH]
 ·rcases h with ⟨rfl,h1⟩ | ⟨rfl,h1⟩
  ·simp [-V,-y3,-y0,J,h1]
  ·simp [-V,-y3,-y0,J,h1]
def wC {α:Type} (p:α->Bool):List α->Int
 | []=>-1
 | x :: r=>if p x=true then 0 else if wC p r=-1 then -1 else wC p r + 1
theorem sF {α:Type} (p:α->Bool):∀ l:List α,-1<=wC p l
 | []=>by simp [wC]
 | x :: r=>by
  have:=sF p r;simp only [wC];split
  ·omega
  ·split <;> omega
theorem iO {α:Type} (p:α->Bool) (x:α) (r:List α) (h:p x=false):wC p (x :: r)=if wC p r=-1 then -1 else wC p r + 1:=by simp [wC,h]
theorem PQ {α:Type} (p:α->Bool):∀ l:List α,wC p l≠-1->∃ x,l[(wC p l).toNat]?=some x/\p x=true
 | [],h=>absurd rfl h
 | x :: r,h=>by
  simp only [wC] at h ⊢;by_cases hx:p x=true
  ·rw [if_pos hx]; exact ⟨x,rfl,hx⟩
  ·rw [if_neg hx] at h ⊢;by_cases h1:wC p r=-1
   ·rw [if_pos h1] at h; exact absurd rfl h
   ·rw [if_neg h1];obtain ⟨y,h2,h3⟩:=PQ p r h1;have:=sF p r;refine ⟨y,?_,h3⟩;rw [show (wC p r + 1).toNat=(wC p r).toNat + 1 from by omega,List.getElem?_cons_succ];exact h2
theorem nL {α:Type} (p:α->Bool):∀ l:List α,(decide (0<=wC p l))=l.any p
 | []=>by simp [wC]
 | x :: r=>by
  have h1:=nL p r;have h2:=sF p r;rw [List.any_cons,<- h1];simp only [wC];by_cases hx:p x=true
  ·simp [hx]
  ·by_cases h:wC p r=-1
   ·simp [hx,h]
   ·simp [hx,h]; omega
theorem o0 (F:Nat) (caps:List AV) (l:List bB) (p:bB->Bool) (hl:l.length<=9223372036854775807) (wg:∀ (s:aA) (cl:Cl),JD s cl caps=some caps) (hF:∀ x∈l,sA F (.agg (nA x) :: caps) (.bool (p x))) (b:Bool):sA 129 [.sl b (l.map nA),.fn F caps] (.int .i64 (wC p l)):=by
 refine wA (c:=MC) rfl rfl ?_;simp [MC,-V,-y3,-y0,J];refine bA l.length (fun i s=>(s.env 0).v=.sl b (l.map nA)/\(s.env 1).v=.fn F caps/\(s.env 7).v=.int .i64 l.length/\(s.env 8).v=.int .i64 i/\wC p l=(if wC p (l.drop i)=-1 then -1 else wC p (l.drop i) + i))
  (fun e s=>(e=.exit 0/\wC p l=-1)\/(e=.ret/\(s.env 4).v=.int .i64 (wC p l))) (fun i hi s k h ih hk=>?_) _ _ ?_ (fun e s h=>?_)
 ·obtain ⟨e0,e1,e7,e8,hs⟩:=h;refine uA ?_;by_cases fa:i<l.length
  ·have ga:(i:Int)<l.length:=by omega
   have g1:(l.map nA)[i]?=some (nA l[i]):=by simp [fa]
   have hw:=LA (i:=i);have hx:=hF l[i] (y5 _);rw [y9 fa] at hs;generalize l[i]=x at *
   simp only [sA,nA] at g1 hx;cases hp:p x with
   | true =>
    rw [hp] at hx;simp [xC,-V,-y3,-y0,J,e0,e1,e7,e8,ga,g1,wg,hx];refine hk _ _ (.inr ⟨rfl,?_⟩);simp [hs,wC,hp]
   | false =>
    rw [hp] at hx;simp [xC,-V,-y3,-y0,J,e0,e1,e7,e8,ga,g1,wg,hx,hw];refine ih fa _ ⟨?_,?_,?_,?_,?_⟩
    ·simp [e0]
    ·simp [e1]
    ·simp [e7]
    ·simp
    ·rw [hs,iO p x _ hp];have:=sF p (l.drop (i + 1));by_cases h1:wC p (l.drop (i + 1))=-1
     ·simp [h1]
     ·have h2:¬ wC p (l.drop (i + 1)) + 1=-1:=by omega
      rw [if_neg h1,if_neg h2,if_neg h1];omega
  ·have ga:¬ (i:Int)<l.length:=by omega
   simp [xC,-V,-y3,-y0,J,e7,e8,ga];rw [ye (by omega)] at hs;exact hk _ _ (.inl ⟨rfl,hs⟩)
 ·have:=sF p l;by_cases h1:wC p l=-1 <;> simp [h1]
 ·rcases h with ⟨rfl,h1⟩ | ⟨rfl,h1⟩ <;> simp [-V,-y3,-y0,J,h1]
theorem p0 (F:Nat) (caps:List AV) (l:List eU) (p:eU->Bool) (hl:l.length<=9223372036854775807) (wg:∀ (s:aA) (cl:Cl),JD s cl caps=some caps) (hF:∀ x∈l,sA F (.agg (MD x) :: caps) (.bool (p x))) (b:Bool):sA 167 [.sl b (l.map MD),.fn F caps] (.int .i64 (wC p l)):=by
 refine wA (c:=qD) rfl rfl ?_;simp [qD,-V,-y3,-y0,J];refine bA l.length (fun i s=>(s.env 0).v=.sl b (l.map MD)/\(s.env 1).v=.fn F caps/\(s.env 7).v=.int .i64 l.length/\(s.env 8).v=.int .i64 i/\wC p l=(if wC p (l.drop i)=-1 then -1 else wC p (l.drop i) + i))
  (fun e s=>(e=.exit 0/\wC p l=-1)\/(e=.ret/\(s.env 4).v=.int .i64 (wC p l))) (fun i hi s k h ih hk=>?_) _ _ ?_ (fun e s h=>?_)
 ·obtain ⟨e0,e1,e7,e8,hs⟩:=h;refine uA ?_;by_cases fa:i<l.length
  ·have ga:(i:Int)<l.length:=by omega
   have g1:(l.map MD)[i]?=some (MD l[i]):=by simp [fa]
   have hw:=LA (i:=i);have hx:=hF l[i] (y5 _);rw [y9 fa] at hs;generalize l[i]=x at *
   simp only [sA,MD] at g1 hx;cases hp:p x with
   | true =>
    rw [hp] at hx;simp [cC,-V,-y3,-y0,J,e0,e1,e7,e8,ga,g1,wg,hx];refine hk _ _ (.inr ⟨rfl,?_⟩);simp [hs,wC,hp]
   | false =>
    rw [hp] at hx;simp [cC,-V,-y3,-y0,J,e0,e1,e7,e8,ga,g1,wg,hx,hw];refine ih fa _ ⟨?_,?_,?_,?_,?_⟩
    ·simp [e0]
    ·simp [e1]
    ·simp [e7]
    ·simp
    ·rw [hs,iO p x _ hp];have:=sF p (l.drop (i + 1));by_cases h1:wC p (l.drop (i + 1))=-1
     ·simp [h1]
     ·have h2:¬ wC p (l.drop (i + 1)) + 1=-1:=by omega
      rw [if_neg h1,if_neg h2,if_neg h1];omega
  ·have ga:¬ (i:Int)<l.length:=by omega
   simp [cC,-V,-y3,-y0,J,e7,e8,ga];rw [ye (by omega)] at hs;exact hk _ _ (.inl ⟨rfl,hs⟩)
 ·have:=sF p l;by_cases h1:wC p l=-1 <;> simp [h1]
 ·rcases h with ⟨rfl,h1⟩ | ⟨rfl,h1⟩ <;> simp [-V,-y3,-y0,J,h1]
theorem BS (F:Nat) (caps:List AV) (l:List Vl) (p:Vl->Bool) (hl:l.length<=9223372036854775807) (wg:∀ (s:aA) (cl:Cl),JD s cl caps=some caps) (hF:∀ x∈l,sA F (.agg (pA x) :: caps) (.bool (p x))) (b:Bool):sA 246 [.sl b (l.map pA),.fn F caps] (.int .i64 (wC p l)):=by
 refine wA (c:=kD) rfl rfl ?_;simp [kD,-V,-y3,-y0,J];refine bA l.length (fun i s=>(s.env 0).v=.sl b (l.map pA)/\(s.env 1).v=.fn F caps/\(s.env 7).v=.int .i64 l.length/\(s.env 8).v=.int .i64 i/\wC p l=(if wC p (l.drop i)=-1 then -1 else wC p (l.drop i) + i))
  (fun e s=>(e=.exit 0/\wC p l=-1)\/(e=.ret/\(s.env 4).v=.int .i64 (wC p l))) (fun i hi s k h ih hk=>?_) _ _ ?_ (fun e s h=>?_)
 ·obtain ⟨e0,e1,e7,e8,hs⟩:=h;refine uA ?_;by_cases fa:i<l.length
  ·have ga:(i:Int)<l.length:=by omega
   have g1:(l.map pA)[i]?=some (pA l[i]):=by simp [fa]
   have hw:=LA (i:=i);have hx:=hF l[i] (y5 _);rw [y9 fa] at hs;generalize l[i]=x at *
   simp only [sA,qA] at g1 hx;cases hp:p x with
   | true =>
    rw [hp] at hx;simp [mC,-V,-y3,-y0,J,e0,e1,e7,e8,ga,g1,wg,hx];refine hk _ _ (.inr ⟨rfl,?_⟩);simp [hs,wC,hp]
   | false =>
    rw [hp] at hx;simp [mC,-V,-y3,-y0,J,e0,e1,e7,e8,ga,g1,wg,hx,hw];refine ih fa _ ⟨?_,?_,?_,?_,?_⟩
    ·simp [e0]
    ·simp [e1]
    ·simp [e7]
    ·simp
    ·rw [hs,iO p x _ hp];have:=sF p (l.drop (i + 1));by_cases h1:wC p (l.drop (i + 1))=-1
     ·simp [h1]
     ·have h2:¬ wC p (l.drop (i + 1)) + 1=-1:=by omega
      rw [if_neg h1,if_neg h2,if_neg h1];omega
  ·have ga:¬ (i:Int)<l.length:=by omega
   simp [mC,-V,-y3,-y0,J,e7,e8,ga];rw [ye (by omega)] at hs;exact hk _ _ (.inl ⟨rfl,hs⟩)
 ·have:=sF p l;by_cases h1:wC p l=-1 <;> simp [h1]
 ·rcases h with ⟨rfl,h1⟩ | ⟨rfl,h1⟩ <;> simp [-V,-y3,-y0,J,h1]
theorem mem1_ev (x:bB) (id:Int):sA 130 [.agg (nA x),.bp [.int .i64 id]] (.bool (decide (x.id=id))):=by
 refine wA (c:=WG) rfl rfl ?_;simp [WG,-V,-y3,-y0,J,nA]
def aC (l:List bB) (id:Int):Int:=wC (fun x=>decide (x.id=id)) l
def uT (l:List bB) (id:Int):AV:=.tup [.int .i64 (max (aC l id) 0),.bool (decide (0<=aC l id))]
theorem mem_ev (t:gA) (id:Int) (hl:t.mems.length<=9223372036854775807):sA 99 [.agg (eA t),.int .i64 id] (uT t.mems id):=by
 refine wA (c:=PI) rfl rfl ?_;have h:=o0 130 [.bp [.int .i64 id]] t.mems (fun x=>decide (x.id=id)) hl (fun _ _=>rfl) (fun x _=>mem1_ev x id) t.mn;simp only [sA] at h;unfold uT aC;simp [PI,-V,-y3,-y0,J,eA,h]
theorem L5 (t:gA) (id:Int) (hl:t.mems.length<=9223372036854775807):sA 122 [.agg (eA t),.int .i64 id] (uT t.mems id):=by
 refine wA (c:=UJ) rfl rfl ?_;obtain ⟨p,hp⟩:∃ p:bB->Bool,p=fun x=>decide (x.id=id):=⟨_,rfl⟩
 unfold uT aC;rw [<- hp];simp [UJ,-V,-y3,-y0,J,eA];refine bA t.mems.length (fun i s=>(s.env 1).v=.int .i64 id/\(s.env 2).v=.ptr 2 1 0/\s.mem 2 1=some (MA t)/\(s.env 6).v=.int .i64 i/\wC p t.mems=(if wC p (t.mems.drop i)=-1 then -1 else wC p (t.mems.drop i) + i))
  (fun e s=>(e=.exit 0/\wC p t.mems=-1)\/(e=.ret/\0<=wC p t.mems/\(s.env 4).v=.int .i64 (wC p t.mems)/\(s.env 5).v=.bool true)) (fun i hi s k h ih hk=>?_) _ _ ?_ (fun e s h=>?_)
 ·obtain ⟨e1,e2,m2,e6,hs⟩:=h;refine uA ?_;by_cases fa:i<t.mems.length
  ·have ga:(i:Int)<t.mems.length:=by omega
   have g1:(t.mems.map nA)[i]?=some (nA t.mems[i]):=by simp [fa]
   have hw:=LA (i:=i);rw [y9 fa] at hs;generalize t.mems[i]=x at *
   simp only [nA] at g1;by_cases hx:x.id=id
   ·simp [NG,-V,-y3,-y0,J,e1,e2,m2,e6,ga,g1,hx];have wy:p x=true:=by rw [hp]; exact decide_eq_true hx
    refine hk _ _ (.inr ⟨rfl,?_,?_,?_⟩)
    ·rw [hs]; simp [wC,wy]
    ·simp [hs,wC,wy]
    ·simp
   ·have wy:p x=false:=by rw [hp]; exact decide_eq_false hx
    simp [NG,-V,-y3,-y0,J,e1,e2,m2,e6,ga,g1,hx,hw];refine ih fa _ ⟨?_,?_,?_,?_,?_⟩
    ·simp [e1]
    ·simp [e2]
    ·simp [m2]
    ·simp
    ·rw [hs,iO p x _ wy];have:=sF p (t.mems.drop (i + 1));by_cases h1:wC p (t.mems.drop (i + 1))=-1
     ·simp [h1]
     ·have h2:¬ wC p (t.mems.drop (i + 1)) + 1=-1:=by omega
      rw [if_neg h1,if_neg h2,if_neg h1];omega
  ·have ga:¬ (i:Int)<t.mems.length:=by omega
   simp [NG,-V,-y3,-y0,J,e2,m2,e6,ga];rw [ye (by omega)] at hs;exact hk _ _ (.inl ⟨rfl,hs⟩)
 ·have:=sF p t.mems;by_cases h1:wC p t.mems=-1 <;> simp [h1]
 ·rcases h with ⟨rfl,h1⟩ | ⟨rfl,h0,h1,h2⟩
  ·simp [-V,-y3,-y0,J,h1];rfl
  ·simp [-V,-y3,-y0,J,h1,h2,h0,Int.max_eq_left h0]
theorem sym1_ev (x:eU) (id:Int):sA 168 [.agg (MD x),.bp [.int .i64 id]] (.bool (decide (x.id=id))):=by
 refine wA (c:=EG) rfl rfl ?_;simp [EG,-V,-y3,-y0,J,MD]
def AN (l:List eU) (id:Int):Int:=wC (fun x=>decide (x.id=id)) l
def A1 (l:List eU) (id:Int):AV:=.tup [.int .i64 (max (AN l id) 0),.bool (decide (0<=AN l id))]
theorem sym_ev (t:gA) (id:Int) (hl:t.syms.length<=9223372036854775807):sA 125 [.agg (eA t),.int .i64 id] (A1 t.syms id):=by
 refine wA (c:=AI) rfl rfl ?_;have h:=p0 168 [.bp [.int .i64 id]] t.syms (fun x=>decide (x.id=id)) hl (fun _ _=>rfl) (fun x _=>sym1_ev x id) t.sn;simp only [sA] at h;unfold A1 AN;simp [AI,-V,-y3,-y0,J,eA,h]
theorem rsym_ev (t:gA) (id:Int) (hl:t.syms.length<=9223372036854775807):sA 88 [.agg (eA t),.int .i64 id] (A1 t.syms id):=by
 refine wA (c:=IJ) rfl rfl ?_;obtain ⟨p,hp⟩:∃ p:eU->Bool,p=fun x=>decide (x.id=id):=⟨_,rfl⟩
 unfold A1 AN;rw [<- hp];simp [IJ,-V,-y3,-y0,J,eA];refine bA t.syms.length (fun i s=>(s.env 1).v=.int .i64 id/\(s.env 2).v=.ptr 2 1 0/\s.mem 2 1=some (MA t)/\(s.env 6).v=.int .i64 i/\wC p t.syms=(if wC p (t.syms.drop i)=-1 then -1 else wC p (t.syms.drop i) + i))
  (fun e s=>(e=.exit 0/\wC p t.syms=-1)\/(e=.ret/\0<=wC p t.syms/\(s.env 4).v=.int .i64 (wC p t.syms)/\(s.env 5).v=.bool true)) (fun i hi s k h ih hk=>?_) _ _ ?_ (fun e s h=>?_)
 ·obtain ⟨e1,e2,m2,e6,hs⟩:=h;refine uA ?_;by_cases fa:i<t.syms.length
  ·have ga:(i:Int)<t.syms.length:=by omega
   have g1:(t.syms.map MD)[i]?=some (MD t.syms[i]):=by simp [fa]
   have hw:=LA (i:=i);rw [y9 fa] at hs;generalize t.syms[i]=x at *
   simp only [MD] at g1;by_cases hx:x.id=id
   ·simp [MG,-V,-y3,-y0,J,e1,e2,m2,e6,ga,g1,hx];have wy:p x=true:=by rw [hp]; exact decide_eq_true hx
    refine hk _ _ (.inr ⟨rfl,?_,?_,?_⟩)
    ·rw [hs]; simp [wC,wy]
    ·simp [hs,wC,wy]
    ·simp
   ·have wy:p x=false:=by rw [hp]; exact decide_eq_false hx
    simp [MG,-V,-y3,-y0,J,e1,e2,m2,e6,ga,g1,hx,hw];refine ih fa _ ⟨?_,?_,?_,?_,?_⟩
    ·simp [e1]
    ·simp [e2]
    ·simp [m2]
    ·simp
    ·rw [hs,iO p x _ wy];have:=sF p (t.syms.drop (i + 1));by_cases h1:wC p (t.syms.drop (i + 1))=-1
     ·simp [h1]
     ·have h2:¬ wC p (t.syms.drop (i + 1)) + 1=-1:=by omega
      rw [if_neg h1,if_neg h2,if_neg h1];omega
  ·have ga:¬ (i:Int)<t.syms.length:=by omega
   simp [MG,-V,-y3,-y0,J,e2,m2,e6,ga];rw [ye (by omega)] at hs;exact hk _ _ (.inl ⟨rfl,hs⟩)
 ·have:=sF p t.syms;by_cases h1:wC p t.syms=-1 <;> simp [h1]
 ·rcases h with ⟨rfl,h1⟩ | ⟨rfl,h0,h1,h2⟩
  ·simp [-V,-y3,-y0,J,h1];rfl
  ·simp [-V,-y3,-y0,J,h1,h2,h0,Int.max_eq_left h0]
theorem rnames_lp (sn:Bool) (S:List gA) (i:Nat) (hiS:i<S.length) (hS:S.length<=9223372036854775807) (t:gA) (p:Nat) (r:RV) (P:aA->Prop) (hP:∀ s s':aA,s'.mem=s.mem->s'.obj=s.obj->(∀ t,t ∉ [2,5,27,28,29,30,31,32,33,34,35,36,37,38,39,40,41,42,43,44,45]->s'.env t=s.env t)->P s->P s') (k:Ex->aA->Option RV)
  (hk:∀ s',¬ (t.named=true/\t.name∈(S.take i).map gA.name)->P s'->k (.exit 2) s'=some r) (hr:∀ s':aA,t.named=true/\t.name∈(S.take i).map gA.name->(s'.env 2).v=.int .i64 1->k .ret s'=some r)
  (s:aA) (hs:P s) (h1:(s.env 1).v=.ptr 1 1 0) (m1:s.mem 1 1=some [⟨.sl sn (S.map eA),.no⟩]) (h3:(s.env 3).v=.int .i64 i) (h4:(s.env 4).v=.ptr 4 p 0) (m4:s.mem 4 p=some (MA t)) (h5:(s.env 5).v=.int .i64 0):kI kA tA uE s k=some r:=by
 have sb:=UD t.kind;change sA _ _ (.bool t.named) at sb;simp only [sA] at sb;refine bA i (fun j s=>P s/\(s.env 1).v=.ptr 1 1 0/\s.mem 1 1=some [⟨.sl sn (S.map eA),.no⟩]/\(s.env 3).v=.int .i64 i/\(s.env 4).v=.ptr 4 p 0/\s.mem 4 p=some (MA t)/\(s.env 5).v=.int .i64 j/\¬ (t.named=true/\t.name∈(S.take j).map gA.name))
  (fun e s=>(e=.exit 2/\¬ (t.named=true/\t.name∈(S.take i).map gA.name)/\P s)\/(e=.ret/\(t.named=true/\t.name∈(S.take i).map gA.name)/\(s.env 2).v=.int .i64 1)) (fun j hj s k h ih hk=>?_) _ _ ?_ (fun e s h=>?_)
 ·obtain ⟨hp,e1,m1,e3,e4,m4,e5,hs⟩:=h;refine uA ?_;by_cases fa:j<i
  ·have ga:(j:Int)<i:=by omega
   have hjS:j<S.length:=by omega
   have g1:(S.map eA)[j]?=some (eA S[j]):=by simp [hjS]
   have hw:=LA (i:=j);have ht:S.take (j + 1)=S.take j++[S[j]]:=(yr hjS).symm;have jb:S[j]∈S.take i:=List.mem_take_iff_getElem.2 ⟨j,by omega,rfl⟩;generalize S[j]=u at *
   simp only [eA] at g1;have nxt:∀ s',s'.mem=s.mem->s'.obj=s.obj->(∀ t,t ∉ [2,5,27,28,29,30,31,32,33,34,35,36,37,38,39,40,41,42,43,44,45]->s'.env t=s.env t)->(s'.env 5).v=.int .i64 ((j + 1:Nat):Int)->¬ (t.named=true/\u.name=t.name)->kI kA tA uE s' k=some r:=fun s' hm ho he h5 hn=>by
    refine ih fa _ ⟨hP s s' hm ho he hp,?_,?_,?_,?_,?_,h5,?_⟩
    ·rw [he 1 (by decide)]; exact e1
    ·rw [hm]; exact m1
    ·rw [he 3 (by decide)]; exact e3
    ·rw [he 4 (by decide)]; exact e4
    ·rw [hm]; exact m4
    ·rw [ht,List.map_append,yE];rintro ⟨h1,h2 | h2⟩
     ·exact hs ⟨h1,h2⟩
     ·simp at h2; exact hn ⟨h1,h2.symm⟩
   cases hb:t.named with
   | false =>
    rw [hb] at sb;simp [uE,-V,-y3,-y0,J,e1,m1,e3,e4,m4,e5,ga,g1,sb,hw];refine nxt _ rfl rfl ?_ ?_ (by simp [hb])
    ·intro t ht;simp only [yc,yH,or_false,not_or] at ht;simp [BF,ht]
    ·simp
   | true =>
    rw [hb] at sb;by_cases ta:u.name=t.name
    ·simp [uE,-V,-y3,-y0,J,e1,m1,e3,e4,m4,e5,ga,g1,sb,ta];exact hk _ _ (.inr ⟨rfl,⟨hb,ta ▸ List.mem_map_of_mem jb⟩,by simp⟩)
    ·simp [uE,-V,-y3,-y0,J,e1,m1,e3,e4,m4,e5,ga,g1,sb,ta,hw];refine nxt _ rfl rfl ?_ ?_ (by simp [ta])
     ·intro t ht;simp only [yc,yH,or_false,not_or] at ht;simp [BF,ht]
     ·simp
  ·have ga:¬ (j:Int)<i:=by omega
   have hji:j=i:=by omega
   simp [uE,-V,-y3,-y0,J,e3,e5,ga];refine hk _ _ (.inl ⟨rfl,hji ▸ hs,hP s _ rfl rfl ?_ hp⟩);intro t ht;simp only [yc,yH,or_false,not_or] at ht;simp [BF,ht]
 ·simp [hs,h1,m1,h3,h4,m4,h5]
 ·rcases h with ⟨rfl,h1,h2⟩ | ⟨rfl,h1,h2⟩
  ·exact hk s h1 h2
  ·exact hr s h1 h2
theorem rvuses_lp (sn:Bool) (S:List gA) (U:List Int) (hU:U.length<=9223372036854775807) (bu:Bool) (r:RV) (P:aA->Prop) (hP:∀ s s':aA,s'.mem=s.mem->s'.obj=s.obj->(∀ t,t ∉ [2,7,48,49,50,51,52,53,54,55,56,57,58,59,60,61,62,63,64,65,66,67,68]->s'.env t=s.env t)->P s->P s') (k:Ex->aA->Option RV)
  (hk:∀ s',U.any (tB S.length)=false->P s'->k (.exit 4) s'=some r) (hr:∀ s':aA,U.any (tB S.length)=true->(s'.env 2).v=.int .i64 4->k .ret s'=some r)
  (s:aA) (hs:P s) (h1:(s.env 1).v=.ptr 1 1 0) (m1:s.mem 1 1=some [⟨.sl sn (S.map eA),.no⟩]) (h6:(s.env 6).v=.sl bu (U.map GH)) (h7:(s.env 7).v=.int .i64 0):kI kA tA HE s k=some r:=by
 refine bA U.length (fun i s=>P s/\(s.env 1).v=.ptr 1 1 0/\s.mem 1 1=some [⟨.sl sn (S.map eA),.no⟩]/\(s.env 6).v=.sl bu (U.map GH)/\(s.env 7).v=.int .i64 i/\(U.drop i).any (tB S.length)=U.any (tB S.length))
  (fun e s=>(e=.exit 4/\U.any (tB S.length)=false/\P s)\/(e=.ret/\U.any (tB S.length)=true/\(s.env 2).v=.int .i64 4)) (fun i hi s k h ih hk=>?_) _ _ ?_ (fun e s h=>?_)
 ·obtain ⟨hp,e1,m1,e6,e7,hs⟩:=h;refine uA ?_;by_cases fa:i<U.length
  ·have ga:(i:Int)<U.length:=by omega
   have g1:(U.map GH)[i]?=some (GH U[i]):=by simp [fa]
   have hw:=LA (i:=i);rw [y9 fa,List.any_cons] at hs;generalize U[i]=u at *
   simp only [GH] at g1;by_cases c1:u<0
   ·simp [HE,-V,-y3,-y0,J,e1,m1,e6,e7,ga,g1,c1];exact hk _ _ (.inr ⟨rfl,by rw [<- hs]; simp [tB,c1],by simp⟩)
   by_cases c2:(S.length:Int)<=u
   ·simp [HE,-V,-y3,-y0,J,e1,m1,e6,e7,ga,g1,c1,c2];exact hk _ _ (.inr ⟨rfl,by rw [<- hs]; simp [tB,c2],by simp⟩)
   simp [HE,-V,-y3,-y0,J,e1,m1,e6,e7,ga,g1,c1,c2,hw];refine ih fa _ ⟨hP s _ rfl rfl ?_ hp,?_,?_,?_,?_,?_⟩
   ·intro t ht;simp only [yc,yH,or_false,not_or] at ht;simp [BF,ht]
   ·simp [e1]
   ·simp [m1]
   ·simp [e6]
   ·simp
   ·rw [<- hs]; simp [tB,c1,c2]
  ·have ga:¬ (i:Int)<U.length:=by omega
   simp [HE,-V,-y3,-y0,J,e6,e7,ga];rw [ye (by omega)] at hs;refine hk _ _ (.inl ⟨rfl,hs.symm,hP s _ rfl rfl ?_ hp⟩);intro t ht;simp only [yc,yH,or_false,not_or] at ht;simp [BF,ht]
 ·simp [hs,h1,m1,h6,h7]
 ·rcases h with ⟨rfl,h1,h2⟩ | ⟨rfl,h1,h2⟩
  ·exact hk s h1 h2
  ·exact hr s h1 h2
theorem M3 (s:PM) (hs:s.fine):sA 106 [.agg (JA s)] (.int .i64 (valid s.types)):=by
 obtain ⟨ba,df⟩:=hs;refine wA (c:=iI) rfl rfl ?_;unfold valid;by_cases pw:32<s.types.length
 ·have ro:(32:Int)<s.types.length:=by omega
  simp [iI,-V,-y3,-y0,J,JA,pw,ro]
 have ro:¬ (32:Int)<s.types.length:=by omega
 simp [iI,-V,-y3,-y0,J,JA,pw,ro];refine bA s.types.length (fun i σ=>(σ.env 1).v=.ptr 1 1 0/\σ.mem 1 1=some [⟨.sl s.nl (s.types.map eA),.no⟩]/\(σ.env 3).v=.int .i64 i/\wD s.types (s.types.length - i) i=wD s.types s.types.length 0)
  (fun e σ=>(e=.exit 0/\wD s.types s.types.length 0=0)\/(e=.ret/\(σ.env 2).v=.int .i64 (wD s.types s.types.length 0))) (fun i hi σ k h ih hk=>?_) _ _ ?_ (fun e σ h=>?_)
 ·obtain ⟨e1,m1,e3,hv⟩:=h;refine uA ?_;by_cases fa:i<s.types.length
  ·have ga:(i:Int)<s.types.length:=by omega
   have g1:(s.types.map eA)[i]?=some (eA s.types[i]):=by simp [fa]
   have hw:=LA (i:=i);have hf:=own_ev s.types[i] (df _ (y5 _));have hu:=fun h9:(s.types[i]'fa).kind<=9=>ruses_ev (s.types[i]'fa) (df _ (y5 fa)).2.2 h9 _ rfl
   have ik:=(df _ (y5 fa)).2.2;rw [BT fa] at hv;generalize s.types[i]=t at *
   have hul:t.usesL.length<=9223372036854775807:=by
    unfold gA.usesL;by_cases h8:t.kind=8 <;> by_cases h7:7<=t.kind <;> simp [h8,h7] <;> omega
   simp only [sA,eA] at hf hu;simp only [eA] at g1;have err:∀ σ' n,dD s.types i t=n->n≠0->(σ'.env 2).v=.int .i64 n->k .ret σ'=some (.int .i64 (wD s.types s.types.length 0),none):=fun σ' n h1 h2 h3=>hk _ _ (.inr ⟨rfl,by rw [h3,<- hv,h1,if_neg h2]⟩)
   cases c1:aB t with
   | false =>
    rw [c1] at hf;simp [OH,-V,-y3,-y0,J,e1,m1,e3,ga,g1,hf];exact err _ 1 (by simp [dD,c1]) (by decide) (by simp)
   | true =>
    rw [c1] at hf;have hu:=hu (JE c1).2;simp [OH,-V,-y3,-y0,J,e1,m1,e3,ga,g1,hf];refine rnames_lp s.nl s.types i fa ba t (σ.next + 1) _ (fun σ2=>(σ2.env 1).v=.ptr 1 1 0/\σ2.mem 1 1=some [⟨.sl s.nl (s.types.map eA),.no⟩]/\(σ2.env 3).v=.int .i64 i/\(σ2.env 4).v=.ptr 4 (σ.next + 1) 0/\σ2.mem 4 (σ.next + 1)=some (MA t)) (fun a b hm ho he h=>?_) _ (fun σ2 c2 h=>?_) (fun σ2 c2 h2=>?_) _ ⟨?_,?_,?_,?_,?_⟩ ?_ ?_ ?_ ?_ ?_ ?_
    ·rw [hm,he 1 (by decide),he 3 (by decide),he 4 (by decide)];exact h
    ·obtain ⟨f1,fm,f3,f4,fp⟩:=h;simp [-V,-y3,-y0,J,f1,fm,f3,f4,fp,hu];refine rvuses_lp s.nl s.types t.usesL hul t.usesL.isEmpty _ (fun σ2=>(σ2.env 1).v=.ptr 1 1 0/\σ2.mem 1 1=some [⟨.sl s.nl (s.types.map eA),.no⟩]/\(σ2.env 3).v=.int .i64 i/\(σ2.env 4).v=.ptr 4 (σ.next + 1) 0/\σ2.mem 4 (σ.next + 1)=some (MA t)) (fun a b hm ho he h=>?_) _ (fun σ2 c3 h=>?_) (fun σ2 c3 h2=>?_) _ ⟨?_,?_,?_,?_,?_⟩ ?_ ?_ ?_ ?_
     ·rw [hm,he 1 (by decide),he 3 (by decide),he 4 (by decide)];exact h
     ·obtain ⟨f1,fm,f3,f4,fp⟩:=h;by_cases h8:t.kind=8
      ·obtain ⟨wd,wc⟩:=s5 h8 c3;have h3:t.key.toNat<s.types.length:=by omega
       have gy:(s.types.map eA)[t.key.toNat]?=some (eA s.types[t.key.toNat]):=by rw [y8,y4 h3]; rfl
       have hy:AO s.types t.key=s.types[t.key.toNat].kind:=by unfold AO; rw [y4 h3]
       generalize s.types[t.key.toNat]=y at *
       have db:=dY y.kind;simp only [eA] at gy;simp only [sA] at db;by_cases c4:1<=y.kind/\y.kind<=4
       ·rw [decide_eq_true c4] at db;simp [-V,-y3,-y0,J,f1,fm,f3,f4,fp,h8,wd,gy,db,hw];refine ih fa _ ⟨?_,?_,?_,?_⟩
        ·simp [f1]
        ·simp [fm]
        ·simp
        ·rw [<- hv,if_pos];unfold dD;rw [if_neg (by simp [c1]),if_neg c2,if_neg (by simp [c3]),if_neg fun h=>h.2 (by rw [hy]; exact c4)]
       ·rw [decide_eq_false c4] at db;simp [-V,-y3,-y0,J,f1,fm,f3,f4,fp,h8,wd,gy,db];exact err _ 1 (by unfold dD; rw [if_neg (by simp [c1]),if_neg c2,if_neg (by simp [c3]),if_pos ⟨h8,by rw [hy]; exact c4⟩]) (by decide) (by simp)
      ·simp [-V,-y3,-y0,J,f1,fm,f3,f4,fp,h8,hw];refine ih fa _ ⟨?_,?_,?_,?_⟩
       ·simp [f1]
       ·simp [fm]
       ·simp
       ·rw [<- hv,if_pos];unfold dD;rw [if_neg (by simp [c1]),if_neg c2,if_neg (by simp [c3]),if_neg fun h=>h8 h.1]
     ·simp [-V,-y3,-y0,J];exact err _ 4 (by unfold dD; rw [if_neg (by simp [c1]),if_neg c2,if_pos c3]) (by decide) h2
     all_goals simp [f1,fm,f3,f4,fp]
    ·simp [-V,-y3,-y0,J];exact err _ 1 (by unfold dD; rw [if_neg (by simp [c1]),if_pos c2]) (by decide) h2
    all_goals simp [e1,m1,e3]
  ·have ga:¬ (i:Int)<s.types.length:=by omega
   simp [OH,-V,-y3,-y0,J,e1,m1,e3,ga];refine hk _ _ (.inl ⟨rfl,?_⟩);rw [<- hv,show s.types.length - i=0 from by omega,wD]
 ·refine ⟨?_,?_,?_,?_⟩ <;> simp
 ·rcases h with ⟨rfl,h1⟩ | ⟨rfl,h1⟩
  ·simp [-V,-y3,-y0,J,h1]
  ·simp [-V,-y3,-y0,J,h1]
end Go.Proofs.YtjoaiabjebpbjaaGreat
