/- A part of the proof. -/
import Derived.Test.YtbnlmgncbgaepaaGreatXe
import Derived.Test.YtbnlmgncbgaepaaGreatXf
set_option linter.all false
set_option maxRecDepth 100000
set_option maxHeartbeats 8000000
open Option renaming bind_some → V
open List renaming range_succ → J, map_map → y0, getElem?_eq_getElem → y4, getElem_mem → y6, drop_eq_getElem_cons → yb, getElem?_map → yc, drop_eq_nil_of_le → ye, mem_cons → yf, mem_append → yt, take_append_getElem → yH, not_mem_nil → yJ, mem_map_of_mem → yN, map_append → yS
open Int renaming toNat_lt → y3
open Bool renaming and_eq_true → y7
namespace Go.Proofs.YtbnlmgncbgaepaaGreat
open Go
def mB (n:Nat) (u:Int):Bool:=decide (u<0)||decide ((n:Int)<=u)
def SI (l:List fA) (k:Int):Int:=match l[k.toNat]? with
 | some t=>t.kind
 | none=>0
def XC (l:List fA) (i:Nat) (t:fA):Int :=
 if bB t=false then 1
 else if t.named=true/\t.name∈(l.take i).map fA.name then 1
 else if t.usesL.any (mB l.length)=true then 4
 else if t.kind=8/\¬ (1<=SI l t.key/\SI l t.key<=4) then 1
 else 0
def NC (l:List fA):Nat->Nat->Int
 | 0,_=>0
 | n + 1,i=>match l[i]? with
  | some t=>if XC l i t=0 then NC l n (i + 1) else XC l i t
  | none=>0
def valid (l:List fA):Int:=if 32<l.length then 3 else NC l l.length 0
theorem mS {l:List fA} {i:Nat} (h:i<l.length):NC l (l.length - i) i=if XC l i l[i]=0 then NC l (l.length - (i + 1)) (i + 1) else XC l i l[i]:=by
 rw [show l.length - i=(l.length - (i + 1)) + 1 from by omega,NC,y4 h]
theorem dK {t:fA} (h:bB t=true):1<=t.kind/\t.kind<=9:=by
 unfold bB at h;rw [y7] at h;exact of_decide_eq_true h.1
theorem isName_ne {s:ByteArray} (h:QF s=true):s≠⟨#[]⟩:=fun e=>by
 subst e;unfold QF at h;simp only [y7] at h;have:=of_decide_eq_true h.1.1.1;exact this rfl
theorem L6 {t:fA} (h:bB t=true):t.named=true ↔ t.name≠⟨#[]⟩:=by
 have hk:=dK h;unfold bB PH fA.left at h;rcases kinds t.kind with e | e | e | e | e | e | e | e | e | e
 all_goals first | exact absurd hk e | skip
 all_goals simp [e,fA.same,CB,fA.named] at h ⊢
 all_goals first | exact isName_ne h.1.1 | (simp [h]; done) | skip
theorem BZ {l:List fA} {t:fA} (h8:t.kind=8) (h:t.usesL.any (mB l.length)=false):0<=t.key/\t.key<l.length:=by
 have hm:t.key∈t.usesL:=by simp [fA.usesL,h8]
 have:=List.any_eq_false.1 h _ hm;simp [mB] at this;omega
theorem aZ (s:ByteArray):∀ l:List ByteArray,s∈l->lG (l.map CI) (.str s) (.bool true)=l.map CI
 | [],h=>by cases h
 | x :: r,hn=>by
  by_cases h:x=s
  ·simp [CI,lG,TO,h]
  ·have:=aZ s r (by
    rcases yf.1 hn with e | e
    ·exact absurd e.symm h
    ·exact e)
   simp [CI,lG,TO,h,this]
theorem seen_next (s:ByteArray) (q:List ByteArray):∃ q':List ByteArray,lG (q.map CI) (.str s) (.bool true)=q'.map CI/\∀ x,x∈q' ↔ x∈q\/x=s:=by
 by_cases h:s∈q
 ·exact ⟨q,aZ s q h,fun x=>⟨.inl,fun e=>e.elim id (fun e=>e ▸ h)⟩⟩
 ·exact ⟨q++[s],zX s q h,fun x=>by simp⟩
def SG.fine (s:SG):Prop:=s.types.length<=9223372036854775807/\∀ t∈s.types,t.fine
theorem vuses_lp (sn:Bool) (S:List fA) (U:List Int) (hU:U.length<=9223372036854775807) (bu:Bool) (r:RV) (P:aA->Prop) (hP:∀ s s':aA,s'.mem=s.mem->s'.obj=s.obj->s'.next=s'.next->(∀ t,t ∉ [2,7,41,42,43,44,45,46,47,48,49,50,51,52,53,40]->s'.env t=s.env t)->P s->P s') (k:Ex->aA->Option RV)
  (hk:∀ s',U.any (mB S.length)=false->P s'->k (.exit 2) s'=some r) (hr:∀ s':aA,U.any (mB S.length)=true->(s'.env 2).v=.int .i64 4->k .ret s'=some r)
  (s:aA) (hs:P s) (h1:(s.env 1).v=.ptr 1 1 0) (m1:s.mem 1 1=some [⟨.sl sn (S.map eA),.no⟩]) (h38:(s.env 38).v=.sl bu (U.map RH)) (h39:(s.env 39).v=.int .i64 U.length) (h40:(s.env 40).v=.int .i64 0):OI jA rA WD s k=some r:=by
 refine xA U.length (fun i s=>P s/\(s.env 1).v=.ptr 1 1 0/\s.mem 1 1=some [⟨.sl sn (S.map eA),.no⟩]/\(s.env 38).v=.sl bu (U.map RH)/\(s.env 39).v=.int .i64 U.length/\(s.env 40).v=.int .i64 i/\(U.drop i).any (mB S.length)=U.any (mB S.length))
  (fun e s=>(e=.exit 2/\U.any (mB S.length)=false/\P s)\/(e=.ret/\U.any (mB S.length)=true/\(s.env 2).v=.int .i64 4)) (fun i hi s k h ih hk=>?_) _ _ ?_ (fun e s h=>?_)
 ·obtain ⟨hp,e1,m1,e38,e39,e40,hs⟩:=h;refine tA ?_;by_cases da:i<U.length
  ·have fa:(i:Int)<U.length:=by omega
   have g1:(U.map RH)[i]?=some (RH U[i]):=by simp [da]
   have hw:=ZA (i:=i);rw [yb da,List.any_cons] at hs;generalize U[i]=u at *
   simp only [RH] at g1;by_cases c1:u<0
   ·simp [WD,-V,-y3,-y0,J,e1,m1,e38,e39,e40,fa,g1,c1];exact hk _ _ (.inr ⟨rfl,by rw [<- hs]; simp [mB,c1],by simp⟩)
   by_cases c2:(S.length:Int)<=u
   ·simp [WD,-V,-y3,-y0,J,e1,m1,e38,e39,e40,fa,g1,c1,c2];exact hk _ _ (.inr ⟨rfl,by rw [<- hs]; simp [mB,c2],by simp⟩)
   simp [WD,-V,-y3,-y0,J,e1,m1,e38,e39,e40,fa,g1,c1,c2,hw];refine ih da _ ⟨hP s _ ?_ ?_ ?_ ?_ hp,?_,?_,?_,?_,?_,?_⟩
   ·rfl
   ·rfl
   ·rfl
   ·intro t ht;simp only [yf,yJ,or_false,not_or] at ht;simp [zG,ht]
   ·simp [e1]
   ·simp [m1]
   ·simp [e38]
   ·simp [e39]
   ·simp
   ·rw [<- hs]; simp [mB,c1,c2]
  ·have fa:¬ (i:Int)<U.length:=by omega
   simp [WD,-V,-y3,-y0,J,e39,e40,fa];rw [ye (by omega)] at hs;refine hk _ _ (.inl ⟨rfl,hs.symm,hP s _ ?_ ?_ ?_ ?_ hp⟩)
   ·rfl
   ·rfl
   ·rfl
   ·intro t ht;simp only [yf,yJ,or_false,not_or] at ht;simp [zG,ht]
 ·simp [hs,h1,m1,h38,h39,h40]
 ·rcases h with ⟨rfl,h1,h2⟩ | ⟨rfl,h1,h2⟩
  ·exact hk s h1 h2
  ·exact hr s h1 h2
theorem WX (s:SG) (hs:s.fine):gA 203 [.agg (WA s)] (.int .i64 (valid s.types)):=by
 obtain ⟨ja,pe⟩:=hs;refine wA (c:=pH) rfl rfl ?_;unfold valid;by_cases dv:32<s.types.length
 ·have ko:(32:Int)<s.types.length:=by omega
  simp [pH,-V,-y3,-y0,J,WA,dv,ko]
 have ko:¬ (32:Int)<s.types.length:=by omega
 simp [pH,-V,-y3,-y0,J,WA,dv,ko];refine xA s.types.length (fun i σ=>(σ.env 1).v=.ptr 1 1 0/\σ.mem 1 1=some [⟨.sl s.nl (s.types.map eA),.no⟩]/\(σ.env 3).v=.mp 12 3/\(σ.env 14).v=.sl s.nl (s.types.map eA)/\(σ.env 15).v=.int .i64 s.types.length/\(σ.env 16).v=.int .i64 i/\(∃ q:List ByteArray,σ.obj 12 3=some (OG (q.map CI))/\∀ x,x∈q ↔ x∈(s.types.take i).map fA.name)/\NC s.types (s.types.length - i) i=NC s.types s.types.length 0)
  (fun e σ=>(e=.exit 0/\NC s.types s.types.length 0=0)\/(e=.ret/\(σ.env 2).v=.int .i64 (NC s.types s.types.length 0))) (fun i hi σ k h ih hk=>?_) _ _ ?_ (fun e σ h=>?_)
 ·obtain ⟨e1,m1,e3,il,ue,wd,⟨q,o,hq⟩,hv⟩:=h;refine tA ?_;by_cases da:i<s.types.length
  ·have fa:(i:Int)<s.types.length:=by omega
   have g1:(s.types.map eA)[i]?=some (eA s.types[i]):=by simp [da]
   have hw:=ZA (i:=i);have ht:s.types.take (i + 1)=s.types.take i++[s.types[i]]:=(yH da).symm;have hf:=form_ev s.types[i] (pe _ (y6 _));have hu:=uses_ev s.types[i] (pe _ (y6 _)).2.2 _ rfl;have wo:=(pe _ (y6 da)).2.2;rw [mS da] at hv;generalize s.types[i]=t at *
   have hul:t.usesL.length<=9223372036854775807:=by
    unfold fA.usesL;by_cases h8:t.kind=8 <;> by_cases h7:7<=t.kind <;> simp [h8,h7] <;> omega
   simp only [gA,eA] at hf hu;simp only [eA] at g1;have hg:=lX t.name q;have bn:=F1 q;obtain ⟨q',hq',ma⟩:=seen_next t.name q;have err:∀ σ' n,XC s.types i t=n->n≠0->(σ'.env 2).v=.int .i64 n->k .ret σ'=some (.int .i64 (NC s.types s.types.length 0),none):=fun σ' n h1 h2 h3=>hk _ _ (.inr ⟨rfl,by rw [h3,<- hv,h1,if_neg h2]⟩)
   cases c1:bB t with
   | false =>
    rw [c1] at hf;simp [UB,-V,-y3,-y0,J,e1,m1,e3,il,ue,wd,fa,g1,hf];exact err _ 1 (by simp [XC,c1]) (by decide) (by simp)
   | true =>
    rw [c1] at hf;have jb:=L6 c1;have dup:t.name≠⟨#[]⟩->t.name∈q->UB.run (wH jA rA) (HK jA rA) σ (uM (OI jA rA) UB k)=some (.int .i64 (NC s.types s.types.length 0),none):=by
     intro hn zb;have hd:=eq_false hn;rw [if_pos zb] at hg;simp [UB,-V,-y3,-y0,J,e1,m1,e3,il,ue,wd,fa,g1,hf,hd,o,XE,bn,NF,AV.flat,AV.scal,hg];exact err _ 1 (by unfold XC; rw [if_neg (by simp [c1]),if_pos ⟨jb.2 hn,(hq _).1 zb⟩]) (by decide) (by simp)
    have go:(t.name=⟨#[]⟩\/t.name≠⟨#[]⟩/\¬ t.name∈q)->UB.run (wH jA rA) (HK jA rA) σ (uM (OI jA rA) UB k)=some (.int .i64 (NC s.types s.types.length 0),none):=by
     intro hn;have c2:¬ (t.named=true/\t.name∈(s.types.take i).map fA.name):=fun ⟨h1,h2⟩=>by
      rcases hn with hn | hn
      ·exact (jb.1 h1) hn
      ·exact hn.2 ((hq _).2 h2)
     have KN:∀ (σ':aA) (k':Ex->aA->Option RV) (p:Nat),(∀ σ2:aA,(σ2.env 2).v=.int .i64 4->k' .ret σ2=k .ret σ2) →
       (∀ σ2:aA,(σ2.env 1).v=.ptr 1 1 0->σ2.mem 1 1=some [⟨.sl s.nl (s.types.map eA),.no⟩]->(σ2.env 3).v=.mp 12 3->(σ2.env 14).v=.sl s.nl (s.types.map eA)->(σ2.env 15).v=.int .i64 s.types.length->(σ2.env 16).v=.int .i64 i->σ2.obj 12 3=some (OG (q'.map CI))->(σ2.env 5).v=.ptr 5 p 0->σ2.mem 5 p=some (kA t)->t.usesL.any (mB s.types.length)=false->k' (.exit 2) σ2=some (.int .i64 (NC s.types s.types.length 0),none)) →
       (σ'.env 1).v=.ptr 1 1 0->σ'.mem 1 1=some [⟨.sl s.nl (s.types.map eA),.no⟩]->(σ'.env 3).v=.mp 12 3->(σ'.env 14).v=.sl s.nl (s.types.map eA)->(σ'.env 15).v=.int .i64 s.types.length->(σ'.env 16).v=.int .i64 i->σ'.obj 12 3=some (OG (q'.map CI))->(σ'.env 5).v=.ptr 5 p 0->σ'.mem 5 p=some (kA t)->(σ'.env 38).v=.sl t.usesL.isEmpty (t.usesL.map RH)->(σ'.env 39).v=.int .i64 t.usesL.length->(σ'.env 40).v=.int .i64 0->OI jA rA WD σ' k'=some (.int .i64 (NC s.types s.types.length 0),none):=by
      intro σ' k' p hret sq f1 fm f3 rj gj ik fo f5 fp f38 f39 f40;refine vuses_lp s.nl s.types t.usesL hul t.usesL.isEmpty _ (fun σ2=>(σ2.env 1).v=.ptr 1 1 0/\σ2.mem 1 1=some [⟨.sl s.nl (s.types.map eA),.no⟩]/\(σ2.env 3).v=.mp 12 3/\(σ2.env 14).v=.sl s.nl (s.types.map eA)/\(σ2.env 15).v=.int .i64 s.types.length/\(σ2.env 16).v=.int .i64 i/\σ2.obj 12 3=some (OG (q'.map CI))/\(σ2.env 5).v=.ptr 5 p 0/\σ2.mem 5 p=some (kA t)) (fun a b hm ho _ he h=>?_) k' (fun σ2 hu h=>?_) (fun σ2 hu h2=>?_) σ' ⟨f1,fm,f3,rj,gj,ik,fo,f5,fp⟩ f1 fm f38 f39 f40
      ·rw [hm,ho,he 1 (by decide),he 3 (by decide),he 14 (by decide),he 15 (by decide),he 16 (by decide),he 5 (by decide)];exact h
      ·obtain ⟨f1,fm,f3,rj,gj,ik,fo,f5,fp⟩:=h;exact sq σ2 f1 fm f3 rj gj ik fo f5 fp hu
      ·rw [hret σ2 h2];exact err _ 4 (by unfold XC; rw [if_neg (by simp [c1]),if_neg c2,if_pos hu]) (by decide) h2
     have key:t.usesL.any (mB s.types.length)=false->t.kind=8->0<=t.key/\∃ y:fA,(s.types.map eA)[t.key.toNat]?=some (eA y)/\SI s.types t.key=y.kind:=fun hu h8=>by
      obtain ⟨h1,h2⟩:=BZ h8 hu;have h3:t.key.toNat<s.types.length:=by omega
      exact ⟨h1,s.types[t.key.toNat],by rw [yc,y4 h3]; rfl,by unfold SI; rw [y4 h3]⟩
     have next:XC s.types i t=0->∀ σ2:aA,(σ2.env 1).v=.ptr 1 1 0->σ2.mem 1 1=some [⟨.sl s.nl (s.types.map eA),.no⟩]->(σ2.env 3).v=.mp 12 3->(σ2.env 14).v=.sl s.nl (s.types.map eA)->(σ2.env 15).v=.int .i64 s.types.length->(σ2.env 16).v=.int .i64 ((i + 1:Nat):Int)->σ2.obj 12 3=some (OG (q'.map CI))->OI jA rA UB σ2 k=some (.int .i64 (NC s.types s.types.length 0),none):=fun h0 σ2 f1 fm f3 rj gj ik fo=>ih da _ ⟨f1,fm,f3,rj,gj,ik,⟨q',fo,fun x=>by rw [ma,ht,yS,yt,hq]; simp⟩,by rw [<- hv,h0]; rfl⟩
     have hgn:t.name=⟨#[]⟩\/t.name≠⟨#[]⟩/\DI (q.map CI) (.str t.name)=none:=by
      rcases hn with hn | ⟨h1,h2⟩
      ·exact .inl hn
      ·exact .inr ⟨h1,by rw [hg,if_neg h2]⟩
     rcases hgn with hd | ⟨hd,hg⟩
     ·have hd:=eq_true hd;simp [UB,-V,-y3,-y0,J,e1,m1,e3,il,ue,wd,fa,g1,hf,hu,hd,o,XE,bn,NF,AV.flat,AV.scal,hq'];refine KN _ _ (σ.next + 1) (fun σ2 _=>rfl) (fun σ2 f1 fm f3 rj gj ik fo f5 fp od=>?_) ?_ ?_ ?_ ?_ ?_ ?_ ?_ ?_ ?_ ?_ ?_ ?_
      rotate_left
      ·simp [e1]
      ·simp [m1]
      ·simp [e3]
      ·simp [il]
      ·simp [ue]
      ·simp [wd]
      ·simp
      ·simp
      ·simp
      ·simp
      ·simp
      ·simp
      have c3:=od;by_cases h8:t.kind=8
      ·obtain ⟨xj,y,gy,hy⟩:=key od h8;simp only [eA] at gy;by_cases c4:y.kind<1
       ·simp [-V,-y3,-y0,J,f1,fm,f5,fp,h8,xj,gy,c4];exact err _ 1 (by unfold XC; rw [if_neg (by simp [c1]),if_neg c2,if_neg (by simp [c3]),if_pos ⟨h8,by rw [hy]; omega⟩]) (by decide) (by simp)
       ·by_cases c5:4<y.kind
        ·simp [-V,-y3,-y0,J,f1,fm,f5,fp,h8,xj,gy,c4,c5];exact err _ 1 (by unfold XC; rw [if_neg (by simp [c1]),if_neg c2,if_neg (by simp [c3]),if_pos ⟨h8,by rw [hy]; omega⟩]) (by decide) (by simp)
        ·simp [-V,-y3,-y0,J,f1,fm,f5,fp,ik,h8,xj,gy,c4,c5,hw];refine next (by unfold XC; rw [if_neg (by simp [c1]),if_neg c2,if_neg (by simp [c3]),if_neg fun h=>h.2 (by rw [hy]; omega)]) _ ?_ ?_ ?_ ?_ ?_ ?_ ?_ <;> simp [f1,fm,f3,rj,gj,fo]
      ·simp [-V,-y3,-y0,J,f1,fm,f5,fp,ik,h8,hw];refine next (by unfold XC; rw [if_neg (by simp [c1]),if_neg c2,if_neg (by simp [c3]),if_neg fun h=>h8 h.1]) _ ?_ ?_ ?_ ?_ ?_ ?_ ?_ <;> simp [f1,fm,f3,rj,gj,fo]
     ·have hd:=eq_false hd;simp [UB,-V,-y3,-y0,J,e1,m1,e3,il,ue,wd,fa,g1,hf,hu,hd,hg,o,XE,bn,NF,AV.flat,AV.scal,hq'];refine KN _ _ (σ.next + 1) (fun σ2 _=>rfl) (fun σ2 f1 fm f3 rj gj ik fo f5 fp od=>?_) ?_ ?_ ?_ ?_ ?_ ?_ ?_ ?_ ?_ ?_ ?_ ?_
      rotate_left
      ·simp [e1]
      ·simp [m1]
      ·simp [e3]
      ·simp [il]
      ·simp [ue]
      ·simp [wd]
      ·simp
      ·simp
      ·simp
      ·simp
      ·simp
      ·simp
      have c3:=od;by_cases h8:t.kind=8
      ·obtain ⟨xj,y,gy,hy⟩:=key od h8;simp only [eA] at gy;by_cases c4:y.kind<1
       ·simp [-V,-y3,-y0,J,f1,fm,f5,fp,h8,xj,gy,c4];exact err _ 1 (by unfold XC; rw [if_neg (by simp [c1]),if_neg c2,if_neg (by simp [c3]),if_pos ⟨h8,by rw [hy]; omega⟩]) (by decide) (by simp)
       ·by_cases c5:4<y.kind
        ·simp [-V,-y3,-y0,J,f1,fm,f5,fp,h8,xj,gy,c4,c5];exact err _ 1 (by unfold XC; rw [if_neg (by simp [c1]),if_neg c2,if_neg (by simp [c3]),if_pos ⟨h8,by rw [hy]; omega⟩]) (by decide) (by simp)
        ·simp [-V,-y3,-y0,J,f1,fm,f5,fp,ik,h8,xj,gy,c4,c5,hw];refine next (by unfold XC; rw [if_neg (by simp [c1]),if_neg c2,if_neg (by simp [c3]),if_neg fun h=>h.2 (by rw [hy]; omega)]) _ ?_ ?_ ?_ ?_ ?_ ?_ ?_ <;> simp [f1,fm,f3,rj,gj,fo]
      ·simp [-V,-y3,-y0,J,f1,fm,f5,fp,ik,h8,hw];refine next (by unfold XC; rw [if_neg (by simp [c1]),if_neg c2,if_neg (by simp [c3]),if_neg fun h=>h8 h.1]) _ ?_ ?_ ?_ ?_ ?_ ?_ ?_ <;> simp [f1,fm,f3,rj,gj,fo]
    by_cases zb:t.name≠⟨#[]⟩/\t.name∈q
    ·exact dup zb.1 zb.2
    ·refine go ?_;by_cases he:t.name=⟨#[]⟩
     ·exact .inl he
     ·exact .inr ⟨he,fun h=>zb ⟨he,h⟩⟩
  ·have fa:¬ (i:Int)<s.types.length:=by omega
   simp [UB,-V,-y3,-y0,J,ue,wd,fa];refine hk _ _ (.inl ⟨rfl,?_⟩);rw [<- hv,show s.types.length - i=0 from by omega,NC]
 ·refine ⟨?_,?_,?_,?_,?_,?_,⟨[],?_,?_⟩,?_⟩ <;> simp [OG]
 ·rcases h with ⟨rfl,h1⟩ | ⟨rfl,h1⟩
  ·simp [-V,-y3,-y0,J,h1]
  ·simp [-V,-y3,-y0,J,h1]
def cB {α:Type} (p:α->Bool):List α->Int
 | []=>-1
 | x :: r=>if p x=true then 0 else if cB p r=-1 then -1 else cB p r + 1
theorem WE {α:Type} (p:α->Bool):∀ l:List α,-1<=cB p l
 | []=>by simp [cB]
 | x :: r=>by
  have:=WE p r;simp only [cB];split
  ·omega
  ·split <;> omega
theorem gK {α:Type} (p:α->Bool) (x:α) (r:List α) (h:p x=false):cB p (x :: r)=if cB p r=-1 then -1 else cB p r + 1:=by simp [cB,h]
theorem mN {α:Type} (p:α->Bool):∀ l:List α,cB p l≠-1->∃ x,l[(cB p l).toNat]?=some x/\p x=true
 | [],h=>absurd rfl h
 | x :: r,h=>by
  simp only [cB] at h ⊢;by_cases hx:p x=true
  ·rw [if_pos hx]; exact ⟨x,rfl,hx⟩
  ·rw [if_neg hx] at h ⊢;by_cases h1:cB p r=-1
   ·rw [if_pos h1] at h; exact absurd rfl h
   ·rw [if_neg h1];obtain ⟨y,h2,h3⟩:=mN p r h1;have:=WE p r;refine ⟨y,?_,h3⟩;rw [show (cB p r + 1).toNat=(cB p r).toNat + 1 from by omega,List.getElem?_cons_succ];exact h2
theorem nN {α:Type} (p:α->Bool):∀ l:List α,(decide (0<=cB p l))=l.any p
 | []=>by simp [cB]
 | x :: r=>by
  have h1:=nN p r;have h2:=WE p r;rw [List.any_cons,<- h1];simp only [cB];by_cases hx:p x=true
  ·simp [hx]
  ·by_cases h:cB p r=-1
   ·simp [hx,h]
   ·simp [hx,h]; omega
theorem IX (F:Nat) (caps:List AV) (l:List BB) (p:BB->Bool) (hl:l.length<=9223372036854775807) (jg:∀ (s:aA) (cl:Cl),OD s cl caps=some caps) (hF:∀ x∈l,gA F (.agg (nA x) :: caps) (.bool (p x))) (b:Bool):gA 159 [.sl b (l.map nA),.fn F caps] (.int .i64 (cB p l)):=by
 refine wA (c:=CC) rfl rfl ?_;simp [CC,-V,-y3,-y0,J];refine xA l.length (fun i s=>(s.env 0).v=.sl b (l.map nA)/\(s.env 1).v=.fn F caps/\(s.env 7).v=.int .i64 l.length/\(s.env 8).v=.int .i64 i/\cB p l=(if cB p (l.drop i)=-1 then -1 else cB p (l.drop i) + i))
  (fun e s=>(e=.exit 0/\cB p l=-1)\/(e=.ret/\(s.env 4).v=.int .i64 (cB p l))) (fun i hi s k h ih hk=>?_) _ _ ?_ (fun e s h=>?_)
 ·obtain ⟨e0,e1,e7,e8,hs⟩:=h;refine tA ?_;by_cases da:i<l.length
  ·have fa:(i:Int)<l.length:=by omega
   have g1:(l.map nA)[i]?=some (nA l[i]):=by simp [da]
   have hw:=ZA (i:=i);have hx:=hF l[i] (y6 _);rw [yb da] at hs;generalize l[i]=x at *
   simp only [gA,nA] at g1 hx;cases hp:p x with
   | true =>
    rw [hp] at hx;simp [jC,-V,-y3,-y0,J,e0,e1,e7,e8,fa,g1,jg,hx];refine hk _ _ (.inr ⟨rfl,?_⟩);simp [hs,cB,hp]
   | false =>
    rw [hp] at hx;simp [jC,-V,-y3,-y0,J,e0,e1,e7,e8,fa,g1,jg,hx,hw];refine ih da _ ⟨?_,?_,?_,?_,?_⟩
    ·simp [e0]
    ·simp [e1]
    ·simp [e7]
    ·simp
    ·rw [hs,gK p x _ hp];have:=WE p (l.drop (i + 1));by_cases h1:cB p (l.drop (i + 1))=-1
     ·simp [h1]
     ·have h2:¬ cB p (l.drop (i + 1)) + 1=-1:=by omega
      rw [if_neg h1,if_neg h2,if_neg h1];omega
  ·have fa:¬ (i:Int)<l.length:=by omega
   simp [jC,-V,-y3,-y0,J,e7,e8,fa];rw [ye (by omega)] at hs;exact hk _ _ (.inl ⟨rfl,hs⟩)
 ·have:=WE p l;by_cases h1:cB p l=-1 <;> simp [h1]
 ·rcases h with ⟨rfl,h1⟩ | ⟨rfl,h1⟩ <;> simp [-V,-y3,-y0,J,h1]
theorem OX (F:Nat) (caps:List AV) (l:List IS) (p:IS->Bool) (hl:l.length<=9223372036854775807) (jg:∀ (s:aA) (cl:Cl),OD s cl caps=some caps) (hF:∀ x∈l,gA F (.agg (RD x) :: caps) (.bool (p x))) (b:Bool):gA 192 [.sl b (l.map RD),.fn F caps] (.int .i64 (cB p l)):=by
 refine wA (c:=BC) rfl rfl ?_;simp [BC,-V,-y3,-y0,J];refine xA l.length (fun i s=>(s.env 0).v=.sl b (l.map RD)/\(s.env 1).v=.fn F caps/\(s.env 7).v=.int .i64 l.length/\(s.env 8).v=.int .i64 i/\cB p l=(if cB p (l.drop i)=-1 then -1 else cB p (l.drop i) + i))
  (fun e s=>(e=.exit 0/\cB p l=-1)\/(e=.ret/\(s.env 4).v=.int .i64 (cB p l))) (fun i hi s k h ih hk=>?_) _ _ ?_ (fun e s h=>?_)
 ·obtain ⟨e0,e1,e7,e8,hs⟩:=h;refine tA ?_;by_cases da:i<l.length
  ·have fa:(i:Int)<l.length:=by omega
   have g1:(l.map RD)[i]?=some (RD l[i]):=by simp [da]
   have hw:=ZA (i:=i);have hx:=hF l[i] (y6 _);rw [yb da] at hs;generalize l[i]=x at *
   simp only [gA,RD] at g1 hx;cases hp:p x with
   | true =>
    rw [hp] at hx;simp [kC,-V,-y3,-y0,J,e0,e1,e7,e8,fa,g1,jg,hx];refine hk _ _ (.inr ⟨rfl,?_⟩);simp [hs,cB,hp]
   | false =>
    rw [hp] at hx;simp [kC,-V,-y3,-y0,J,e0,e1,e7,e8,fa,g1,jg,hx,hw];refine ih da _ ⟨?_,?_,?_,?_,?_⟩
    ·simp [e0]
    ·simp [e1]
    ·simp [e7]
    ·simp
    ·rw [hs,gK p x _ hp];have:=WE p (l.drop (i + 1));by_cases h1:cB p (l.drop (i + 1))=-1
     ·simp [h1]
     ·have h2:¬ cB p (l.drop (i + 1)) + 1=-1:=by omega
      rw [if_neg h1,if_neg h2,if_neg h1];omega
  ·have fa:¬ (i:Int)<l.length:=by omega
   simp [kC,-V,-y3,-y0,J,e7,e8,fa];rw [ye (by omega)] at hs;exact hk _ _ (.inl ⟨rfl,hs⟩)
 ·have:=WE p l;by_cases h1:cB p l=-1 <;> simp [h1]
 ·rcases h with ⟨rfl,h1⟩ | ⟨rfl,h1⟩ <;> simp [-V,-y3,-y0,J,h1]
theorem KZ (F:Nat) (caps:List AV) (l:List Vl) (p:Vl->Bool) (hl:l.length<=9223372036854775807) (jg:∀ (s:aA) (cl:Cl),OD s cl caps=some caps) (hF:∀ x∈l,gA F (.agg (zA x) :: caps) (.bool (p x))) (b:Bool):gA 266 [.sl b (l.map zA),.fn F caps] (.int .i64 (cB p l)):=by
 refine wA (c:=fD) rfl rfl ?_;simp [fD,-V,-y3,-y0,J];refine xA l.length (fun i s=>(s.env 0).v=.sl b (l.map zA)/\(s.env 1).v=.fn F caps/\(s.env 7).v=.int .i64 l.length/\(s.env 8).v=.int .i64 i/\cB p l=(if cB p (l.drop i)=-1 then -1 else cB p (l.drop i) + i))
  (fun e s=>(e=.exit 0/\cB p l=-1)\/(e=.ret/\(s.env 4).v=.int .i64 (cB p l))) (fun i hi s k h ih hk=>?_) _ _ ?_ (fun e s h=>?_)
 ·obtain ⟨e0,e1,e7,e8,hs⟩:=h;refine tA ?_;by_cases da:i<l.length
  ·have fa:(i:Int)<l.length:=by omega
   have g1:(l.map zA)[i]?=some (zA l[i]):=by simp [da]
   have hw:=ZA (i:=i);have hx:=hF l[i] (y6 _);rw [yb da] at hs;generalize l[i]=x at *
   simp only [gA,iA] at g1 hx;cases hp:p x with
   | true =>
    rw [hp] at hx;simp [mC,-V,-y3,-y0,J,e0,e1,e7,e8,fa,g1,jg,hx];refine hk _ _ (.inr ⟨rfl,?_⟩);simp [hs,cB,hp]
   | false =>
    rw [hp] at hx;simp [mC,-V,-y3,-y0,J,e0,e1,e7,e8,fa,g1,jg,hx,hw];refine ih da _ ⟨?_,?_,?_,?_,?_⟩
    ·simp [e0]
    ·simp [e1]
    ·simp [e7]
    ·simp
    ·rw [hs,gK p x _ hp];have:=WE p (l.drop (i + 1));by_cases h1:cB p (l.drop (i + 1))=-1
     ·simp [h1]
     ·have h2:¬ cB p (l.drop (i + 1)) + 1=-1:=by omega
      rw [if_neg h1,if_neg h2,if_neg h1];omega
  ·have fa:¬ (i:Int)<l.length:=by omega
   simp [mC,-V,-y3,-y0,J,e7,e8,fa];rw [ye (by omega)] at hs;exact hk _ _ (.inl ⟨rfl,hs⟩)
 ·have:=WE p l;by_cases h1:cB p l=-1 <;> simp [h1]
 ·rcases h with ⟨rfl,h1⟩ | ⟨rfl,h1⟩ <;> simp [-V,-y3,-y0,J,h1]
theorem mem1_ev (x:BB) (id:Int):gA 160 [.agg (nA x),.bp [.int .i64 id]] (.bool (decide (x.id=id))):=by
 refine wA (c:=pG) rfl rfl ?_;simp [pG,-V,-y3,-y0,J,nA]
def xB (l:List BB) (id:Int):Int:=cB (fun x=>decide (x.id=id)) l
def wQ (l:List BB) (id:Int):AV:=.tup [.int .i64 (max (xB l id) 0),.bool (decide (0<=xB l id))]
theorem sW (t:fA) (id:Int) (hl:t.mems.length<=9223372036854775807):gA 137 [.agg (eA t),.int .i64 id] (wQ t.mems id):=by
 refine wA (c:=cI) rfl rfl ?_;have h:=IX 160 [.bp [.int .i64 id]] t.mems (fun x=>decide (x.id=id)) hl (fun _ _=>rfl) (fun x _=>mem1_ev x id) t.mn;simp only [gA] at h;unfold wQ xB;simp [cI,-V,-y3,-y0,J,eA,h]
theorem jS (t:fA) (id:Int) (hl:t.mems.length<=9223372036854775807):gA 99 [.agg (eA t),.int .i64 id] (wQ t.mems id):=by
 refine wA (c:=uJ) rfl rfl ?_;obtain ⟨p,hp⟩:∃ p:BB->Bool,p=fun x=>decide (x.id=id):=⟨_,rfl⟩
 unfold wQ xB;rw [<- hp];simp [uJ,-V,-y3,-y0,J,eA];refine xA t.mems.length (fun i s=>(s.env 1).v=.int .i64 id/\(s.env 2).v=.ptr 2 1 0/\s.mem 2 1=some (kA t)/\(s.env 6).v=.int .i64 i/\cB p t.mems=(if cB p (t.mems.drop i)=-1 then -1 else cB p (t.mems.drop i) + i))
  (fun e s=>(e=.exit 0/\cB p t.mems=-1)\/(e=.ret/\0<=cB p t.mems/\(s.env 4).v=.int .i64 (cB p t.mems)/\(s.env 5).v=.bool true)) (fun i hi s k h ih hk=>?_) _ _ ?_ (fun e s h=>?_)
 ·obtain ⟨e1,e2,m2,e6,hs⟩:=h;refine tA ?_;by_cases da:i<t.mems.length
  ·have fa:(i:Int)<t.mems.length:=by omega
   have g1:(t.mems.map nA)[i]?=some (nA t.mems[i]):=by simp [da]
   have hw:=ZA (i:=i);rw [yb da] at hs;generalize t.mems[i]=x at *
   simp only [nA] at g1;by_cases hx:x.id=id
   ·simp [CG,-V,-y3,-y0,J,e1,e2,m2,e6,fa,g1,hx];have ox:p x=true:=by rw [hp]; exact decide_eq_true hx
    refine hk _ _ (.inr ⟨rfl,?_,?_,?_⟩)
    ·rw [hs]; simp [cB,ox]
    ·simp [hs,cB,ox]
    ·simp
   ·have ox:p x=false:=by rw [hp]; exact decide_eq_false hx
    simp [CG,-V,-y3,-y0,J,e1,e2,m2,e6,fa,g1,hx,hw];refine ih da _ ⟨?_,?_,?_,?_,?_⟩
    ·simp [e1]
    ·simp [e2]
    ·simp [m2]
    ·simp
    ·rw [hs,gK p x _ ox];have:=WE p (t.mems.drop (i + 1));by_cases h1:cB p (t.mems.drop (i + 1))=-1
     ·simp [h1]
     ·have h2:¬ cB p (t.mems.drop (i + 1)) + 1=-1:=by omega
      rw [if_neg h1,if_neg h2,if_neg h1];omega
  ·have fa:¬ (i:Int)<t.mems.length:=by omega
   simp [CG,-V,-y3,-y0,J,e2,m2,e6,fa];rw [ye (by omega)] at hs;exact hk _ _ (.inl ⟨rfl,hs⟩)
 ·have:=WE p t.mems;by_cases h1:cB p t.mems=-1 <;> simp [h1]
 ·rcases h with ⟨rfl,h1⟩ | ⟨rfl,h0,h1,h2⟩
  ·simp [-V,-y3,-y0,J,h1];rfl
  ·simp [-V,-y3,-y0,J,h1,h2,h0,Int.max_eq_left h0]
theorem sym1_ev (x:IS) (id:Int):gA 193 [.agg (RD x),.bp [.int .i64 id]] (.bool (decide (x.id=id))):=by
 refine wA (c:=aG) rfl rfl ?_;simp [aG,-V,-y3,-y0,J,RD]
def wG (l:List IS) (id:Int):Int:=cB (fun x=>decide (x.id=id)) l
def ZU (l:List IS) (id:Int):AV:=.tup [.int .i64 (max (wG l id) 0),.bool (decide (0<=wG l id))]
theorem Z7 (t:fA) (id:Int) (hl:t.syms.length<=9223372036854775807):gA 154 [.agg (eA t),.int .i64 id] (ZU t.syms id):=by
 refine wA (c:=bI) rfl rfl ?_;have h:=OX 193 [.bp [.int .i64 id]] t.syms (fun x=>decide (x.id=id)) hl (fun _ _=>rfl) (fun x _=>sym1_ev x id) t.sn;simp only [gA] at h;unfold ZU wG;simp [bI,-V,-y3,-y0,J,eA,h]
theorem D1 (t:fA) (id:Int) (hl:t.syms.length<=9223372036854775807):gA 123 [.agg (eA t),.int .i64 id] (ZU t.syms id):=by
 refine wA (c:=iJ) rfl rfl ?_;obtain ⟨p,hp⟩:∃ p:IS->Bool,p=fun x=>decide (x.id=id):=⟨_,rfl⟩
 unfold ZU wG;rw [<- hp];simp [iJ,-V,-y3,-y0,J,eA];refine xA t.syms.length (fun i s=>(s.env 1).v=.int .i64 id/\(s.env 2).v=.ptr 2 1 0/\s.mem 2 1=some (kA t)/\(s.env 6).v=.int .i64 i/\cB p t.syms=(if cB p (t.syms.drop i)=-1 then -1 else cB p (t.syms.drop i) + i))
  (fun e s=>(e=.exit 0/\cB p t.syms=-1)\/(e=.ret/\0<=cB p t.syms/\(s.env 4).v=.int .i64 (cB p t.syms)/\(s.env 5).v=.bool true)) (fun i hi s k h ih hk=>?_) _ _ ?_ (fun e s h=>?_)
 ·obtain ⟨e1,e2,m2,e6,hs⟩:=h;refine tA ?_;by_cases da:i<t.syms.length
  ·have fa:(i:Int)<t.syms.length:=by omega
   have g1:(t.syms.map RD)[i]?=some (RD t.syms[i]):=by simp [da]
   have hw:=ZA (i:=i);rw [yb da] at hs;generalize t.syms[i]=x at *
   simp only [RD] at g1;by_cases hx:x.id=id
   ·simp [BG,-V,-y3,-y0,J,e1,e2,m2,e6,fa,g1,hx];have ox:p x=true:=by rw [hp]; exact decide_eq_true hx
    refine hk _ _ (.inr ⟨rfl,?_,?_,?_⟩)
    ·rw [hs]; simp [cB,ox]
    ·simp [hs,cB,ox]
    ·simp
   ·have ox:p x=false:=by rw [hp]; exact decide_eq_false hx
    simp [BG,-V,-y3,-y0,J,e1,e2,m2,e6,fa,g1,hx,hw];refine ih da _ ⟨?_,?_,?_,?_,?_⟩
    ·simp [e1]
    ·simp [e2]
    ·simp [m2]
    ·simp
    ·rw [hs,gK p x _ ox];have:=WE p (t.syms.drop (i + 1));by_cases h1:cB p (t.syms.drop (i + 1))=-1
     ·simp [h1]
     ·have h2:¬ cB p (t.syms.drop (i + 1)) + 1=-1:=by omega
      rw [if_neg h1,if_neg h2,if_neg h1];omega
  ·have fa:¬ (i:Int)<t.syms.length:=by omega
   simp [BG,-V,-y3,-y0,J,e2,m2,e6,fa];rw [ye (by omega)] at hs;exact hk _ _ (.inl ⟨rfl,hs⟩)
 ·have:=WE p t.syms;by_cases h1:cB p t.syms=-1 <;> simp [h1]
 ·rcases h with ⟨rfl,h1⟩ | ⟨rfl,h0,h1,h2⟩
  ·simp [-V,-y3,-y0,J,h1];rfl
  ·simp [-V,-y3,-y0,J,h1,h2,h0,Int.max_eq_left h0]
theorem rnames_lp (sn:Bool) (S:List fA) (i:Nat) (hiS:i<S.length) (hS:S.length<=9223372036854775807) (t:fA) (p:Nat) (r:RV) (P:aA->Prop) (hP:∀ s s':aA,s'.mem=s.mem->s'.obj=s.obj->(∀ t,t ∉ [2,5,27,28,29,30,31,32,33,34,35,36,37,38,39,40,41,42,43,44,45]->s'.env t=s.env t)->P s->P s') (k:Ex->aA->Option RV)
  (hk:∀ s',¬ (t.named=true/\t.name∈(S.take i).map fA.name)->P s'->k (.exit 2) s'=some r) (hr:∀ s':aA,t.named=true/\t.name∈(S.take i).map fA.name->(s'.env 2).v=.int .i64 1->k .ret s'=some r)
  (s:aA) (hs:P s) (h1:(s.env 1).v=.ptr 1 1 0) (m1:s.mem 1 1=some [⟨.sl sn (S.map eA),.no⟩]) (h3:(s.env 3).v=.int .i64 i) (h4:(s.env 4).v=.ptr 4 p 0) (m4:s.mem 4 p=some (kA t)) (h5:(s.env 5).v=.int .i64 0):OI jA rA CD s k=some r:=by
 have jb:=zD t.kind;change gA _ _ (.bool t.named) at jb;simp only [gA] at jb;refine xA i (fun j s=>P s/\(s.env 1).v=.ptr 1 1 0/\s.mem 1 1=some [⟨.sl sn (S.map eA),.no⟩]/\(s.env 3).v=.int .i64 i/\(s.env 4).v=.ptr 4 p 0/\s.mem 4 p=some (kA t)/\(s.env 5).v=.int .i64 j/\¬ (t.named=true/\t.name∈(S.take j).map fA.name))
  (fun e s=>(e=.exit 2/\¬ (t.named=true/\t.name∈(S.take i).map fA.name)/\P s)\/(e=.ret/\(t.named=true/\t.name∈(S.take i).map fA.name)/\(s.env 2).v=.int .i64 1)) (fun j hj s k h ih hk=>?_) _ _ ?_ (fun e s h=>?_)
 ·obtain ⟨hp,e1,m1,e3,e4,m4,e5,hs⟩:=h;refine tA ?_;by_cases da:j<i
  ·have fa:(j:Int)<i:=by omega
   have hjS:j<S.length:=by omega
   have g1:(S.map eA)[j]?=some (eA S[j]):=by simp [hjS]
   have hw:=ZA (i:=j);have ht:S.take (j + 1)=S.take j++[S[j]]:=(yH hjS).symm;have ma:S[j]∈S.take i:=List.mem_take_iff_getElem.2 ⟨j,by omega,rfl⟩;generalize S[j]=u at *
   simp only [eA] at g1;have nxt:∀ s',s'.mem=s.mem->s'.obj=s.obj->(∀ t,t ∉ [2,5,27,28,29,30,31,32,33,34,35,36,37,38,39,40,41,42,43,44,45]->s'.env t=s.env t)->(s'.env 5).v=.int .i64 ((j + 1:Nat):Int)->¬ (t.named=true/\u.name=t.name)->OI jA rA CD s' k=some r:=fun s' hm ho he h5 hn=>by
    refine ih da _ ⟨hP s s' hm ho he hp,?_,?_,?_,?_,?_,h5,?_⟩
    ·rw [he 1 (by decide)]; exact e1
    ·rw [hm]; exact m1
    ·rw [he 3 (by decide)]; exact e3
    ·rw [he 4 (by decide)]; exact e4
    ·rw [hm]; exact m4
    ·rw [ht,yS,yt];rintro ⟨h1,h2 | h2⟩
     ·exact hs ⟨h1,h2⟩
     ·simp at h2; exact hn ⟨h1,h2.symm⟩
   cases hb:t.named with
   | false =>
    rw [hb] at jb;simp [CD,-V,-y3,-y0,J,e1,m1,e3,e4,m4,e5,fa,g1,jb,hw];refine nxt _ rfl rfl ?_ ?_ (by simp [hb])
    ·intro t ht;simp only [yf,yJ,or_false,not_or] at ht;simp [zG,ht]
    ·simp
   | true =>
    rw [hb] at jb;by_cases na:u.name=t.name
    ·simp [CD,-V,-y3,-y0,J,e1,m1,e3,e4,m4,e5,fa,g1,jb,na];exact hk _ _ (.inr ⟨rfl,⟨hb,na ▸ yN ma⟩,by simp⟩)
    ·simp [CD,-V,-y3,-y0,J,e1,m1,e3,e4,m4,e5,fa,g1,jb,na,hw];refine nxt _ rfl rfl ?_ ?_ (by simp [na])
     ·intro t ht;simp only [yf,yJ,or_false,not_or] at ht;simp [zG,ht]
     ·simp
  ·have fa:¬ (j:Int)<i:=by omega
   have hji:j=i:=by omega
   simp [CD,-V,-y3,-y0,J,e3,e5,fa];refine hk _ _ (.inl ⟨rfl,hji ▸ hs,hP s _ rfl rfl ?_ hp⟩);intro t ht;simp only [yf,yJ,or_false,not_or] at ht;simp [zG,ht]
 ·simp [hs,h1,m1,h3,h4,m4,h5]
 ·rcases h with ⟨rfl,h1,h2⟩ | ⟨rfl,h1,h2⟩
  ·exact hk s h1 h2
  ·exact hr s h1 h2
theorem rvuses_lp (sn:Bool) (S:List fA) (U:List Int) (hU:U.length<=9223372036854775807) (bu:Bool) (r:RV) (P:aA->Prop) (hP:∀ s s':aA,s'.mem=s.mem->s'.obj=s.obj->(∀ t,t ∉ [2,7,48,49,50,51,52,53,54,55,56,57,58,59,60,61,62,63,64,65,66,67,68]->s'.env t=s.env t)->P s->P s') (k:Ex->aA->Option RV)
  (hk:∀ s',U.any (mB S.length)=false->P s'->k (.exit 4) s'=some r) (hr:∀ s':aA,U.any (mB S.length)=true->(s'.env 2).v=.int .i64 4->k .ret s'=some r)
  (s:aA) (hs:P s) (h1:(s.env 1).v=.ptr 1 1 0) (m1:s.mem 1 1=some [⟨.sl sn (S.map eA),.no⟩]) (h6:(s.env 6).v=.sl bu (U.map RH)) (h7:(s.env 7).v=.int .i64 0):OI jA rA IE s k=some r:=by
 refine xA U.length (fun i s=>P s/\(s.env 1).v=.ptr 1 1 0/\s.mem 1 1=some [⟨.sl sn (S.map eA),.no⟩]/\(s.env 6).v=.sl bu (U.map RH)/\(s.env 7).v=.int .i64 i/\(U.drop i).any (mB S.length)=U.any (mB S.length))
  (fun e s=>(e=.exit 4/\U.any (mB S.length)=false/\P s)\/(e=.ret/\U.any (mB S.length)=true/\(s.env 2).v=.int .i64 4)) (fun i hi s k h ih hk=>?_) _ _ ?_ (fun e s h=>?_)
 ·obtain ⟨hp,e1,m1,e6,e7,hs⟩:=h;refine tA ?_;by_cases da:i<U.length
  ·have fa:(i:Int)<U.length:=by omega
   have g1:(U.map RH)[i]?=some (RH U[i]):=by simp [da]
   have hw:=ZA (i:=i);rw [yb da,List.any_cons] at hs;generalize U[i]=u at *
   simp only [RH] at g1;by_cases c1:u<0
   ·simp [IE,-V,-y3,-y0,J,e1,m1,e6,e7,fa,g1,c1];exact hk _ _ (.inr ⟨rfl,by rw [<- hs]; simp [mB,c1],by simp⟩)
   by_cases c2:(S.length:Int)<=u
   ·simp [IE,-V,-y3,-y0,J,e1,m1,e6,e7,fa,g1,c1,c2];exact hk _ _ (.inr ⟨rfl,by rw [<- hs]; simp [mB,c2],by simp⟩)
   simp [IE,-V,-y3,-y0,J,e1,m1,e6,e7,fa,g1,c1,c2,hw];refine ih da _ ⟨hP s _ rfl rfl ?_ hp,?_,?_,?_,?_,?_⟩
   ·intro t ht;simp only [yf,yJ,or_false,not_or] at ht;simp [zG,ht]
   ·simp [e1]
   ·simp [m1]
   ·simp [e6]
   ·simp
   ·rw [<- hs]; simp [mB,c1,c2]
  ·have fa:¬ (i:Int)<U.length:=by omega
   simp [IE,-V,-y3,-y0,J,e6,e7,fa];rw [ye (by omega)] at hs;refine hk _ _ (.inl ⟨rfl,hs.symm,hP s _ rfl rfl ?_ hp⟩);intro t ht;simp only [yf,yJ,or_false,not_or] at ht;simp [zG,ht]
 ·simp [hs,h1,m1,h6,h7]
 ·rcases h with ⟨rfl,h1,h2⟩ | ⟨rfl,h1,h2⟩
  ·exact hk s h1 h2
  ·exact hr s h1 h2
theorem PT (s:SG) (hs:s.fine):gA 150 [.agg (WA s)] (.int .i64 (valid s.types)):=by
 obtain ⟨ja,pe⟩:=hs;refine wA (c:=XH) rfl rfl ?_;unfold valid;by_cases dv:32<s.types.length
 ·have ko:(32:Int)<s.types.length:=by omega
  simp [XH,-V,-y3,-y0,J,WA,dv,ko]
 have ko:¬ (32:Int)<s.types.length:=by omega
 simp [XH,-V,-y3,-y0,J,WA,dv,ko];refine xA s.types.length (fun i σ=>(σ.env 1).v=.ptr 1 1 0/\σ.mem 1 1=some [⟨.sl s.nl (s.types.map eA),.no⟩]/\(σ.env 3).v=.int .i64 i/\NC s.types (s.types.length - i) i=NC s.types s.types.length 0)
  (fun e σ=>(e=.exit 0/\NC s.types s.types.length 0=0)\/(e=.ret/\(σ.env 2).v=.int .i64 (NC s.types s.types.length 0))) (fun i hi σ k h ih hk=>?_) _ _ ?_ (fun e σ h=>?_)
 ·obtain ⟨e1,m1,e3,hv⟩:=h;refine tA ?_;by_cases da:i<s.types.length
  ·have fa:(i:Int)<s.types.length:=by omega
   have g1:(s.types.map eA)[i]?=some (eA s.types[i]):=by simp [da]
   have hw:=ZA (i:=i);have hf:=own_ev s.types[i] (pe _ (y6 _));have hu:=fun h9:(s.types[i]'da).kind<=9=>ruses_ev (s.types[i]'da) (pe _ (y6 da)).2.2 h9 _ rfl
   have wo:=(pe _ (y6 da)).2.2;rw [mS da] at hv;generalize s.types[i]=t at *
   have hul:t.usesL.length<=9223372036854775807:=by
    unfold fA.usesL;by_cases h8:t.kind=8 <;> by_cases h7:7<=t.kind <;> simp [h8,h7] <;> omega
   simp only [gA,eA] at hf hu;simp only [eA] at g1;have err:∀ σ' n,XC s.types i t=n->n≠0->(σ'.env 2).v=.int .i64 n->k .ret σ'=some (.int .i64 (NC s.types s.types.length 0),none):=fun σ' n h1 h2 h3=>hk _ _ (.inr ⟨rfl,by rw [h3,<- hv,h1,if_neg h2]⟩)
   cases c1:bB t with
   | false =>
    rw [c1] at hf;simp [nH,-V,-y3,-y0,J,e1,m1,e3,fa,g1,hf];exact err _ 1 (by simp [XC,c1]) (by decide) (by simp)
   | true =>
    rw [c1] at hf;have hu:=hu (dK c1).2;simp [nH,-V,-y3,-y0,J,e1,m1,e3,fa,g1,hf];refine rnames_lp s.nl s.types i da ja t (σ.next + 1) _ (fun σ2=>(σ2.env 1).v=.ptr 1 1 0/\σ2.mem 1 1=some [⟨.sl s.nl (s.types.map eA),.no⟩]/\(σ2.env 3).v=.int .i64 i/\(σ2.env 4).v=.ptr 4 (σ.next + 1) 0/\σ2.mem 4 (σ.next + 1)=some (kA t)) (fun a b hm ho he h=>?_) _ (fun σ2 c2 h=>?_) (fun σ2 c2 h2=>?_) _ ⟨?_,?_,?_,?_,?_⟩ ?_ ?_ ?_ ?_ ?_ ?_
    ·rw [hm,he 1 (by decide),he 3 (by decide),he 4 (by decide)];exact h
    ·obtain ⟨f1,fm,f3,f4,fp⟩:=h;simp [-V,-y3,-y0,J,f1,fm,f3,f4,fp,hu];refine rvuses_lp s.nl s.types t.usesL hul t.usesL.isEmpty _ (fun σ2=>(σ2.env 1).v=.ptr 1 1 0/\σ2.mem 1 1=some [⟨.sl s.nl (s.types.map eA),.no⟩]/\(σ2.env 3).v=.int .i64 i/\(σ2.env 4).v=.ptr 4 (σ.next + 1) 0/\σ2.mem 4 (σ.next + 1)=some (kA t)) (fun a b hm ho he h=>?_) _ (fun σ2 c3 h=>?_) (fun σ2 c3 h2=>?_) _ ⟨?_,?_,?_,?_,?_⟩ ?_ ?_ ?_ ?_
     ·rw [hm,he 1 (by decide),he 3 (by decide),he 4 (by decide)];exact h
     ·obtain ⟨f1,fm,f3,f4,fp⟩:=h;by_cases h8:t.kind=8
      ·obtain ⟨xj,fd⟩:=BZ h8 c3;have h3:t.key.toNat<s.types.length:=by omega
       have gy:(s.types.map eA)[t.key.toNat]?=some (eA s.types[t.key.toNat]):=by rw [yc,y4 h3]; rfl
       have hy:SI s.types t.key=s.types[t.key.toNat].kind:=by unfold SI; rw [y4 h3]
       generalize s.types[t.key.toNat]=y at *
       have tb:=wW y.kind;simp only [eA] at gy;simp only [gA] at tb;by_cases c4:1<=y.kind/\y.kind<=4
       ·rw [decide_eq_true c4] at tb;simp [-V,-y3,-y0,J,f1,fm,f3,f4,fp,h8,xj,gy,tb,hw];refine ih da _ ⟨?_,?_,?_,?_⟩
        ·simp [f1]
        ·simp [fm]
        ·simp
        ·rw [<- hv,if_pos];unfold XC;rw [if_neg (by simp [c1]),if_neg c2,if_neg (by simp [c3]),if_neg fun h=>h.2 (by rw [hy]; exact c4)]
       ·rw [decide_eq_false c4] at tb;simp [-V,-y3,-y0,J,f1,fm,f3,f4,fp,h8,xj,gy,tb];exact err _ 1 (by unfold XC; rw [if_neg (by simp [c1]),if_neg c2,if_neg (by simp [c3]),if_pos ⟨h8,by rw [hy]; exact c4⟩]) (by decide) (by simp)
      ·simp [-V,-y3,-y0,J,f1,fm,f3,f4,fp,h8,hw];refine ih da _ ⟨?_,?_,?_,?_⟩
       ·simp [f1]
       ·simp [fm]
       ·simp
       ·rw [<- hv,if_pos];unfold XC;rw [if_neg (by simp [c1]),if_neg c2,if_neg (by simp [c3]),if_neg fun h=>h8 h.1]
     ·simp [-V,-y3,-y0,J];exact err _ 4 (by unfold XC; rw [if_neg (by simp [c1]),if_neg c2,if_pos c3]) (by decide) h2
     all_goals simp [f1,fm,f3,f4,fp]
    ·simp [-V,-y3,-y0,J];exact err _ 1 (by unfold XC; rw [if_neg (by simp [c1]),if_pos c2]) (by decide) h2
    all_goals simp [e1,m1,e3]
  ·have fa:¬ (i:Int)<s.types.length:=by omega
   simp [nH,-V,-y3,-y0,J,e1,m1,e3,fa];refine hk _ _ (.inl ⟨rfl,?_⟩);rw [<- hv,show s.types.length - i=0 from by omega,NC]
 ·refine ⟨?_,?_,?_,?_⟩ <;> simp
 ·rcases h with ⟨rfl,h1⟩ | ⟨rfl,h1⟩
  ·simp [-V,-y3,-y0,J,h1]
  ·simp [-V,-y3,-y0,J,h1]
end Go.Proofs.YtbnlmgncbgaepaaGreat
