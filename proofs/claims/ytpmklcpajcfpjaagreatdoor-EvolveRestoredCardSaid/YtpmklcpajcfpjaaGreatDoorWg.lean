/- A part of the proof. -/
import Derived.Test.YtpmklcpajcfpjaaGreatDoorWe
import Derived.Test.YtpmklcpajcfpjaaGreatDoorWf
set_option linter.all false
set_option maxRecDepth 100000
set_option maxHeartbeats 8000000
open Option renaming bind_some → J
open List renaming range_succ → y0, map_map → y9, getElem?_eq_getElem → yf, getElem?_map → yk, getElem?_eq_some_iff → yn, mem_cons → yt, mem_append → yu, drop_eq_getElem_cons → yv, drop_eq_nil_of_le → yw, getElem_mem → yC, map_append → Y03, not_mem_nil → Y09, take_append_getElem → Y0m, getElem?_cons_succ → Y0o
open Int renaming toNat_lt → yb
open Bool renaming and_eq_true → yg
namespace Go.Proofs.YtpmklcpajcfpjaaGreatDoor
open Go
def IF (n:Nat)(u:Int):Bool:=decide (u<0)||decide ((n:Int)<=u)
def tM (l:List BC)(k:Int):Int:=match l[k.toNat]? with
 |some t=>t.kind
 |none=>0
def ZE (l:List BC)(i:Nat)(t:BC):Int :=
 if bD t=false then 1
 else if t.named=true/\t.name∈(l.take i).map BC.name then 1
 else if t.dA.any (IF l.length)=true then 4
 else if t.kind=8/\¬(1<=tM l t.key/\tM l t.key<=4)then 1
 else 0
def bE (l:List BC):Nat->Nat->Int
 |0,_=>0
 |n+1,i=>match l[i]? with
  |some t=>if ZE l i t=0 then bE l n (i+1)else ZE l i t
  |none=>0
def valid (l:List BC):Int:=if 32<l.length then 3 else bE l l.length 0
theorem mW {l:List BC}{i:Nat}(h:i<l.length):bE l (l.length-i) i=if ZE l i l[i]=0 then bE l (l.length-(i+1)) (i+1)else ZE l i l[i]:=by
 rw[show l.length-i=(l.length-(i+1))+1 from by omega,bE,yf h]
theorem rT {t:BC}(h:bD t=true):1<=t.kind/\t.kind<=9:=by
 unfold bD at h;rw[yg]at h;exact of_decide_eq_true h.1
theorem Ma {s:ByteArray}(h:eI s=true):s≠⟨#[]⟩:=fun e=>by
 subst e;unfold eI at h;simp only[yg]at h;have:=of_decide_eq_true h.1.1.1;exact this rfl
theorem Uq {t:BC}(h:bD t=true):t.named=true↔t.name≠⟨#[]⟩:=by
 have hk:=rT h;unfold bD EI BC.left at h;rcases kinds t.kind with e|e|e|e|e|e|e|e|e|e
 all_goals first|exact absurd hk e|skip
 all_goals simp[e,BC.same,pE,BC.named]at h ⊢
 all_goals first|exact Ma h.1.1|(simp[h];done)|skip
theorem Ez {l:List BC}{t:BC}(h8:t.kind=8)(h:t.dA.any (IF l.length)=false):0<=t.key/\t.key<l.length:=by
 have hm:t.key∈t.dA:=by simp[BC.dA,h8]
 have:=List.any_eq_false.1 h _ hm;simp[IF]at this;omega
theorem u5 (s:ByteArray):∀l:List ByteArray,s∈l->DK (l.map NK) (.str s) (.bool true)=l.map NK
 | [],h=>by cases h
 |x::r,hn=>by
  by_cases h:x=s
  ·simp[NK,DK,rU,h]
  ·have:=u5 s r (by
    rcases yt.1 hn with e|e
    ·exact absurd e.symm h
    ·exact e)
   simp[NK,DK,rU,h,this]
theorem Ld (s:ByteArray)(q:List ByteArray):∃q':List ByteArray,DK (q.map NK) (.str s) (.bool true)=q'.map NK/\∀x,x∈q'↔x∈q\/x=s:=by
 by_cases h:s∈q
 ·exact⟨q,u5 s q h,fun x=>⟨.inl,fun e=>e.elim id (fun e=>e▸h)⟩⟩
 ·exact⟨q++[s],N1 s q h,fun x=>by simp⟩
def CT.fine (s:CT):Prop:=s.types.length<=9223372036854775807/\∀t∈s.types,t.fine
theorem Bv (sn:Bool)(S:List BC)(U:List Int)(hU:U.length<=9223372036854775807)(bu:Bool)(r:RV)(P:LC->Prop)(hP:∀s s':LC,s'.mem=s.mem->s'.obj=s.obj->s'.next=s'.next->(∀t,t ∉ [2,7,41,42,43,44,45,46,47,48,49,50,51,52,53,40]->s'.env t=s.env t)->P s->P s')(k:Ex->LC->Option RV)
  (hk:∀s',U.any (IF S.length)=false->P s'->k (.exit 2) s'=some r) (hr:∀s':LC,U.any (IF S.length)=true->(s'.env 2).v=.int .i64 4->k .ret s'=some r)
  (s:LC) (hs:P s) (h1:(s.env 1).v=.ptr 1 1 0) (m1:s.mem 1 1=some [⟨.sl sn (S.map GC),.no⟩]) (h38:(s.env 38).v=.sl bu (U.map LJ)) (h39:(s.env 39).v=.int .i64 U.length) (h40:(s.env 40).v=.int .i64 0):HJ MC ZC pG s k=some r:=by
 refine zE U.length (fun i s=>P s/\(s.env 1).v=.ptr 1 1 0/\s.mem 1 1=some [⟨.sl sn (S.map GC),.no⟩]/\(s.env 38).v=.sl bu (U.map LJ)/\(s.env 39).v=.int .i64 U.length/\(s.env 40).v=.int .i64 i/\(U.drop i).any (IF S.length)=U.any (IF S.length))
  (fun e s=>(e=.exit 2/\U.any (IF S.length)=false/\P s)\/(e=.ret/\U.any (IF S.length)=true/\(s.env 2).v=.int .i64 4)) (fun i hi s k h ih hk=>?_) _ _ ?_ (fun e s h=>?_)
 ·obtain ⟨hp,e1,m1,e38,e39,e40,hs⟩:=h;refine wD ?_;by_cases ba:i<U.length
  ·have fa:(i:Int)<U.length:=by omega
   have g1:(U.map LJ)[i]?=some (LJ U[i]):=by simp[ba]
   have hw:=rE (i:=i);rw[yv ba,List.any_cons]at hs;generalize U[i]=u at *
   simp only[LJ]at g1;by_cases c1:u<0
   ·simp[pG,-J,-yb,-y9,y0,e1,m1,e38,e39,e40,fa,g1,c1];exact hk _ _ (.inr ⟨rfl,by rw[<- hs];simp[IF,c1],by simp⟩)
   by_cases c2:(S.length:Int)<=u
   ·simp[pG,-J,-yb,-y9,y0,e1,m1,e38,e39,e40,fa,g1,c1,c2];exact hk _ _ (.inr ⟨rfl,by rw[<- hs];simp[IF,c2],by simp⟩)
   simp[pG,-J,-yb,-y9,y0,e1,m1,e38,e39,e40,fa,g1,c1,c2,hw];refine ih ba _ ⟨hP s _ ?_ ?_ ?_ ?_ hp,?_,?_,?_,?_,?_,?_⟩
   ·rfl
   ·rfl
   ·rfl
   ·intro t ht;simp only[yt,Y09,or_false,not_or]at ht;simp[ON,ht]
   ·simp[e1]
   ·simp[m1]
   ·simp[e38]
   ·simp[e39]
   ·simp
   ·rw[<- hs];simp[IF,c1,c2]
  ·have fa:¬ (i:Int)<U.length:=by omega
   simp[pG,-J,-yb,-y9,y0,e39,e40,fa];rw[yw (by omega)]at hs;refine hk _ _ (.inl ⟨rfl,hs.symm,hP s _ ?_ ?_ ?_ ?_ hp⟩)
   ·rfl
   ·rfl
   ·rfl
   ·intro t ht;simp only[yt,Y09,or_false,not_or]at ht;simp[ON,ht]
 ·simp[hs,h1,m1,h38,h39,h40]
 ·rcases h with ⟨rfl,h1,h2⟩ | ⟨rfl,h1,h2⟩
  ·exact hk s h1 h2
  ·exact hr s h1 h2
theorem WW (s:CT)(hs:s.fine):BD 19 [.agg (xK s)] (.int .i64 (valid s.types)):=by
 obtain⟨da,wj⟩:=hs;refine tD (c:=xJ) rfl rfl ?_;unfold valid;by_cases ry:32<s.types.length
 ·have pq:(32:Int)<s.types.length:=by omega
  simp[xJ,-J,-yb,-y9,y0,xK,ry,pq]
 have pq:¬(32:Int)<s.types.length:=by omega
 simp[xJ,-J,-yb,-y9,y0,xK,ry,pq];refine zE s.types.length (fun i σ=>(σ.env 1).v=.ptr 1 1 0/\σ.mem 1 1=some [⟨.sl s.nl (s.types.map GC),.no⟩]/\(σ.env 3).v=.mp 12 3/\(σ.env 14).v=.sl s.nl (s.types.map GC)/\(σ.env 15).v=.int .i64 s.types.length/\(σ.env 16).v=.int .i64 i/\(∃q:List ByteArray,σ.obj 12 3=some (xL (q.map NK))/\∀x,x∈q↔x∈(s.types.take i).map BC.name)/\bE s.types (s.types.length-i) i=bE s.types s.types.length 0)
  (fun e σ=>(e=.exit 0/\bE s.types s.types.length 0=0)\/(e=.ret/\(σ.env 2).v=.int .i64 (bE s.types s.types.length 0))) (fun i hi σ k h ih hk=>?_) _ _ ?_ (fun e σ h=>?_)
 ·obtain ⟨e1,m1,e3,e14,pj,dk,⟨q,o,hq⟩,hv⟩:=h;refine wD ?_;by_cases ba:i<s.types.length
  ·have fa:(i:Int)<s.types.length:=by omega
   have g1:(s.types.map GC)[i]?=some (GC s.types[i]):=by simp[ba]
   have hw:=rE (i:=i);have ht:s.types.take (i+1)=s.types.take i++[s.types[i]]:=(Y0m ba).symm;have hf:=form_ev s.types[i] (wj _ (yC _));have hu:=uses_ev s.types[i] (wj _ (yC _)).2.2 _ rfl;have ac:=(wj _ (yC ba)).2.2;rw[mW ba]at hv;generalize s.types[i]=t at *
   have hul:t.dA.length<=9223372036854775807:=by
    unfold BC.dA;by_cases h8:t.kind=8<;>by_cases h7:7<=t.kind<;>simp[h8,h7]<;>omega
   simp only[BD,GC]at hf hu;simp only[GC]at g1;have hg:=B1 t.name q;have wx:=H6 q;obtain⟨q',jm,pd⟩:=Ld t.name q;have err:∀σ' n,ZE s.types i t=n->n≠0->(σ'.env 2).v=.int .i64 n->k .ret σ'=some (.int .i64 (bE s.types s.types.length 0),none):=fun σ' n h1 h2 h3=>hk _ _ (.inr ⟨rfl,by rw[h3,<- hv,h1,if_neg h2]⟩)
   cases c1:bD t with
   |false =>
    rw[c1]at hf;simp[jE,-J,-yb,-y9,y0,e1,m1,e3,e14,pj,dk,fa,g1,hf];exact err _ 1 (by simp[ZE,c1]) (by decide) (by simp)
   |true =>
    rw[c1]at hf;have rb:=Uq c1;have dup:t.name≠⟨#[]⟩->t.name∈q->jE.run (sF MC ZC) (jH MC ZC) σ (aN (HJ MC ZC) jE k)=some (.int .i64 (bE s.types s.types.length 0),none):=by
     intro hn oj;have hd:=eq_false hn;rw[if_pos oj]at hg;simp[jE,-J,-yb,-y9,y0,e1,m1,e3,e14,pj,dk,fa,g1,hf,hd,o,cL,wx,LK,AV.flat,AV.cA,hg];exact err _ 1 (by unfold ZE;rw[if_neg (by simp[c1]),if_pos ⟨rb.2 hn,(hq _).1 oj⟩]) (by decide) (by simp)
    have go:(t.name=⟨#[]⟩\/t.name≠⟨#[]⟩/\¬t.name∈q)->jE.run (sF MC ZC) (jH MC ZC) σ (aN (HJ MC ZC) jE k)=some (.int .i64 (bE s.types s.types.length 0),none):=by
     intro hn;have c2:¬(t.named=true/\t.name∈(s.types.take i).map BC.name):=fun⟨h1,h2⟩=>by
      rcases hn with hn|hn
      ·exact(rb.1 h1) hn
      ·exact hn.2 ((hq _).2 h2)
     have JJ:∀(σ':LC)(k':Ex->LC->Option RV)(p:Nat),(∀σ2:LC,(σ2.env 2).v=.int .i64 4->k' .ret σ2=k .ret σ2) →
       (∀σ2:LC,(σ2.env 1).v=.ptr 1 1 0->σ2.mem 1 1=some [⟨.sl s.nl (s.types.map GC),.no⟩]->(σ2.env 3).v=.mp 12 3->(σ2.env 14).v=.sl s.nl (s.types.map GC)->(σ2.env 15).v=.int .i64 s.types.length->(σ2.env 16).v=.int .i64 i->σ2.obj 12 3=some (xL (q'.map NK))->(σ2.env 5).v=.ptr 5 p 0->σ2.mem 5 p=some (OG t)->t.dA.any (IF s.types.length)=false->k' (.exit 2) σ2=some (.int .i64 (bE s.types s.types.length 0),none)) →
       (σ'.env 1).v=.ptr 1 1 0->σ'.mem 1 1=some [⟨.sl s.nl (s.types.map GC),.no⟩]->(σ'.env 3).v=.mp 12 3->(σ'.env 14).v=.sl s.nl (s.types.map GC)->(σ'.env 15).v=.int .i64 s.types.length->(σ'.env 16).v=.int .i64 i->σ'.obj 12 3=some (xL (q'.map NK))->(σ'.env 5).v=.ptr 5 p 0->σ'.mem 5 p=some (OG t)->(σ'.env 38).v=.sl t.dA.isEmpty (t.dA.map LJ)->(σ'.env 39).v=.int .i64 t.dA.length->(σ'.env 40).v=.int .i64 0->HJ MC ZC pG σ' k'=some (.int .i64 (bE s.types s.types.length 0),none):=by
      intro σ' k' p hret aj f1 fm f3 f14 f15 nu fo f5 fp f38 f39 f40;refine Bv s.nl s.types t.dA hul t.dA.isEmpty _ (fun σ2=>(σ2.env 1).v=.ptr 1 1 0/\σ2.mem 1 1=some [⟨.sl s.nl (s.types.map GC),.no⟩]/\(σ2.env 3).v=.mp 12 3/\(σ2.env 14).v=.sl s.nl (s.types.map GC)/\(σ2.env 15).v=.int .i64 s.types.length/\(σ2.env 16).v=.int .i64 i/\σ2.obj 12 3=some (xL (q'.map NK))/\(σ2.env 5).v=.ptr 5 p 0/\σ2.mem 5 p=some (OG t)) (fun a b hm ho _ he h=>?_) k' (fun σ2 hu h=>?_) (fun σ2 hu h2=>?_) σ' ⟨f1,fm,f3,f14,f15,nu,fo,f5,fp⟩ f1 fm f38 f39 f40
      ·rw[hm,ho,he 1 (by decide),he 3 (by decide),he 14 (by decide),he 15 (by decide),he 16 (by decide),he 5 (by decide)];exact h
      ·obtain⟨f1,fm,f3,f14,f15,nu,fo,f5,fp⟩:=h;exact aj σ2 f1 fm f3 f14 f15 nu fo f5 fp hu
      ·rw[hret σ2 h2];exact err _ 4 (by unfold ZE;rw[if_neg (by simp[c1]),if_neg c2,if_pos hu]) (by decide) h2
     have key:t.dA.any (IF s.types.length)=false->t.kind=8->0<=t.key/\∃y:BC,(s.types.map GC)[t.key.toNat]?=some (GC y)/\tM s.types t.key=y.kind:=fun hu h8=>by
      obtain⟨h1,h2⟩:=Ez h8 hu;have h3:t.key.toNat<s.types.length:=by omega
      exact⟨h1,s.types[t.key.toNat],by rw[yk,yf h3];rfl,by unfold tM;rw[yf h3]⟩
     have next:ZE s.types i t=0->∀σ2:LC,(σ2.env 1).v=.ptr 1 1 0->σ2.mem 1 1=some [⟨.sl s.nl (s.types.map GC),.no⟩]->(σ2.env 3).v=.mp 12 3->(σ2.env 14).v=.sl s.nl (s.types.map GC)->(σ2.env 15).v=.int .i64 s.types.length->(σ2.env 16).v=.int .i64 ((i+1:Nat):Int)->σ2.obj 12 3=some (xL (q'.map NK))->HJ MC ZC jE σ2 k=some (.int .i64 (bE s.types s.types.length 0),none):=fun h0 σ2 f1 fm f3 f14 f15 nu fo=>ih ba _ ⟨f1,fm,f3,f14,f15,nu,⟨q',fo,fun x=>by rw[pd,ht,Y03,yu,hq];simp⟩,by rw[<- hv,h0];rfl⟩
     have hgn:t.name=⟨#[]⟩\/t.name≠⟨#[]⟩/\iM (q.map NK) (.str t.name)=none:=by
      rcases hn with hn|⟨h1,h2⟩
      ·exact .inl hn
      ·exact .inr ⟨h1,by rw[hg,if_neg h2]⟩
     rcases hgn with hd|⟨hd,hg⟩
     ·have hd:=eq_true hd;simp [jE,-J,-yb,-y9,y0,e1,m1,e3,e14,pj,dk,fa,g1,hf,hu,hd,o,cL,wx,LK,AV.flat,AV.cA,jm];refine JJ _ _ (σ.next + 1) (fun σ2 _=>rfl) (fun σ2 f1 fm f3 f14 f15 nu fo f5 fp ne=>?_) ?_ ?_ ?_ ?_ ?_ ?_ ?_ ?_ ?_ ?_ ?_ ?_
      rotate_left
      ·simp[e1]
      ·simp[m1]
      ·simp[e3]
      ·simp[e14]
      ·simp[pj]
      ·simp[dk]
      ·simp
      ·simp
      ·simp
      ·simp
      ·simp
      ·simp
      have c3:=ne;by_cases h8:t.kind=8
      ·obtain ⟨df,y,gy,hy⟩:=key ne h8;simp only [GC] at gy;by_cases c4:y.kind<1
       ·simp[-J,-yb,-y9,y0,f1,fm,f5,fp,h8,df,gy,c4];exact err _ 1 (by unfold ZE;rw[if_neg (by simp[c1]),if_neg c2,if_neg (by simp[c3]),if_pos ⟨h8,by rw[hy];omega⟩]) (by decide) (by simp)
       ·by_cases c5:4<y.kind
        ·simp[-J,-yb,-y9,y0,f1,fm,f5,fp,h8,df,gy,c4,c5];exact err _ 1 (by unfold ZE;rw[if_neg (by simp[c1]),if_neg c2,if_neg (by simp[c3]),if_pos ⟨h8,by rw[hy];omega⟩]) (by decide) (by simp)
        ·simp[-J,-yb,-y9,y0,f1,fm,f5,fp,nu,h8,df,gy,c4,c5,hw];refine next (by unfold ZE;rw[if_neg (by simp[c1]),if_neg c2,if_neg (by simp[c3]),if_neg fun h=>h.2 (by rw[hy];omega)]) _ ?_ ?_ ?_ ?_ ?_ ?_ ?_<;>simp[f1,fm,f3,f14,f15,fo]
      ·simp[-J,-yb,-y9,y0,f1,fm,f5,fp,nu,h8,hw];refine next (by unfold ZE;rw[if_neg (by simp[c1]),if_neg c2,if_neg (by simp[c3]),if_neg fun h=>h8 h.1]) _ ?_ ?_ ?_ ?_ ?_ ?_ ?_<;>simp[f1,fm,f3,f14,f15,fo]
     ·have hd:=eq_false hd;simp [jE,-J,-yb,-y9,y0,e1,m1,e3,e14,pj,dk,fa,g1,hf,hu,hd,hg,o,cL,wx,LK,AV.flat,AV.cA,jm];refine JJ _ _ (σ.next + 1) (fun σ2 _=>rfl) (fun σ2 f1 fm f3 f14 f15 nu fo f5 fp ne=>?_) ?_ ?_ ?_ ?_ ?_ ?_ ?_ ?_ ?_ ?_ ?_ ?_
      rotate_left
      ·simp[e1]
      ·simp[m1]
      ·simp[e3]
      ·simp[e14]
      ·simp[pj]
      ·simp[dk]
      ·simp
      ·simp
      ·simp
      ·simp
      ·simp
      ·simp
      have c3:=ne;by_cases h8:t.kind=8
      ·obtain ⟨df,y,gy,hy⟩:=key ne h8;simp only [GC] at gy;by_cases c4:y.kind<1
       ·simp[-J,-yb,-y9,y0,f1,fm,f5,fp,h8,df,gy,c4];exact err _ 1 (by unfold ZE;rw[if_neg (by simp[c1]),if_neg c2,if_neg (by simp[c3]),if_pos ⟨h8,by rw[hy];omega⟩]) (by decide) (by simp)
       ·by_cases c5:4<y.kind
        ·simp[-J,-yb,-y9,y0,f1,fm,f5,fp,h8,df,gy,c4,c5];exact err _ 1 (by unfold ZE;rw[if_neg (by simp[c1]),if_neg c2,if_neg (by simp[c3]),if_pos ⟨h8,by rw[hy];omega⟩]) (by decide) (by simp)
        ·simp[-J,-yb,-y9,y0,f1,fm,f5,fp,nu,h8,df,gy,c4,c5,hw];refine next (by unfold ZE;rw[if_neg (by simp[c1]),if_neg c2,if_neg (by simp[c3]),if_neg fun h=>h.2 (by rw[hy];omega)]) _ ?_ ?_ ?_ ?_ ?_ ?_ ?_<;>simp[f1,fm,f3,f14,f15,fo]
      ·simp[-J,-yb,-y9,y0,f1,fm,f5,fp,nu,h8,hw];refine next (by unfold ZE;rw[if_neg (by simp[c1]),if_neg c2,if_neg (by simp[c3]),if_neg fun h=>h8 h.1]) _ ?_ ?_ ?_ ?_ ?_ ?_ ?_<;>simp[f1,fm,f3,f14,f15,fo]
    by_cases oj:t.name≠⟨#[]⟩/\t.name∈q
    ·exact dup oj.1 oj.2
    ·refine go ?_;by_cases he:t.name=⟨#[]⟩
     ·exact .inl he
     ·exact .inr ⟨he,fun h=>oj ⟨he,h⟩⟩
  ·have fa:¬ (i:Int)<s.types.length:=by omega
   simp[jE,-J,-yb,-y9,y0,pj,dk,fa];refine hk _ _ (.inl ⟨rfl,?_⟩);rw[<- hv,show s.types.length-i=0 from by omega,bE]
 ·refine⟨?_,?_,?_,?_,?_,?_,⟨[],?_,?_⟩,?_⟩<;>simp[xL]
 ·rcases h with ⟨rfl,h1⟩ | ⟨rfl,h1⟩
  ·simp[-J,-yb,-y9,y0,h1]
  ·simp[-J,-yb,-y9,y0,h1]
def DF {α:Type}(p:α->Bool):List α->Int
 | []=>-1
 |x::r=>if p x=true then 0 else if DF p r=-1 then -1 else DF p r+1
theorem DI {α:Type}(p:α->Bool):∀l:List α,-1<=DF p l
 | []=>by simp[DF]
 |x::r=>by
  have:=DI p r;simp only[DF];split
  ·omega
  ·split<;>omega
theorem uT {α:Type}(p:α->Bool)(x:α)(r:List α)(h:p x=false):DF p (x::r)=if DF p r=-1 then -1 else DF p r+1:=by simp[DF,h]
theorem wJ {α:Type}(p:α->Bool):∀l:List α,DF p l≠-1->∃x,l[(DF p l).toNat]?=some x/\p x=true
 | [],h=>absurd rfl h
 |x::r,h=>by
  simp only[DF]at h ⊢;by_cases hx:p x=true
  ·rw[if_pos hx];exact⟨x,rfl,hx⟩
  ·rw [if_neg hx] at h ⊢;by_cases h1:DF p r=-1
   ·rw[if_pos h1]at h;exact absurd rfl h
   ·rw[if_neg h1];obtain⟨y,h2,h3⟩:=wJ p r h1;have:=DI p r;refine⟨y,?_,h3⟩;rw[show(DF p r+1).toNat=(DF p r).toNat+1 from by omega,Y0o];exact h2
theorem CY {α:Type}(p:α->Bool)(l:List α):DF p l<l.length:=by
 by_cases h:DF p l=-1
 ·omega
 ·obtain⟨x,h1,_⟩:=wJ p l h;have:=(yn.1 h1).1;have:=DI p l;omega
theorem gO {α:Type}(p:α->Bool):∀l:List α,(decide (0<=DF p l))=l.any p
 | []=>by simp[DF]
 |x::r=>by
  have h1:=gO p r;have h2:=DI p r;rw[List.any_cons,<- h1];simp only[DF];by_cases hx:p x=true
  ·simp[hx]
  ·by_cases h:DF p r=-1
   ·simp[hx,h]
   ·simp[hx,h];omega
theorem Z2 (F:Nat)(caps:List AV)(l:List ED)(p:ED->Bool)(hl:l.length<=9223372036854775807)(cf:∀(s:LC) (cl:Cl),gG s cl caps=some caps)(hF:∀x∈l,BD F (.agg (rD x)::caps) (.bool (p x)))(b:Bool):BD 82 [.sl b (l.map rD),.fn F caps] (.int .i64 (DF p l)):=by
 refine tD (c:=TF) rfl rfl ?_;simp[TF,-J,-yb,-y9,y0];refine zE l.length (fun i s=>(s.env 0).v=.sl b (l.map rD)/\(s.env 1).v=.fn F caps/\(s.env 7).v=.int .i64 l.length/\(s.env 8).v=.int .i64 i/\DF p l=(if DF p (l.drop i)=-1 then -1 else DF p (l.drop i)+i))
  (fun e s=>(e=.exit 0/\DF p l=-1)\/(e=.ret/\(s.env 4).v=.int .i64 (DF p l))) (fun i hi s k h ih hk=>?_) _ _ ?_ (fun e s h=>?_)
 ·obtain ⟨e0,e1,e7,e8,hs⟩:=h;refine wD ?_;by_cases ba:i<l.length
  ·have fa:(i:Int)<l.length:=by omega
   have g1:(l.map rD)[i]?=some (rD l[i]):=by simp[ba]
   have hw:=rE (i:=i);have hx:=hF l[i] (yC _);rw[yv ba]at hs;generalize l[i]=x at *
   simp only[BD,rD]at g1 hx;cases hp:p x with
   |true =>
    rw[hp]at hx;simp[eF,-J,-yb,-y9,y0,e0,e1,e7,e8,fa,g1,cf,hx];refine hk _ _ (.inr ⟨rfl,?_⟩);simp[hs,DF,hp]
   |false =>
    rw[hp]at hx;simp[eF,-J,-yb,-y9,y0,e0,e1,e7,e8,fa,g1,cf,hx,hw];refine ih ba _ ⟨?_,?_,?_,?_,?_⟩
    ·simp[e0]
    ·simp[e1]
    ·simp[e7]
    ·simp
    ·rw [hs,uT p x _ hp];have:=DI p (l.drop (i + 1));by_cases h1:DF p (l.drop (i + 1))=-1
     ·simp[h1]
     ·have h2:¬ DF p (l.drop (i + 1)) + 1=-1:=by omega
      rw[if_neg h1,if_neg h2,if_neg h1];omega
  ·have fa:¬ (i:Int)<l.length:=by omega
   simp[eF,-J,-yb,-y9,y0,e7,e8,fa];rw[yw (by omega)]at hs;exact hk _ _ (.inl ⟨rfl,hs⟩)
 ·have:=DI p l;by_cases h1:DF p l=-1<;>simp[h1]
 ·rcases h with⟨rfl,h1⟩|⟨rfl,h1⟩<;>simp[-J,-yb,-y9,y0,h1]
theorem X2 (F:Nat)(caps:List AV)(l:List PG)(p:PG->Bool)(hl:l.length<=9223372036854775807)(cf:∀(s:LC) (cl:Cl),gG s cl caps=some caps)(hF:∀x∈l,BD F (.agg (fD x)::caps) (.bool (p x)))(b:Bool):BD 85 [.sl b (l.map fD),.fn F caps] (.int .i64 (DF p l)):=by
 refine tD (c:=UF) rfl rfl ?_;simp[UF,-J,-yb,-y9,y0];refine zE l.length (fun i s=>(s.env 0).v=.sl b (l.map fD)/\(s.env 1).v=.fn F caps/\(s.env 7).v=.int .i64 l.length/\(s.env 8).v=.int .i64 i/\DF p l=(if DF p (l.drop i)=-1 then -1 else DF p (l.drop i)+i))
  (fun e s=>(e=.exit 0/\DF p l=-1)\/(e=.ret/\(s.env 4).v=.int .i64 (DF p l))) (fun i hi s k h ih hk=>?_) _ _ ?_ (fun e s h=>?_)
 ·obtain ⟨e0,e1,e7,e8,hs⟩:=h;refine wD ?_;by_cases ba:i<l.length
  ·have fa:(i:Int)<l.length:=by omega
   have g1:(l.map fD)[i]?=some (fD l[i]):=by simp[ba]
   have hw:=rE (i:=i);have hx:=hF l[i] (yC _);rw[yv ba]at hs;generalize l[i]=x at *
   simp only[BD,fD]at g1 hx;cases hp:p x with
   |true =>
    rw[hp]at hx;simp[rF,-J,-yb,-y9,y0,e0,e1,e7,e8,fa,g1,cf,hx];refine hk _ _ (.inr ⟨rfl,?_⟩);simp[hs,DF,hp]
   |false =>
    rw[hp]at hx;simp[rF,-J,-yb,-y9,y0,e0,e1,e7,e8,fa,g1,cf,hx,hw];refine ih ba _ ⟨?_,?_,?_,?_,?_⟩
    ·simp[e0]
    ·simp[e1]
    ·simp[e7]
    ·simp
    ·rw [hs,uT p x _ hp];have:=DI p (l.drop (i + 1));by_cases h1:DF p (l.drop (i + 1))=-1
     ·simp[h1]
     ·have h2:¬ DF p (l.drop (i + 1)) + 1=-1:=by omega
      rw[if_neg h1,if_neg h2,if_neg h1];omega
  ·have fa:¬ (i:Int)<l.length:=by omega
   simp[rF,-J,-yb,-y9,y0,e7,e8,fa];rw[yw (by omega)]at hs;exact hk _ _ (.inl ⟨rfl,hs⟩)
 ·have:=DI p l;by_cases h1:DF p l=-1<;>simp[h1]
 ·rcases h with⟨rfl,h1⟩|⟨rfl,h1⟩<;>simp[-J,-yb,-y9,y0,h1]
def iE (l:List ED)(id:Int):Int:=DF (fun x=>decide (x.id=id)) l
def Xz (l:List ED)(id:Int):AV:=.fA [.int .i64 (max (iE l id) 0),.bool (decide (0<=iE l id))]
theorem S6 (t:BC)(id:Int)(hl:t.qA.length<=9223372036854775807):BD 52 [.agg (GC t),.int .i64 id] (Xz t.qA id):=by
 refine tD (c:=pL) rfl rfl ?_;obtain⟨p,hp⟩:∃p:ED->Bool,p=fun x=>decide (x.id=id):=⟨_,rfl⟩
 unfold Xz iE;rw[<- hp];simp[pL,-J,-yb,-y9,y0,GC];refine zE t.qA.length (fun i s=>(s.env 1).v=.int .i64 id/\(s.env 2).v=.ptr 2 1 0/\s.mem 2 1=some (OG t)/\(s.env 6).v=.int .i64 i/\DF p t.qA=(if DF p (t.qA.drop i)=-1 then -1 else DF p (t.qA.drop i)+i))
  (fun e s=>(e=.exit 0/\DF p t.qA=-1)\/(e=.ret/\0<=DF p t.qA/\(s.env 4).v=.int .i64 (DF p t.qA)/\(s.env 5).v=.bool true)) (fun i hi s k h ih hk=>?_) _ _ ?_ (fun e s h=>?_)
 ·obtain ⟨e1,e2,m2,e6,hs⟩:=h;refine wD ?_;by_cases ba:i<t.qA.length
  ·have fa:(i:Int)<t.qA.length:=by omega
   have g1:(t.qA.map rD)[i]?=some (rD t.qA[i]):=by simp[ba]
   have hw:=rE (i:=i);rw[yv ba]at hs;generalize t.qA[i]=x at *
   simp only[rD]at g1;by_cases hx:x.id=id
   ·simp [pJ,-J,-yb,-y9,y0,e1,e2,m2,e6,fa,g1,hx];have pz:p x=true:=by rw [hp]; exact decide_eq_true hx
    refine hk _ _ (.inr ⟨rfl,?_,?_,?_⟩)
    ·rw[hs];simp[DF,pz]
    ·simp[hs,DF,pz]
    ·simp
   ·have pz:p x=false:=by rw [hp]; exact decide_eq_false hx
    simp[pJ,-J,-yb,-y9,y0,e1,e2,m2,e6,fa,g1,hx,hw];refine ih ba _ ⟨?_,?_,?_,?_,?_⟩
    ·simp[e1]
    ·simp[e2]
    ·simp[m2]
    ·simp
    ·rw [hs,uT p x _ pz];have:=DI p (t.qA.drop (i + 1));by_cases h1:DF p (t.qA.drop (i + 1))=-1
     ·simp[h1]
     ·have h2:¬ DF p (t.qA.drop (i + 1)) + 1=-1:=by omega
      rw[if_neg h1,if_neg h2,if_neg h1];omega
  ·have fa:¬ (i:Int)<t.qA.length:=by omega
   simp[pJ,-J,-yb,-y9,y0,e2,m2,e6,fa];rw[yw (by omega)]at hs;exact hk _ _ (.inl ⟨rfl,hs⟩)
 ·have:=DI p t.qA;by_cases h1:DF p t.qA=-1<;>simp[h1]
 ·rcases h with ⟨rfl,h1⟩ | ⟨rfl,h0,h1,h2⟩
  ·simp[-J,-yb,-y9,y0,h1];rfl
  ·simp[-J,-yb,-y9,y0,h1,h2,h0,Int.max_eq_left h0]
def oE (l:List PG)(id:Int):Int:=DF (fun x=>decide (x.id=id)) l
def Iv (l:List PG)(id:Int):AV:=.fA [.int .i64 (max (oE l id) 0),.bool (decide (0<=oE l id))]
theorem G6 (t:BC)(id:Int)(hl:t.wA.length<=9223372036854775807):BD 53 [.agg (GC t),.int .i64 id] (Iv t.wA id):=by
 refine tD (c:=aL) rfl rfl ?_;obtain⟨p,hp⟩:∃p:PG->Bool,p=fun x=>decide (x.id=id):=⟨_,rfl⟩
 unfold Iv oE;rw[<- hp];simp[aL,-J,-yb,-y9,y0,GC];refine zE t.wA.length (fun i s=>(s.env 1).v=.int .i64 id/\(s.env 2).v=.ptr 2 1 0/\s.mem 2 1=some (OG t)/\(s.env 6).v=.int .i64 i/\DF p t.wA=(if DF p (t.wA.drop i)=-1 then -1 else DF p (t.wA.drop i)+i))
  (fun e s=>(e=.exit 0/\DF p t.wA=-1)\/(e=.ret/\0<=DF p t.wA/\(s.env 4).v=.int .i64 (DF p t.wA)/\(s.env 5).v=.bool true)) (fun i hi s k h ih hk=>?_) _ _ ?_ (fun e s h=>?_)
 ·obtain ⟨e1,e2,m2,e6,hs⟩:=h;refine wD ?_;by_cases ba:i<t.wA.length
  ·have fa:(i:Int)<t.wA.length:=by omega
   have g1:(t.wA.map fD)[i]?=some (fD t.wA[i]):=by simp[ba]
   have hw:=rE (i:=i);rw[yv ba]at hs;generalize t.wA[i]=x at *
   simp only[fD]at g1;by_cases hx:x.id=id
   ·simp [aJ,-J,-yb,-y9,y0,e1,e2,m2,e6,fa,g1,hx];have pz:p x=true:=by rw [hp]; exact decide_eq_true hx
    refine hk _ _ (.inr ⟨rfl,?_,?_,?_⟩)
    ·rw[hs];simp[DF,pz]
    ·simp[hs,DF,pz]
    ·simp
   ·have pz:p x=false:=by rw [hp]; exact decide_eq_false hx
    simp[aJ,-J,-yb,-y9,y0,e1,e2,m2,e6,fa,g1,hx,hw];refine ih ba _ ⟨?_,?_,?_,?_,?_⟩
    ·simp[e1]
    ·simp[e2]
    ·simp[m2]
    ·simp
    ·rw [hs,uT p x _ pz];have:=DI p (t.wA.drop (i + 1));by_cases h1:DF p (t.wA.drop (i + 1))=-1
     ·simp[h1]
     ·have h2:¬ DF p (t.wA.drop (i + 1)) + 1=-1:=by omega
      rw[if_neg h1,if_neg h2,if_neg h1];omega
  ·have fa:¬ (i:Int)<t.wA.length:=by omega
   simp[aJ,-J,-yb,-y9,y0,e2,m2,e6,fa];rw[yw (by omega)]at hs;exact hk _ _ (.inl ⟨rfl,hs⟩)
 ·have:=DI p t.wA;by_cases h1:DF p t.wA=-1<;>simp[h1]
 ·rcases h with ⟨rfl,h1⟩ | ⟨rfl,h0,h1,h2⟩
  ·simp[-J,-yb,-y9,y0,h1];rfl
  ·simp[-J,-yb,-y9,y0,h1,h2,h0,Int.max_eq_left h0]
theorem Dd (sn:Bool)(S:List BC)(i:Nat)(hiS:i<S.length)(hS:S.length<=9223372036854775807)(t:BC)(p:Nat)(r:RV)(P:LC->Prop)(hP:∀s s':LC,s'.mem=s.mem->s'.obj=s.obj->(∀t,t ∉ [2,5,27,28,29,30,31,32,33,34,35,36,37,38,39,40,41,42,43,44,45]->s'.env t=s.env t)->P s->P s')(k:Ex->LC->Option RV)
  (hk:∀s',¬(t.named=true/\t.name∈(S.take i).map BC.name)->P s'->k (.exit 2) s'=some r) (hr:∀s':LC,t.named=true/\t.name∈(S.take i).map BC.name->(s'.env 2).v=.int .i64 1->k .ret s'=some r)
  (s:LC) (hs:P s) (h1:(s.env 1).v=.ptr 1 1 0) (m1:s.mem 1 1=some [⟨.sl sn (S.map GC),.no⟩]) (h3:(s.env 3).v=.int .i64 i) (h4:(s.env 4).v=.ptr 4 p 0) (m4:s.mem 4 p=some (OG t)) (h5:(s.env 5).v=.int .i64 0):HJ MC ZC EG s k=some r:=by
 have rb:=rG t.kind;change BD _ _ (.bool t.named)at rb;simp only[BD]at rb;refine zE i (fun j s=>P s/\(s.env 1).v=.ptr 1 1 0/\s.mem 1 1=some [⟨.sl sn (S.map GC),.no⟩]/\(s.env 3).v=.int .i64 i/\(s.env 4).v=.ptr 4 p 0/\s.mem 4 p=some (OG t)/\(s.env 5).v=.int .i64 j/\¬(t.named=true/\t.name∈(S.take j).map BC.name))
  (fun e s=>(e=.exit 2/\¬(t.named=true/\t.name∈(S.take i).map BC.name)/\P s)\/(e=.ret/\(t.named=true/\t.name∈(S.take i).map BC.name)/\(s.env 2).v=.int .i64 1)) (fun j hj s k h ih hk=>?_) _ _ ?_ (fun e s h=>?_)
 ·obtain ⟨hp,e1,m1,e3,e4,m4,e5,hs⟩:=h;refine wD ?_;by_cases ba:j<i
  ·have fa:(j:Int)<i:=by omega
   have hjS:j<S.length:=by omega
   have g1:(S.map GC)[j]?=some (GC S[j]):=by simp[hjS]
   have hw:=rE (i:=j);have ht:S.take (j+1)=S.take j++[S[j]]:=(Y0m hjS).symm;have pd:S[j]∈S.take i:=List.mem_take_iff_getElem.2 ⟨j,by omega,rfl⟩;generalize S[j]=u at *
   simp only[GC]at g1;have XA:∀s',s'.mem=s.mem->s'.obj=s.obj->(∀t,t ∉ [2,5,27,28,29,30,31,32,33,34,35,36,37,38,39,40,41,42,43,44,45]->s'.env t=s.env t)->(s'.env 5).v=.int .i64 ((j+1:Nat):Int)->¬(t.named=true/\u.name=t.name)->HJ MC ZC EG s' k=some r:=fun s' hm ho he h5 hn=>by
    refine ih ba _ ⟨hP s s' hm ho he hp,?_,?_,?_,?_,?_,h5,?_⟩
    ·rw[he 1 (by decide)];exact e1
    ·rw[hm];exact m1
    ·rw[he 3 (by decide)];exact e3
    ·rw[he 4 (by decide)];exact e4
    ·rw[hm];exact m4
    ·rw [ht,Y03,yu];rintro ⟨h1,h2 | h2⟩
     ·exact hs ⟨h1,h2⟩
     ·simp at h2;exact hn ⟨h1,h2.symm⟩
   cases hb:t.named with
   |false =>
    rw[hb]at rb;simp[EG,-J,-yb,-y9,y0,e1,m1,e3,e4,m4,e5,fa,g1,rb,hw];refine XA _ rfl rfl ?_ ?_ (by simp[hb])
    ·intro t ht;simp only[yt,Y09,or_false,not_or]at ht;simp[ON,ht]
    ·simp
   |true =>
    rw[hb]at rb;by_cases ua:u.name=t.name
    ·simp[EG,-J,-yb,-y9,y0,e1,m1,e3,e4,m4,e5,fa,g1,rb,ua];exact hk _ _ (.inr ⟨rfl,⟨hb,ua▸List.mem_map_of_mem pd⟩,by simp⟩)
    ·simp [EG,-J,-yb,-y9,y0,e1,m1,e3,e4,m4,e5,fa,g1,rb,ua,hw];refine XA _ rfl rfl ?_ ?_ (by simp [ua])
     ·intro t ht;simp only[yt,Y09,or_false,not_or]at ht;simp[ON,ht]
     ·simp
  ·have fa:¬ (j:Int)<i:=by omega
   have au:j=i:=by omega
   simp[EG,-J,-yb,-y9,y0,e3,e5,fa];refine hk _ _ (.inl ⟨rfl,au▸hs,hP s _ rfl rfl ?_ hp⟩);intro t ht;simp only[yt,Y09,or_false,not_or]at ht;simp[ON,ht]
 ·simp[hs,h1,m1,h3,h4,m4,h5]
 ·rcases h with ⟨rfl,h1,h2⟩ | ⟨rfl,h1,h2⟩
  ·exact hk s h1 h2
  ·exact hr s h1 h2
theorem Jd (sn:Bool)(S:List BC)(U:List Int)(hU:U.length<=9223372036854775807)(bu:Bool)(r:RV)(P:LC->Prop)(hP:∀s s':LC,s'.mem=s.mem->s'.obj=s.obj->(∀t,t ∉ [2,7,48,49,50,51,52,53,54,55,56,57,58,59,60,61,62,63,64,65,66,67,68]->s'.env t=s.env t)->P s->P s')(k:Ex->LC->Option RV)
  (hk:∀s',U.any (IF S.length)=false->P s'->k (.exit 4) s'=some r) (hr:∀s':LC,U.any (IF S.length)=true->(s'.env 2).v=.int .i64 4->k .ret s'=some r)
  (s:LC) (hs:P s) (h1:(s.env 1).v=.ptr 1 1 0) (m1:s.mem 1 1=some [⟨.sl sn (S.map GC),.no⟩]) (h6:(s.env 6).v=.sl bu (U.map LJ)) (h7:(s.env 7).v=.int .i64 0):HJ MC ZC gH s k=some r:=by
 refine zE U.length (fun i s=>P s/\(s.env 1).v=.ptr 1 1 0/\s.mem 1 1=some [⟨.sl sn (S.map GC),.no⟩]/\(s.env 6).v=.sl bu (U.map LJ)/\(s.env 7).v=.int .i64 i/\(U.drop i).any (IF S.length)=U.any (IF S.length))
  (fun e s=>(e=.exit 4/\U.any (IF S.length)=false/\P s)\/(e=.ret/\U.any (IF S.length)=true/\(s.env 2).v=.int .i64 4)) (fun i hi s k h ih hk=>?_) _ _ ?_ (fun e s h=>?_)
 ·obtain ⟨hp,e1,m1,e6,e7,hs⟩:=h;refine wD ?_;by_cases ba:i<U.length
  ·have fa:(i:Int)<U.length:=by omega
   have g1:(U.map LJ)[i]?=some (LJ U[i]):=by simp[ba]
   have hw:=rE (i:=i);rw[yv ba,List.any_cons]at hs;generalize U[i]=u at *
   simp only[LJ]at g1;by_cases c1:u<0
   ·simp[gH,-J,-yb,-y9,y0,e1,m1,e6,e7,fa,g1,c1];exact hk _ _ (.inr ⟨rfl,by rw[<- hs];simp[IF,c1],by simp⟩)
   by_cases c2:(S.length:Int)<=u
   ·simp[gH,-J,-yb,-y9,y0,e1,m1,e6,e7,fa,g1,c1,c2];exact hk _ _ (.inr ⟨rfl,by rw[<- hs];simp[IF,c2],by simp⟩)
   simp[gH,-J,-yb,-y9,y0,e1,m1,e6,e7,fa,g1,c1,c2,hw];refine ih ba _ ⟨hP s _ rfl rfl ?_ hp,?_,?_,?_,?_,?_⟩
   ·intro t ht;simp only[yt,Y09,or_false,not_or]at ht;simp[ON,ht]
   ·simp[e1]
   ·simp[m1]
   ·simp[e6]
   ·simp
   ·rw[<- hs];simp[IF,c1,c2]
  ·have fa:¬ (i:Int)<U.length:=by omega
   simp[gH,-J,-yb,-y9,y0,e6,e7,fa];rw[yw (by omega)]at hs;refine hk _ _ (.inl ⟨rfl,hs.symm,hP s _ rfl rfl ?_ hp⟩);intro t ht;simp only[yt,Y09,or_false,not_or]at ht;simp[ON,ht]
 ·simp[hs,h1,m1,h6,h7]
 ·rcases h with ⟨rfl,h1,h2⟩ | ⟨rfl,h1,h2⟩
  ·exact hk s h1 h2
  ·exact hr s h1 h2
theorem w5 (s:CT)(hs:s.fine):BD 23 [.agg (xK s)] (.int .i64 (valid s.types)):=by
 obtain⟨da,wj⟩:=hs;refine tD (c:=pK) rfl rfl ?_;unfold valid;by_cases ry:32<s.types.length
 ·have pq:(32:Int)<s.types.length:=by omega
  simp[pK,-J,-yb,-y9,y0,xK,ry,pq]
 have pq:¬(32:Int)<s.types.length:=by omega
 simp[pK,-J,-yb,-y9,y0,xK,ry,pq];refine zE s.types.length (fun i σ=>(σ.env 1).v=.ptr 1 1 0/\σ.mem 1 1=some [⟨.sl s.nl (s.types.map GC),.no⟩]/\(σ.env 3).v=.int .i64 i/\bE s.types (s.types.length-i) i=bE s.types s.types.length 0)
  (fun e σ=>(e=.exit 0/\bE s.types s.types.length 0=0)\/(e=.ret/\(σ.env 2).v=.int .i64 (bE s.types s.types.length 0))) (fun i hi σ k h ih hk=>?_) _ _ ?_ (fun e σ h=>?_)
 ·obtain ⟨e1,m1,e3,hv⟩:=h;refine wD ?_;by_cases ba:i<s.types.length
  ·have fa:(i:Int)<s.types.length:=by omega
   have g1:(s.types.map GC)[i]?=some (GC s.types[i]):=by simp[ba]
   have hw:=rE (i:=i);have hf:=own_ev s.types[i] (wj _ (yC _));have hu:=fun h9:(s.types[i]'ba).kind<=9=>Gc (s.types[i]'ba) (wj _ (yC ba)).2.2 h9 _ rfl
   have ac:=(wj _ (yC ba)).2.2;rw[mW ba]at hv;generalize s.types[i]=t at *
   have hul:t.dA.length<=9223372036854775807:=by
    unfold BC.dA;by_cases h8:t.kind=8<;>by_cases h7:7<=t.kind<;>simp[h8,h7]<;>omega
   simp only[BD,GC]at hf hu;simp only[GC]at g1;have err:∀σ' n,ZE s.types i t=n->n≠0->(σ'.env 2).v=.int .i64 n->k .ret σ'=some (.int .i64 (bE s.types s.types.length 0),none):=fun σ' n h1 h2 h3=>hk _ _ (.inr ⟨rfl,by rw[h3,<- hv,h1,if_neg h2]⟩)
   cases c1:bD t with
   |false =>
    rw[c1]at hf;simp[SJ,-J,-yb,-y9,y0,e1,m1,e3,fa,g1,hf];exact err _ 1 (by simp[ZE,c1]) (by decide) (by simp)
   |true =>
    rw[c1]at hf;have hu:=hu (rT c1).2;simp[SJ,-J,-yb,-y9,y0,e1,m1,e3,fa,g1,hf];refine Dd s.nl s.types i ba da t (σ.next+1) _ (fun σ2=>(σ2.env 1).v=.ptr 1 1 0/\σ2.mem 1 1=some [⟨.sl s.nl (s.types.map GC),.no⟩]/\(σ2.env 3).v=.int .i64 i/\(σ2.env 4).v=.ptr 4 (σ.next+1) 0/\σ2.mem 4 (σ.next+1)=some (OG t)) (fun a b hm ho he h=>?_) _ (fun σ2 c2 h=>?_) (fun σ2 c2 h2=>?_) _ ⟨?_,?_,?_,?_,?_⟩ ?_ ?_ ?_ ?_ ?_ ?_
    ·rw[hm,he 1 (by decide),he 3 (by decide),he 4 (by decide)];exact h
    ·obtain ⟨f1,fm,f3,f4,fp⟩:=h;simp [-J,-yb,-y9,y0,f1,fm,f3,f4,fp,hu];refine Jd s.nl s.types t.dA hul t.dA.isEmpty _ (fun σ2=>(σ2.env 1).v=.ptr 1 1 0/\σ2.mem 1 1=some [⟨.sl s.nl (s.types.map GC),.no⟩]/\(σ2.env 3).v=.int .i64 i/\(σ2.env 4).v=.ptr 4 (σ.next + 1) 0/\σ2.mem 4 (σ.next + 1)=some (OG t)) (fun a b hm ho he h=>?_) _ (fun σ2 c3 h=>?_) (fun σ2 c3 h2=>?_) _ ⟨?_,?_,?_,?_,?_⟩ ?_ ?_ ?_ ?_
     ·rw[hm,he 1 (by decide),he 3 (by decide),he 4 (by decide)];exact h
     ·obtain ⟨f1,fm,f3,f4,fp⟩:=h;by_cases h8:t.kind=8
      ·obtain ⟨df,tc⟩:=Ez h8 c3;have h3:t.key.toNat<s.types.length:=by omega
       have gy:(s.types.map GC)[t.key.toNat]?=some (GC s.types[t.key.toNat]):=by rw[yk,yf h3];rfl
       have hy:tM s.types t.key=s.types[t.key.toNat].kind:=by unfold tM;rw[yf h3]
       generalize s.types[t.key.toNat]=y at *
       have ad:=ZZ y.kind;simp only[GC]at gy;simp only[BD]at ad;by_cases c4:1<=y.kind/\y.kind<=4
       ·rw [decide_eq_true c4] at ad;simp [-J,-yb,-y9,y0,f1,fm,f3,f4,fp,h8,df,gy,ad,hw];refine ih ba _ ⟨?_,?_,?_,?_⟩
        ·simp[f1]
        ·simp[fm]
        ·simp
        ·rw[<- hv,if_pos];unfold ZE;rw[if_neg (by simp[c1]),if_neg c2,if_neg (by simp[c3]),if_neg fun h=>h.2 (by rw[hy];exact c4)]
       ·rw[decide_eq_false c4]at ad;simp[-J,-yb,-y9,y0,f1,fm,f3,f4,fp,h8,df,gy,ad];exact err _ 1 (by unfold ZE;rw[if_neg (by simp[c1]),if_neg c2,if_neg (by simp[c3]),if_pos ⟨h8,by rw[hy];exact c4⟩]) (by decide) (by simp)
      ·simp [-J,-yb,-y9,y0,f1,fm,f3,f4,fp,h8,hw];refine ih ba _ ⟨?_,?_,?_,?_⟩
       ·simp[f1]
       ·simp[fm]
       ·simp
       ·rw[<- hv,if_pos];unfold ZE;rw[if_neg (by simp[c1]),if_neg c2,if_neg (by simp[c3]),if_neg fun h=>h8 h.1]
     ·simp[-J,-yb,-y9,y0];exact err _ 4 (by unfold ZE;rw[if_neg (by simp[c1]),if_neg c2,if_pos c3]) (by decide) h2
     all_goals simp[f1,fm,f3,f4,fp]
    ·simp[-J,-yb,-y9,y0];exact err _ 1 (by unfold ZE;rw[if_neg (by simp[c1]),if_pos c2]) (by decide) h2
    all_goals simp[e1,m1,e3]
  ·have fa:¬ (i:Int)<s.types.length:=by omega
   simp[SJ,-J,-yb,-y9,y0,e1,m1,e3,fa];refine hk _ _ (.inl ⟨rfl,?_⟩);rw[<- hv,show s.types.length-i=0 from by omega,bE]
 ·refine⟨?_,?_,?_,?_⟩<;>simp
 ·rcases h with ⟨rfl,h1⟩ | ⟨rfl,h1⟩
  ·simp[-J,-yb,-y9,y0,h1]
  ·simp[-J,-yb,-y9,y0,h1]
end Go.Proofs.YtpmklcpajcfpjaaGreatDoor
