/- A part of the proof. -/
import Derived.Test.YthnefkpplcmjdaaGreatWe
import Derived.Test.YthnefkpplcmjdaaGreatWf
set_option linter.all false
set_option maxRecDepth 100000
set_option maxHeartbeats 8000000
open Option renaming bind_some → J
open List renaming range_succ → y0, map_map → y3, getElem?_eq_getElem → y7, getElem_mem → y8, getElem?_map → yb, drop_eq_getElem_cons → yc, drop_eq_nil_of_le → yf, mem_cons → yh, take_append_getElem → yx, mem_append → yD
open Int renaming toNat_lt → y4
open Bool renaming and_eq_true → y9
namespace Go.Proofs.YthnefkpplcmjdaaGreat
open Go
def mD (n:Nat)(u:Int):Bool:=decide (u<0)||decide ((n:Int)<=u)
def OR (l:List BC)(k:Int):Int:=match l[k.toNat]? with
 |some t=>t.kind
 |none=>0
def mF (l:List BC)(i:Nat)(t:BC):Int :=
 if IE t=false then 1
 else if t.named=true/\t.name∈(l.take i).map BC.name then 1
 else if t.zA.any (mD l.length)=true then 4
 else if t.kind=8/\¬(1<=OR l t.key/\OR l t.key<=4)then 1
 else 0
def bF (l:List BC):Nat->Nat->Int
 |0,_=>0
 |n+1,i=>match l[i]? with
  |some t=>if mF l i t=0 then bF l n (i+1)else mF l i t
  |none=>0
def mH (l:List BC):Int:=if 32<l.length then 3 else bF l l.length 0
theorem zV {l:List BC}{i:Nat}(h:i<l.length):bF l (l.length-i) i=if mF l i l[i]=0 then bF l (l.length-(i+1)) (i+1)else mF l i l[i]:=by
 rw[show l.length-i=(l.length-(i+1))+1 from by omega,bF,y7 h]
theorem dH {t:BC}(h:IE t=true):1<=t.kind/\t.kind<=9:=by
 unfold IE at h;rw[y9]at h;exact of_decide_eq_true h.1
theorem Ii {s:ByteArray}(h:aJ s=true):s≠⟨#[]⟩:=fun e=>by
 subst e;unfold aJ at h;simp only[y9]at h;have:=of_decide_eq_true h.1.1.1;exact this rfl
theorem L9 {t:BC}(h:IE t=true):t.named=true↔t.name≠⟨#[]⟩:=by
 have hk:=dH h;unfold IE wN BC.left at h;rcases kinds t.kind with e|e|e|e|e|e|e|e|e|e
 all_goals first|exact absurd hk e|skip
 all_goals simp[e,BC.same,fG,BC.named]at h ⊢
 all_goals first|exact Ii h.1.1|(simp[h];done)|skip
theorem P5 {l:List BC}{t:BC}(h8:t.kind=8)(h:t.zA.any (mD l.length)=false):0<=t.key/\t.key<l.length:=by
 have hm:t.key∈t.zA:=by simp[BC.zA,h8]
 have:=List.any_eq_false.1 h _ hm;simp[mD]at this;omega
theorem O4 (s:ByteArray):∀l:List ByteArray,s∈l->EK (l.map FK) (.str s) (.bool true)=l.map FK
 | [],h=>by cases h
 |x::r,hn=>by
  by_cases h:x=s
  ·simp[FK,EK,uT,h]
  ·have:=O4 s r (by
    rcases yh.1 hn with e|e
    ·exact absurd e.symm h
    ·exact e)
   simp[FK,EK,uT,h,this]
theorem Pp (s:ByteArray)(q:List ByteArray):∃q':List ByteArray,EK (q.map FK) (.str s) (.bool true)=q'.map FK/\∀x,x∈q'↔x∈q\/x=s:=by
 by_cases h:s∈q
 ·exact⟨q,O4 s q h,fun x=>⟨.inl,fun e=>e.elim id (fun e=>e▸h)⟩⟩
 ·exact⟨q++[s],K0 s q h,fun x=>by simp⟩
def dR.fine (s:dR):Prop:=s.types.length<=9223372036854775807/\∀t∈s.types,t.fine
theorem Rz (sn:Bool)(S:List BC)(U:List Int)(hU:U.length<=9223372036854775807)(bu:Bool)(r:RV)(P:OC->Prop)(hP:∀s s':OC,s'.mem=s.mem->s'.obj=s.obj->s'.next=s'.next->(∀t,t ∉ [2,7,41,42,43,44,45,46,47,48,49,50,51,52,53,40]->s'.env t=s.env t)->P s->P s')(k:Ex->OC->Option RV)
  (hk:∀s',U.any (mD S.length)=false->P s'->k (.exit 2) s'=some r) (hr:∀s':OC,U.any (mD S.length)=true->(s'.env 2).v=.int .i64 4->k .ret s'=some r)
  (s:OC) (hs:P s) (h1:(s.env 1).v=.ptr 1 1 0) (m1:s.mem 1 1=some [⟨.sl sn (S.map QC),.no⟩]) (h38:(s.env 38).v=.sl bu (U.map PJ)) (h39:(s.env 39).v=.int .i64 U.length) (h40:(s.env 40).v=.int .i64 0):OL dD PC UF s k=some r:=by
 refine ZC U.length (fun i s=>P s/\(s.env 1).v=.ptr 1 1 0/\s.mem 1 1=some [⟨.sl sn (S.map QC),.no⟩]/\(s.env 38).v=.sl bu (U.map PJ)/\(s.env 39).v=.int .i64 U.length/\(s.env 40).v=.int .i64 i/\(U.drop i).any (mD S.length)=U.any (mD S.length))
  (fun e s=>(e=.exit 2/\U.any (mD S.length)=false/\P s)\/(e=.ret/\U.any (mD S.length)=true/\(s.env 2).v=.int .i64 4)) (fun i hi s k h ih hk=>?_) _ _ ?_ (fun e s h=>?_)
 ·obtain ⟨hp,e1,m1,e38,uz,e40,hs⟩:=h;refine EC ?_;by_cases fa:i<U.length
  ·have ga:(i:Int)<U.length:=by omega
   have g1:(U.map PJ)[i]?=some (PJ U[i]):=by simp[fa]
   have hw:=cD (i:=i);rw[yc fa,List.any_cons]at hs;generalize U[i]=u at *
   simp only[PJ]at g1;by_cases c1:u<0
   ·simp[UF,-J,-y4,-y3,y0,e1,m1,e38,uz,e40,ga,g1,c1];exact hk _ _ (.inr ⟨rfl,by rw[<- hs];simp[mD,c1],by simp⟩)
   by_cases c2:(S.length:Int)<=u
   ·simp[UF,-J,-y4,-y3,y0,e1,m1,e38,uz,e40,ga,g1,c1,c2];exact hk _ _ (.inr ⟨rfl,by rw[<- hs];simp[mD,c2],by simp⟩)
   simp[UF,-J,-y4,-y3,y0,e1,m1,e38,uz,e40,ga,g1,c1,c2,hw];refine ih fa _ ⟨hP s _ ?_ ?_ ?_ ?_ hp,?_,?_,?_,?_,?_,?_⟩
   ·rfl
   ·rfl
   ·rfl
   ·intro t ht;simp only[yh,List.not_mem_nil,or_false,not_or]at ht;simp[dI,ht]
   ·simp[e1]
   ·simp[m1]
   ·simp[e38]
   ·simp[uz]
   ·simp
   ·rw[<- hs];simp[mD,c1,c2]
  ·have ga:¬ (i:Int)<U.length:=by omega
   simp[UF,-J,-y4,-y3,y0,uz,e40,ga];rw[yf (by omega)]at hs;refine hk _ _ (.inl ⟨rfl,hs.symm,hP s _ ?_ ?_ ?_ ?_ hp⟩)
   ·rfl
   ·rfl
   ·rfl
   ·intro t ht;simp only[yh,List.not_mem_nil,or_false,not_or]at ht;simp[dI,ht]
 ·simp[hs,h1,m1,h38,h39,h40]
 ·rcases h with ⟨rfl,h1,h2⟩ | ⟨rfl,h1,h2⟩
  ·exact hk s h1 h2
  ·exact hr s h1 h2
theorem W1 (s:dR)(hs:s.fine):IC 77 [.agg (pD s)] (.int .i64 (mH s.types)):=by
 obtain⟨ja,ne⟩:=hs;refine mC (c:=uJ) rfl rfl ?_;unfold mH;by_cases pm:32<s.types.length
 ·have il:(32:Int)<s.types.length:=by omega
  simp[uJ,-J,-y4,-y3,y0,pD,pm,il]
 have il:¬(32:Int)<s.types.length:=by omega
 simp[uJ,-J,-y4,-y3,y0,pD,pm,il];refine ZC s.types.length (fun i σ=>(σ.env 1).v=.ptr 1 1 0/\σ.mem 1 1=some [⟨.sl s.nl (s.types.map QC),.no⟩]/\(σ.env 3).v=.mp 12 3/\(σ.env 14).v=.sl s.nl (s.types.map QC)/\(σ.env 15).v=.int .i64 s.types.length/\(σ.env 16).v=.int .i64 i/\(∃q:List ByteArray,σ.obj 12 3=some (fJ (q.map FK))/\∀x,x∈q↔x∈(s.types.take i).map BC.name)/\bF s.types (s.types.length-i) i=bF s.types s.types.length 0)
  (fun e σ=>(e=.exit 0/\bF s.types s.types.length 0=0)\/(e=.ret/\(σ.env 2).v=.int .i64 (bF s.types s.types.length 0))) (fun i hi σ k h ih hk=>?_) _ _ ?_ (fun e σ h=>?_)
 ·obtain ⟨e1,m1,e3,mc,jd,lf,⟨q,o,hq⟩,hv⟩:=h;refine EC ?_;by_cases fa:i<s.types.length
  ·have ga:(i:Int)<s.types.length:=by omega
   have g1:(s.types.map QC)[i]?=some (QC s.types[i]):=by simp[fa]
   have hw:=cD (i:=i);have ht:s.types.take (i+1)=s.types.take i++[s.types[i]]:=(yx fa).symm;have hf:=Qv s.types[i] (ne _ (y8 _));have hu:=Bm s.types[i] (ne _ (y8 _)).2.2 _ rfl;have zl:=(ne _ (y8 fa)).2.2;rw[zV fa]at hv;generalize s.types[i]=t at *
   have hul:t.zA.length<=9223372036854775807:=by
    unfold BC.zA;by_cases h8:t.kind=8<;>by_cases h7:7<=t.kind<;>simp[h8,h7]<;>omega
   simp only[IC,QC]at hf hu;simp only[QC]at g1;have hg:=J0 t.name q;have mt:=z6 q;obtain⟨q',dq,gc⟩:=Pp t.name q;have err:∀σ' n,mF s.types i t=n->n≠0->(σ'.env 2).v=.int .i64 n->k .ret σ'=some (.int .i64 (bF s.types s.types.length 0),none):=fun σ' n h1 h2 h3=>hk _ _ (.inr ⟨rfl,by rw[h3,<- hv,h1,if_neg h2]⟩)
   cases c1:IE t with
   |false =>
    rw[c1]at hf;simp[GD,-J,-y4,-y3,y0,e1,m1,e3,mc,jd,lf,ga,g1,hf];exact err _ 1 (by simp[mF,c1]) (by decide) (by simp)
   |true =>
    rw[c1]at hf;have lc:=L9 c1;have dup:t.name≠⟨#[]⟩->t.name∈q->GD.run (jU dD PC) (Hu dD PC) σ (XN (OL dD PC) GD k)=some (.int .i64 (bF s.types s.types.length 0),none):=by
     intro hn wm;have hd:=eq_false hn;rw[if_pos wm]at hg;simp[GD,-J,-y4,-y3,y0,e1,m1,e3,mc,jd,lf,ga,g1,hf,hd,o,bL,mt,PK,AV.flat,AV.TA,hg];exact err _ 1 (by unfold mF;rw[if_neg (by simp[c1]),if_pos ⟨lc.2 hn,(hq _).1 wm⟩]) (by decide) (by simp)
    have go:(t.name=⟨#[]⟩\/t.name≠⟨#[]⟩/\¬t.name∈q)->GD.run (jU dD PC) (Hu dD PC) σ (XN (OL dD PC) GD k)=some (.int .i64 (bF s.types s.types.length 0),none):=by
     intro hn;have c2:¬(t.named=true/\t.name∈(s.types.take i).map BC.name):=fun⟨h1,h2⟩=>by
      rcases hn with hn|hn
      ·exact(lc.1 h1) hn
      ·exact hn.2 ((hq _).2 h2)
     have fin:∀(σ':OC)(k':Ex->OC->Option RV)(p:Nat),(∀σ2:OC,(σ2.env 2).v=.int .i64 4->k' .ret σ2=k .ret σ2) →
       (∀σ2:OC,(σ2.env 1).v=.ptr 1 1 0->σ2.mem 1 1=some [⟨.sl s.nl (s.types.map QC),.no⟩]->(σ2.env 3).v=.mp 12 3->(σ2.env 14).v=.sl s.nl (s.types.map QC)->(σ2.env 15).v=.int .i64 s.types.length->(σ2.env 16).v=.int .i64 i->σ2.obj 12 3=some (fJ (q'.map FK))->(σ2.env 5).v=.ptr 5 p 0->σ2.mem 5 p=some (ID t)->t.zA.any (mD s.types.length)=false->k' (.exit 2) σ2=some (.int .i64 (bF s.types s.types.length 0),none)) →
       (σ'.env 1).v=.ptr 1 1 0->σ'.mem 1 1=some [⟨.sl s.nl (s.types.map QC),.no⟩]->(σ'.env 3).v=.mp 12 3->(σ'.env 14).v=.sl s.nl (s.types.map QC)->(σ'.env 15).v=.int .i64 s.types.length->(σ'.env 16).v=.int .i64 i->σ'.obj 12 3=some (fJ (q'.map FK))->(σ'.env 5).v=.ptr 5 p 0->σ'.mem 5 p=some (ID t)->(σ'.env 38).v=.sl t.zA.isEmpty (t.zA.map PJ)->(σ'.env 39).v=.int .i64 t.zA.length->(σ'.env 40).v=.int .i64 0->OL dD PC UF σ' k'=some (.int .i64 (bF s.types s.types.length 0),none):=by
      intro σ' k' p hret nh f1 fm f3 f14 f15 f16 fo f5 fp f38 f39 f40;refine Rz s.nl s.types t.zA hul t.zA.isEmpty _ (fun σ2=>(σ2.env 1).v=.ptr 1 1 0/\σ2.mem 1 1=some [⟨.sl s.nl (s.types.map QC),.no⟩]/\(σ2.env 3).v=.mp 12 3/\(σ2.env 14).v=.sl s.nl (s.types.map QC)/\(σ2.env 15).v=.int .i64 s.types.length/\(σ2.env 16).v=.int .i64 i/\σ2.obj 12 3=some (fJ (q'.map FK))/\(σ2.env 5).v=.ptr 5 p 0/\σ2.mem 5 p=some (ID t)) (fun a b hm ho _ he h=>?_) k' (fun σ2 hu h=>?_) (fun σ2 hu h2=>?_) σ' ⟨f1,fm,f3,f14,f15,f16,fo,f5,fp⟩ f1 fm f38 f39 f40
      ·rw[hm,ho,he 1 (by decide),he 3 (by decide),he 14 (by decide),he 15 (by decide),he 16 (by decide),he 5 (by decide)];exact h
      ·obtain⟨f1,fm,f3,f14,f15,f16,fo,f5,fp⟩:=h;exact nh σ2 f1 fm f3 f14 f15 f16 fo f5 fp hu
      ·rw[hret σ2 h2];exact err _ 4 (by unfold mF;rw[if_neg (by simp[c1]),if_neg c2,if_pos hu]) (by decide) h2
     have key:t.zA.any (mD s.types.length)=false->t.kind=8->0<=t.key/\∃y:BC,(s.types.map QC)[t.key.toNat]?=some (QC y)/\OR s.types t.key=y.kind:=fun hu h8=>by
      obtain⟨h1,h2⟩:=P5 h8 hu;have h3:t.key.toNat<s.types.length:=by omega
      exact⟨h1,s.types[t.key.toNat],by rw[yb,y7 h3];rfl,by unfold OR;rw[y7 h3]⟩
     have next:mF s.types i t=0->∀σ2:OC,(σ2.env 1).v=.ptr 1 1 0->σ2.mem 1 1=some [⟨.sl s.nl (s.types.map QC),.no⟩]->(σ2.env 3).v=.mp 12 3->(σ2.env 14).v=.sl s.nl (s.types.map QC)->(σ2.env 15).v=.int .i64 s.types.length->(σ2.env 16).v=.int .i64 ((i+1:Nat):Int)->σ2.obj 12 3=some (fJ (q'.map FK))->OL dD PC GD σ2 k=some (.int .i64 (bF s.types s.types.length 0),none):=fun h0 σ2 f1 fm f3 f14 f15 f16 fo=>ih fa _ ⟨f1,fm,f3,f14,f15,f16,⟨q',fo,fun x=>by rw[gc,ht,List.map_append,yD,hq];simp⟩,by rw[<- hv,h0];rfl⟩
     have hgn:t.name=⟨#[]⟩\/t.name≠⟨#[]⟩/\uM (q.map FK) (.str t.name)=none:=by
      rcases hn with hn|⟨h1,h2⟩
      ·exact .inl hn
      ·exact .inr ⟨h1,by rw[hg,if_neg h2]⟩
     rcases hgn with hd|⟨hd,hg⟩
     ·have hd:=eq_true hd;simp [GD,-J,-y4,-y3,y0,e1,m1,e3,mc,jd,lf,ga,g1,hf,hu,hd,o,bL,mt,PK,AV.flat,AV.TA,dq];refine fin _ _ (σ.next + 1) (fun σ2 _=>rfl) (fun σ2 f1 fm f3 f14 f15 f16 fo f5 fp tc=>?_) ?_ ?_ ?_ ?_ ?_ ?_ ?_ ?_ ?_ ?_ ?_ ?_
      rotate_left
      ·simp[e1]
      ·simp[m1]
      ·simp[e3]
      ·simp[mc]
      ·simp[jd]
      ·simp[lf]
      ·simp
      ·simp
      ·simp
      ·simp
      ·simp
      ·simp
      have c3:=tc;by_cases h8:t.kind=8
      ·obtain ⟨nd,y,gy,hy⟩:=key tc h8;simp only [QC] at gy;by_cases c4:y.kind<1
       ·simp[-J,-y4,-y3,y0,f1,fm,f5,fp,h8,nd,gy,c4];exact err _ 1 (by unfold mF;rw[if_neg (by simp[c1]),if_neg c2,if_neg (by simp[c3]),if_pos ⟨h8,by rw[hy];omega⟩]) (by decide) (by simp)
       ·by_cases c5:4<y.kind
        ·simp[-J,-y4,-y3,y0,f1,fm,f5,fp,h8,nd,gy,c4,c5];exact err _ 1 (by unfold mF;rw[if_neg (by simp[c1]),if_neg c2,if_neg (by simp[c3]),if_pos ⟨h8,by rw[hy];omega⟩]) (by decide) (by simp)
        ·simp[-J,-y4,-y3,y0,f1,fm,f5,fp,f16,h8,nd,gy,c4,c5,hw];refine next (by unfold mF;rw[if_neg (by simp[c1]),if_neg c2,if_neg (by simp[c3]),if_neg fun h=>h.2 (by rw[hy];omega)]) _ ?_ ?_ ?_ ?_ ?_ ?_ ?_<;>simp[f1,fm,f3,f14,f15,fo]
      ·simp[-J,-y4,-y3,y0,f1,fm,f5,fp,f16,h8,hw];refine next (by unfold mF;rw[if_neg (by simp[c1]),if_neg c2,if_neg (by simp[c3]),if_neg fun h=>h8 h.1]) _ ?_ ?_ ?_ ?_ ?_ ?_ ?_<;>simp[f1,fm,f3,f14,f15,fo]
     ·have hd:=eq_false hd;simp [GD,-J,-y4,-y3,y0,e1,m1,e3,mc,jd,lf,ga,g1,hf,hu,hd,hg,o,bL,mt,PK,AV.flat,AV.TA,dq];refine fin _ _ (σ.next + 1) (fun σ2 _=>rfl) (fun σ2 f1 fm f3 f14 f15 f16 fo f5 fp tc=>?_) ?_ ?_ ?_ ?_ ?_ ?_ ?_ ?_ ?_ ?_ ?_ ?_
      rotate_left
      ·simp[e1]
      ·simp[m1]
      ·simp[e3]
      ·simp[mc]
      ·simp[jd]
      ·simp[lf]
      ·simp
      ·simp
      ·simp
      ·simp
      ·simp
      ·simp
      have c3:=tc;by_cases h8:t.kind=8
      ·obtain ⟨nd,y,gy,hy⟩:=key tc h8;simp only [QC] at gy;by_cases c4:y.kind<1
       ·simp[-J,-y4,-y3,y0,f1,fm,f5,fp,h8,nd,gy,c4];exact err _ 1 (by unfold mF;rw[if_neg (by simp[c1]),if_neg c2,if_neg (by simp[c3]),if_pos ⟨h8,by rw[hy];omega⟩]) (by decide) (by simp)
       ·by_cases c5:4<y.kind
        ·simp[-J,-y4,-y3,y0,f1,fm,f5,fp,h8,nd,gy,c4,c5];exact err _ 1 (by unfold mF;rw[if_neg (by simp[c1]),if_neg c2,if_neg (by simp[c3]),if_pos ⟨h8,by rw[hy];omega⟩]) (by decide) (by simp)
        ·simp[-J,-y4,-y3,y0,f1,fm,f5,fp,f16,h8,nd,gy,c4,c5,hw];refine next (by unfold mF;rw[if_neg (by simp[c1]),if_neg c2,if_neg (by simp[c3]),if_neg fun h=>h.2 (by rw[hy];omega)]) _ ?_ ?_ ?_ ?_ ?_ ?_ ?_<;>simp[f1,fm,f3,f14,f15,fo]
      ·simp[-J,-y4,-y3,y0,f1,fm,f5,fp,f16,h8,hw];refine next (by unfold mF;rw[if_neg (by simp[c1]),if_neg c2,if_neg (by simp[c3]),if_neg fun h=>h8 h.1]) _ ?_ ?_ ?_ ?_ ?_ ?_ ?_<;>simp[f1,fm,f3,f14,f15,fo]
    by_cases wm:t.name≠⟨#[]⟩/\t.name∈q
    ·exact dup wm.1 wm.2
    ·refine go ?_;by_cases he:t.name=⟨#[]⟩
     ·exact .inl he
     ·exact .inr ⟨he,fun h=>wm ⟨he,h⟩⟩
  ·have ga:¬ (i:Int)<s.types.length:=by omega
   simp[GD,-J,-y4,-y3,y0,jd,lf,ga];refine hk _ _ (.inl ⟨rfl,?_⟩);rw[<- hv,show s.types.length-i=0 from by omega,bF]
 ·refine⟨?_,?_,?_,?_,?_,?_,⟨[],?_,?_⟩,?_⟩<;>simp[fJ]
 ·rcases h with ⟨rfl,h1⟩ | ⟨rfl,h1⟩
  ·simp[-J,-y4,-y3,y0,h1]
  ·simp[-J,-y4,-y3,y0,h1]
def kE {α:Type}(p:α->Bool):List α->Int
 | []=>-1
 |x::r=>if p x=true then 0 else if kE p r=-1 then -1 else kE p r+1
theorem kH {α:Type}(p:α->Bool):∀l:List α,-1<=kE p l
 | []=>by simp[kE]
 |x::r=>by
  have:=kH p r;simp only[kE];split
  ·omega
  ·split<;>omega
theorem UP {α:Type}(p:α->Bool)(x:α)(r:List α)(h:p x=false):kE p (x::r)=if kE p r=-1 then -1 else kE p r+1:=by simp[kE,h]
theorem cS {α:Type}(p:α->Bool):∀l:List α,kE p l≠-1->∃x,l[(kE p l).toNat]?=some x/\p x=true
 | [],h=>absurd rfl h
 |x::r,h=>by
  simp only[kE]at h ⊢;by_cases hx:p x=true
  ·rw[if_pos hx];exact⟨x,rfl,hx⟩
  ·rw [if_neg hx] at h ⊢;by_cases h1:kE p r=-1
   ·rw[if_pos h1]at h;exact absurd rfl h
   ·rw[if_neg h1];obtain⟨y,h2,h3⟩:=cS p r h1;have:=kH p r;refine⟨y,?_,h3⟩;rw[show(kE p r+1).toNat=(kE p r).toNat+1 from by omega,List.getElem?_cons_succ];exact h2
theorem CM {α:Type}(p:α->Bool):∀l:List α,(decide (0<=kE p l))=l.any p
 | []=>by simp[kE]
 |x::r=>by
  have h1:=CM p r;have h2:=kH p r;rw[List.any_cons,<- h1];simp only[kE];by_cases hx:p x=true
  ·simp[hx]
  ·by_cases h:kE p r=-1
   ·simp[hx,h]
   ·simp[hx,h];omega
theorem D1 (F:Nat)(caps:List AV)(l:List RE)(p:RE->Bool)(hl:l.length<=9223372036854775807)(eg:∀(s:OC) (cl:Cl),KF s cl caps=some caps)(hF:∀x∈l,IC F (.agg (uD x)::caps) (.bool (p x)))(b:Bool):IC 170 [.sl b (l.map uD),.fn F caps] (.int .i64 (kE p l)):=by
 refine mC (c:=wF) rfl rfl ?_;simp[wF,-J,-y4,-y3,y0];refine ZC l.length (fun i s=>(s.env 0).v=.sl b (l.map uD)/\(s.env 1).v=.fn F caps/\(s.env 7).v=.int .i64 l.length/\(s.env 8).v=.int .i64 i/\kE p l=(if kE p (l.drop i)=-1 then -1 else kE p (l.drop i)+i))
  (fun e s=>(e=.exit 0/\kE p l=-1)\/(e=.ret/\(s.env 4).v=.int .i64 (kE p l))) (fun i hi s k h ih hk=>?_) _ _ ?_ (fun e s h=>?_)
 ·obtain ⟨e0,e1,e7,e8,hs⟩:=h;refine EC ?_;by_cases fa:i<l.length
  ·have ga:(i:Int)<l.length:=by omega
   have g1:(l.map uD)[i]?=some (uD l[i]):=by simp[fa]
   have hw:=cD (i:=i);have hx:=hF l[i] (y8 _);rw[yc fa]at hs;generalize l[i]=x at *
   simp only[IC,uD]at g1 hx;cases hp:p x with
   |true =>
    rw[hp]at hx;simp[nE,-J,-y4,-y3,y0,e0,e1,e7,e8,ga,g1,eg,hx];refine hk _ _ (.inr ⟨rfl,?_⟩);simp[hs,kE,hp]
   |false =>
    rw[hp]at hx;simp[nE,-J,-y4,-y3,y0,e0,e1,e7,e8,ga,g1,eg,hx,hw];refine ih fa _ ⟨?_,?_,?_,?_,?_⟩
    ·simp[e0]
    ·simp[e1]
    ·simp[e7]
    ·simp
    ·rw [hs,UP p x _ hp];have:=kH p (l.drop (i + 1));by_cases h1:kE p (l.drop (i + 1))=-1
     ·simp[h1]
     ·have h2:¬ kE p (l.drop (i + 1)) + 1=-1:=by omega
      rw[if_neg h1,if_neg h2,if_neg h1];omega
  ·have ga:¬ (i:Int)<l.length:=by omega
   simp[nE,-J,-y4,-y3,y0,e7,e8,ga];rw[yf (by omega)]at hs;exact hk _ _ (.inl ⟨rfl,hs⟩)
 ·have:=kH p l;by_cases h1:kE p l=-1<;>simp[h1]
 ·rcases h with⟨rfl,h1⟩|⟨rfl,h1⟩<;>simp[-J,-y4,-y3,y0,h1]
theorem F1 (F:Nat)(caps:List AV)(l:List zX)(p:zX->Bool)(hl:l.length<=9223372036854775807)(eg:∀(s:OC) (cl:Cl),KF s cl caps=some caps)(hF:∀x∈l,IC F (.agg (TG x)::caps) (.bool (p x)))(b:Bool):IC 168 [.sl b (l.map TG),.fn F caps] (.int .i64 (kE p l)):=by
 refine mC (c:=eF) rfl rfl ?_;simp[eF,-J,-y4,-y3,y0];refine ZC l.length (fun i s=>(s.env 0).v=.sl b (l.map TG)/\(s.env 1).v=.fn F caps/\(s.env 7).v=.int .i64 l.length/\(s.env 8).v=.int .i64 i/\kE p l=(if kE p (l.drop i)=-1 then -1 else kE p (l.drop i)+i))
  (fun e s=>(e=.exit 0/\kE p l=-1)\/(e=.ret/\(s.env 4).v=.int .i64 (kE p l))) (fun i hi s k h ih hk=>?_) _ _ ?_ (fun e s h=>?_)
 ·obtain ⟨e0,e1,e7,e8,hs⟩:=h;refine EC ?_;by_cases fa:i<l.length
  ·have ga:(i:Int)<l.length:=by omega
   have g1:(l.map TG)[i]?=some (TG l[i]):=by simp[fa]
   have hw:=cD (i:=i);have hx:=hF l[i] (y8 _);rw[yc fa]at hs;generalize l[i]=x at *
   simp only[IC,TG]at g1 hx;cases hp:p x with
   |true =>
    rw[hp]at hx;simp[mE,-J,-y4,-y3,y0,e0,e1,e7,e8,ga,g1,eg,hx];refine hk _ _ (.inr ⟨rfl,?_⟩);simp[hs,kE,hp]
   |false =>
    rw[hp]at hx;simp[mE,-J,-y4,-y3,y0,e0,e1,e7,e8,ga,g1,eg,hx,hw];refine ih fa _ ⟨?_,?_,?_,?_,?_⟩
    ·simp[e0]
    ·simp[e1]
    ·simp[e7]
    ·simp
    ·rw [hs,UP p x _ hp];have:=kH p (l.drop (i + 1));by_cases h1:kE p (l.drop (i + 1))=-1
     ·simp[h1]
     ·have h2:¬ kE p (l.drop (i + 1)) + 1=-1:=by omega
      rw[if_neg h1,if_neg h2,if_neg h1];omega
  ·have ga:¬ (i:Int)<l.length:=by omega
   simp[mE,-J,-y4,-y3,y0,e7,e8,ga];rw[yf (by omega)]at hs;exact hk _ _ (.inl ⟨rfl,hs⟩)
 ·have:=kH p l;by_cases h1:kE p l=-1<;>simp[h1]
 ·rcases h with⟨rfl,h1⟩|⟨rfl,h1⟩<;>simp[-J,-y4,-y3,y0,h1]
theorem mU (F:Nat)(caps:List AV)(l:List Vl)(p:Vl->Bool)(hl:l.length<=9223372036854775807)(eg:∀(s:OC) (cl:Cl),KF s cl caps=some caps)(hF:∀x∈l,IC F (.agg (TC x)::caps) (.bool (p x)))(b:Bool):IC 230 [.sl b (l.map TC),.fn F caps] (.int .i64 (kE p l)):=by
 refine mC (c:=dF) rfl rfl ?_;simp[dF,-J,-y4,-y3,y0];refine ZC l.length (fun i s=>(s.env 0).v=.sl b (l.map TC)/\(s.env 1).v=.fn F caps/\(s.env 7).v=.int .i64 l.length/\(s.env 8).v=.int .i64 i/\kE p l=(if kE p (l.drop i)=-1 then -1 else kE p (l.drop i)+i))
  (fun e s=>(e=.exit 0/\kE p l=-1)\/(e=.ret/\(s.env 4).v=.int .i64 (kE p l))) (fun i hi s k h ih hk=>?_) _ _ ?_ (fun e s h=>?_)
 ·obtain ⟨e0,e1,e7,e8,hs⟩:=h;refine EC ?_;by_cases fa:i<l.length
  ·have ga:(i:Int)<l.length:=by omega
   have g1:(l.map TC)[i]?=some (TC l[i]):=by simp[fa]
   have hw:=cD (i:=i);have hx:=hF l[i] (y8 _);rw[yc fa]at hs;generalize l[i]=x at *
   simp only[IC,nC]at g1 hx;cases hp:p x with
   |true =>
    rw[hp]at hx;simp[TE,-J,-y4,-y3,y0,e0,e1,e7,e8,ga,g1,eg,hx];refine hk _ _ (.inr ⟨rfl,?_⟩);simp[hs,kE,hp]
   |false =>
    rw[hp]at hx;simp[TE,-J,-y4,-y3,y0,e0,e1,e7,e8,ga,g1,eg,hx,hw];refine ih fa _ ⟨?_,?_,?_,?_,?_⟩
    ·simp[e0]
    ·simp[e1]
    ·simp[e7]
    ·simp
    ·rw [hs,UP p x _ hp];have:=kH p (l.drop (i + 1));by_cases h1:kE p (l.drop (i + 1))=-1
     ·simp[h1]
     ·have h2:¬ kE p (l.drop (i + 1)) + 1=-1:=by omega
      rw[if_neg h1,if_neg h2,if_neg h1];omega
  ·have ga:¬ (i:Int)<l.length:=by omega
   simp[TE,-J,-y4,-y3,y0,e7,e8,ga];rw[yf (by omega)]at hs;exact hk _ _ (.inl ⟨rfl,hs⟩)
 ·have:=kH p l;by_cases h1:kE p l=-1<;>simp[h1]
 ·rcases h with⟨rfl,h1⟩|⟨rfl,h1⟩<;>simp[-J,-y4,-y3,y0,h1]
theorem Zb (x:RE)(id:Int):IC 171 [.agg (uD x),.bp [.int .i64 id]] (.bool (decide (x.id=id))):=by
 refine mC (c:=pI) rfl rfl ?_;simp[pI,-J,-y4,-y3,y0,uD]
def dE (l:List RE)(id:Int):Int:=kE (fun x=>decide (x.id=id)) l
def OU (l:List RE)(id:Int):AV:=.sA [.int .i64 (max (dE l id) 0),.bool (decide (0<=dE l id))]
theorem Pq (t:BC)(id:Int)(hl:t.qA.length<=9223372036854775807):IC 109 [.agg (QC t),.int .i64 id] (OU t.qA id):=by
 refine mC (c:=zK) rfl rfl ?_;have h:=D1 171 [.bp [.int .i64 id]] t.qA (fun x=>decide (x.id=id)) hl (fun _ _=>rfl) (fun x _=>Zb x id) t.mn;simp only[IC]at h;unfold OU dE;simp[zK,-J,-y4,-y3,y0,QC,h]
theorem a6 (t:BC)(id:Int)(hl:t.qA.length<=9223372036854775807):IC 214 [.agg (QC t),.int .i64 id] (OU t.qA id):=by
 refine mC (c:=eL) rfl rfl ?_;obtain⟨p,hp⟩:∃p:RE->Bool,p=fun x=>decide (x.id=id):=⟨_,rfl⟩
 unfold OU dE;rw[<- hp];simp[eL,-J,-y4,-y3,y0,QC];refine ZC t.qA.length (fun i s=>(s.env 1).v=.int .i64 id/\(s.env 2).v=.ptr 2 1 0/\s.mem 2 1=some (ID t)/\(s.env 6).v=.int .i64 i/\kE p t.qA=(if kE p (t.qA.drop i)=-1 then -1 else kE p (t.qA.drop i)+i))
  (fun e s=>(e=.exit 0/\kE p t.qA=-1)\/(e=.ret/\0<=kE p t.qA/\(s.env 4).v=.int .i64 (kE p t.qA)/\(s.env 5).v=.bool true)) (fun i hi s k h ih hk=>?_) _ _ ?_ (fun e s h=>?_)
 ·obtain ⟨e1,e2,m2,e6,hs⟩:=h;refine EC ?_;by_cases fa:i<t.qA.length
  ·have ga:(i:Int)<t.qA.length:=by omega
   have g1:(t.qA.map uD)[i]?=some (uD t.qA[i]):=by simp[fa]
   have hw:=cD (i:=i);rw[yc fa]at hs;generalize t.qA[i]=x at *
   simp only[uD]at g1;by_cases hx:x.id=id
   ·simp [GI,-J,-y4,-y3,y0,e1,e2,m2,e6,ga,g1,hx];have nv:p x=true:=by rw [hp]; exact decide_eq_true hx
    refine hk _ _ (.inr ⟨rfl,?_,?_,?_⟩)
    ·rw[hs];simp[kE,nv]
    ·simp[hs,kE,nv]
    ·simp
   ·have nv:p x=false:=by rw [hp]; exact decide_eq_false hx
    simp[GI,-J,-y4,-y3,y0,e1,e2,m2,e6,ga,g1,hx,hw];refine ih fa _ ⟨?_,?_,?_,?_,?_⟩
    ·simp[e1]
    ·simp[e2]
    ·simp[m2]
    ·simp
    ·rw [hs,UP p x _ nv];have:=kH p (t.qA.drop (i + 1));by_cases h1:kE p (t.qA.drop (i + 1))=-1
     ·simp[h1]
     ·have h2:¬ kE p (t.qA.drop (i + 1)) + 1=-1:=by omega
      rw[if_neg h1,if_neg h2,if_neg h1];omega
  ·have ga:¬ (i:Int)<t.qA.length:=by omega
   simp[GI,-J,-y4,-y3,y0,e2,m2,e6,ga];rw[yf (by omega)]at hs;exact hk _ _ (.inl ⟨rfl,hs⟩)
 ·have:=kH p t.qA;by_cases h1:kE p t.qA=-1<;>simp[h1]
 ·rcases h with ⟨rfl,h1⟩ | ⟨rfl,h0,h1,h2⟩
  ·simp[-J,-y4,-y3,y0,h1];rfl
  ·simp[-J,-y4,-y3,y0,h1,h2,h0,Int.max_eq_left h0]
theorem Gm (x:zX)(id:Int):IC 169 [.agg (TG x),.bp [.int .i64 id]] (.bool (decide (x.id=id))):=by
 refine mC (c:=aI) rfl rfl ?_;simp[aI,-J,-y4,-y3,y0,TG]
def ZP (l:List zX)(id:Int):Int:=kE (fun x=>decide (x.id=id)) l
def X2 (l:List zX)(id:Int):AV:=.sA [.int .i64 (max (ZP l id) 0),.bool (decide (0<=ZP l id))]
theorem Ol (t:BC)(id:Int)(hl:t.tA.length<=9223372036854775807):IC 107 [.agg (QC t),.int .i64 id] (X2 t.tA id):=by
 refine mC (c:=xK) rfl rfl ?_;have h:=F1 169 [.bp [.int .i64 id]] t.tA (fun x=>decide (x.id=id)) hl (fun _ _=>rfl) (fun x _=>Gm x id) t.sn;simp only[IC]at h;unfold X2 ZP;simp[xK,-J,-y4,-y3,y0,QC,h]
theorem Tm (t:BC)(id:Int)(hl:t.tA.length<=9223372036854775807):IC 222 [.agg (QC t),.int .i64 id] (X2 t.tA id):=by
 refine mC (c:=rL) rfl rfl ?_;obtain⟨p,hp⟩:∃p:zX->Bool,p=fun x=>decide (x.id=id):=⟨_,rfl⟩
 unfold X2 ZP;rw[<- hp];simp[rL,-J,-y4,-y3,y0,QC];refine ZC t.tA.length (fun i s=>(s.env 1).v=.int .i64 id/\(s.env 2).v=.ptr 2 1 0/\s.mem 2 1=some (ID t)/\(s.env 6).v=.int .i64 i/\kE p t.tA=(if kE p (t.tA.drop i)=-1 then -1 else kE p (t.tA.drop i)+i))
  (fun e s=>(e=.exit 0/\kE p t.tA=-1)\/(e=.ret/\0<=kE p t.tA/\(s.env 4).v=.int .i64 (kE p t.tA)/\(s.env 5).v=.bool true)) (fun i hi s k h ih hk=>?_) _ _ ?_ (fun e s h=>?_)
 ·obtain ⟨e1,e2,m2,e6,hs⟩:=h;refine EC ?_;by_cases fa:i<t.tA.length
  ·have ga:(i:Int)<t.tA.length:=by omega
   have g1:(t.tA.map TG)[i]?=some (TG t.tA[i]):=by simp[fa]
   have hw:=cD (i:=i);rw[yc fa]at hs;generalize t.tA[i]=x at *
   simp only[TG]at g1;by_cases hx:x.id=id
   ·simp [HI,-J,-y4,-y3,y0,e1,e2,m2,e6,ga,g1,hx];have nv:p x=true:=by rw [hp]; exact decide_eq_true hx
    refine hk _ _ (.inr ⟨rfl,?_,?_,?_⟩)
    ·rw[hs];simp[kE,nv]
    ·simp[hs,kE,nv]
    ·simp
   ·have nv:p x=false:=by rw [hp]; exact decide_eq_false hx
    simp[HI,-J,-y4,-y3,y0,e1,e2,m2,e6,ga,g1,hx,hw];refine ih fa _ ⟨?_,?_,?_,?_,?_⟩
    ·simp[e1]
    ·simp[e2]
    ·simp[m2]
    ·simp
    ·rw [hs,UP p x _ nv];have:=kH p (t.tA.drop (i + 1));by_cases h1:kE p (t.tA.drop (i + 1))=-1
     ·simp[h1]
     ·have h2:¬ kE p (t.tA.drop (i + 1)) + 1=-1:=by omega
      rw[if_neg h1,if_neg h2,if_neg h1];omega
  ·have ga:¬ (i:Int)<t.tA.length:=by omega
   simp[HI,-J,-y4,-y3,y0,e2,m2,e6,ga];rw[yf (by omega)]at hs;exact hk _ _ (.inl ⟨rfl,hs⟩)
 ·have:=kH p t.tA;by_cases h1:kE p t.tA=-1<;>simp[h1]
 ·rcases h with ⟨rfl,h1⟩ | ⟨rfl,h0,h1,h2⟩
  ·simp[-J,-y4,-y3,y0,h1];rfl
  ·simp[-J,-y4,-y3,y0,h1,h2,h0,Int.max_eq_left h0]
theorem Fo (sn:Bool)(S:List BC)(i:Nat)(hiS:i<S.length)(hS:S.length<=9223372036854775807)(t:BC)(p:Nat)(r:RV)(P:OC->Prop)(hP:∀s s':OC,s'.mem=s.mem->s'.obj=s.obj->(∀t,t ∉ [2,5,27,28,29,30,31,32,33,34,35,36,37,38,39,40,41,42,43,44,45]->s'.env t=s.env t)->P s->P s')(k:Ex->OC->Option RV)
  (hk:∀s',¬(t.named=true/\t.name∈(S.take i).map BC.name)->P s'->k (.exit 2) s'=some r) (hr:∀s':OC,t.named=true/\t.name∈(S.take i).map BC.name->(s'.env 2).v=.int .i64 1->k .ret s'=some r)
  (s:OC) (hs:P s) (h1:(s.env 1).v=.ptr 1 1 0) (m1:s.mem 1 1=some [⟨.sl sn (S.map QC),.no⟩]) (h3:(s.env 3).v=.int .i64 i) (h4:(s.env 4).v=.ptr 4 p 0) (m4:s.mem 4 p=some (ID t)) (h5:(s.env 5).v=.int .i64 0):OL dD PC wG s k=some r:=by
 have lc:=rK t.kind;change IC _ _ (.bool t.named)at lc;simp only[IC]at lc;refine ZC i (fun j s=>P s/\(s.env 1).v=.ptr 1 1 0/\s.mem 1 1=some [⟨.sl sn (S.map QC),.no⟩]/\(s.env 3).v=.int .i64 i/\(s.env 4).v=.ptr 4 p 0/\s.mem 4 p=some (ID t)/\(s.env 5).v=.int .i64 j/\¬(t.named=true/\t.name∈(S.take j).map BC.name))
  (fun e s=>(e=.exit 2/\¬(t.named=true/\t.name∈(S.take i).map BC.name)/\P s)\/(e=.ret/\(t.named=true/\t.name∈(S.take i).map BC.name)/\(s.env 2).v=.int .i64 1)) (fun j hj s k h ih hk=>?_) _ _ ?_ (fun e s h=>?_)
 ·obtain ⟨hp,e1,m1,e3,e4,m4,e5,hs⟩:=h;refine EC ?_;by_cases fa:j<i
  ·have ga:(j:Int)<i:=by omega
   have hjS:j<S.length:=by omega
   have g1:(S.map QC)[j]?=some (QC S[j]):=by simp[hjS]
   have hw:=cD (i:=j);have ht:S.take (j+1)=S.take j++[S[j]]:=(yx hjS).symm;have gc:S[j]∈S.take i:=List.mem_take_iff_getElem.2 ⟨j,by omega,rfl⟩;generalize S[j]=u at *
   simp only[QC]at g1;have dB:∀s',s'.mem=s.mem->s'.obj=s.obj->(∀t,t ∉ [2,5,27,28,29,30,31,32,33,34,35,36,37,38,39,40,41,42,43,44,45]->s'.env t=s.env t)->(s'.env 5).v=.int .i64 ((j+1:Nat):Int)->¬(t.named=true/\u.name=t.name)->OL dD PC wG s' k=some r:=fun s' hm ho he h5 hn=>by
    refine ih fa _ ⟨hP s s' hm ho he hp,?_,?_,?_,?_,?_,h5,?_⟩
    ·rw[he 1 (by decide)];exact e1
    ·rw[hm];exact m1
    ·rw[he 3 (by decide)];exact e3
    ·rw[he 4 (by decide)];exact e4
    ·rw[hm];exact m4
    ·rw [ht,List.map_append,yD];rintro ⟨h1,h2 | h2⟩
     ·exact hs ⟨h1,h2⟩
     ·simp at h2;exact hn ⟨h1,h2.symm⟩
   cases hb:t.named with
   |false =>
    rw[hb]at lc;simp[wG,-J,-y4,-y3,y0,e1,m1,e3,e4,m4,e5,ga,g1,lc,hw];refine dB _ rfl rfl ?_ ?_ (by simp[hb])
    ·intro t ht;simp only[yh,List.not_mem_nil,or_false,not_or]at ht;simp[dI,ht]
    ·simp
   |true =>
    rw[hb]at lc;by_cases ua:u.name=t.name
    ·simp[wG,-J,-y4,-y3,y0,e1,m1,e3,e4,m4,e5,ga,g1,lc,ua];exact hk _ _ (.inr ⟨rfl,⟨hb,ua▸List.mem_map_of_mem gc⟩,by simp⟩)
    ·simp [wG,-J,-y4,-y3,y0,e1,m1,e3,e4,m4,e5,ga,g1,lc,ua,hw];refine dB _ rfl rfl ?_ ?_ (by simp [ua])
     ·intro t ht;simp only[yh,List.not_mem_nil,or_false,not_or]at ht;simp[dI,ht]
     ·simp
  ·have ga:¬ (j:Int)<i:=by omega
   have hji:j=i:=by omega
   simp[wG,-J,-y4,-y3,y0,e3,e5,ga];refine hk _ _ (.inl ⟨rfl,hji▸hs,hP s _ rfl rfl ?_ hp⟩);intro t ht;simp only[yh,List.not_mem_nil,or_false,not_or]at ht;simp[dI,ht]
 ·simp[hs,h1,m1,h3,h4,m4,h5]
 ·rcases h with ⟨rfl,h1,h2⟩ | ⟨rfl,h1,h2⟩
  ·exact hk s h1 h2
  ·exact hr s h1 h2
theorem Zo (sn:Bool)(S:List BC)(U:List Int)(hU:U.length<=9223372036854775807)(bu:Bool)(r:RV)(P:OC->Prop)(hP:∀s s':OC,s'.mem=s.mem->s'.obj=s.obj->(∀t,t ∉ [2,7,48,49,50,51,52,53,54,55,56,57,58,59,60,61,62,63,64,65,66,67,68]->s'.env t=s.env t)->P s->P s')(k:Ex->OC->Option RV)
  (hk:∀s',U.any (mD S.length)=false->P s'->k (.exit 4) s'=some r) (hr:∀s':OC,U.any (mD S.length)=true->(s'.env 2).v=.int .i64 4->k .ret s'=some r)
  (s:OC) (hs:P s) (h1:(s.env 1).v=.ptr 1 1 0) (m1:s.mem 1 1=some [⟨.sl sn (S.map QC),.no⟩]) (h6:(s.env 6).v=.sl bu (U.map PJ)) (h7:(s.env 7).v=.int .i64 0):OL dD PC AG s k=some r:=by
 refine ZC U.length (fun i s=>P s/\(s.env 1).v=.ptr 1 1 0/\s.mem 1 1=some [⟨.sl sn (S.map QC),.no⟩]/\(s.env 6).v=.sl bu (U.map PJ)/\(s.env 7).v=.int .i64 i/\(U.drop i).any (mD S.length)=U.any (mD S.length))
  (fun e s=>(e=.exit 4/\U.any (mD S.length)=false/\P s)\/(e=.ret/\U.any (mD S.length)=true/\(s.env 2).v=.int .i64 4)) (fun i hi s k h ih hk=>?_) _ _ ?_ (fun e s h=>?_)
 ·obtain ⟨hp,e1,m1,e6,e7,hs⟩:=h;refine EC ?_;by_cases fa:i<U.length
  ·have ga:(i:Int)<U.length:=by omega
   have g1:(U.map PJ)[i]?=some (PJ U[i]):=by simp[fa]
   have hw:=cD (i:=i);rw[yc fa,List.any_cons]at hs;generalize U[i]=u at *
   simp only[PJ]at g1;by_cases c1:u<0
   ·simp[AG,-J,-y4,-y3,y0,e1,m1,e6,e7,ga,g1,c1];exact hk _ _ (.inr ⟨rfl,by rw[<- hs];simp[mD,c1],by simp⟩)
   by_cases c2:(S.length:Int)<=u
   ·simp[AG,-J,-y4,-y3,y0,e1,m1,e6,e7,ga,g1,c1,c2];exact hk _ _ (.inr ⟨rfl,by rw[<- hs];simp[mD,c2],by simp⟩)
   simp[AG,-J,-y4,-y3,y0,e1,m1,e6,e7,ga,g1,c1,c2,hw];refine ih fa _ ⟨hP s _ rfl rfl ?_ hp,?_,?_,?_,?_,?_⟩
   ·intro t ht;simp only[yh,List.not_mem_nil,or_false,not_or]at ht;simp[dI,ht]
   ·simp[e1]
   ·simp[m1]
   ·simp[e6]
   ·simp
   ·rw[<- hs];simp[mD,c1,c2]
  ·have ga:¬ (i:Int)<U.length:=by omega
   simp[AG,-J,-y4,-y3,y0,e6,e7,ga];rw[yf (by omega)]at hs;refine hk _ _ (.inl ⟨rfl,hs.symm,hP s _ rfl rfl ?_ hp⟩);intro t ht;simp only[yh,List.not_mem_nil,or_false,not_or]at ht;simp[dI,ht]
 ·simp[hs,h1,m1,h6,h7]
 ·rcases h with ⟨rfl,h1,h2⟩ | ⟨rfl,h1,h2⟩
  ·exact hk s h1 h2
  ·exact hr s h1 h2
theorem I4 (s:dR)(hs:s.fine):IC 55 [.agg (pD s)] (.int .i64 (mH s.types)):=by
 obtain⟨ja,ne⟩:=hs;refine mC (c:=CJ) rfl rfl ?_;unfold mH;by_cases pm:32<s.types.length
 ·have il:(32:Int)<s.types.length:=by omega
  simp[CJ,-J,-y4,-y3,y0,pD,pm,il]
 have il:¬(32:Int)<s.types.length:=by omega
 simp[CJ,-J,-y4,-y3,y0,pD,pm,il];refine ZC s.types.length (fun i σ=>(σ.env 1).v=.ptr 1 1 0/\σ.mem 1 1=some [⟨.sl s.nl (s.types.map QC),.no⟩]/\(σ.env 3).v=.int .i64 i/\bF s.types (s.types.length-i) i=bF s.types s.types.length 0)
  (fun e σ=>(e=.exit 0/\bF s.types s.types.length 0=0)\/(e=.ret/\(σ.env 2).v=.int .i64 (bF s.types s.types.length 0))) (fun i hi σ k h ih hk=>?_) _ _ ?_ (fun e σ h=>?_)
 ·obtain ⟨e1,m1,e3,hv⟩:=h;refine EC ?_;by_cases fa:i<s.types.length
  ·have ga:(i:Int)<s.types.length:=by omega
   have g1:(s.types.map QC)[i]?=some (QC s.types[i]):=by simp[fa]
   have hw:=cD (i:=i);have hf:=own_ev s.types[i] (ne _ (y8 _));have hu:=fun h9:(s.types[i]'fa).kind<=9=>Sk (s.types[i]'fa) (ne _ (y8 fa)).2.2 h9 _ rfl
   have zl:=(ne _ (y8 fa)).2.2;rw[zV fa]at hv;generalize s.types[i]=t at *
   have hul:t.zA.length<=9223372036854775807:=by
    unfold BC.zA;by_cases h8:t.kind=8<;>by_cases h7:7<=t.kind<;>simp[h8,h7]<;>omega
   simp only[IC,QC]at hf hu;simp only[QC]at g1;have err:∀σ' n,mF s.types i t=n->n≠0->(σ'.env 2).v=.int .i64 n->k .ret σ'=some (.int .i64 (bF s.types s.types.length 0),none):=fun σ' n h1 h2 h3=>hk _ _ (.inr ⟨rfl,by rw[h3,<- hv,h1,if_neg h2]⟩)
   cases c1:IE t with
   |false =>
    rw[c1]at hf;simp[WJ,-J,-y4,-y3,y0,e1,m1,e3,ga,g1,hf];exact err _ 1 (by simp[mF,c1]) (by decide) (by simp)
   |true =>
    rw[c1]at hf;have hu:=hu (dH c1).2;simp[WJ,-J,-y4,-y3,y0,e1,m1,e3,ga,g1,hf];refine Fo s.nl s.types i fa ja t (σ.next+1) _ (fun σ2=>(σ2.env 1).v=.ptr 1 1 0/\σ2.mem 1 1=some [⟨.sl s.nl (s.types.map QC),.no⟩]/\(σ2.env 3).v=.int .i64 i/\(σ2.env 4).v=.ptr 4 (σ.next+1) 0/\σ2.mem 4 (σ.next+1)=some (ID t)) (fun a b hm ho he h=>?_) _ (fun σ2 c2 h=>?_) (fun σ2 c2 h2=>?_) _ ⟨?_,?_,?_,?_,?_⟩ ?_ ?_ ?_ ?_ ?_ ?_
    ·rw[hm,he 1 (by decide),he 3 (by decide),he 4 (by decide)];exact h
    ·obtain ⟨f1,fm,f3,f4,fp⟩:=h;simp [-J,-y4,-y3,y0,f1,fm,f3,f4,fp,hu];refine Zo s.nl s.types t.zA hul t.zA.isEmpty _ (fun σ2=>(σ2.env 1).v=.ptr 1 1 0/\σ2.mem 1 1=some [⟨.sl s.nl (s.types.map QC),.no⟩]/\(σ2.env 3).v=.int .i64 i/\(σ2.env 4).v=.ptr 4 (σ.next + 1) 0/\σ2.mem 4 (σ.next + 1)=some (ID t)) (fun a b hm ho he h=>?_) _ (fun σ2 c3 h=>?_) (fun σ2 c3 h2=>?_) _ ⟨?_,?_,?_,?_,?_⟩ ?_ ?_ ?_ ?_
     ·rw[hm,he 1 (by decide),he 3 (by decide),he 4 (by decide)];exact h
     ·obtain ⟨f1,fm,f3,f4,fp⟩:=h;by_cases h8:t.kind=8
      ·obtain ⟨nd,ah⟩:=P5 h8 c3;have h3:t.key.toNat<s.types.length:=by omega
       have gy:(s.types.map QC)[t.key.toNat]?=some (QC s.types[t.key.toNat]):=by rw[yb,y7 h3];rfl
       have hy:OR s.types t.key=s.types[t.key.toNat].kind:=by unfold OR;rw[y7 h3]
       generalize s.types[t.key.toNat]=y at *
       have wb:=M9 y.kind;simp only[QC]at gy;simp only[IC]at wb;by_cases c4:1<=y.kind/\y.kind<=4
       ·rw [decide_eq_true c4] at wb;simp [-J,-y4,-y3,y0,f1,fm,f3,f4,fp,h8,nd,gy,wb,hw];refine ih fa _ ⟨?_,?_,?_,?_⟩
        ·simp[f1]
        ·simp[fm]
        ·simp
        ·rw[<- hv,if_pos];unfold mF;rw[if_neg (by simp[c1]),if_neg c2,if_neg (by simp[c3]),if_neg fun h=>h.2 (by rw[hy];exact c4)]
       ·rw[decide_eq_false c4]at wb;simp[-J,-y4,-y3,y0,f1,fm,f3,f4,fp,h8,nd,gy,wb];exact err _ 1 (by unfold mF;rw[if_neg (by simp[c1]),if_neg c2,if_neg (by simp[c3]),if_pos ⟨h8,by rw[hy];exact c4⟩]) (by decide) (by simp)
      ·simp [-J,-y4,-y3,y0,f1,fm,f3,f4,fp,h8,hw];refine ih fa _ ⟨?_,?_,?_,?_⟩
       ·simp[f1]
       ·simp[fm]
       ·simp
       ·rw[<- hv,if_pos];unfold mF;rw[if_neg (by simp[c1]),if_neg c2,if_neg (by simp[c3]),if_neg fun h=>h8 h.1]
     ·simp[-J,-y4,-y3,y0];exact err _ 4 (by unfold mF;rw[if_neg (by simp[c1]),if_neg c2,if_pos c3]) (by decide) h2
     all_goals simp[f1,fm,f3,f4,fp]
    ·simp[-J,-y4,-y3,y0];exact err _ 1 (by unfold mF;rw[if_neg (by simp[c1]),if_pos c2]) (by decide) h2
    all_goals simp[e1,m1,e3]
  ·have ga:¬ (i:Int)<s.types.length:=by omega
   simp[WJ,-J,-y4,-y3,y0,e1,m1,e3,ga];refine hk _ _ (.inl ⟨rfl,?_⟩);rw[<- hv,show s.types.length-i=0 from by omega,bF]
 ·refine⟨?_,?_,?_,?_⟩<;>simp
 ·rcases h with ⟨rfl,h1⟩ | ⟨rfl,h1⟩
  ·simp[-J,-y4,-y3,y0,h1]
  ·simp[-J,-y4,-y3,y0,h1]
end Go.Proofs.YthnefkpplcmjdaaGreat
