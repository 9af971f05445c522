/- A part of the proof. -/
import Derived.Test.YtbnlmgncbgaepaaGreatUe
import Derived.Test.YtbnlmgncbgaepaaGreatUf
set_option linter.all false
set_option maxRecDepth 100000
set_option maxHeartbeats 8000000
open Option renaming bind_some → y0
open List renaming range_succ → y3, map_map → y4, getElem?_eq_getElem → y6, getElem_mem → y8, getElem?_map → yc, drop_eq_getElem_cons → yf, drop_eq_nil_of_le → yg, mem_cons → yj, mem_append → yB, not_mem_nil → yJ, take_append_getElem → yO, map_append → yR, mem_map_of_mem → yS
open Int renaming toNat_lt → y5
open Bool renaming and_eq_true → ye
namespace Go.Proofs.YtbnlmgncbgaepaaGreat
open Go
def q0P (n:Nat) (u:Int):Bool:=decide (u<0)||decide ((n:Int)<=u)
def q6h (l:List Typ) (k:Int):Int:=match l[k.toNat]? with
 | some t=>t.kind
 | none=>0
def q21 (l:List Typ) (i:Nat) (t:Typ):Int :=
 if q0W t=false then 1
 else if t.named=true/\t.name∈(l.take i).map Typ.name then 1
 else if t.usesL.any (q0P l.length)=true then 4
 else if t.kind=8/\¬ (1<=q6h l t.key/\q6h l t.key<=4) then 1
 else 0
def q1Q (l:List Typ):Nat->Nat->Int
 | 0,_=>0
 | n + 1,i=>match l[i]? with
  | some t=>if q21 l i t=0 then q1Q l n (i + 1) else q21 l i t
  | none=>0
def valid (l:List Typ):Int:=if 32<l.length then 3 else q1Q l l.length 0
theorem qau {l:List Typ} {i:Nat} (h:i<l.length):q1Q l (l.length - i) i=if q21 l i l[i]=0 then q1Q l (l.length - (i + 1)) (i + 1) else q21 l i l[i]:=by
 rw [show l.length - i=(l.length - (i + 1)) + 1 from by omega,q1Q,y6 h]
theorem q6f {t:Typ} (h:q0W t=true):1<=t.kind/\t.kind<=9:=by
 unfold q0W at h;rw [ye] at h;exact of_decide_eq_true h.1
theorem isName_ne {s:ByteArray} (h:q3T s=true):s≠⟨#[]⟩:=fun e=>by
 subst e;unfold q3T at h;simp only [ye] at h;have:=of_decide_eq_true h.1.1.1;exact this rfl
theorem good_named {t:Typ} (h:q0W t=true):t.named=true ↔ t.name≠⟨#[]⟩:=by
 have hk:=q6f h;unfold q0W q7b Typ.left at h;rcases kinds t.kind with e | e | e | e | e | e | e | e | e | e
 all_goals first | exact absurd hk e | skip
 all_goals simp [e,Typ.same,q1R,Typ.named] at h ⊢
 all_goals first | exact isName_ne h.1.1 | (simp [h]; done) | skip
theorem key_in {l:List Typ} {t:Typ} (h8:t.kind=8) (h:t.usesL.any (q0P l.length)=false):0<=t.key/\t.key<l.length:=by
 have hm:t.key∈t.usesL:=by simp [Typ.usesL,h8]
 have:=List.any_eq_false.1 h _ hm;simp [q0P] at this;omega
theorem seen_set2 (s:ByteArray):∀ l:List ByteArray,s∈l->q4S (l.map q7a) (.str s) (.bool true)=l.map q7a
 | [],h=>by cases h
 | x :: r,hn=>by
  by_cases h:x=s
  ·simp [q7a,q4S,qaC,h]
  ·have:=seen_set2 s r (by
    rcases yj.1 hn with e | e
    ·exact absurd e.symm h
    ·exact e)
   simp [q7a,q4S,qaC,h,this]
theorem seen_next (s:ByteArray) (q:List ByteArray):∃ q':List ByteArray,q4S (q.map q7a) (.str s) (.bool true)=q'.map q7a/\∀ x,x∈q' ↔ x∈q\/x=s:=by
 by_cases h:s∈q
 ·exact ⟨q,seen_set2 s q h,fun x=>⟨.inl,fun e=>e.elim id (fun e=>e ▸ h)⟩⟩
 ·exact ⟨q++[s],seen_set s q h,fun x=>by simp⟩
def Sch.fine (s:Sch):Prop:=s.types.length<=9223372036854775807/\∀ t∈s.types,t.fine
theorem vuses_lp (sn:Bool) (S:List Typ) (U:List Int) (hU:U.length<=9223372036854775807) (bu:Bool) (r:RV) (P:MSt->Prop) (hP:∀ s s':MSt,s'.mem=s.mem->s'.obj=s.obj->s'.next=s'.next->(∀ t,t ∉ [2,7,41,42,43,44,45,46,47,48,49,50,51,52,53,40]->s'.env t=s.env t)->P s->P s') (k:Ex->MSt->Option RV)
  (hk:∀ s',U.any (q0P S.length)=false->P s'->k (.exit 2) s'=some r) (hr:∀ s':MSt,U.any (q0P S.length)=true->(s'.env 2).v=.int .i64 4->k .ret s'=some r)
  (s:MSt) (hs:P s) (h1:(s.env 1).v=.ptr 1 1 0) (m1:s.mem 1 1=some [⟨.sl sn (S.map typC),.no⟩]) (oO:(s.env 38).v=.sl bu (U.map intC)) (pO:(s.env 39).v=.int .i64 U.length) (rO:(s.env 40).v=.int .i64 0):evL allT q01 q1H s k=some r:=by
 refine q0b U.length (fun i s=>P s/\(s.env 1).v=.ptr 1 1 0/\s.mem 1 1=some [⟨.sl sn (S.map typC),.no⟩]/\(s.env 38).v=.sl bu (U.map intC)/\(s.env 39).v=.int .i64 U.length/\(s.env 40).v=.int .i64 i/\(U.drop i).any (q0P S.length)=U.any (q0P S.length))
  (fun e s=>(e=.exit 2/\U.any (q0P S.length)=false/\P s)\/(e=.ret/\U.any (q0P S.length)=true/\(s.env 2).v=.int .i64 4)) (fun i hi s k h ih hk=>?_) _ _ ?_ (fun e s h=>?_)
 ·obtain ⟨hp,e1,m1,zF,xC,gG,hs⟩:=h;refine q02 ?_;by_cases da:i<U.length
  ·have fa:(i:Int)<U.length:=by omega
   have g1:(U.map intC)[i]?=some (intC U[i]):=by simp [da]
   have hw:=q0H (i:=i);rw [yf da,List.any_cons] at hs;generalize U[i]=u at *
   simp only [intC] at g1;by_cases c1:u<0
   ·simp [q1H,-y0,-y5,-y4,y3,e1,m1,zF,xC,gG,fa,g1,c1];exact hk _ _ (.inr ⟨rfl,by rw [<- hs]; simp [q0P,c1],by simp⟩)
   by_cases c2:(S.length:Int)<=u
   ·simp [q1H,-y0,-y5,-y4,y3,e1,m1,zF,xC,gG,fa,g1,c1,c2];exact hk _ _ (.inr ⟨rfl,by rw [<- hs]; simp [q0P,c2],by simp⟩)
   simp [q1H,-y0,-y5,-y4,y3,e1,m1,zF,xC,gG,fa,g1,c1,c2,hw];refine ih da _ ⟨hP s _ ?_ ?_ ?_ ?_ hp,?_,?_,?_,?_,?_,?_⟩
   ·rfl
   ·rfl
   ·rfl
   ·intro t ht;simp only [yj,yJ,or_false,not_or] at ht;simp [q4f,ht]
   ·simp [e1]
   ·simp [m1]
   ·simp [zF]
   ·simp [xC]
   ·simp
   ·rw [<- hs]; simp [q0P,c1,c2]
  ·have fa:¬ (i:Int)<U.length:=by omega
   simp [q1H,-y0,-y5,-y4,y3,xC,gG,fa];rw [yg (by omega)] at hs;refine hk _ _ (.inl ⟨rfl,hs.symm,hP s _ ?_ ?_ ?_ ?_ hp⟩)
   ·rfl
   ·rfl
   ·rfl
   ·intro t ht;simp only [yj,yJ,or_false,not_or] at ht;simp [q4f,ht]
 ·simp [hs,h1,m1,oO,pO,rO]
 ·rcases h with ⟨rfl,h1,h2⟩ | ⟨rfl,h1,h2⟩
  ·exact hk s h1 h2
  ·exact hr s h1 h2
theorem valid_ev (s:Sch) (hs:s.fine):evA 203 [.agg (schC s)] (.int .i64 (valid s.types)):=by
 obtain ⟨ja,ne⟩:=hs;refine q00 (c:=q3S) rfl rfl ?_;unfold valid;by_cases wv:32<s.types.length
 ·have zn:(32:Int)<s.types.length:=by omega
  simp [q3S,-y0,-y5,-y4,y3,schC,wv,zn]
 have zn:¬ (32:Int)<s.types.length:=by omega
 simp [q3S,-y0,-y5,-y4,y3,schC,wv,zn];refine q0b s.types.length (fun i σ=>(σ.env 1).v=.ptr 1 1 0/\σ.mem 1 1=some [⟨.sl s.nl (s.types.map typC),.no⟩]/\(σ.env 3).v=.mp 12 3/\(σ.env 14).v=.sl s.nl (s.types.map typC)/\(σ.env 15).v=.int .i64 s.types.length/\(σ.env 16).v=.int .i64 i/\(∃ q:List ByteArray,σ.obj 12 3=some (q60 (q.map q7a))/\∀ x,x∈q ↔ x∈(s.types.take i).map Typ.name)/\q1Q s.types (s.types.length - i) i=q1Q s.types s.types.length 0)
  (fun e σ=>(e=.exit 0/\q1Q s.types s.types.length 0=0)\/(e=.ret/\(σ.env 2).v=.int .i64 (q1Q s.types s.types.length 0))) (fun i hi σ k h ih hk=>?_) _ _ ?_ (fun e σ h=>?_)
 ·obtain ⟨e1,m1,e3,wr,se,zd,⟨q,o,hq⟩,hv⟩:=h;refine q02 ?_;by_cases da:i<s.types.length
  ·have fa:(i:Int)<s.types.length:=by omega
   have g1:(s.types.map typC)[i]?=some (typC s.types[i]):=by simp [da]
   have hw:=q0H (i:=i);have ht:s.types.take (i + 1)=s.types.take i++[s.types[i]]:=(yO da).symm;have hf:=form_ev s.types[i] (ne _ (y8 _));have hu:=uses_ev s.types[i] (ne _ (y8 _)).2.2 _ rfl;have cw:=(ne _ (y8 da)).2.2;rw [qau da] at hv;generalize s.types[i]=t at *
   have gL:t.usesL.length<=9223372036854775807:=by
    unfold Typ.usesL;by_cases h8:t.kind=8 <;> by_cases h7:7<=t.kind <;> simp [h8,h7] <;> omega
   simp only [evA,typC] at hf hu;simp only [typC] at g1;have hg:=seen_get t.name q;have uq:=seen_ok q;obtain ⟨q',eN,oa⟩:=seen_next t.name q;have err:∀ σ' n,q21 s.types i t=n->n≠0->(σ'.env 2).v=.int .i64 n->k .ret σ'=some (.int .i64 (q1Q s.types s.types.length 0),none):=fun σ' n h1 h2 h3=>hk _ _ (.inr ⟨rfl,by rw [h3,<- hv,h1,if_neg h2]⟩)
   cases c1:q0W t with
   | false =>
    rw [c1] at hf;simp [q0J,-y0,-y5,-y4,y3,e1,m1,e3,wr,se,zd,fa,g1,hf];exact err _ 1 (by simp [q21,c1]) (by decide) (by simp)
   | true =>
    rw [c1] at hf;have jb:=good_named c1;have dup:t.name≠⟨#[]⟩->t.name∈q->q0J.run (evC allT q01) (evK allT q01) σ (q8F (evL allT q01) q0J k)=some (.int .i64 (q1Q s.types s.types.length 0),none):=by
     intro hn jd;have hd:=eq_false hn;rw [if_pos jd] at hg;simp [q0J,-y0,-y5,-y4,y3,e1,m1,e3,wr,se,zd,fa,g1,hf,hd,o,q46,uq,q5W,AV.flat,AV.scal,hg];exact err _ 1 (by unfold q21; rw [if_neg (by simp [c1]),if_pos ⟨jb.2 hn,(hq _).1 jd⟩]) (by decide) (by simp)
    have go:(t.name=⟨#[]⟩\/t.name≠⟨#[]⟩/\¬ t.name∈q)->q0J.run (evC allT q01) (evK allT q01) σ (q8F (evL allT q01) q0J k)=some (.int .i64 (q1Q s.types s.types.length 0),none):=by
     intro hn;have c2:¬ (t.named=true/\t.name∈(s.types.take i).map Typ.name):=fun ⟨h1,h2⟩=>by
      rcases hn with hn | hn
      ·exact (jb.1 h1) hn
      ·exact hn.2 ((hq _).2 h2)
     have fin:∀ (σ':MSt) (k':Ex->MSt->Option RV) (p:Nat),(∀ σ2:MSt,(σ2.env 2).v=.int .i64 4->k' .ret σ2=k .ret σ2) →
       (∀ σ2:MSt,(σ2.env 1).v=.ptr 1 1 0->σ2.mem 1 1=some [⟨.sl s.nl (s.types.map typC),.no⟩]->(σ2.env 3).v=.mp 12 3->(σ2.env 14).v=.sl s.nl (s.types.map typC)->(σ2.env 15).v=.int .i64 s.types.length->(σ2.env 16).v=.int .i64 i->σ2.obj 12 3=some (q60 (q'.map q7a))->(σ2.env 5).v=.ptr 5 p 0->σ2.mem 5 p=some (q0e t)->t.usesL.any (q0P s.types.length)=false->k' (.exit 2) σ2=some (.int .i64 (q1Q s.types s.types.length 0),none)) →
       (σ'.env 1).v=.ptr 1 1 0->σ'.mem 1 1=some [⟨.sl s.nl (s.types.map typC),.no⟩]->(σ'.env 3).v=.mp 12 3->(σ'.env 14).v=.sl s.nl (s.types.map typC)->(σ'.env 15).v=.int .i64 s.types.length->(σ'.env 16).v=.int .i64 i->σ'.obj 12 3=some (q60 (q'.map q7a))->(σ'.env 5).v=.ptr 5 p 0->σ'.mem 5 p=some (q0e t)->(σ'.env 38).v=.sl t.usesL.isEmpty (t.usesL.map intC)->(σ'.env 39).v=.int .i64 t.usesL.length->(σ'.env 40).v=.int .i64 0->evL allT q01 q1H σ' k'=some (.int .i64 (q1Q s.types s.types.length 0),none):=by
      intro σ' k' p pK sq f1 fm f3 xj lj zj fo f5 fp dO aO bO;refine vuses_lp s.nl s.types t.usesL gL t.usesL.isEmpty _ (fun σ2=>(σ2.env 1).v=.ptr 1 1 0/\σ2.mem 1 1=some [⟨.sl s.nl (s.types.map typC),.no⟩]/\(σ2.env 3).v=.mp 12 3/\(σ2.env 14).v=.sl s.nl (s.types.map typC)/\(σ2.env 15).v=.int .i64 s.types.length/\(σ2.env 16).v=.int .i64 i/\σ2.obj 12 3=some (q60 (q'.map q7a))/\(σ2.env 5).v=.ptr 5 p 0/\σ2.mem 5 p=some (q0e t)) (fun a b hm ho _ he h=>?_) k' (fun σ2 hu h=>?_) (fun σ2 hu h2=>?_) σ' ⟨f1,fm,f3,xj,lj,zj,fo,f5,fp⟩ f1 fm dO aO bO
      ·rw [hm,ho,he 1 (by decide),he 3 (by decide),he 14 (by decide),he 15 (by decide),he 16 (by decide),he 5 (by decide)];exact h
      ·obtain ⟨f1,fm,f3,xj,lj,zj,fo,f5,fp⟩:=h;exact sq σ2 f1 fm f3 xj lj zj fo f5 fp hu
      ·rw [pK σ2 h2];exact err _ 4 (by unfold q21; rw [if_neg (by simp [c1]),if_neg c2,if_pos hu]) (by decide) h2
     have key:t.usesL.any (q0P s.types.length)=false->t.kind=8->0<=t.key/\∃ y:Typ,(s.types.map typC)[t.key.toNat]?=some (typC y)/\q6h s.types t.key=y.kind:=fun hu h8=>by
      obtain ⟨h1,h2⟩:=key_in h8 hu;have h3:t.key.toNat<s.types.length:=by omega
      exact ⟨h1,s.types[t.key.toNat],by rw [yc,y6 h3]; rfl,by unfold q6h; rw [y6 h3]⟩
     have next:q21 s.types i t=0->∀ σ2:MSt,(σ2.env 1).v=.ptr 1 1 0->σ2.mem 1 1=some [⟨.sl s.nl (s.types.map typC),.no⟩]->(σ2.env 3).v=.mp 12 3->(σ2.env 14).v=.sl s.nl (s.types.map typC)->(σ2.env 15).v=.int .i64 s.types.length->(σ2.env 16).v=.int .i64 ((i + 1:Nat):Int)->σ2.obj 12 3=some (q60 (q'.map q7a))->evL allT q01 q0J σ2 k=some (.int .i64 (q1Q s.types s.types.length 0),none):=fun h0 σ2 f1 fm f3 xj lj zj fo=>ih da _ ⟨f1,fm,f3,xj,lj,zj,⟨q',fo,fun x=>by rw [oa,ht,yR,yB,hq]; simp⟩,by rw [<- hv,h0]; rfl⟩
     have pQ:t.name=⟨#[]⟩\/t.name≠⟨#[]⟩/\q6j (q.map q7a) (.str t.name)=none:=by
      rcases hn with hn | ⟨h1,h2⟩
      ·exact .inl hn
      ·exact .inr ⟨h1,by rw [hg,if_neg h2]⟩
     rcases pQ with hd | ⟨hd,hg⟩
     ·have hd:=eq_true hd;simp [q0J,-y0,-y5,-y4,y3,e1,m1,e3,wr,se,zd,fa,g1,hf,hu,hd,o,q46,uq,q5W,AV.flat,AV.scal,eN];refine fin _ _ (σ.next + 1) (fun σ2 _=>rfl) (fun σ2 f1 fm f3 xj lj zj fo f5 fp sd=>?_) ?_ ?_ ?_ ?_ ?_ ?_ ?_ ?_ ?_ ?_ ?_ ?_
      rotate_left
      ·simp [e1]
      ·simp [m1]
      ·simp [e3]
      ·simp [wr]
      ·simp [se]
      ·simp [zd]
      ·simp
      ·simp
      ·simp
      ·simp
      ·simp
      ·simp
      have c3:=sd;by_cases h8:t.kind=8
      ·obtain ⟨jl,y,gy,hy⟩:=key sd h8;simp only [typC] at gy;by_cases c4:y.kind<1
       ·simp [-y0,-y5,-y4,y3,f1,fm,f5,fp,h8,jl,gy,c4];exact err _ 1 (by unfold q21; rw [if_neg (by simp [c1]),if_neg c2,if_neg (by simp [c3]),if_pos ⟨h8,by rw [hy]; omega⟩]) (by decide) (by simp)
       ·by_cases c5:4<y.kind
        ·simp [-y0,-y5,-y4,y3,f1,fm,f5,fp,h8,jl,gy,c4,c5];exact err _ 1 (by unfold q21; rw [if_neg (by simp [c1]),if_neg c2,if_neg (by simp [c3]),if_pos ⟨h8,by rw [hy]; omega⟩]) (by decide) (by simp)
        ·simp [-y0,-y5,-y4,y3,f1,fm,f5,fp,zj,h8,jl,gy,c4,c5,hw];refine next (by unfold q21; rw [if_neg (by simp [c1]),if_neg c2,if_neg (by simp [c3]),if_neg fun h=>h.2 (by rw [hy]; omega)]) _ ?_ ?_ ?_ ?_ ?_ ?_ ?_ <;> simp [f1,fm,f3,xj,lj,fo]
      ·simp [-y0,-y5,-y4,y3,f1,fm,f5,fp,zj,h8,hw];refine next (by unfold q21; rw [if_neg (by simp [c1]),if_neg c2,if_neg (by simp [c3]),if_neg fun h=>h8 h.1]) _ ?_ ?_ ?_ ?_ ?_ ?_ ?_ <;> simp [f1,fm,f3,xj,lj,fo]
     ·have hd:=eq_false hd;simp [q0J,-y0,-y5,-y4,y3,e1,m1,e3,wr,se,zd,fa,g1,hf,hu,hd,hg,o,q46,uq,q5W,AV.flat,AV.scal,eN];refine fin _ _ (σ.next + 1) (fun σ2 _=>rfl) (fun σ2 f1 fm f3 xj lj zj fo f5 fp sd=>?_) ?_ ?_ ?_ ?_ ?_ ?_ ?_ ?_ ?_ ?_ ?_ ?_
      rotate_left
      ·simp [e1]
      ·simp [m1]
      ·simp [e3]
      ·simp [wr]
      ·simp [se]
      ·simp [zd]
      ·simp
      ·simp
      ·simp
      ·simp
      ·simp
      ·simp
      have c3:=sd;by_cases h8:t.kind=8
      ·obtain ⟨jl,y,gy,hy⟩:=key sd h8;simp only [typC] at gy;by_cases c4:y.kind<1
       ·simp [-y0,-y5,-y4,y3,f1,fm,f5,fp,h8,jl,gy,c4];exact err _ 1 (by unfold q21; rw [if_neg (by simp [c1]),if_neg c2,if_neg (by simp [c3]),if_pos ⟨h8,by rw [hy]; omega⟩]) (by decide) (by simp)
       ·by_cases c5:4<y.kind
        ·simp [-y0,-y5,-y4,y3,f1,fm,f5,fp,h8,jl,gy,c4,c5];exact err _ 1 (by unfold q21; rw [if_neg (by simp [c1]),if_neg c2,if_neg (by simp [c3]),if_pos ⟨h8,by rw [hy]; omega⟩]) (by decide) (by simp)
        ·simp [-y0,-y5,-y4,y3,f1,fm,f5,fp,zj,h8,jl,gy,c4,c5,hw];refine next (by unfold q21; rw [if_neg (by simp [c1]),if_neg c2,if_neg (by simp [c3]),if_neg fun h=>h.2 (by rw [hy]; omega)]) _ ?_ ?_ ?_ ?_ ?_ ?_ ?_ <;> simp [f1,fm,f3,xj,lj,fo]
      ·simp [-y0,-y5,-y4,y3,f1,fm,f5,fp,zj,h8,hw];refine next (by unfold q21; rw [if_neg (by simp [c1]),if_neg c2,if_neg (by simp [c3]),if_neg fun h=>h8 h.1]) _ ?_ ?_ ?_ ?_ ?_ ?_ ?_ <;> simp [f1,fm,f3,xj,lj,fo]
    by_cases jd:t.name≠⟨#[]⟩/\t.name∈q
    ·exact dup jd.1 jd.2
    ·refine go ?_;by_cases he:t.name=⟨#[]⟩
     ·exact .inl he
     ·exact .inr ⟨he,fun h=>jd ⟨he,h⟩⟩
  ·have fa:¬ (i:Int)<s.types.length:=by omega
   simp [q0J,-y0,-y5,-y4,y3,se,zd,fa];refine hk _ _ (.inl ⟨rfl,?_⟩);rw [<- hv,show s.types.length - i=0 from by omega,q1Q]
 ·refine ⟨?_,?_,?_,?_,?_,?_,⟨[],?_,?_⟩,?_⟩ <;> simp [q60]
 ·rcases h with ⟨rfl,h1⟩ | ⟨rfl,h1⟩
  ·simp [-y0,-y5,-y4,y3,h1]
  ·simp [-y0,-y5,-y4,y3,h1]
def idxI {α:Type} (p:α->Bool):List α->Int
 | []=>-1
 | x :: r=>if p x=true then 0 else if idxI p r=-1 then -1 else idxI p r + 1
theorem q33 {α:Type} (p:α->Bool):∀ l:List α,-1<=idxI p l
 | []=>by simp [idxI]
 | x :: r=>by
  have:=q33 p r;simp only [idxI];split
  ·omega
  ·split <;> omega
theorem q6g {α:Type} (p:α->Bool) (x:α) (r:List α) (h:p x=false):idxI p (x :: r)=if idxI p r=-1 then -1 else idxI p r + 1:=by simp [idxI,h]
theorem q9f {α:Type} (p:α->Bool):∀ l:List α,idxI p l≠-1->∃ x,l[(idxI p l).toNat]?=some x/\p x=true
 | [],h=>absurd rfl h
 | x :: r,h=>by
  simp only [idxI] at h ⊢;by_cases hx:p x=true
  ·rw [if_pos hx]; exact ⟨x,rfl,hx⟩
  ·rw [if_neg hx] at h ⊢;by_cases h1:idxI p r=-1
   ·rw [if_pos h1] at h; exact absurd rfl h
   ·rw [if_neg h1];obtain ⟨y,h2,h3⟩:=q9f p r h1;have:=q33 p r;refine ⟨y,?_,h3⟩;rw [show (idxI p r + 1).toNat=(idxI p r).toNat + 1 from by omega,List.getElem?_cons_succ];exact h2
theorem qb7 {α:Type} (p:α->Bool):∀ l:List α,(decide (0<=idxI p l))=l.any p
 | []=>by simp [idxI]
 | x :: r=>by
  have h1:=qb7 p r;have h2:=q33 p r;rw [List.any_cons,<- h1];simp only [idxI];by_cases hx:p x=true
  ·simp [hx]
  ·by_cases h:idxI p r=-1
   ·simp [hx,h]
   ·simp [hx,h]; omega
theorem indexf_Mem_ev (F:Nat) (caps:List AV) (l:List Mem) (p:Mem->Bool) (hl:l.length<=9223372036854775807) (og:∀ (s:MSt) (cl:Cl),q2I s cl caps=some caps) (hF:∀ x∈l,evA F (.agg (memC x) :: caps) (.bool (p x))) (b:Bool):evA 159 [.sl b (l.map memC),.fn F caps] (.int .i64 (idxI p l)):=by
 refine q00 (c:=q1i) rfl rfl ?_;simp [q1i,-y0,-y5,-y4,y3];refine q0b l.length (fun i s=>(s.env 0).v=.sl b (l.map memC)/\(s.env 1).v=.fn F caps/\(s.env 7).v=.int .i64 l.length/\(s.env 8).v=.int .i64 i/\idxI p l=(if idxI p (l.drop i)=-1 then -1 else idxI p (l.drop i) + i))
  (fun e s=>(e=.exit 0/\idxI p l=-1)\/(e=.ret/\(s.env 4).v=.int .i64 (idxI p l))) (fun i hi s k h ih hk=>?_) _ _ ?_ (fun e s h=>?_)
 ·obtain ⟨e0,e1,e7,e8,hs⟩:=h;refine q02 ?_;by_cases da:i<l.length
  ·have fa:(i:Int)<l.length:=by omega
   have g1:(l.map memC)[i]?=some (memC l[i]):=by simp [da]
   have hw:=q0H (i:=i);have hx:=hF l[i] (y8 _);rw [yf da] at hs;generalize l[i]=x at *
   simp only [evA,memC] at g1 hx;cases hp:p x with
   | true =>
    rw [hp] at hx;simp [q12,-y0,-y5,-y4,y3,e0,e1,e7,e8,fa,g1,og,hx];refine hk _ _ (.inr ⟨rfl,?_⟩);simp [hs,idxI,hp]
   | false =>
    rw [hp] at hx;simp [q12,-y0,-y5,-y4,y3,e0,e1,e7,e8,fa,g1,og,hx,hw];refine ih da _ ⟨?_,?_,?_,?_,?_⟩
    ·simp [e0]
    ·simp [e1]
    ·simp [e7]
    ·simp
    ·rw [hs,q6g p x _ hp];have:=q33 p (l.drop (i + 1));by_cases h1:idxI p (l.drop (i + 1))=-1
     ·simp [h1]
     ·have h2:¬ idxI p (l.drop (i + 1)) + 1=-1:=by omega
      rw [if_neg h1,if_neg h2,if_neg h1];omega
  ·have fa:¬ (i:Int)<l.length:=by omega
   simp [q12,-y0,-y5,-y4,y3,e7,e8,fa];rw [yg (by omega)] at hs;exact hk _ _ (.inl ⟨rfl,hs⟩)
 ·have:=q33 p l;by_cases h1:idxI p l=-1 <;> simp [h1]
 ·rcases h with ⟨rfl,h1⟩ | ⟨rfl,h1⟩ <;> simp [-y0,-y5,-y4,y3,h1]
theorem indexf_Sym_ev (F:Nat) (caps:List AV) (l:List Sym) (p:Sym->Bool) (hl:l.length<=9223372036854775807) (og:∀ (s:MSt) (cl:Cl),q2I s cl caps=some caps) (hF:∀ x∈l,evA F (.agg (symC x) :: caps) (.bool (p x))) (b:Bool):evA 192 [.sl b (l.map symC),.fn F caps] (.int .i64 (idxI p l)):=by
 refine q00 (c:=q1j) rfl rfl ?_;simp [q1j,-y0,-y5,-y4,y3];refine q0b l.length (fun i s=>(s.env 0).v=.sl b (l.map symC)/\(s.env 1).v=.fn F caps/\(s.env 7).v=.int .i64 l.length/\(s.env 8).v=.int .i64 i/\idxI p l=(if idxI p (l.drop i)=-1 then -1 else idxI p (l.drop i) + i))
  (fun e s=>(e=.exit 0/\idxI p l=-1)\/(e=.ret/\(s.env 4).v=.int .i64 (idxI p l))) (fun i hi s k h ih hk=>?_) _ _ ?_ (fun e s h=>?_)
 ·obtain ⟨e0,e1,e7,e8,hs⟩:=h;refine q02 ?_;by_cases da:i<l.length
  ·have fa:(i:Int)<l.length:=by omega
   have g1:(l.map symC)[i]?=some (symC l[i]):=by simp [da]
   have hw:=q0H (i:=i);have hx:=hF l[i] (y8 _);rw [yf da] at hs;generalize l[i]=x at *
   simp only [evA,symC] at g1 hx;cases hp:p x with
   | true =>
    rw [hp] at hx;simp [q13,-y0,-y5,-y4,y3,e0,e1,e7,e8,fa,g1,og,hx];refine hk _ _ (.inr ⟨rfl,?_⟩);simp [hs,idxI,hp]
   | false =>
    rw [hp] at hx;simp [q13,-y0,-y5,-y4,y3,e0,e1,e7,e8,fa,g1,og,hx,hw];refine ih da _ ⟨?_,?_,?_,?_,?_⟩
    ·simp [e0]
    ·simp [e1]
    ·simp [e7]
    ·simp
    ·rw [hs,q6g p x _ hp];have:=q33 p (l.drop (i + 1));by_cases h1:idxI p (l.drop (i + 1))=-1
     ·simp [h1]
     ·have h2:¬ idxI p (l.drop (i + 1)) + 1=-1:=by omega
      rw [if_neg h1,if_neg h2,if_neg h1];omega
  ·have fa:¬ (i:Int)<l.length:=by omega
   simp [q13,-y0,-y5,-y4,y3,e7,e8,fa];rw [yg (by omega)] at hs;exact hk _ _ (.inl ⟨rfl,hs⟩)
 ·have:=q33 p l;by_cases h1:idxI p l=-1 <;> simp [h1]
 ·rcases h with ⟨rfl,h1⟩ | ⟨rfl,h1⟩ <;> simp [-y0,-y5,-y4,y3,h1]
theorem indexf_Vl_ev (F:Nat) (caps:List AV) (l:List Vl) (p:Vl->Bool) (hl:l.length<=9223372036854775807) (og:∀ (s:MSt) (cl:Cl),q2I s cl caps=some caps) (hF:∀ x∈l,evA F (.agg (valC x) :: caps) (.bool (p x))) (b:Bool):evA 266 [.sl b (l.map valC),.fn F caps] (.int .i64 (idxI p l)):=by
 refine q00 (c:=q1r) rfl rfl ?_;simp [q1r,-y0,-y5,-y4,y3];refine q0b l.length (fun i s=>(s.env 0).v=.sl b (l.map valC)/\(s.env 1).v=.fn F caps/\(s.env 7).v=.int .i64 l.length/\(s.env 8).v=.int .i64 i/\idxI p l=(if idxI p (l.drop i)=-1 then -1 else idxI p (l.drop i) + i))
  (fun e s=>(e=.exit 0/\idxI p l=-1)\/(e=.ret/\(s.env 4).v=.int .i64 (idxI p l))) (fun i hi s k h ih hk=>?_) _ _ ?_ (fun e s h=>?_)
 ·obtain ⟨e0,e1,e7,e8,hs⟩:=h;refine q02 ?_;by_cases da:i<l.length
  ·have fa:(i:Int)<l.length:=by omega
   have g1:(l.map valC)[i]?=some (valC l[i]):=by simp [da]
   have hw:=q0H (i:=i);have hx:=hF l[i] (y8 _);rw [yf da] at hs;generalize l[i]=x at *
   simp only [evA,q04] at g1 hx;cases hp:p x with
   | true =>
    rw [hp] at hx;simp [q19,-y0,-y5,-y4,y3,e0,e1,e7,e8,fa,g1,og,hx];refine hk _ _ (.inr ⟨rfl,?_⟩);simp [hs,idxI,hp]
   | false =>
    rw [hp] at hx;simp [q19,-y0,-y5,-y4,y3,e0,e1,e7,e8,fa,g1,og,hx,hw];refine ih da _ ⟨?_,?_,?_,?_,?_⟩
    ·simp [e0]
    ·simp [e1]
    ·simp [e7]
    ·simp
    ·rw [hs,q6g p x _ hp];have:=q33 p (l.drop (i + 1));by_cases h1:idxI p (l.drop (i + 1))=-1
     ·simp [h1]
     ·have h2:¬ idxI p (l.drop (i + 1)) + 1=-1:=by omega
      rw [if_neg h1,if_neg h2,if_neg h1];omega
  ·have fa:¬ (i:Int)<l.length:=by omega
   simp [q19,-y0,-y5,-y4,y3,e7,e8,fa];rw [yg (by omega)] at hs;exact hk _ _ (.inl ⟨rfl,hs⟩)
 ·have:=q33 p l;by_cases h1:idxI p l=-1 <;> simp [h1]
 ·rcases h with ⟨rfl,h1⟩ | ⟨rfl,h1⟩ <;> simp [-y0,-y5,-y4,y3,h1]
theorem mem1_ev (x:Mem) (id:Int):evA 160 [.agg (memC x),.bp [.int .i64 id]] (.bool (decide (x.id=id))):=by
 refine q00 (c:=q3m) rfl rfl ?_;simp [q3m,-y0,-y5,-y4,y3,memC]
def q1o (l:List Mem) (id:Int):Int:=idxI (fun x=>decide (x.id=id)) l
def memA (l:List Mem) (id:Int):AV:=.tup [.int .i64 (max (q1o l id) 0),.bool (decide (0<=q1o l id))]
theorem mem_ev (t:Typ) (id:Int) (hl:t.mems.length<=9223372036854775807):evA 137 [.agg (typC t),.int .i64 id] (memA t.mems id):=by
 refine q00 (c:=q4E) rfl rfl ?_;have h:=indexf_Mem_ev 160 [.bp [.int .i64 id]] t.mems (fun x=>decide (x.id=id)) hl (fun _ _=>rfl) (fun x _=>mem1_ev x id) t.mn;simp only [evA] at h;unfold memA q1o;simp [q4E,-y0,-y5,-y4,y3,typC,h]
theorem rmem_ev (t:Typ) (id:Int) (hl:t.mems.length<=9223372036854775807):evA 99 [.agg (typC t),.int .i64 id] (memA t.mems id):=by
 refine q00 (c:=q51) rfl rfl ?_;obtain ⟨p,hp⟩:∃ p:Mem->Bool,p=fun x=>decide (x.id=id):=⟨_,rfl⟩
 unfold memA q1o;rw [<- hp];simp [q51,-y0,-y5,-y4,y3,typC];refine q0b t.mems.length (fun i s=>(s.env 1).v=.int .i64 id/\(s.env 2).v=.ptr 2 1 0/\s.mem 2 1=some (q0e t)/\(s.env 6).v=.int .i64 i/\idxI p t.mems=(if idxI p (t.mems.drop i)=-1 then -1 else idxI p (t.mems.drop i) + i))
  (fun e s=>(e=.exit 0/\idxI p t.mems=-1)\/(e=.ret/\0<=idxI p t.mems/\(s.env 4).v=.int .i64 (idxI p t.mems)/\(s.env 5).v=.bool true)) (fun i hi s k h ih hk=>?_) _ _ ?_ (fun e s h=>?_)
 ·obtain ⟨e1,e2,m2,e6,hs⟩:=h;refine q02 ?_;by_cases da:i<t.mems.length
  ·have fa:(i:Int)<t.mems.length:=by omega
   have g1:(t.mems.map memC)[i]?=some (memC t.mems[i]):=by simp [da]
   have hw:=q0H (i:=i);rw [yf da] at hs;generalize t.mems[i]=x at *
   simp only [memC] at g1;by_cases hx:x.id=id
   ·simp [q3E,-y0,-y5,-y4,y3,e1,e2,m2,e6,fa,g1,hx];have fy:p x=true:=by rw [hp]; exact decide_eq_true hx
    refine hk _ _ (.inr ⟨rfl,?_,?_,?_⟩)
    ·rw [hs]; simp [idxI,fy]
    ·simp [hs,idxI,fy]
    ·simp
   ·have fy:p x=false:=by rw [hp]; exact decide_eq_false hx
    simp [q3E,-y0,-y5,-y4,y3,e1,e2,m2,e6,fa,g1,hx,hw];refine ih da _ ⟨?_,?_,?_,?_,?_⟩
    ·simp [e1]
    ·simp [e2]
    ·simp [m2]
    ·simp
    ·rw [hs,q6g p x _ fy];have:=q33 p (t.mems.drop (i + 1));by_cases h1:idxI p (t.mems.drop (i + 1))=-1
     ·simp [h1]
     ·have h2:¬ idxI p (t.mems.drop (i + 1)) + 1=-1:=by omega
      rw [if_neg h1,if_neg h2,if_neg h1];omega
  ·have fa:¬ (i:Int)<t.mems.length:=by omega
   simp [q3E,-y0,-y5,-y4,y3,e2,m2,e6,fa];rw [yg (by omega)] at hs;exact hk _ _ (.inl ⟨rfl,hs⟩)
 ·have:=q33 p t.mems;by_cases h1:idxI p t.mems=-1 <;> simp [h1]
 ·rcases h with ⟨rfl,h1⟩ | ⟨rfl,h0,h1,h2⟩
  ·simp [-y0,-y5,-y4,y3,h1];rfl
  ·simp [-y0,-y5,-y4,y3,h1,h2,h0,Int.max_eq_left h0]
theorem sym1_ev (x:Sym) (id:Int):evA 193 [.agg (symC x),.bp [.int .i64 id]] (.bool (decide (x.id=id))):=by
 refine q00 (c:=q3n) rfl rfl ?_;simp [q3n,-y0,-y5,-y4,y3,symC]
def q5E (l:List Sym) (id:Int):Int:=idxI (fun x=>decide (x.id=id)) l
def symA (l:List Sym) (id:Int):AV:=.tup [.int .i64 (max (q5E l id) 0),.bool (decide (0<=q5E l id))]
theorem sym_ev (t:Typ) (id:Int) (hl:t.syms.length<=9223372036854775807):evA 154 [.agg (typC t),.int .i64 id] (symA t.syms id):=by
 refine q00 (c:=q4F) rfl rfl ?_;have h:=indexf_Sym_ev 193 [.bp [.int .i64 id]] t.syms (fun x=>decide (x.id=id)) hl (fun _ _=>rfl) (fun x _=>sym1_ev x id) t.sn;simp only [evA] at h;unfold symA q5E;simp [q4F,-y0,-y5,-y4,y3,typC,h]
theorem rsym_ev (t:Typ) (id:Int) (hl:t.syms.length<=9223372036854775807):evA 123 [.agg (typC t),.int .i64 id] (symA t.syms id):=by
 refine q00 (c:=q52) rfl rfl ?_;obtain ⟨p,hp⟩:∃ p:Sym->Bool,p=fun x=>decide (x.id=id):=⟨_,rfl⟩
 unfold symA q5E;rw [<- hp];simp [q52,-y0,-y5,-y4,y3,typC];refine q0b t.syms.length (fun i s=>(s.env 1).v=.int .i64 id/\(s.env 2).v=.ptr 2 1 0/\s.mem 2 1=some (q0e t)/\(s.env 6).v=.int .i64 i/\idxI p t.syms=(if idxI p (t.syms.drop i)=-1 then -1 else idxI p (t.syms.drop i) + i))
  (fun e s=>(e=.exit 0/\idxI p t.syms=-1)\/(e=.ret/\0<=idxI p t.syms/\(s.env 4).v=.int .i64 (idxI p t.syms)/\(s.env 5).v=.bool true)) (fun i hi s k h ih hk=>?_) _ _ ?_ (fun e s h=>?_)
 ·obtain ⟨e1,e2,m2,e6,hs⟩:=h;refine q02 ?_;by_cases da:i<t.syms.length
  ·have fa:(i:Int)<t.syms.length:=by omega
   have g1:(t.syms.map symC)[i]?=some (symC t.syms[i]):=by simp [da]
   have hw:=q0H (i:=i);rw [yf da] at hs;generalize t.syms[i]=x at *
   simp only [symC] at g1;by_cases hx:x.id=id
   ·simp [q3G,-y0,-y5,-y4,y3,e1,e2,m2,e6,fa,g1,hx];have fy:p x=true:=by rw [hp]; exact decide_eq_true hx
    refine hk _ _ (.inr ⟨rfl,?_,?_,?_⟩)
    ·rw [hs]; simp [idxI,fy]
    ·simp [hs,idxI,fy]
    ·simp
   ·have fy:p x=false:=by rw [hp]; exact decide_eq_false hx
    simp [q3G,-y0,-y5,-y4,y3,e1,e2,m2,e6,fa,g1,hx,hw];refine ih da _ ⟨?_,?_,?_,?_,?_⟩
    ·simp [e1]
    ·simp [e2]
    ·simp [m2]
    ·simp
    ·rw [hs,q6g p x _ fy];have:=q33 p (t.syms.drop (i + 1));by_cases h1:idxI p (t.syms.drop (i + 1))=-1
     ·simp [h1]
     ·have h2:¬ idxI p (t.syms.drop (i + 1)) + 1=-1:=by omega
      rw [if_neg h1,if_neg h2,if_neg h1];omega
  ·have fa:¬ (i:Int)<t.syms.length:=by omega
   simp [q3G,-y0,-y5,-y4,y3,e2,m2,e6,fa];rw [yg (by omega)] at hs;exact hk _ _ (.inl ⟨rfl,hs⟩)
 ·have:=q33 p t.syms;by_cases h1:idxI p t.syms=-1 <;> simp [h1]
 ·rcases h with ⟨rfl,h1⟩ | ⟨rfl,h0,h1,h2⟩
  ·simp [-y0,-y5,-y4,y3,h1];rfl
  ·simp [-y0,-y5,-y4,y3,h1,h2,h0,Int.max_eq_left h0]
theorem rnames_lp (sn:Bool) (S:List Typ) (i:Nat) (sQ:i<S.length) (hS:S.length<=9223372036854775807) (t:Typ) (p:Nat) (r:RV) (P:MSt->Prop) (hP:∀ s s':MSt,s'.mem=s.mem->s'.obj=s.obj->(∀ t,t ∉ [2,5,27,28,29,30,31,32,33,34,35,36,37,38,39,40,41,42,43,44,45]->s'.env t=s.env t)->P s->P s') (k:Ex->MSt->Option RV)
  (hk:∀ s',¬ (t.named=true/\t.name∈(S.take i).map Typ.name)->P s'->k (.exit 2) s'=some r) (hr:∀ s':MSt,t.named=true/\t.name∈(S.take i).map Typ.name->(s'.env 2).v=.int .i64 1->k .ret s'=some r)
  (s:MSt) (hs:P s) (h1:(s.env 1).v=.ptr 1 1 0) (m1:s.mem 1 1=some [⟨.sl sn (S.map typC),.no⟩]) (h3:(s.env 3).v=.int .i64 i) (h4:(s.env 4).v=.ptr 4 p 0) (m4:s.mem 4 p=some (q0e t)) (h5:(s.env 5).v=.int .i64 0):evL allT q01 q1W s k=some r:=by
 have jb:=q1V t.kind;change evA _ _ (.bool t.named) at jb;simp only [evA] at jb;refine q0b i (fun j s=>P s/\(s.env 1).v=.ptr 1 1 0/\s.mem 1 1=some [⟨.sl sn (S.map typC),.no⟩]/\(s.env 3).v=.int .i64 i/\(s.env 4).v=.ptr 4 p 0/\s.mem 4 p=some (q0e t)/\(s.env 5).v=.int .i64 j/\¬ (t.named=true/\t.name∈(S.take j).map Typ.name))
  (fun e s=>(e=.exit 2/\¬ (t.named=true/\t.name∈(S.take i).map Typ.name)/\P s)\/(e=.ret/\(t.named=true/\t.name∈(S.take i).map Typ.name)/\(s.env 2).v=.int .i64 1)) (fun j hj s k h ih hk=>?_) _ _ ?_ (fun e s h=>?_)
 ·obtain ⟨hp,e1,m1,e3,e4,m4,e5,hs⟩:=h;refine q02 ?_;by_cases da:j<i
  ·have fa:(j:Int)<i:=by omega
   have fH:j<S.length:=by omega
   have g1:(S.map typC)[j]?=some (typC S[j]):=by simp [fH]
   have hw:=q0H (i:=j);have ht:S.take (j + 1)=S.take j++[S[j]]:=(yO fH).symm;have oa:S[j]∈S.take i:=List.mem_take_iff_getElem.2 ⟨j,by omega,rfl⟩;generalize S[j]=u at *
   simp only [typC] at g1;have nxt:∀ s',s'.mem=s.mem->s'.obj=s.obj->(∀ t,t ∉ [2,5,27,28,29,30,31,32,33,34,35,36,37,38,39,40,41,42,43,44,45]->s'.env t=s.env t)->(s'.env 5).v=.int .i64 ((j + 1:Nat):Int)->¬ (t.named=true/\u.name=t.name)->evL allT q01 q1W s' k=some r:=fun s' hm ho he h5 hn=>by
    refine ih da _ ⟨hP s s' hm ho he hp,?_,?_,?_,?_,?_,h5,?_⟩
    ·rw [he 1 (by decide)]; exact e1
    ·rw [hm]; exact m1
    ·rw [he 3 (by decide)]; exact e3
    ·rw [he 4 (by decide)]; exact e4
    ·rw [hm]; exact m4
    ·rw [ht,yR,yB];rintro ⟨h1,h2 | h2⟩
     ·exact hs ⟨h1,h2⟩
     ·simp at h2; exact hn ⟨h1,h2.symm⟩
   cases hb:t.named with
   | false =>
    rw [hb] at jb;simp [q1W,-y0,-y5,-y4,y3,e1,m1,e3,e4,m4,e5,fa,g1,jb,hw];refine nxt _ rfl rfl ?_ ?_ (by simp [hb])
    ·intro t ht;simp only [yj,yJ,or_false,not_or] at ht;simp [q4f,ht]
    ·simp
   | true =>
    rw [hb] at jb;by_cases na:u.name=t.name
    ·simp [q1W,-y0,-y5,-y4,y3,e1,m1,e3,e4,m4,e5,fa,g1,jb,na];exact hk _ _ (.inr ⟨rfl,⟨hb,na ▸ yS oa⟩,by simp⟩)
    ·simp [q1W,-y0,-y5,-y4,y3,e1,m1,e3,e4,m4,e5,fa,g1,jb,na,hw];refine nxt _ rfl rfl ?_ ?_ (by simp [na])
     ·intro t ht;simp only [yj,yJ,or_false,not_or] at ht;simp [q4f,ht]
     ·simp
  ·have fa:¬ (j:Int)<i:=by omega
   have dC:j=i:=by omega
   simp [q1W,-y0,-y5,-y4,y3,e3,e5,fa];refine hk _ _ (.inl ⟨rfl,dC ▸ hs,hP s _ rfl rfl ?_ hp⟩);intro t ht;simp only [yj,yJ,or_false,not_or] at ht;simp [q4f,ht]
 ·simp [hs,h1,m1,h3,h4,m4,h5]
 ·rcases h with ⟨rfl,h1,h2⟩ | ⟨rfl,h1,h2⟩
  ·exact hk s h1 h2
  ·exact hr s h1 h2
theorem rvuses_lp (sn:Bool) (S:List Typ) (U:List Int) (hU:U.length<=9223372036854775807) (bu:Bool) (r:RV) (P:MSt->Prop) (hP:∀ s s':MSt,s'.mem=s.mem->s'.obj=s.obj->(∀ t,t ∉ [2,7,48,49,50,51,52,53,54,55,56,57,58,59,60,61,62,63,64,65,66,67,68]->s'.env t=s.env t)->P s->P s') (k:Ex->MSt->Option RV)
  (hk:∀ s',U.any (q0P S.length)=false->P s'->k (.exit 4) s'=some r) (hr:∀ s':MSt,U.any (q0P S.length)=true->(s'.env 2).v=.int .i64 4->k .ret s'=some r)
  (s:MSt) (hs:P s) (h1:(s.env 1).v=.ptr 1 1 0) (m1:s.mem 1 1=some [⟨.sl sn (S.map typC),.no⟩]) (h6:(s.env 6).v=.sl bu (U.map intC)) (h7:(s.env 7).v=.int .i64 0):evL allT q01 q2p s k=some r:=by
 refine q0b U.length (fun i s=>P s/\(s.env 1).v=.ptr 1 1 0/\s.mem 1 1=some [⟨.sl sn (S.map typC),.no⟩]/\(s.env 6).v=.sl bu (U.map intC)/\(s.env 7).v=.int .i64 i/\(U.drop i).any (q0P S.length)=U.any (q0P S.length))
  (fun e s=>(e=.exit 4/\U.any (q0P S.length)=false/\P s)\/(e=.ret/\U.any (q0P S.length)=true/\(s.env 2).v=.int .i64 4)) (fun i hi s k h ih hk=>?_) _ _ ?_ (fun e s h=>?_)
 ·obtain ⟨hp,e1,m1,e6,e7,hs⟩:=h;refine q02 ?_;by_cases da:i<U.length
  ·have fa:(i:Int)<U.length:=by omega
   have g1:(U.map intC)[i]?=some (intC U[i]):=by simp [da]
   have hw:=q0H (i:=i);rw [yf da,List.any_cons] at hs;generalize U[i]=u at *
   simp only [intC] at g1;by_cases c1:u<0
   ·simp [q2p,-y0,-y5,-y4,y3,e1,m1,e6,e7,fa,g1,c1];exact hk _ _ (.inr ⟨rfl,by rw [<- hs]; simp [q0P,c1],by simp⟩)
   by_cases c2:(S.length:Int)<=u
   ·simp [q2p,-y0,-y5,-y4,y3,e1,m1,e6,e7,fa,g1,c1,c2];exact hk _ _ (.inr ⟨rfl,by rw [<- hs]; simp [q0P,c2],by simp⟩)
   simp [q2p,-y0,-y5,-y4,y3,e1,m1,e6,e7,fa,g1,c1,c2,hw];refine ih da _ ⟨hP s _ rfl rfl ?_ hp,?_,?_,?_,?_,?_⟩
   ·intro t ht;simp only [yj,yJ,or_false,not_or] at ht;simp [q4f,ht]
   ·simp [e1]
   ·simp [m1]
   ·simp [e6]
   ·simp
   ·rw [<- hs]; simp [q0P,c1,c2]
  ·have fa:¬ (i:Int)<U.length:=by omega
   simp [q2p,-y0,-y5,-y4,y3,e6,e7,fa];rw [yg (by omega)] at hs;refine hk _ _ (.inl ⟨rfl,hs.symm,hP s _ rfl rfl ?_ hp⟩);intro t ht;simp only [yj,yJ,or_false,not_or] at ht;simp [q4f,ht]
 ·simp [hs,h1,m1,h6,h7]
 ·rcases h with ⟨rfl,h1,h2⟩ | ⟨rfl,h1,h2⟩
  ·exact hk s h1 h2
  ·exact hr s h1 h2
theorem rvalid_ev (s:Sch) (hs:s.fine):evA 150 [.agg (schC s)] (.int .i64 (valid s.types)):=by
 obtain ⟨ja,ne⟩:=hs;refine q00 (c:=q4r) rfl rfl ?_;unfold valid;by_cases wv:32<s.types.length
 ·have zn:(32:Int)<s.types.length:=by omega
  simp [q4r,-y0,-y5,-y4,y3,schC,wv,zn]
 have zn:¬ (32:Int)<s.types.length:=by omega
 simp [q4r,-y0,-y5,-y4,y3,schC,wv,zn];refine q0b s.types.length (fun i σ=>(σ.env 1).v=.ptr 1 1 0/\σ.mem 1 1=some [⟨.sl s.nl (s.types.map typC),.no⟩]/\(σ.env 3).v=.int .i64 i/\q1Q s.types (s.types.length - i) i=q1Q s.types s.types.length 0)
  (fun e σ=>(e=.exit 0/\q1Q s.types s.types.length 0=0)\/(e=.ret/\(σ.env 2).v=.int .i64 (q1Q s.types s.types.length 0))) (fun i hi σ k h ih hk=>?_) _ _ ?_ (fun e σ h=>?_)
 ·obtain ⟨e1,m1,e3,hv⟩:=h;refine q02 ?_;by_cases da:i<s.types.length
  ·have fa:(i:Int)<s.types.length:=by omega
   have g1:(s.types.map typC)[i]?=some (typC s.types[i]):=by simp [da]
   have hw:=q0H (i:=i);have hf:=own_ev s.types[i] (ne _ (y8 _));have hu:=fun h9:(s.types[i]'da).kind<=9=>ruses_ev (s.types[i]'da) (ne _ (y8 da)).2.2 h9 _ rfl
   have cw:=(ne _ (y8 da)).2.2;rw [qau da] at hv;generalize s.types[i]=t at *
   have gL:t.usesL.length<=9223372036854775807:=by
    unfold Typ.usesL;by_cases h8:t.kind=8 <;> by_cases h7:7<=t.kind <;> simp [h8,h7] <;> omega
   simp only [evA,typC] at hf hu;simp only [typC] at g1;have err:∀ σ' n,q21 s.types i t=n->n≠0->(σ'.env 2).v=.int .i64 n->k .ret σ'=some (.int .i64 (q1Q s.types s.types.length 0),none):=fun σ' n h1 h2 h3=>hk _ _ (.inr ⟨rfl,by rw [h3,<- hv,h1,if_neg h2]⟩)
   cases c1:q0W t with
   | false =>
    rw [c1] at hf;simp [q40,-y0,-y5,-y4,y3,e1,m1,e3,fa,g1,hf];exact err _ 1 (by simp [q21,c1]) (by decide) (by simp)
   | true =>
    rw [c1] at hf;have hu:=hu (q6f c1).2;simp [q40,-y0,-y5,-y4,y3,e1,m1,e3,fa,g1,hf];refine rnames_lp s.nl s.types i da ja t (σ.next + 1) _ (fun σ2=>(σ2.env 1).v=.ptr 1 1 0/\σ2.mem 1 1=some [⟨.sl s.nl (s.types.map typC),.no⟩]/\(σ2.env 3).v=.int .i64 i/\(σ2.env 4).v=.ptr 4 (σ.next + 1) 0/\σ2.mem 4 (σ.next + 1)=some (q0e t)) (fun a b hm ho he h=>?_) _ (fun σ2 c2 h=>?_) (fun σ2 c2 h2=>?_) _ ⟨?_,?_,?_,?_,?_⟩ ?_ ?_ ?_ ?_ ?_ ?_
    ·rw [hm,he 1 (by decide),he 3 (by decide),he 4 (by decide)];exact h
    ·obtain ⟨f1,fm,f3,f4,fp⟩:=h;simp [-y0,-y5,-y4,y3,f1,fm,f3,f4,fp,hu];refine rvuses_lp s.nl s.types t.usesL gL t.usesL.isEmpty _ (fun σ2=>(σ2.env 1).v=.ptr 1 1 0/\σ2.mem 1 1=some [⟨.sl s.nl (s.types.map typC),.no⟩]/\(σ2.env 3).v=.int .i64 i/\(σ2.env 4).v=.ptr 4 (σ.next + 1) 0/\σ2.mem 4 (σ.next + 1)=some (q0e t)) (fun a b hm ho he h=>?_) _ (fun σ2 c3 h=>?_) (fun σ2 c3 h2=>?_) _ ⟨?_,?_,?_,?_,?_⟩ ?_ ?_ ?_ ?_
     ·rw [hm,he 1 (by decide),he 3 (by decide),he 4 (by decide)];exact h
     ·obtain ⟨f1,fm,f3,f4,fp⟩:=h;by_cases h8:t.kind=8
      ·obtain ⟨jl,ed⟩:=key_in h8 c3;have h3:t.key.toNat<s.types.length:=by omega
       have gy:(s.types.map typC)[t.key.toNat]?=some (typC s.types[t.key.toNat]):=by rw [yc,y6 h3]; rfl
       have hy:q6h s.types t.key=s.types[t.key.toNat].kind:=by unfold q6h; rw [y6 h3]
       generalize s.types[t.key.toNat]=y at *
       have ub:=keykind_ev y.kind;simp only [typC] at gy;simp only [evA] at ub;by_cases c4:1<=y.kind/\y.kind<=4
       ·rw [decide_eq_true c4] at ub;simp [-y0,-y5,-y4,y3,f1,fm,f3,f4,fp,h8,jl,gy,ub,hw];refine ih da _ ⟨?_,?_,?_,?_⟩
        ·simp [f1]
        ·simp [fm]
        ·simp
        ·rw [<- hv,if_pos];unfold q21;rw [if_neg (by simp [c1]),if_neg c2,if_neg (by simp [c3]),if_neg fun h=>h.2 (by rw [hy]; exact c4)]
       ·rw [decide_eq_false c4] at ub;simp [-y0,-y5,-y4,y3,f1,fm,f3,f4,fp,h8,jl,gy,ub];exact err _ 1 (by unfold q21; rw [if_neg (by simp [c1]),if_neg c2,if_neg (by simp [c3]),if_pos ⟨h8,by rw [hy]; exact c4⟩]) (by decide) (by simp)
      ·simp [-y0,-y5,-y4,y3,f1,fm,f3,f4,fp,h8,hw];refine ih da _ ⟨?_,?_,?_,?_⟩
       ·simp [f1]
       ·simp [fm]
       ·simp
       ·rw [<- hv,if_pos];unfold q21;rw [if_neg (by simp [c1]),if_neg c2,if_neg (by simp [c3]),if_neg fun h=>h8 h.1]
     ·simp [-y0,-y5,-y4,y3];exact err _ 4 (by unfold q21; rw [if_neg (by simp [c1]),if_neg c2,if_pos c3]) (by decide) h2
     all_goals simp [f1,fm,f3,f4,fp]
    ·simp [-y0,-y5,-y4,y3];exact err _ 1 (by unfold q21; rw [if_neg (by simp [c1]),if_pos c2]) (by decide) h2
    all_goals simp [e1,m1,e3]
  ·have fa:¬ (i:Int)<s.types.length:=by omega
   simp [q40,-y0,-y5,-y4,y3,e1,m1,e3,fa];refine hk _ _ (.inl ⟨rfl,?_⟩);rw [<- hv,show s.types.length - i=0 from by omega,q1Q]
 ·refine ⟨?_,?_,?_,?_⟩ <;> simp
 ·rcases h with ⟨rfl,h1⟩ | ⟨rfl,h1⟩
  ·simp [-y0,-y5,-y4,y3,h1]
  ·simp [-y0,-y5,-y4,y3,h1]
end Go.Proofs.YtbnlmgncbgaepaaGreat
