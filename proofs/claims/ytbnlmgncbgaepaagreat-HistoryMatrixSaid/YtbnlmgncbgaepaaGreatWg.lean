/- A part of the proof. -/
import Derived.Test.YtbnlmgncbgaepaaGreatWe
import Derived.Test.YtbnlmgncbgaepaaGreatWf
set_option linter.all false
set_option maxRecDepth 100000
set_option maxHeartbeats 8000000
open Option renaming bind_some → V
open List renaming range_succ → J, map_map → y0, getElem?_eq_getElem → y5, getElem_mem → y6, drop_eq_getElem_cons → y9, getElem?_map → yc, drop_eq_nil_of_le → ye, mem_cons → yf, mem_append → yu, not_mem_nil → yG, take_append_getElem → yK, mem_map_of_mem → yX
open Int renaming toNat_lt → y3
open Bool renaming and_eq_true → y7
namespace Go.Proofs.YtbnlmgncbgaepaaGreat
open Go
def q0O (n:Nat) (u:Int):Bool:=decide (u<0)||decide ((n:Int)<=u)
def q6H (l:List Typ) (k:Int):Int:=match l[k.toNat]? with
 | some t=>t.kind
 | none=>0
def q22 (l:List Typ) (i:Nat) (t:Typ):Int :=
 if q0L t=false then 1
 else if t.named=true/\t.name∈(l.take i).map Typ.name then 1
 else if t.usesL.any (q0O l.length)=true then 4
 else if t.kind=8/\¬ (1<=q6H l t.key/\q6H l t.key<=4) then 1
 else 0
def q1Q (l:List Typ):Nat->Nat->Int
 | 0,_=>0
 | n + 1,i=>match l[i]? with
  | some t=>if q22 l i t=0 then q1Q l n (i + 1) else q22 l i t
  | none=>0
def valid (l:List Typ):Int:=if 32<l.length then 3 else q1Q l l.length 0
theorem qb7 {l:List Typ} {i:Nat} (h:i<l.length):q1Q l (l.length - i) i=if q22 l i l[i]=0 then q1Q l (l.length - (i + 1)) (i + 1) else q22 l i l[i]:=by
 rw [show l.length - i=(l.length - (i + 1)) + 1 from by omega,q1Q,y5 h]
theorem q6G {t:Typ} (h:q0L t=true):1<=t.kind/\t.kind<=9:=by
 unfold q0L at h;rw [y7] at h;exact of_decide_eq_true h.1
theorem isName_ne {s:ByteArray} (h:q3V s=true):s≠⟨#[]⟩:=fun e=>by
 subst e;unfold q3V at h;simp only [y7] at h;have:=of_decide_eq_true h.1.1.1;exact this rfl
theorem good_named {t:Typ} (h:q0L t=true):t.named=true ↔ t.name≠⟨#[]⟩:=by
 have hk:=q6G h;unfold q0L q6R Typ.left at h;rcases kinds t.kind with e | e | e | e | e | e | e | e | e | e
 all_goals first | exact absurd hk e | skip
 all_goals simp [e,Typ.same,q1S,Typ.named] at h ⊢
 all_goals first | exact isName_ne h.1.1 | (simp [h]; done) | skip
theorem key_in {l:List Typ} {t:Typ} (h8:t.kind=8) (h:t.usesL.any (q0O l.length)=false):0<=t.key/\t.key<l.length:=by
 have hm:t.key∈t.usesL:=by simp [Typ.usesL,h8]
 have:=List.any_eq_false.1 h _ hm;simp [q0O] at this;omega
theorem seen_set2 (s:ByteArray):∀ l:List ByteArray,s∈l->q55 (l.map q7B) (.str s) (.bool true)=l.map q7B
 | [],h=>by cases h
 | x :: r,hn=>by
  by_cases h:x=s
  ·simp [q7B,q55,qbe,h]
  ·have:=seen_set2 s r (by
    rcases yf.1 hn with e | e
    ·exact absurd e.symm h
    ·exact e)
   simp [q7B,q55,qbe,h,this]
theorem seen_next (s:ByteArray) (q:List ByteArray):∃ q':List ByteArray,q55 (q.map q7B) (.str s) (.bool true)=q'.map q7B/\∀ x,x∈q' ↔ x∈q\/x=s:=by
 by_cases h:s∈q
 ·exact ⟨q,seen_set2 s q h,fun x=>⟨.inl,fun e=>e.elim id (fun e=>e ▸ h)⟩⟩
 ·exact ⟨q++[s],seen_set s q h,fun x=>by simp⟩
def Sch.fine (s:Sch):Prop:=s.types.length<=9223372036854775807/\∀ t∈s.types,t.fine
theorem vuses_lp (sn:Bool) (S:List Typ) (U:List Int) (hU:U.length<=9223372036854775807) (bu:Bool) (r:RV) (P:MSt->Prop) (hP:∀ s s':MSt,s'.mem=s.mem->s'.obj=s.obj->s'.next=s'.next->(∀ t,t ∉ [2,7,41,42,43,44,45,46,47,48,49,50,51,52,53,40]->s'.env t=s.env t)->P s->P s') (k:Ex->MSt->Option RV)
  (hk:∀ s',U.any (q0O S.length)=false->P s'->k (.exit 2) s'=some r) (hr:∀ s':MSt,U.any (q0O S.length)=true->(s'.env 2).v=.int .i64 4->k .ret s'=some r)
  (s:MSt) (hs:P s) (h1:(s.env 1).v=.ptr 1 1 0) (m1:s.mem 1 1=some [⟨.sl sn (S.map typC),.no⟩]) (pM:(s.env 38).v=.sl bu (U.map intC)) (rM:(s.env 39).v=.int .i64 U.length) (sM:(s.env 40).v=.int .i64 0):evL allT q01 q1F s k=some r:=by
 refine q06 U.length (fun i s=>P s/\(s.env 1).v=.ptr 1 1 0/\s.mem 1 1=some [⟨.sl sn (S.map typC),.no⟩]/\(s.env 38).v=.sl bu (U.map intC)/\(s.env 39).v=.int .i64 U.length/\(s.env 40).v=.int .i64 i/\(U.drop i).any (q0O S.length)=U.any (q0O S.length))
  (fun e s=>(e=.exit 2/\U.any (q0O S.length)=false/\P s)\/(e=.ret/\U.any (q0O S.length)=true/\(s.env 2).v=.int .i64 4)) (fun i hi s k h ih hk=>?_) _ _ ?_ (fun e s h=>?_)
 ·obtain ⟨hp,e1,m1,lE,sB,mE,hs⟩:=h;refine q02 ?_;by_cases fa:i<U.length
  ·have ga:(i:Int)<U.length:=by omega
   have g1:(U.map intC)[i]?=some (intC U[i]):=by simp [fa]
   have hw:=q0s (i:=i);rw [y9 fa,List.any_cons] at hs;generalize U[i]=u at *
   simp only [intC] at g1;by_cases c1:u<0
   ·simp [q1F,-V,-y3,-y0,J,e1,m1,lE,sB,mE,ga,g1,c1];exact hk _ _ (.inr ⟨rfl,by rw [<- hs]; simp [q0O,c1],by simp⟩)
   by_cases c2:(S.length:Int)<=u
   ·simp [q1F,-V,-y3,-y0,J,e1,m1,lE,sB,mE,ga,g1,c1,c2];exact hk _ _ (.inr ⟨rfl,by rw [<- hs]; simp [q0O,c2],by simp⟩)
   simp [q1F,-V,-y3,-y0,J,e1,m1,lE,sB,mE,ga,g1,c1,c2,hw];refine ih fa _ ⟨hP s _ ?_ ?_ ?_ ?_ hp,?_,?_,?_,?_,?_,?_⟩
   ·rfl
   ·rfl
   ·rfl
   ·intro t ht;simp only [yf,yG,or_false,not_or] at ht;simp [q4i,ht]
   ·simp [e1]
   ·simp [m1]
   ·simp [lE]
   ·simp [sB]
   ·simp
   ·rw [<- hs]; simp [q0O,c1,c2]
  ·have ga:¬ (i:Int)<U.length:=by omega
   simp [q1F,-V,-y3,-y0,J,sB,mE,ga];rw [ye (by omega)] at hs;refine hk _ _ (.inl ⟨rfl,hs.symm,hP s _ ?_ ?_ ?_ ?_ hp⟩)
   ·rfl
   ·rfl
   ·rfl
   ·intro t ht;simp only [yf,yG,or_false,not_or] at ht;simp [q4i,ht]
 ·simp [hs,h1,m1,pM,rM,sM]
 ·rcases h with ⟨rfl,h1,h2⟩ | ⟨rfl,h1,h2⟩
  ·exact hk s h1 h2
  ·exact hr s h1 h2
theorem valid_ev (s:Sch) (hs:s.fine):evA 203 [.agg (schC s)] (.int .i64 (valid s.types)):=by
 obtain ⟨ja,me⟩:=hs;refine q00 (c:=q3U) rfl rfl ?_;unfold valid;by_cases nu:32<s.types.length
 ·have xm:(32:Int)<s.types.length:=by omega
  simp [q3U,-V,-y3,-y0,J,schC,nu,xm]
 have xm:¬ (32:Int)<s.types.length:=by omega
 simp [q3U,-V,-y3,-y0,J,schC,nu,xm];refine q06 s.types.length (fun i σ=>(σ.env 1).v=.ptr 1 1 0/\σ.mem 1 1=some [⟨.sl s.nl (s.types.map typC),.no⟩]/\(σ.env 3).v=.mp 12 3/\(σ.env 14).v=.sl s.nl (s.types.map typC)/\(σ.env 15).v=.int .i64 s.types.length/\(σ.env 16).v=.int .i64 i/\(∃ q:List ByteArray,σ.obj 12 3=some (q6m (q.map q7B))/\∀ x,x∈q ↔ x∈(s.types.take i).map Typ.name)/\q1Q s.types (s.types.length - i) i=q1Q s.types s.types.length 0)
  (fun e σ=>(e=.exit 0/\q1Q s.types s.types.length 0=0)\/(e=.ret/\(σ.env 2).v=.int .i64 (q1Q s.types s.types.length 0))) (fun i hi σ k h ih hk=>?_) _ _ ?_ (fun e σ h=>?_)
 ·obtain ⟨e1,m1,e3,kf,fc,oc,⟨q,o,hq⟩,hv⟩:=h;refine q02 ?_;by_cases fa:i<s.types.length
  ·have ga:(i:Int)<s.types.length:=by omega
   have g1:(s.types.map typC)[i]?=some (typC s.types[i]):=by simp [fa]
   have hw:=q0s (i:=i);have ht:s.types.take (i + 1)=s.types.take i++[s.types[i]]:=(yK fa).symm;have hf:=form_ev s.types[i] (me _ (y6 _));have hu:=uses_ev s.types[i] (me _ (y6 _)).2.2 _ rfl;have bm:=(me _ (y6 fa)).2.2;rw [qb7 fa] at hv;generalize s.types[i]=t at *
   have jJ:t.usesL.length<=9223372036854775807:=by
    unfold Typ.usesL;by_cases h8:t.kind=8 <;> by_cases h7:7<=t.kind <;> simp [h8,h7] <;> omega
   simp only [evA,typC] at hf hu;simp only [typC] at g1;have hg:=seen_get t.name q;have bq:=seen_ok q;obtain ⟨q',aL,na⟩:=seen_next t.name q;have err:∀ σ' n,q22 s.types i t=n->n≠0->(σ'.env 2).v=.int .i64 n->k .ret σ'=some (.int .i64 (q1Q s.types s.types.length 0),none):=fun σ' n h1 h2 h3=>hk _ _ (.inr ⟨rfl,by rw [h3,<- hv,h1,if_neg h2]⟩)
   cases c1:q0L t with
   | false =>
    rw [c1] at hf;simp [q0H,-V,-y3,-y0,J,e1,m1,e3,kf,fc,oc,ga,g1,hf];exact err _ 1 (by simp [q22,c1]) (by decide) (by simp)
   | true =>
    rw [c1] at hf;have jb:=good_named c1;have dup:t.name≠⟨#[]⟩->t.name∈q->q0H.run (evC allT q01) (evK allT q01) σ (q83 (evL allT q01) q0H k)=some (.int .i64 (q1Q s.types s.types.length 0),none):=by
     intro hn wd;have hd:=eq_false hn;rw [if_pos wd] at hg;simp [q0H,-V,-y3,-y0,J,e1,m1,e3,kf,fc,oc,ga,g1,hf,hd,o,q46,bq,q6i,AV.flat,AV.scal,hg];exact err _ 1 (by unfold q22; rw [if_neg (by simp [c1]),if_pos ⟨jb.2 hn,(hq _).1 wd⟩]) (by decide) (by simp)
    have go:(t.name=⟨#[]⟩\/t.name≠⟨#[]⟩/\¬ t.name∈q)->q0H.run (evC allT q01) (evK allT q01) σ (q83 (evL allT q01) q0H k)=some (.int .i64 (q1Q s.types s.types.length 0),none):=by
     intro hn;have c2:¬ (t.named=true/\t.name∈(s.types.take i).map Typ.name):=fun ⟨h1,h2⟩=>by
      rcases hn with hn | hn
      ·exact (jb.1 h1) hn
      ·exact hn.2 ((hq _).2 h2)
     have fin:∀ (σ':MSt) (k':Ex->MSt->Option RV) (p:Nat),(∀ σ2:MSt,(σ2.env 2).v=.int .i64 4->k' .ret σ2=k .ret σ2) →
       (∀ σ2:MSt,(σ2.env 1).v=.ptr 1 1 0->σ2.mem 1 1=some [⟨.sl s.nl (s.types.map typC),.no⟩]->(σ2.env 3).v=.mp 12 3->(σ2.env 14).v=.sl s.nl (s.types.map typC)->(σ2.env 15).v=.int .i64 s.types.length->(σ2.env 16).v=.int .i64 i->σ2.obj 12 3=some (q6m (q'.map q7B))->(σ2.env 5).v=.ptr 5 p 0->σ2.mem 5 p=some (q0b t)->t.usesL.any (q0O s.types.length)=false->k' (.exit 2) σ2=some (.int .i64 (q1Q s.types s.types.length 0),none)) →
       (σ'.env 1).v=.ptr 1 1 0->σ'.mem 1 1=some [⟨.sl s.nl (s.types.map typC),.no⟩]->(σ'.env 3).v=.mp 12 3->(σ'.env 14).v=.sl s.nl (s.types.map typC)->(σ'.env 15).v=.int .i64 s.types.length->(σ'.env 16).v=.int .i64 i->σ'.obj 12 3=some (q6m (q'.map q7B))->(σ'.env 5).v=.ptr 5 p 0->σ'.mem 5 p=some (q0b t)->(σ'.env 38).v=.sl t.usesL.isEmpty (t.usesL.map intC)->(σ'.env 39).v=.int .i64 t.usesL.length->(σ'.env 40).v=.int .i64 0->evL allT q01 q1F σ' k'=some (.int .i64 (q1Q s.types s.types.length 0),none):=by
      intro σ' k' p gJ fq f1 fm f3 f14 f15 f16 fo f5 fp aM bM cM;refine vuses_lp s.nl s.types t.usesL jJ t.usesL.isEmpty _ (fun σ2=>(σ2.env 1).v=.ptr 1 1 0/\σ2.mem 1 1=some [⟨.sl s.nl (s.types.map typC),.no⟩]/\(σ2.env 3).v=.mp 12 3/\(σ2.env 14).v=.sl s.nl (s.types.map typC)/\(σ2.env 15).v=.int .i64 s.types.length/\(σ2.env 16).v=.int .i64 i/\σ2.obj 12 3=some (q6m (q'.map q7B))/\(σ2.env 5).v=.ptr 5 p 0/\σ2.mem 5 p=some (q0b t)) (fun a b hm ho _ he h=>?_) k' (fun σ2 hu h=>?_) (fun σ2 hu h2=>?_) σ' ⟨f1,fm,f3,f14,f15,f16,fo,f5,fp⟩ f1 fm aM bM cM
      ·rw [hm,ho,he 1 (by decide),he 3 (by decide),he 14 (by decide),he 15 (by decide),he 16 (by decide),he 5 (by decide)];exact h
      ·obtain ⟨f1,fm,f3,f14,f15,f16,fo,f5,fp⟩:=h;exact fq σ2 f1 fm f3 f14 f15 f16 fo f5 fp hu
      ·rw [gJ σ2 h2];exact err _ 4 (by unfold q22; rw [if_neg (by simp [c1]),if_neg c2,if_pos hu]) (by decide) h2
     have key:t.usesL.any (q0O s.types.length)=false->t.kind=8->0<=t.key/\∃ y:Typ,(s.types.map typC)[t.key.toNat]?=some (typC y)/\q6H s.types t.key=y.kind:=fun hu h8=>by
      obtain ⟨h1,h2⟩:=key_in h8 hu;have h3:t.key.toNat<s.types.length:=by omega
      exact ⟨h1,s.types[t.key.toNat],by rw [yc,y5 h3]; rfl,by unfold q6H; rw [y5 h3]⟩
     have next:q22 s.types i t=0->∀ σ2:MSt,(σ2.env 1).v=.ptr 1 1 0->σ2.mem 1 1=some [⟨.sl s.nl (s.types.map typC),.no⟩]->(σ2.env 3).v=.mp 12 3->(σ2.env 14).v=.sl s.nl (s.types.map typC)->(σ2.env 15).v=.int .i64 s.types.length->(σ2.env 16).v=.int .i64 ((i + 1:Nat):Int)->σ2.obj 12 3=some (q6m (q'.map q7B))->evL allT q01 q0H σ2 k=some (.int .i64 (q1Q s.types s.types.length 0),none):=fun h0 σ2 f1 fm f3 f14 f15 f16 fo=>ih fa _ ⟨f1,fm,f3,f14,f15,f16,⟨q',fo,fun x=>by rw [na,ht,List.map_append,yu,hq]; simp⟩,by rw [<- hv,h0]; rfl⟩
     have oO:t.name=⟨#[]⟩\/t.name≠⟨#[]⟩/\q6J (q.map q7B) (.str t.name)=none:=by
      rcases hn with hn | ⟨h1,h2⟩
      ·exact .inl hn
      ·exact .inr ⟨h1,by rw [hg,if_neg h2]⟩
     rcases oO with hd | ⟨hd,hg⟩
     ·have hd:=eq_true hd;simp [q0H,-V,-y3,-y0,J,e1,m1,e3,kf,fc,oc,ga,g1,hf,hu,hd,o,q46,bq,q6i,AV.flat,AV.scal,aL];refine fin _ _ (σ.next + 1) (fun σ2 _=>rfl) (fun σ2 f1 fm f3 f14 f15 f16 fo f5 fp rd=>?_) ?_ ?_ ?_ ?_ ?_ ?_ ?_ ?_ ?_ ?_ ?_ ?_
      rotate_left
      ·simp [e1]
      ·simp [m1]
      ·simp [e3]
      ·simp [kf]
      ·simp [fc]
      ·simp [oc]
      ·simp
      ·simp
      ·simp
      ·simp
      ·simp
      ·simp
      have c3:=rd;by_cases h8:t.kind=8
      ·obtain ⟨th,y,gy,hy⟩:=key rd h8;simp only [typC] at gy;by_cases c4:y.kind<1
       ·simp [-V,-y3,-y0,J,f1,fm,f5,fp,h8,th,gy,c4];exact err _ 1 (by unfold q22; rw [if_neg (by simp [c1]),if_neg c2,if_neg (by simp [c3]),if_pos ⟨h8,by rw [hy]; omega⟩]) (by decide) (by simp)
       ·by_cases c5:4<y.kind
        ·simp [-V,-y3,-y0,J,f1,fm,f5,fp,h8,th,gy,c4,c5];exact err _ 1 (by unfold q22; rw [if_neg (by simp [c1]),if_neg c2,if_neg (by simp [c3]),if_pos ⟨h8,by rw [hy]; omega⟩]) (by decide) (by simp)
        ·simp [-V,-y3,-y0,J,f1,fm,f5,fp,f16,h8,th,gy,c4,c5,hw];refine next (by unfold q22; rw [if_neg (by simp [c1]),if_neg c2,if_neg (by simp [c3]),if_neg fun h=>h.2 (by rw [hy]; omega)]) _ ?_ ?_ ?_ ?_ ?_ ?_ ?_ <;> simp [f1,fm,f3,f14,f15,fo]
      ·simp [-V,-y3,-y0,J,f1,fm,f5,fp,f16,h8,hw];refine next (by unfold q22; rw [if_neg (by simp [c1]),if_neg c2,if_neg (by simp [c3]),if_neg fun h=>h8 h.1]) _ ?_ ?_ ?_ ?_ ?_ ?_ ?_ <;> simp [f1,fm,f3,f14,f15,fo]
     ·have hd:=eq_false hd;simp [q0H,-V,-y3,-y0,J,e1,m1,e3,kf,fc,oc,ga,g1,hf,hu,hd,hg,o,q46,bq,q6i,AV.flat,AV.scal,aL];refine fin _ _ (σ.next + 1) (fun σ2 _=>rfl) (fun σ2 f1 fm f3 f14 f15 f16 fo f5 fp rd=>?_) ?_ ?_ ?_ ?_ ?_ ?_ ?_ ?_ ?_ ?_ ?_ ?_
      rotate_left
      ·simp [e1]
      ·simp [m1]
      ·simp [e3]
      ·simp [kf]
      ·simp [fc]
      ·simp [oc]
      ·simp
      ·simp
      ·simp
      ·simp
      ·simp
      ·simp
      have c3:=rd;by_cases h8:t.kind=8
      ·obtain ⟨th,y,gy,hy⟩:=key rd h8;simp only [typC] at gy;by_cases c4:y.kind<1
       ·simp [-V,-y3,-y0,J,f1,fm,f5,fp,h8,th,gy,c4];exact err _ 1 (by unfold q22; rw [if_neg (by simp [c1]),if_neg c2,if_neg (by simp [c3]),if_pos ⟨h8,by rw [hy]; omega⟩]) (by decide) (by simp)
       ·by_cases c5:4<y.kind
        ·simp [-V,-y3,-y0,J,f1,fm,f5,fp,h8,th,gy,c4,c5];exact err _ 1 (by unfold q22; rw [if_neg (by simp [c1]),if_neg c2,if_neg (by simp [c3]),if_pos ⟨h8,by rw [hy]; omega⟩]) (by decide) (by simp)
        ·simp [-V,-y3,-y0,J,f1,fm,f5,fp,f16,h8,th,gy,c4,c5,hw];refine next (by unfold q22; rw [if_neg (by simp [c1]),if_neg c2,if_neg (by simp [c3]),if_neg fun h=>h.2 (by rw [hy]; omega)]) _ ?_ ?_ ?_ ?_ ?_ ?_ ?_ <;> simp [f1,fm,f3,f14,f15,fo]
      ·simp [-V,-y3,-y0,J,f1,fm,f5,fp,f16,h8,hw];refine next (by unfold q22; rw [if_neg (by simp [c1]),if_neg c2,if_neg (by simp [c3]),if_neg fun h=>h8 h.1]) _ ?_ ?_ ?_ ?_ ?_ ?_ ?_ <;> simp [f1,fm,f3,f14,f15,fo]
    by_cases wd:t.name≠⟨#[]⟩/\t.name∈q
    ·exact dup wd.1 wd.2
    ·refine go ?_;by_cases he:t.name=⟨#[]⟩
     ·exact .inl he
     ·exact .inr ⟨he,fun h=>wd ⟨he,h⟩⟩
  ·have ga:¬ (i:Int)<s.types.length:=by omega
   simp [q0H,-V,-y3,-y0,J,fc,oc,ga];refine hk _ _ (.inl ⟨rfl,?_⟩);rw [<- hv,show s.types.length - i=0 from by omega,q1Q]
 ·refine ⟨?_,?_,?_,?_,?_,?_,⟨[],?_,?_⟩,?_⟩ <;> simp [q6m]
 ·rcases h with ⟨rfl,h1⟩ | ⟨rfl,h1⟩
  ·simp [-V,-y3,-y0,J,h1]
  ·simp [-V,-y3,-y0,J,h1]
def idxI {α:Type} (p:α->Bool):List α->Int
 | []=>-1
 | x :: r=>if p x=true then 0 else if idxI p r=-1 then -1 else idxI p r + 1
theorem q3A {α:Type} (p:α->Bool):∀ l:List α,-1<=idxI p l
 | []=>by simp [idxI]
 | x :: r=>by
  have:=q3A p r;simp only [idxI];split
  ·omega
  ·split <;> omega
theorem q7v {α:Type} (p:α->Bool) (x:α) (r:List α) (h:p x=false):idxI p (x :: r)=if idxI p r=-1 then -1 else idxI p r + 1:=by simp [idxI,h]
theorem q8r {α:Type} (p:α->Bool):∀ l:List α,idxI p l≠-1->∃ x,l[(idxI p l).toNat]?=some x/\p x=true
 | [],h=>absurd rfl h
 | x :: r,h=>by
  simp only [idxI] at h ⊢;by_cases hx:p x=true
  ·rw [if_pos hx]; exact ⟨x,rfl,hx⟩
  ·rw [if_neg hx] at h ⊢;by_cases h1:idxI p r=-1
   ·rw [if_pos h1] at h; exact absurd rfl h
   ·rw [if_neg h1];obtain ⟨y,h2,h3⟩:=q8r p r h1;have:=q3A p r;refine ⟨y,?_,h3⟩;rw [show (idxI p r + 1).toNat=(idxI p r).toNat + 1 from by omega,List.getElem?_cons_succ];exact h2
theorem q9U {α:Type} (p:α->Bool):∀ l:List α,(decide (0<=idxI p l))=l.any p
 | []=>by simp [idxI]
 | x :: r=>by
  have h1:=q9U p r;have h2:=q3A p r;rw [List.any_cons,<- h1];simp only [idxI];by_cases hx:p x=true
  ·simp [hx]
  ·by_cases h:idxI p r=-1
   ·simp [hx,h]
   ·simp [hx,h]; omega
theorem indexf_Mem_ev (F:Nat) (caps:List AV) (l:List Mem) (p:Mem->Bool) (hl:l.length<=9223372036854775807) (ig:∀ (s:MSt) (cl:Cl),q2G s cl caps=some caps) (hF:∀ x∈l,evA F (.agg (memC x) :: caps) (.bool (p x))) (b:Bool):evA 159 [.sl b (l.map memC),.fn F caps] (.int .i64 (idxI p l)):=by
 refine q00 (c:=q1h) rfl rfl ?_;simp [q1h,-V,-y3,-y0,J];refine q06 l.length (fun i s=>(s.env 0).v=.sl b (l.map memC)/\(s.env 1).v=.fn F caps/\(s.env 7).v=.int .i64 l.length/\(s.env 8).v=.int .i64 i/\idxI p l=(if idxI p (l.drop i)=-1 then -1 else idxI p (l.drop i) + i))
  (fun e s=>(e=.exit 0/\idxI p l=-1)\/(e=.ret/\(s.env 4).v=.int .i64 (idxI p l))) (fun i hi s k h ih hk=>?_) _ _ ?_ (fun e s h=>?_)
 ·obtain ⟨e0,e1,e7,e8,hs⟩:=h;refine q02 ?_;by_cases fa:i<l.length
  ·have ga:(i:Int)<l.length:=by omega
   have g1:(l.map memC)[i]?=some (memC l[i]):=by simp [fa]
   have hw:=q0s (i:=i);have hx:=hF l[i] (y6 _);rw [y9 fa] at hs;generalize l[i]=x at *
   simp only [evA,memC] at g1 hx;cases hp:p x with
   | true =>
    rw [hp] at hx;simp [q0Z,-V,-y3,-y0,J,e0,e1,e7,e8,ga,g1,ig,hx];refine hk _ _ (.inr ⟨rfl,?_⟩);simp [hs,idxI,hp]
   | false =>
    rw [hp] at hx;simp [q0Z,-V,-y3,-y0,J,e0,e1,e7,e8,ga,g1,ig,hx,hw];refine ih fa _ ⟨?_,?_,?_,?_,?_⟩
    ·simp [e0]
    ·simp [e1]
    ·simp [e7]
    ·simp
    ·rw [hs,q7v p x _ hp];have:=q3A p (l.drop (i + 1));by_cases h1:idxI p (l.drop (i + 1))=-1
     ·simp [h1]
     ·have h2:¬ idxI p (l.drop (i + 1)) + 1=-1:=by omega
      rw [if_neg h1,if_neg h2,if_neg h1];omega
  ·have ga:¬ (i:Int)<l.length:=by omega
   simp [q0Z,-V,-y3,-y0,J,e7,e8,ga];rw [ye (by omega)] at hs;exact hk _ _ (.inl ⟨rfl,hs⟩)
 ·have:=q3A p l;by_cases h1:idxI p l=-1 <;> simp [h1]
 ·rcases h with ⟨rfl,h1⟩ | ⟨rfl,h1⟩ <;> simp [-V,-y3,-y0,J,h1]
theorem indexf_Sym_ev (F:Nat) (caps:List AV) (l:List Sym) (p:Sym->Bool) (hl:l.length<=9223372036854775807) (ig:∀ (s:MSt) (cl:Cl),q2G s cl caps=some caps) (hF:∀ x∈l,evA F (.agg (symC x) :: caps) (.bool (p x))) (b:Bool):evA 192 [.sl b (l.map symC),.fn F caps] (.int .i64 (idxI p l)):=by
 refine q00 (c:=q1i) rfl rfl ?_;simp [q1i,-V,-y3,-y0,J];refine q06 l.length (fun i s=>(s.env 0).v=.sl b (l.map symC)/\(s.env 1).v=.fn F caps/\(s.env 7).v=.int .i64 l.length/\(s.env 8).v=.int .i64 i/\idxI p l=(if idxI p (l.drop i)=-1 then -1 else idxI p (l.drop i) + i))
  (fun e s=>(e=.exit 0/\idxI p l=-1)\/(e=.ret/\(s.env 4).v=.int .i64 (idxI p l))) (fun i hi s k h ih hk=>?_) _ _ ?_ (fun e s h=>?_)
 ·obtain ⟨e0,e1,e7,e8,hs⟩:=h;refine q02 ?_;by_cases fa:i<l.length
  ·have ga:(i:Int)<l.length:=by omega
   have g1:(l.map symC)[i]?=some (symC l[i]):=by simp [fa]
   have hw:=q0s (i:=i);have hx:=hF l[i] (y6 _);rw [y9 fa] at hs;generalize l[i]=x at *
   simp only [evA,symC] at g1 hx;cases hp:p x with
   | true =>
    rw [hp] at hx;simp [q10,-V,-y3,-y0,J,e0,e1,e7,e8,ga,g1,ig,hx];refine hk _ _ (.inr ⟨rfl,?_⟩);simp [hs,idxI,hp]
   | false =>
    rw [hp] at hx;simp [q10,-V,-y3,-y0,J,e0,e1,e7,e8,ga,g1,ig,hx,hw];refine ih fa _ ⟨?_,?_,?_,?_,?_⟩
    ·simp [e0]
    ·simp [e1]
    ·simp [e7]
    ·simp
    ·rw [hs,q7v p x _ hp];have:=q3A p (l.drop (i + 1));by_cases h1:idxI p (l.drop (i + 1))=-1
     ·simp [h1]
     ·have h2:¬ idxI p (l.drop (i + 1)) + 1=-1:=by omega
      rw [if_neg h1,if_neg h2,if_neg h1];omega
  ·have ga:¬ (i:Int)<l.length:=by omega
   simp [q10,-V,-y3,-y0,J,e7,e8,ga];rw [ye (by omega)] at hs;exact hk _ _ (.inl ⟨rfl,hs⟩)
 ·have:=q3A p l;by_cases h1:idxI p l=-1 <;> simp [h1]
 ·rcases h with ⟨rfl,h1⟩ | ⟨rfl,h1⟩ <;> simp [-V,-y3,-y0,J,h1]
theorem indexf_Vl_ev (F:Nat) (caps:List AV) (l:List Vl) (p:Vl->Bool) (hl:l.length<=9223372036854775807) (ig:∀ (s:MSt) (cl:Cl),q2G s cl caps=some caps) (hF:∀ x∈l,evA F (.agg (valC x) :: caps) (.bool (p x))) (b:Bool):evA 266 [.sl b (l.map valC),.fn F caps] (.int .i64 (idxI p l)):=by
 refine q00 (c:=q1r) rfl rfl ?_;simp [q1r,-V,-y3,-y0,J];refine q06 l.length (fun i s=>(s.env 0).v=.sl b (l.map valC)/\(s.env 1).v=.fn F caps/\(s.env 7).v=.int .i64 l.length/\(s.env 8).v=.int .i64 i/\idxI p l=(if idxI p (l.drop i)=-1 then -1 else idxI p (l.drop i) + i))
  (fun e s=>(e=.exit 0/\idxI p l=-1)\/(e=.ret/\(s.env 4).v=.int .i64 (idxI p l))) (fun i hi s k h ih hk=>?_) _ _ ?_ (fun e s h=>?_)
 ·obtain ⟨e0,e1,e7,e8,hs⟩:=h;refine q02 ?_;by_cases fa:i<l.length
  ·have ga:(i:Int)<l.length:=by omega
   have g1:(l.map valC)[i]?=some (valC l[i]):=by simp [fa]
   have hw:=q0s (i:=i);have hx:=hF l[i] (y6 _);rw [y9 fa] at hs;generalize l[i]=x at *
   simp only [evA,q04] at g1 hx;cases hp:p x with
   | true =>
    rw [hp] at hx;simp [q17,-V,-y3,-y0,J,e0,e1,e7,e8,ga,g1,ig,hx];refine hk _ _ (.inr ⟨rfl,?_⟩);simp [hs,idxI,hp]
   | false =>
    rw [hp] at hx;simp [q17,-V,-y3,-y0,J,e0,e1,e7,e8,ga,g1,ig,hx,hw];refine ih fa _ ⟨?_,?_,?_,?_,?_⟩
    ·simp [e0]
    ·simp [e1]
    ·simp [e7]
    ·simp
    ·rw [hs,q7v p x _ hp];have:=q3A p (l.drop (i + 1));by_cases h1:idxI p (l.drop (i + 1))=-1
     ·simp [h1]
     ·have h2:¬ idxI p (l.drop (i + 1)) + 1=-1:=by omega
      rw [if_neg h1,if_neg h2,if_neg h1];omega
  ·have ga:¬ (i:Int)<l.length:=by omega
   simp [q17,-V,-y3,-y0,J,e7,e8,ga];rw [ye (by omega)] at hs;exact hk _ _ (.inl ⟨rfl,hs⟩)
 ·have:=q3A p l;by_cases h1:idxI p l=-1 <;> simp [h1]
 ·rcases h with ⟨rfl,h1⟩ | ⟨rfl,h1⟩ <;> simp [-V,-y3,-y0,J,h1]
theorem mem1_ev (x:Mem) (id:Int):evA 160 [.agg (memC x),.bp [.int .i64 id]] (.bool (decide (x.id=id))):=by
 refine q00 (c:=q3k) rfl rfl ?_;simp [q3k,-V,-y3,-y0,J,memC]
def q1d (l:List Mem) (id:Int):Int:=idxI (fun x=>decide (x.id=id)) l
def memA (l:List Mem) (id:Int):AV:=.tup [.int .i64 (max (q1d l id) 0),.bool (decide (0<=q1d l id))]
theorem mem_ev (t:Typ) (id:Int) (hl:t.mems.length<=9223372036854775807):evA 137 [.agg (typC t),.int .i64 id] (memA t.mems id):=by
 refine q00 (c:=q4R) rfl rfl ?_;have h:=indexf_Mem_ev 160 [.bp [.int .i64 id]] t.mems (fun x=>decide (x.id=id)) hl (fun _ _=>rfl) (fun x _=>mem1_ev x id) t.mn;simp only [evA] at h;unfold memA q1d;simp [q4R,-V,-y3,-y0,J,typC,h]
theorem rmem_ev (t:Typ) (id:Int) (hl:t.mems.length<=9223372036854775807):evA 99 [.agg (typC t),.int .i64 id] (memA t.mems id):=by
 refine q00 (c:=q5d) rfl rfl ?_;obtain ⟨p,hp⟩:∃ p:Mem->Bool,p=fun x=>decide (x.id=id):=⟨_,rfl⟩
 unfold memA q1d;rw [<- hp];simp [q5d,-V,-y3,-y0,J,typC];refine q06 t.mems.length (fun i s=>(s.env 1).v=.int .i64 id/\(s.env 2).v=.ptr 2 1 0/\s.mem 2 1=some (q0b t)/\(s.env 6).v=.int .i64 i/\idxI p t.mems=(if idxI p (t.mems.drop i)=-1 then -1 else idxI p (t.mems.drop i) + i))
  (fun e s=>(e=.exit 0/\idxI p t.mems=-1)\/(e=.ret/\0<=idxI p t.mems/\(s.env 4).v=.int .i64 (idxI p t.mems)/\(s.env 5).v=.bool true)) (fun i hi s k h ih hk=>?_) _ _ ?_ (fun e s h=>?_)
 ·obtain ⟨e1,e2,m2,e6,hs⟩:=h;refine q02 ?_;by_cases fa:i<t.mems.length
  ·have ga:(i:Int)<t.mems.length:=by omega
   have g1:(t.mems.map memC)[i]?=some (memC t.mems[i]):=by simp [fa]
   have hw:=q0s (i:=i);rw [y9 fa] at hs;generalize t.mems[i]=x at *
   simp only [memC] at g1;by_cases hx:x.id=id
   ·simp [q3H,-V,-y3,-y0,J,e1,e2,m2,e6,ga,g1,hx];have iw:p x=true:=by rw [hp]; exact decide_eq_true hx
    refine hk _ _ (.inr ⟨rfl,?_,?_,?_⟩)
    ·rw [hs]; simp [idxI,iw]
    ·simp [hs,idxI,iw]
    ·simp
   ·have iw:p x=false:=by rw [hp]; exact decide_eq_false hx
    simp [q3H,-V,-y3,-y0,J,e1,e2,m2,e6,ga,g1,hx,hw];refine ih fa _ ⟨?_,?_,?_,?_,?_⟩
    ·simp [e1]
    ·simp [e2]
    ·simp [m2]
    ·simp
    ·rw [hs,q7v p x _ iw];have:=q3A p (t.mems.drop (i + 1));by_cases h1:idxI p (t.mems.drop (i + 1))=-1
     ·simp [h1]
     ·have h2:¬ idxI p (t.mems.drop (i + 1)) + 1=-1:=by omega
      rw [if_neg h1,if_neg h2,if_neg h1];omega
  ·have ga:¬ (i:Int)<t.mems.length:=by omega
   simp [q3H,-V,-y3,-y0,J,e2,m2,e6,ga];rw [ye (by omega)] at hs;exact hk _ _ (.inl ⟨rfl,hs⟩)
 ·have:=q3A p t.mems;by_cases h1:idxI p t.mems=-1 <;> simp [h1]
 ·rcases h with ⟨rfl,h1⟩ | ⟨rfl,h0,h1,h2⟩
  ·simp [-V,-y3,-y0,J,h1];rfl
  ·simp [-V,-y3,-y0,J,h1,h2,h0,Int.max_eq_left h0]
theorem sym1_ev (x:Sym) (id:Int):evA 193 [.agg (symC x),.bp [.int .i64 id]] (.bool (decide (x.id=id))):=by
 refine q00 (c:=q3l) rfl rfl ?_;simp [q3l,-V,-y3,-y0,J,symC]
def q5H (l:List Sym) (id:Int):Int:=idxI (fun x=>decide (x.id=id)) l
def symA (l:List Sym) (id:Int):AV:=.tup [.int .i64 (max (q5H l id) 0),.bool (decide (0<=q5H l id))]
theorem sym_ev (t:Typ) (id:Int) (hl:t.syms.length<=9223372036854775807):evA 154 [.agg (typC t),.int .i64 id] (symA t.syms id):=by
 refine q00 (c:=q4S) rfl rfl ?_;have h:=indexf_Sym_ev 193 [.bp [.int .i64 id]] t.syms (fun x=>decide (x.id=id)) hl (fun _ _=>rfl) (fun x _=>sym1_ev x id) t.sn;simp only [evA] at h;unfold symA q5H;simp [q4S,-V,-y3,-y0,J,typC,h]
theorem rsym_ev (t:Typ) (id:Int) (hl:t.syms.length<=9223372036854775807):evA 123 [.agg (typC t),.int .i64 id] (symA t.syms id):=by
 refine q00 (c:=q5e) rfl rfl ?_;obtain ⟨p,hp⟩:∃ p:Sym->Bool,p=fun x=>decide (x.id=id):=⟨_,rfl⟩
 unfold symA q5H;rw [<- hp];simp [q5e,-V,-y3,-y0,J,typC];refine q06 t.syms.length (fun i s=>(s.env 1).v=.int .i64 id/\(s.env 2).v=.ptr 2 1 0/\s.mem 2 1=some (q0b t)/\(s.env 6).v=.int .i64 i/\idxI p t.syms=(if idxI p (t.syms.drop i)=-1 then -1 else idxI p (t.syms.drop i) + i))
  (fun e s=>(e=.exit 0/\idxI p t.syms=-1)\/(e=.ret/\0<=idxI p t.syms/\(s.env 4).v=.int .i64 (idxI p t.syms)/\(s.env 5).v=.bool true)) (fun i hi s k h ih hk=>?_) _ _ ?_ (fun e s h=>?_)
 ·obtain ⟨e1,e2,m2,e6,hs⟩:=h;refine q02 ?_;by_cases fa:i<t.syms.length
  ·have ga:(i:Int)<t.syms.length:=by omega
   have g1:(t.syms.map symC)[i]?=some (symC t.syms[i]):=by simp [fa]
   have hw:=q0s (i:=i);rw [y9 fa] at hs;generalize t.syms[i]=x at *
   simp only [symC] at g1;by_cases hx:x.id=id
   ·simp [q3J,-V,-y3,-y0,J,e1,e2,m2,e6,ga,g1,hx];have iw:p x=true:=by rw [hp]; exact decide_eq_true hx
    refine hk _ _ (.inr ⟨rfl,?_,?_,?_⟩)
    ·rw [hs]; simp [idxI,iw]
    ·simp [hs,idxI,iw]
    ·simp
   ·have iw:p x=false:=by rw [hp]; exact decide_eq_false hx
    simp [q3J,-V,-y3,-y0,J,e1,e2,m2,e6,ga,g1,hx,hw];refine ih fa _ ⟨?_,?_,?_,?_,?_⟩
    ·simp [e1]
    ·simp [e2]
    ·simp [m2]
    ·simp
    ·rw [hs,q7v p x _ iw];have:=q3A p (t.syms.drop (i + 1));by_cases h1:idxI p (t.syms.drop (i + 1))=-1
     ·simp [h1]
     ·have h2:¬ idxI p (t.syms.drop (i + 1)) + 1=-1:=by omega
      rw [if_neg h1,if_neg h2,if_neg h1];omega
  ·have ga:¬ (i:Int)<t.syms.length:=by omega
   simp [q3J,-V,-y3,-y0,J,e2,m2,e6,ga];rw [ye (by omega)] at hs;exact hk _ _ (.inl ⟨rfl,hs⟩)
 ·have:=q3A p t.syms;by_cases h1:idxI p t.syms=-1 <;> simp [h1]
 ·rcases h with ⟨rfl,h1⟩ | ⟨rfl,h0,h1,h2⟩
  ·simp [-V,-y3,-y0,J,h1];rfl
  ·simp [-V,-y3,-y0,J,h1,h2,h0,Int.max_eq_left h0]
theorem rnames_lp (sn:Bool) (S:List Typ) (i:Nat) (rO:i<S.length) (hS:S.length<=9223372036854775807) (t:Typ) (p:Nat) (r:RV) (P:MSt->Prop) (hP:∀ s s':MSt,s'.mem=s.mem->s'.obj=s.obj->(∀ t,t ∉ [2,5,27,28,29,30,31,32,33,34,35,36,37,38,39,40,41,42,43,44,45]->s'.env t=s.env t)->P s->P s') (k:Ex->MSt->Option RV)
  (hk:∀ s',¬ (t.named=true/\t.name∈(S.take i).map Typ.name)->P s'->k (.exit 2) s'=some r) (hr:∀ s':MSt,t.named=true/\t.name∈(S.take i).map Typ.name->(s'.env 2).v=.int .i64 1->k .ret s'=some r)
  (s:MSt) (hs:P s) (h1:(s.env 1).v=.ptr 1 1 0) (m1:s.mem 1 1=some [⟨.sl sn (S.map typC),.no⟩]) (h3:(s.env 3).v=.int .i64 i) (h4:(s.env 4).v=.ptr 4 p 0) (m4:s.mem 4 p=some (q0b t)) (h5:(s.env 5).v=.int .i64 0):evL allT q01 q1X s k=some r:=by
 have jb:=q1W t.kind;change evA _ _ (.bool t.named) at jb;simp only [evA] at jb;refine q06 i (fun j s=>P s/\(s.env 1).v=.ptr 1 1 0/\s.mem 1 1=some [⟨.sl sn (S.map typC),.no⟩]/\(s.env 3).v=.int .i64 i/\(s.env 4).v=.ptr 4 p 0/\s.mem 4 p=some (q0b t)/\(s.env 5).v=.int .i64 j/\¬ (t.named=true/\t.name∈(S.take j).map Typ.name))
  (fun e s=>(e=.exit 2/\¬ (t.named=true/\t.name∈(S.take i).map Typ.name)/\P s)\/(e=.ret/\(t.named=true/\t.name∈(S.take i).map Typ.name)/\(s.env 2).v=.int .i64 1)) (fun j hj s k h ih hk=>?_) _ _ ?_ (fun e s h=>?_)
 ·obtain ⟨hp,e1,m1,e3,e4,m4,e5,hs⟩:=h;refine q02 ?_;by_cases fa:j<i
  ·have ga:(j:Int)<i:=by omega
   have dF:j<S.length:=by omega
   have g1:(S.map typC)[j]?=some (typC S[j]):=by simp [dF]
   have hw:=q0s (i:=j);have ht:S.take (j + 1)=S.take j++[S[j]]:=(yK dF).symm;have na:S[j]∈S.take i:=List.mem_take_iff_getElem.2 ⟨j,by omega,rfl⟩;generalize S[j]=u at *
   simp only [typC] at g1;have nxt:∀ s',s'.mem=s.mem->s'.obj=s.obj->(∀ t,t ∉ [2,5,27,28,29,30,31,32,33,34,35,36,37,38,39,40,41,42,43,44,45]->s'.env t=s.env t)->(s'.env 5).v=.int .i64 ((j + 1:Nat):Int)->¬ (t.named=true/\u.name=t.name)->evL allT q01 q1X s' k=some r:=fun s' hm ho he h5 hn=>by
    refine ih fa _ ⟨hP s s' hm ho he hp,?_,?_,?_,?_,?_,h5,?_⟩
    ·rw [he 1 (by decide)]; exact e1
    ·rw [hm]; exact m1
    ·rw [he 3 (by decide)]; exact e3
    ·rw [he 4 (by decide)]; exact e4
    ·rw [hm]; exact m4
    ·rw [ht,List.map_append,yu];rintro ⟨h1,h2 | h2⟩
     ·exact hs ⟨h1,h2⟩
     ·simp at h2; exact hn ⟨h1,h2.symm⟩
   cases hb:t.named with
   | false =>
    rw [hb] at jb;simp [q1X,-V,-y3,-y0,J,e1,m1,e3,e4,m4,e5,ga,g1,jb,hw];refine nxt _ rfl rfl ?_ ?_ (by simp [hb])
    ·intro t ht;simp only [yf,yG,or_false,not_or] at ht;simp [q4i,ht]
    ·simp
   | true =>
    rw [hb] at jb;by_cases oa:u.name=t.name
    ·simp [q1X,-V,-y3,-y0,J,e1,m1,e3,e4,m4,e5,ga,g1,jb,oa];exact hk _ _ (.inr ⟨rfl,⟨hb,oa ▸ yX na⟩,by simp⟩)
    ·simp [q1X,-V,-y3,-y0,J,e1,m1,e3,e4,m4,e5,ga,g1,jb,oa,hw];refine nxt _ rfl rfl ?_ ?_ (by simp [oa])
     ·intro t ht;simp only [yf,yG,or_false,not_or] at ht;simp [q4i,ht]
     ·simp
  ·have ga:¬ (j:Int)<i:=by omega
   have fB:j=i:=by omega
   simp [q1X,-V,-y3,-y0,J,e3,e5,ga];refine hk _ _ (.inl ⟨rfl,fB ▸ hs,hP s _ rfl rfl ?_ hp⟩);intro t ht;simp only [yf,yG,or_false,not_or] at ht;simp [q4i,ht]
 ·simp [hs,h1,m1,h3,h4,m4,h5]
 ·rcases h with ⟨rfl,h1,h2⟩ | ⟨rfl,h1,h2⟩
  ·exact hk s h1 h2
  ·exact hr s h1 h2
theorem rvuses_lp (sn:Bool) (S:List Typ) (U:List Int) (hU:U.length<=9223372036854775807) (bu:Bool) (r:RV) (P:MSt->Prop) (hP:∀ s s':MSt,s'.mem=s.mem->s'.obj=s.obj->(∀ t,t ∉ [2,7,48,49,50,51,52,53,54,55,56,57,58,59,60,61,62,63,64,65,66,67,68]->s'.env t=s.env t)->P s->P s') (k:Ex->MSt->Option RV)
  (hk:∀ s',U.any (q0O S.length)=false->P s'->k (.exit 4) s'=some r) (hr:∀ s':MSt,U.any (q0O S.length)=true->(s'.env 2).v=.int .i64 4->k .ret s'=some r)
  (s:MSt) (hs:P s) (h1:(s.env 1).v=.ptr 1 1 0) (m1:s.mem 1 1=some [⟨.sl sn (S.map typC),.no⟩]) (h6:(s.env 6).v=.sl bu (U.map intC)) (h7:(s.env 7).v=.int .i64 0):evL allT q01 q2m s k=some r:=by
 refine q06 U.length (fun i s=>P s/\(s.env 1).v=.ptr 1 1 0/\s.mem 1 1=some [⟨.sl sn (S.map typC),.no⟩]/\(s.env 6).v=.sl bu (U.map intC)/\(s.env 7).v=.int .i64 i/\(U.drop i).any (q0O S.length)=U.any (q0O S.length))
  (fun e s=>(e=.exit 4/\U.any (q0O S.length)=false/\P s)\/(e=.ret/\U.any (q0O S.length)=true/\(s.env 2).v=.int .i64 4)) (fun i hi s k h ih hk=>?_) _ _ ?_ (fun e s h=>?_)
 ·obtain ⟨hp,e1,m1,e6,e7,hs⟩:=h;refine q02 ?_;by_cases fa:i<U.length
  ·have ga:(i:Int)<U.length:=by omega
   have g1:(U.map intC)[i]?=some (intC U[i]):=by simp [fa]
   have hw:=q0s (i:=i);rw [y9 fa,List.any_cons] at hs;generalize U[i]=u at *
   simp only [intC] at g1;by_cases c1:u<0
   ·simp [q2m,-V,-y3,-y0,J,e1,m1,e6,e7,ga,g1,c1];exact hk _ _ (.inr ⟨rfl,by rw [<- hs]; simp [q0O,c1],by simp⟩)
   by_cases c2:(S.length:Int)<=u
   ·simp [q2m,-V,-y3,-y0,J,e1,m1,e6,e7,ga,g1,c1,c2];exact hk _ _ (.inr ⟨rfl,by rw [<- hs]; simp [q0O,c2],by simp⟩)
   simp [q2m,-V,-y3,-y0,J,e1,m1,e6,e7,ga,g1,c1,c2,hw];refine ih fa _ ⟨hP s _ rfl rfl ?_ hp,?_,?_,?_,?_,?_⟩
   ·intro t ht;simp only [yf,yG,or_false,not_or] at ht;simp [q4i,ht]
   ·simp [e1]
   ·simp [m1]
   ·simp [e6]
   ·simp
   ·rw [<- hs]; simp [q0O,c1,c2]
  ·have ga:¬ (i:Int)<U.length:=by omega
   simp [q2m,-V,-y3,-y0,J,e6,e7,ga];rw [ye (by omega)] at hs;refine hk _ _ (.inl ⟨rfl,hs.symm,hP s _ rfl rfl ?_ hp⟩);intro t ht;simp only [yf,yG,or_false,not_or] at ht;simp [q4i,ht]
 ·simp [hs,h1,m1,h6,h7]
 ·rcases h with ⟨rfl,h1,h2⟩ | ⟨rfl,h1,h2⟩
  ·exact hk s h1 h2
  ·exact hr s h1 h2
theorem rvalid_ev (s:Sch) (hs:s.fine):evA 150 [.agg (schC s)] (.int .i64 (valid s.types)):=by
 obtain ⟨ja,me⟩:=hs;refine q00 (c:=q4B) rfl rfl ?_;unfold valid;by_cases nu:32<s.types.length
 ·have xm:(32:Int)<s.types.length:=by omega
  simp [q4B,-V,-y3,-y0,J,schC,nu,xm]
 have xm:¬ (32:Int)<s.types.length:=by omega
 simp [q4B,-V,-y3,-y0,J,schC,nu,xm];refine q06 s.types.length (fun i σ=>(σ.env 1).v=.ptr 1 1 0/\σ.mem 1 1=some [⟨.sl s.nl (s.types.map typC),.no⟩]/\(σ.env 3).v=.int .i64 i/\q1Q s.types (s.types.length - i) i=q1Q s.types s.types.length 0)
  (fun e σ=>(e=.exit 0/\q1Q s.types s.types.length 0=0)\/(e=.ret/\(σ.env 2).v=.int .i64 (q1Q s.types s.types.length 0))) (fun i hi σ k h ih hk=>?_) _ _ ?_ (fun e σ h=>?_)
 ·obtain ⟨e1,m1,e3,hv⟩:=h;refine q02 ?_;by_cases fa:i<s.types.length
  ·have ga:(i:Int)<s.types.length:=by omega
   have g1:(s.types.map typC)[i]?=some (typC s.types[i]):=by simp [fa]
   have hw:=q0s (i:=i);have hf:=own_ev s.types[i] (me _ (y6 _));have hu:=fun h9:(s.types[i]'fa).kind<=9=>ruses_ev (s.types[i]'fa) (me _ (y6 fa)).2.2 h9 _ rfl
   have bm:=(me _ (y6 fa)).2.2;rw [qb7 fa] at hv;generalize s.types[i]=t at *
   have jJ:t.usesL.length<=9223372036854775807:=by
    unfold Typ.usesL;by_cases h8:t.kind=8 <;> by_cases h7:7<=t.kind <;> simp [h8,h7] <;> omega
   simp only [evA,typC] at hf hu;simp only [typC] at g1;have err:∀ σ' n,q22 s.types i t=n->n≠0->(σ'.env 2).v=.int .i64 n->k .ret σ'=some (.int .i64 (q1Q s.types s.types.length 0),none):=fun σ' n h1 h2 h3=>hk _ _ (.inr ⟨rfl,by rw [h3,<- hv,h1,if_neg h2]⟩)
   cases c1:q0L t with
   | false =>
    rw [c1] at hf;simp [q40,-V,-y3,-y0,J,e1,m1,e3,ga,g1,hf];exact err _ 1 (by simp [q22,c1]) (by decide) (by simp)
   | true =>
    rw [c1] at hf;have hu:=hu (q6G c1).2;simp [q40,-V,-y3,-y0,J,e1,m1,e3,ga,g1,hf];refine rnames_lp s.nl s.types i fa ja t (σ.next + 1) _ (fun σ2=>(σ2.env 1).v=.ptr 1 1 0/\σ2.mem 1 1=some [⟨.sl s.nl (s.types.map typC),.no⟩]/\(σ2.env 3).v=.int .i64 i/\(σ2.env 4).v=.ptr 4 (σ.next + 1) 0/\σ2.mem 4 (σ.next + 1)=some (q0b t)) (fun a b hm ho he h=>?_) _ (fun σ2 c2 h=>?_) (fun σ2 c2 h2=>?_) _ ⟨?_,?_,?_,?_,?_⟩ ?_ ?_ ?_ ?_ ?_ ?_
    ·rw [hm,he 1 (by decide),he 3 (by decide),he 4 (by decide)];exact h
    ·obtain ⟨f1,fm,f3,f4,fp⟩:=h;simp [-V,-y3,-y0,J,f1,fm,f3,f4,fp,hu];refine rvuses_lp s.nl s.types t.usesL jJ t.usesL.isEmpty _ (fun σ2=>(σ2.env 1).v=.ptr 1 1 0/\σ2.mem 1 1=some [⟨.sl s.nl (s.types.map typC),.no⟩]/\(σ2.env 3).v=.int .i64 i/\(σ2.env 4).v=.ptr 4 (σ.next + 1) 0/\σ2.mem 4 (σ.next + 1)=some (q0b t)) (fun a b hm ho he h=>?_) _ (fun σ2 c3 h=>?_) (fun σ2 c3 h2=>?_) _ ⟨?_,?_,?_,?_,?_⟩ ?_ ?_ ?_ ?_
     ·rw [hm,he 1 (by decide),he 3 (by decide),he 4 (by decide)];exact h
     ·obtain ⟨f1,fm,f3,f4,fp⟩:=h;by_cases h8:t.kind=8
      ·obtain ⟨th,dd⟩:=key_in h8 c3;have h3:t.key.toNat<s.types.length:=by omega
       have gy:(s.types.map typC)[t.key.toNat]?=some (typC s.types[t.key.toNat]):=by rw [yc,y5 h3]; rfl
       have hy:q6H s.types t.key=s.types[t.key.toNat].kind:=by unfold q6H; rw [y5 h3]
       generalize s.types[t.key.toNat]=y at *
       have sb:=keykind_ev y.kind;simp only [typC] at gy;simp only [evA] at sb;by_cases c4:1<=y.kind/\y.kind<=4
       ·rw [decide_eq_true c4] at sb;simp [-V,-y3,-y0,J,f1,fm,f3,f4,fp,h8,th,gy,sb,hw];refine ih fa _ ⟨?_,?_,?_,?_⟩
        ·simp [f1]
        ·simp [fm]
        ·simp
        ·rw [<- hv,if_pos];unfold q22;rw [if_neg (by simp [c1]),if_neg c2,if_neg (by simp [c3]),if_neg fun h=>h.2 (by rw [hy]; exact c4)]
       ·rw [decide_eq_false c4] at sb;simp [-V,-y3,-y0,J,f1,fm,f3,f4,fp,h8,th,gy,sb];exact err _ 1 (by unfold q22; rw [if_neg (by simp [c1]),if_neg c2,if_neg (by simp [c3]),if_pos ⟨h8,by rw [hy]; exact c4⟩]) (by decide) (by simp)
      ·simp [-V,-y3,-y0,J,f1,fm,f3,f4,fp,h8,hw];refine ih fa _ ⟨?_,?_,?_,?_⟩
       ·simp [f1]
       ·simp [fm]
       ·simp
       ·rw [<- hv,if_pos];unfold q22;rw [if_neg (by simp [c1]),if_neg c2,if_neg (by simp [c3]),if_neg fun h=>h8 h.1]
     ·simp [-V,-y3,-y0,J];exact err _ 4 (by unfold q22; rw [if_neg (by simp [c1]),if_neg c2,if_pos c3]) (by decide) h2
     all_goals simp [f1,fm,f3,f4,fp]
    ·simp [-V,-y3,-y0,J];exact err _ 1 (by unfold q22; rw [if_neg (by simp [c1]),if_pos c2]) (by decide) h2
    all_goals simp [e1,m1,e3]
  ·have ga:¬ (i:Int)<s.types.length:=by omega
   simp [q40,-V,-y3,-y0,J,e1,m1,e3,ga];refine hk _ _ (.inl ⟨rfl,?_⟩);rw [<- hv,show s.types.length - i=0 from by omega,q1Q]
 ·refine ⟨?_,?_,?_,?_⟩ <;> simp
 ·rcases h with ⟨rfl,h1⟩ | ⟨rfl,h1⟩
  ·simp [-V,-y3,-y0,J,h1]
  ·simp [-V,-y3,-y0,J,h1]
end Go.Proofs.YtbnlmgncbgaepaaGreat
