/- Part of the proof: the machine, the code of functions, and what it computes. -/
import Derived.Test.YtdjomefkhdimaaaGreatKge
import Derived.ProofKit
import Derived.JoinedCond
set_option linter.unusedSimpArgs false
set_option linter.unusedVariables false
set_option linter.unusedSectionVars false
set_option maxRecDepth 100000
set_option maxHeartbeats 8000000
namespace Go.Proofs.YtdjomefkhdimaaaGreat
open Go
theorem rnames_lp (sn:Bool) (S:List Typ) (i:Nat) (hiS:i<S.length) (hS:S.length<=9223372036854775807) (t:Typ) (p:Nat) (r:RV) (P:MSt->Prop) (hP:∀ s s':MSt,s'.mem=s.mem->s'.obj=s.obj->(∀ t,t ∉ [2,5,27,28,29,30,31,32,33,34,35,36,37,38,39,40,41,42,43,44,45]->s'.env t=s.env t)->P s->P s') (k:Ex->MSt->Option RV)
  (hk:∀ s',¬ (t.named=true/\t.name∈(S.take i).map Typ.name)->P s'->k (.exit 2) s'=some r) (hr:∀ s':MSt,t.named=true/\t.name∈(S.take i).map Typ.name->(s'.env 2).v=.int .i64 1->k .ret s'=some r)
  (s:MSt) (hs:P s) (h1:(s.env 1).v=.ptr 1 1 0) (m1:s.mem 1 1=some [⟨.sl sn (S.map typC),.no⟩]) (h3:(s.env 3).v=.int .i64 i) (h4:(s.env 4).v=.ptr 4 p 0) (m4:s.mem 4 p=some (q12 t)) (h5:(s.env 5).v=.int .i64 0):evL allT q02 q1x s k=some r:=by
 have hnm:=q1w t.kind
 change evA _ _ (.bool t.named) at hnm
 simp only [evA] at hnm
 refine q0h i (fun j s=>P s/\(s.env 1).v=.ptr 1 1 0/\s.mem 1 1=some [⟨.sl sn (S.map typC),.no⟩]/\(s.env 3).v=.int .i64 i/\(s.env 4).v=.ptr 4 p 0/\s.mem 4 p=some (q12 t)/\(s.env 5).v=.int .i64 j/\¬ (t.named=true/\t.name∈(S.take j).map Typ.name))
  (fun e s=>(e=.exit 2/\¬ (t.named=true/\t.name∈(S.take i).map Typ.name)/\P s)\/(e=.ret/\(t.named=true/\t.name∈(S.take i).map Typ.name)/\(s.env 2).v=.int .i64 1)) (fun j hj s k h ih hk=>?_) _ _ ?_ (fun e s h=>?_)
 ·obtain ⟨hp,e1,m1,e3,e4,m4,e5,hs⟩:=h
  refine q04 ?_
  by_cases hlt:j<i
  ·have hlt':(j:Int)<i:=by omega
   have hjS:j<S.length:=by omega
   have g1:(S.map typC)[j]?=some (typC S[j]):=by simp [hjS]
   have hw:=q0W (i:=j) (by omega)
   have ht:S.take (j + 1)=S.take j++[S[j]]:=(List.take_append_getElem hjS).symm
   have hmem:S[j]∈S.take i:=List.mem_take_iff_getElem.2 ⟨j,by omega,rfl⟩
   generalize S[j]=u at *
   simp only [typC] at g1
   have nxt:∀ s',s'.mem=s.mem->s'.obj=s.obj->(∀ t,t ∉ [2,5,27,28,29,30,31,32,33,34,35,36,37,38,39,40,41,42,43,44,45]->s'.env t=s.env t)->(s'.env 5).v=.int .i64 ((j + 1:Nat):Int)->¬ (t.named=true/\u.name=t.name)->evL allT q02 q1x s' k=some r:=fun s' hm ho he h5 hn=>by
    refine ih hlt _ ⟨hP s s' hm ho he hp,?_,?_,?_,?_,?_,h5,?_⟩
    ·rw [he 1 (by decide)]; exact e1
    ·rw [hm]; exact m1
    ·rw [he 3 (by decide)]; exact e3
    ·rw [he 4 (by decide)]; exact e4
    ·rw [hm]; exact m4
    ·rw [ht,List.map_append,List.mem_append]
     rintro ⟨h1,h2 | h2⟩
     ·exact hs ⟨h1,h2⟩
     ·simp at h2; exact hn ⟨h1,h2.symm⟩
   cases hb:t.named with
   | false =>
    rw [hb] at hnm
    simp [q1x,-Option.bind_some,-Int.toNat_lt,-List.map_map,List.range_succ,e1,m1,e3,e4,m4,e5,hlt',g1,hnm,hw]
    refine nxt _ rfl rfl ?_ ?_ (by simp [hb])
    ·intro t ht
     simp only [List.mem_cons,List.not_mem_nil,or_false,not_or] at ht
     simp [q2V,ht]
    ·simp
   | true =>
    rw [hb] at hnm
    by_cases hne:u.name=t.name
    ·simp [q1x,-Option.bind_some,-Int.toNat_lt,-List.map_map,List.range_succ,e1,m1,e3,e4,m4,e5,hlt',g1,hnm,hne]
     exact hk _ _ (.inr ⟨rfl,⟨hb,hne ▸ List.mem_map_of_mem hmem⟩,by simp⟩)
    ·simp [q1x,-Option.bind_some,-Int.toNat_lt,-List.map_map,List.range_succ,e1,m1,e3,e4,m4,e5,hlt',g1,hnm,hne,hw]
     refine nxt _ rfl rfl ?_ ?_ (by simp [hne])
     ·intro t ht
      simp only [List.mem_cons,List.not_mem_nil,or_false,not_or] at ht
      simp [q2V,ht]
     ·simp
  ·have hlt':¬ (j:Int)<i:=by omega
   have hji:j=i:=by omega
   simp [q1x,-Option.bind_some,-Int.toNat_lt,-List.map_map,List.range_succ,e3,e5,hlt']
   refine hk _ _ (.inl ⟨rfl,hji ▸ hs,hP s _ rfl rfl ?_ hp⟩)
   intro t ht
   simp only [List.mem_cons,List.not_mem_nil,or_false,not_or] at ht
   simp [q2V,ht]
 ·simp [hs,h1,m1,h3,h4,m4,h5]
 ·rcases h with ⟨rfl,h1,h2⟩ | ⟨rfl,h1,h2⟩
  ·exact hk s h1 h2
  ·exact hr s h1 h2
theorem rvuses_lp (sn:Bool) (S:List Typ) (U:List Int) (hU:U.length<=9223372036854775807) (bu:Bool) (r:RV) (P:MSt->Prop) (hP:∀ s s':MSt,s'.mem=s.mem->s'.obj=s.obj->(∀ t,t ∉ [2,7,48,49,50,51,52,53,54,55,56,57,58,59,60,61,62,63,64,65,66,67,68]->s'.env t=s.env t)->P s->P s') (k:Ex->MSt->Option RV)
  (hk:∀ s',U.any (q0D S.length)=false->P s'->k (.exit 4) s'=some r) (hr:∀ s':MSt,U.any (q0D S.length)=true->(s'.env 2).v=.int .i64 4->k .ret s'=some r)
  (s:MSt) (hs:P s) (h1:(s.env 1).v=.ptr 1 1 0) (m1:s.mem 1 1=some [⟨.sl sn (S.map typC),.no⟩]) (h6:(s.env 6).v=.sl bu (U.map intC)) (h7:(s.env 7).v=.int .i64 0):evL allT q02 q1P s k=some r:=by
 refine q0h U.length (fun i s=>P s/\(s.env 1).v=.ptr 1 1 0/\s.mem 1 1=some [⟨.sl sn (S.map typC),.no⟩]/\(s.env 6).v=.sl bu (U.map intC)/\(s.env 7).v=.int .i64 i/\(U.drop i).any (q0D S.length)=U.any (q0D S.length))
  (fun e s=>(e=.exit 4/\U.any (q0D S.length)=false/\P s)\/(e=.ret/\U.any (q0D S.length)=true/\(s.env 2).v=.int .i64 4)) (fun i hi s k h ih hk=>?_) _ _ ?_ (fun e s h=>?_)
 ·obtain ⟨hp,e1,m1,e6,e7,hs⟩:=h
  refine q04 ?_
  by_cases hlt:i<U.length
  ·have hlt':(i:Int)<U.length:=by omega
   have g1:(U.map intC)[i]?=some (intC U[i]):=by simp [hlt]
   have hw:=q0W (i:=i) (by omega)
   rw [List.drop_eq_getElem_cons hlt,List.any_cons] at hs
   generalize U[i]=u at *
   simp only [intC] at g1
   by_cases c1:u<0
   ·simp [q1P,-Option.bind_some,-Int.toNat_lt,-List.map_map,List.range_succ,e1,m1,e6,e7,hlt',g1,c1]
    exact hk _ _ (.inr ⟨rfl,by rw [<- hs]; simp [q0D,c1],by simp⟩)
   by_cases c2:(S.length:Int)<=u
   ·simp [q1P,-Option.bind_some,-Int.toNat_lt,-List.map_map,List.range_succ,e1,m1,e6,e7,hlt',g1,c1,c2]
    exact hk _ _ (.inr ⟨rfl,by rw [<- hs]; simp [q0D,c2],by simp⟩)
   simp [q1P,-Option.bind_some,-Int.toNat_lt,-List.map_map,List.range_succ,e1,m1,e6,e7,hlt',g1,c1,c2,hw]
   refine ih hlt _ ⟨hP s _ rfl rfl ?_ hp,?_,?_,?_,?_,?_⟩
   ·intro t ht
    simp only [List.mem_cons,List.not_mem_nil,or_false,not_or] at ht
    simp [q2V,ht]
   ·simp [e1]
   ·simp [m1]
   ·simp [e6]
   ·simp
   ·rw [<- hs]; simp [q0D,c1,c2]
  ·have hlt':¬ (i:Int)<U.length:=by omega
   simp [q1P,-Option.bind_some,-Int.toNat_lt,-List.map_map,List.range_succ,e6,e7,hlt']
   rw [List.drop_eq_nil_of_le (by omega)] at hs
   refine hk _ _ (.inl ⟨rfl,hs.symm,hP s _ rfl rfl ?_ hp⟩)
   intro t ht
   simp only [List.mem_cons,List.not_mem_nil,or_false,not_or] at ht
   simp [q2V,ht]
 ·simp [hs,h1,m1,h6,h7]
 ·rcases h with ⟨rfl,h1,h2⟩ | ⟨rfl,h1,h2⟩
  ·exact hk s h1 h2
  ·exact hr s h1 h2
theorem rvalid_ev (s:Sch) (hs:s.fine):evA 42 [.agg (schC s)] (.int .i64 (valid s.types)):=by
 obtain ⟨hlen,hfine⟩:=hs
 refine q00 (c:=q3t) rfl rfl ?_
 unfold valid
 by_cases h32:32<s.types.length
 ·have h32':(32:Int)<s.types.length:=by omega
  simp [q3t,-Option.bind_some,-Int.toNat_lt,-List.map_map,List.range_succ,schC,h32,h32']
 have h32':¬ (32:Int)<s.types.length:=by omega
 simp [q3t,-Option.bind_some,-Int.toNat_lt,-List.map_map,List.range_succ,schC,h32,h32']
 refine q0h s.types.length (fun i σ=>(σ.env 1).v=.ptr 1 1 0/\σ.mem 1 1=some [⟨.sl s.nl (s.types.map typC),.no⟩]/\(σ.env 3).v=.int .i64 i/\q1q s.types (s.types.length - i) i=q1q s.types s.types.length 0)
  (fun e σ=>(e=.exit 0/\q1q s.types s.types.length 0=0)\/(e=.ret/\(σ.env 2).v=.int .i64 (q1q s.types s.types.length 0))) (fun i hi σ k h ih hk=>?_) _ _ ?_ (fun e σ h=>?_)
 ·obtain ⟨e1,m1,e3,hv⟩:=h
  refine q04 ?_
  by_cases hlt:i<s.types.length
  ·have hlt':(i:Int)<s.types.length:=by omega
   have g1:(s.types.map typC)[i]?=some (typC s.types[i]):=by simp [hlt]
   have hw:=q0W (i:=i) (by omega)
   have hf:=own_ev s.types[i] (hfine _ (List.getElem_mem _))
   have hu:=fun h9:(s.types[i]'hlt).kind<=9=>ruses_ev (s.types[i]'hlt) (hfine _ (List.getElem_mem hlt)).2.2 h9 _ rfl
   have hml:=(hfine _ (List.getElem_mem hlt)).2.2
   rw [q8I hlt] at hv
   generalize s.types[i]=t at *
   have hul:t.usesL.length<=9223372036854775807:=by
    unfold Typ.usesL
    by_cases h8:t.kind=8 <;> by_cases h7:7<=t.kind <;> simp [h8,h7] <;> omega
   simp only [evA,typC] at hf hu
   simp only [typC] at g1
   have err:∀ σ' n,q1F s.types i t=n->n≠0->(σ'.env 2).v=.int .i64 n->k .ret σ'=some (.int .i64 (q1q s.types s.types.length 0),none):=fun σ' n h1 h2 h3=>hk _ _ (.inr ⟨rfl,by rw [h3,<- hv,h1,if_neg h2]⟩)
   cases c1:q0N t with
   | false =>
    rw [c1] at hf
    simp [q35,-Option.bind_some,-Int.toNat_lt,-List.map_map,List.range_succ,e1,m1,e3,hlt',g1,hf]
    exact err _ 1 (by simp [q1F,c1]) (by decide) (by simp)
   | true =>
    rw [c1] at hf
    have hu:=hu (q4X c1).2
    simp [q35,-Option.bind_some,-Int.toNat_lt,-List.map_map,List.range_succ,e1,m1,e3,hlt',g1,hf]
    refine rnames_lp s.nl s.types i hlt hlen t (σ.next + 1) _ (fun σ2=>(σ2.env 1).v=.ptr 1 1 0/\σ2.mem 1 1=some [⟨.sl s.nl (s.types.map typC),.no⟩]/\(σ2.env 3).v=.int .i64 i/\(σ2.env 4).v=.ptr 4 (σ.next + 1) 0/\σ2.mem 4 (σ.next + 1)=some (q12 t)) (fun a b hm ho he h=>?_) _ (fun σ2 c2 h=>?_) (fun σ2 c2 h2=>?_) _ ⟨?_,?_,?_,?_,?_⟩ ?_ ?_ ?_ ?_ ?_ ?_
    ·rw [hm,he 1 (by decide),he 3 (by decide),he 4 (by decide)]
     exact h
    ·obtain ⟨f1,fm,f3,f4,fp⟩:=h
     simp [-Option.bind_some,-Int.toNat_lt,-List.map_map,List.range_succ,f1,fm,f3,f4,fp,hu]
     refine rvuses_lp s.nl s.types t.usesL hul t.usesL.isEmpty _ (fun σ2=>(σ2.env 1).v=.ptr 1 1 0/\σ2.mem 1 1=some [⟨.sl s.nl (s.types.map typC),.no⟩]/\(σ2.env 3).v=.int .i64 i/\(σ2.env 4).v=.ptr 4 (σ.next + 1) 0/\σ2.mem 4 (σ.next + 1)=some (q12 t)) (fun a b hm ho he h=>?_) _ (fun σ2 c3 h=>?_) (fun σ2 c3 h2=>?_) _ ⟨?_,?_,?_,?_,?_⟩ ?_ ?_ ?_ ?_
     ·rw [hm,he 1 (by decide),he 3 (by decide),he 4 (by decide)]
      exact h
     ·obtain ⟨f1,fm,f3,f4,fp⟩:=h
      by_cases h8:t.kind=8
      ·obtain ⟨hk0,hk1⟩:=key_in h8 c3
       have h3:t.key.toNat<s.types.length:=by omega
       have gy:(s.types.map typC)[t.key.toNat]?=some (typC s.types[t.key.toNat]):=by rw [List.getElem?_map,List.getElem?_eq_getElem h3]; rfl
       have hy:q7j s.types t.key=s.types[t.key.toNat].kind:=by unfold q7j; rw [List.getElem?_eq_getElem h3]
       generalize s.types[t.key.toNat]=y at *
       have hkk:=keykind_ev y.kind
       simp only [typC] at gy
       simp only [evA] at hkk
       by_cases c4:1<=y.kind/\y.kind<=4
       ·rw [decide_eq_true c4] at hkk
        simp [-Option.bind_some,-Int.toNat_lt,-List.map_map,List.range_succ,f1,fm,f3,f4,fp,h8,hk0,gy,hkk,hw]
        refine ih hlt _ ⟨?_,?_,?_,?_⟩
        ·simp [f1]
        ·simp [fm]
        ·simp
        ·rw [<- hv,if_pos]
         unfold q1F
         rw [if_neg (by simp [c1]),if_neg c2,if_neg (by simp [c3]),if_neg fun h=>h.2 (by rw [hy]; exact c4)]
       ·rw [decide_eq_false c4] at hkk
        simp [-Option.bind_some,-Int.toNat_lt,-List.map_map,List.range_succ,f1,fm,f3,f4,fp,h8,hk0,gy,hkk]
        exact err _ 1 (by unfold q1F; rw [if_neg (by simp [c1]),if_neg c2,if_neg (by simp [c3]),if_pos ⟨h8,by rw [hy]; exact c4⟩]) (by decide) (by simp)
      ·simp [-Option.bind_some,-Int.toNat_lt,-List.map_map,List.range_succ,f1,fm,f3,f4,fp,h8,hw]
       refine ih hlt _ ⟨?_,?_,?_,?_⟩
       ·simp [f1]
       ·simp [fm]
       ·simp
       ·rw [<- hv,if_pos]
        unfold q1F
        rw [if_neg (by simp [c1]),if_neg c2,if_neg (by simp [c3]),if_neg fun h=>h8 h.1]
     ·simp [-Option.bind_some,-Int.toNat_lt,-List.map_map,List.range_succ]
      exact err _ 4 (by unfold q1F; rw [if_neg (by simp [c1]),if_neg c2,if_pos c3]) (by decide) h2
     all_goals simp [f1,fm,f3,f4,fp]
    ·simp [-Option.bind_some,-Int.toNat_lt,-List.map_map,List.range_succ]
     exact err _ 1 (by unfold q1F; rw [if_neg (by simp [c1]),if_pos c2]) (by decide) h2
    all_goals simp [e1,m1,e3]
  ·have hlt':¬ (i:Int)<s.types.length:=by omega
   simp [q35,-Option.bind_some,-Int.toNat_lt,-List.map_map,List.range_succ,e1,m1,e3,hlt']
   refine hk _ _ (.inl ⟨rfl,?_⟩)
   rw [<- hv,show s.types.length - i=0 from by omega,q1q]
 ·refine ⟨?_,?_,?_,?_⟩ <;> simp
 ·rcases h with ⟨rfl,h1⟩ | ⟨rfl,h1⟩
  ·simp [-Option.bind_some,-Int.toNat_lt,-List.map_map,List.range_succ,h1]
  ·simp [-Option.bind_some,-Int.toNat_lt,-List.map_map,List.range_succ,h1]
noncomputable def q7O (S:List Typ) (t:Int) (v:Vl):Bool:=fitN S (SizeOf.sizeOf v + 1) t v
theorem plain_v (sn:Bool) (S:List Typ) (hS:goodS S) (t:Int) (v:Vl) (hok:v.ok) (h64:v.i64):evA 65 [schA sn S,.int .i64 t,.agg (valC v)] (.bool (q7O S t v)):=by
 have h:=fits_ev sn S hS (SizeOf.sizeOf v + 1) t v (by omega) hok h64
 simp only [evA,q03] at h ⊢
 refine q00 (c:=q4v) rfl rfl ?_
 unfold q7O
 simp [q4v,-Option.bind_some,-Int.toNat_lt,-List.map_map,List.range_succ,h]
theorem rplain_v (sn:Bool) (S:List Typ) (hS:goodS S) (t:Int) (v:Vl) (hok:v.ok) (h64:v.i64):evA 62 [schA sn S,.int .i64 t,.agg (valC v)] (.bool (q7O S t v)):=by
 have h:=fit_ev sn S hS (SizeOf.sizeOf v + 1) t v (by omega) hok h64
 simp only [evA,q03] at h ⊢
 refine q00 (c:=q4w) rfl rfl ?_
 unfold q7O
 simp [q4w,-Option.bind_some,-Int.toNat_lt,-List.map_map,List.range_succ,h]
theorem valid_types {l:List Typ}:∀ n i,i + n=l.length->q1q l n i=0->∀ j,i<=j->(h:j<l.length)->q1F l j l[j]=0
 | 0,i,hi,_,j,hj,h=>by omega
 | n + 1,i,hi,h0,j,hj,h=>by
  have hlt:i<l.length:=by omega
  rw [q1q,List.getElem?_eq_getElem hlt] at h0
  simp only at h0
  by_cases he:q1F l i l[i]=0
  ·rw [if_pos he] at h0
   rcases Nat.lt_or_eq_of_le hj with h1 | h1
   ·exact valid_types n (i + 1) (by omega) h0 j h1 h
   ·subst h1; exact he
  ·rw [if_neg he] at h0; exact absurd h0 he
theorem q60 {l:List Typ} {i:Nat} {t:Typ} (h:q1F l i t=0):q0N t=true/\t.usesL.any (q0D l.length)=false:=by
 unfold q1F at h
 by_cases h1:q0N t=false
 ·rw [if_pos h1] at h; cases h
 ·rw [if_neg h1] at h
  refine ⟨by simpa using h1,?_⟩
  by_cases h2:t.named=true/\t.name∈(l.take i).map Typ.name
  ·rw [if_pos h2] at h; cases h
  ·rw [if_neg h2] at h
   by_cases h3:t.usesL.any (q0D l.length)=true
   ·rw [if_pos h3] at h; cases h
   ·simpa using h3
theorem q4J {l:List Typ} (h:valid l=0) (j:Nat) (hj:j<l.length):q1F l j l[j]=0:=by
 unfold valid at h
 by_cases h32:32<l.length
 ·rw [if_pos h32] at h; cases h
 ·rw [if_neg h32] at h
  exact valid_types l.length 0 (by omega) h j (by omega) hj
theorem valid_good {s:Sch} (hs:s.fine) (h:valid s.types=0):goodS s.types:=fun x hx=>by
 obtain ⟨j,hj,rfl⟩:=List.getElem_of_mem hx
 exact ⟨(q60 (q4J h j hj)).1,hs.2 _ hx⟩
noncomputable def badM (S:List Typ) (m:Mem):Bool:=m.has&&!q7O S m.ty m.dflt
noncomputable def q6f (S:List Typ) (t:Typ):Option Int:=(t.mems.find? (badM S)).map Mem.id
noncomputable def q2i (S:List Typ):Nat->Nat->Option (Nat × Int)
 | 0,_=>none
 | n + 1,i=>match S[i]? with
  | some t=>(match q6f S t with
   | some d=>some (i,d)
   | none=>q2i S n (i + 1))
  | none=>none
def dfltA:Option (Nat × Int)->AV
 | some (i,d)=>.tup [.int .i64 i,.int .i64 d,.int .i64 1]
 | none=>.tup [.int .i64 0,.int .i64 0,.int .i64 0]
noncomputable def dfltsA (S:List Typ):AV:=if valid S=0 then dfltA (q2i S S.length 0) else .tup [.int .i64 0,.int .i64 0,.int .i64 (valid S)]
def Typ.d64 (t:Typ):Prop:=∀ m∈t.mems,m.dflt.i64
def Sch.d64 (s:Sch):Prop:=∀ t∈s.types,t.d64
theorem dflts_step {S:List Typ} {i:Nat} (h:i<S.length):q2i S (S.length - i) i=match q6f S S[i] with
  | some d=>some (i,d)
  | none=>q2i S (S.length - (i + 1)) (i + 1):=by
 rw [show S.length - i=(S.length - (i + 1)) + 1 from by omega,q2i,List.getElem?_eq_getElem h]
theorem dlp (sn:Bool) (S:List Typ) (hS:goodS S) (t:Typ) (ht:t.fine) (h64:t.d64) (b:Bool) (i:Nat) (r:RV) (P:MSt->Prop) (hP:∀ s s':MSt,(∀ t n,t≠9->s'.mem t n=s.mem t n)->(∀ t,t ∉ [2,3,4,9,27,28,29,30,31,32,33,34,35,36,37,38,39,40,41,42,43,44,26]->s'.env t=s.env t)->P s->P s') (k:Ex->MSt->Option RV)
  (hk:∀ s',q6f S t=none->P s'->k (.exit 2) s'=some r) (hr:∀ (s':MSt) d,q6f S t=some d->(s'.env 2).v=.int .i64 i->(s'.env 3).v=.int .i64 d->(s'.env 4).v=.int .i64 1->k .ret s'=some r)
  (s:MSt) (hs:P s) (h1:(s.env 1).v=.ptr 1 1 0) (m1:s.mem 1 1=some [⟨.sl sn (S.map typC),.no⟩]) (h6:(s.env 6).v=.int .i64 i) (h24:(s.env 24).v=.sl b (t.mems.map memC)) (h25:(s.env 25).v=.int .i64 t.mems.length) (h26:(s.env 26).v=.int .i64 0):evL allT q02 q13 s k=some r:=by
 refine q0h t.mems.length (fun j s=>P s/\(s.env 1).v=.ptr 1 1 0/\s.mem 1 1=some [⟨.sl sn (S.map typC),.no⟩]/\(s.env 6).v=.int .i64 i/\(s.env 24).v=.sl b (t.mems.map memC)/\(s.env 25).v=.int .i64 t.mems.length/\(s.env 26).v=.int .i64 j/\(t.mems.drop j).find? (badM S)=t.mems.find? (badM S))
  (fun e s=>(e=.exit 2/\q6f S t=none/\P s)\/(e=.ret/\∃ d,q6f S t=some d/\(s.env 2).v=.int .i64 i/\(s.env 3).v=.int .i64 d/\(s.env 4).v=.int .i64 1)) (fun j hj s k h ih hk=>?_) _ _ ?_ (fun e s h=>?_)
 ·obtain ⟨hp,e1,m1,e6,e24,e25,e26,hs⟩:=h
  refine q04 ?_
  by_cases hlt:j<t.mems.length
  ·have hlt':(j:Int)<t.mems.length:=by omega
   have g1:(t.mems.map memC)[j]?=some (memC t.mems[j]):=by simp [hlt]
   have hw:=q0W (i:=j) (by have:=ht.2.2; omega)
   have hpl:=plain_v sn S hS t.mems[j].ty t.mems[j].dflt (ht.1.2.2 _ (List.getElem_mem _)).1 (h64 _ (List.getElem_mem _))
   rw [List.drop_eq_getElem_cons hlt,List.find?_cons] at hs
   generalize t.mems[j]=m at *
   simp only [memC] at g1
   simp only [evA,q03] at hpl
   have bad:badM S m=true->q6f S t=some m.id:=fun h=>by unfold q6f; rw [<- hs,h]; rfl
   have good:badM S m=false->(t.mems.drop (j + 1)).find? (badM S)=t.mems.find? (badM S):=fun h=>by rw [<- hs,h]
   have nxt:∀ s':MSt,(∀ t n,t≠9->s'.mem t n=s.mem t n)->(∀ t,t ∉ [2,3,4,9,27,28,29,30,31,32,33,34,35,36,37,38,39,40,41,42,43,44,26]->s'.env t=s.env t)->(s'.env 26).v=.int .i64 ((j + 1:Nat):Int)->badM S m=false->evL allT q02 q13 s' k=some r:=fun s' hm he h26 hb=>by
    refine ih hlt _ ⟨hP s s' hm he hp,?_,?_,?_,?_,?_,h26,good hb⟩
    ·rw [he 1 (by decide)]; exact e1
    ·rw [hm 1 1 (by decide)]; exact m1
    ·rw [he 6 (by decide)]; exact e6
    ·rw [he 24 (by decide)]; exact e24
    ·rw [he 25 (by decide)]; exact e25
   cases hh:m.has with
   | false =>
    simp [q13,-Option.bind_some,-Int.toNat_lt,-List.map_map,List.range_succ,e1,m1,e6,e24,e25,e26,hlt',g1,hh,hw]
    refine nxt _ ?_ ?_ ?_ (by simp [badM,hh])
    ·intro t n ht; simp [q0t,ht]
    ·intro t ht
     simp only [List.mem_cons,List.not_mem_nil,or_false,not_or] at ht
     simp [q2V,ht]
    ·simp
   | true =>
    cases hpv:q7O S m.ty m.dflt with
    | true =>
     rw [hpv] at hpl
     simp [q13,-Option.bind_some,-Int.toNat_lt,-List.map_map,List.range_succ,e1,m1,e6,e24,e25,e26,hlt',g1,hh,hpl,hw]
     refine nxt _ ?_ ?_ ?_ (by simp [badM,hh,hpv])
     ·intro t n ht; simp [q0t,ht]
     ·intro t ht
      simp only [List.mem_cons,List.not_mem_nil,or_false,not_or] at ht
      simp [q2V,ht]
     ·simp
    | false =>
     rw [hpv] at hpl
     simp [q13,-Option.bind_some,-Int.toNat_lt,-List.map_map,List.range_succ,e1,m1,e6,e24,e25,e26,hlt',g1,hh,hpl]
     exact hk _ _ (.inr ⟨rfl,m.id,bad (by simp [badM,hh,hpv]),by simp,by simp,by simp⟩)
  ·have hlt':¬ (j:Int)<t.mems.length:=by omega
   simp [q13,-Option.bind_some,-Int.toNat_lt,-List.map_map,List.range_succ,e25,e26,hlt']
   rw [List.drop_eq_nil_of_le (by omega)] at hs
   refine hk _ _ (.inl ⟨rfl,by unfold q6f; rw [<- hs]; rfl,hP s _ ?_ ?_ hp⟩)
   ·intro t n _; rfl
   ·intro t ht
    simp only [List.mem_cons,List.not_mem_nil,or_false,not_or] at ht
    simp [q2V,ht]
 ·simp [hs,h1,m1,h6,h24,h25,h26]
 ·rcases h with ⟨rfl,h1,h2⟩ | ⟨rfl,d,h1,h2,h3,h4⟩
  ·exact hk s h1 h2
  ·exact hr s d h1 h2 h3 h4
theorem dflts_ev (s:Sch) (hs:s.fine) (h64:s.d64):evA 45 [.agg (schC s)] (dfltsA s.types):=by
 have hv:=valid_ev s hs
 simp only [evA,schC] at hv
 refine q00 (c:=q2p) rfl rfl ?_
 unfold dfltsA
 by_cases h0:valid s.types=0
 case neg =>
  rw [if_neg h0]
  simp [q2p,-Option.bind_some,-Int.toNat_lt,-List.map_map,List.range_succ,schC,hv,h0]
 have hS:=valid_good hs h0
 rw [if_pos h0]
 rw [h0] at hv
 simp [q2p,-Option.bind_some,-Int.toNat_lt,-List.map_map,List.range_succ,schC,hv]
 refine q0h s.types.length (fun i σ=>(σ.env 1).v=.ptr 1 1 0/\σ.mem 1 1=some [⟨.sl s.nl (s.types.map typC),.no⟩]/\(σ.env 16).v=.sl s.nl (s.types.map typC)/\(σ.env 17).v=.int .i64 s.types.length/\(σ.env 18).v=.int .i64 i/\q2i s.types (s.types.length - i) i=q2i s.types s.types.length 0)
  (fun e σ=>(e=.exit 0/\q2i s.types s.types.length 0=none)\/(e=.ret/\∃ j d,q2i s.types s.types.length 0=some (j,d)/\(σ.env 2).v=.int .i64 j/\(σ.env 3).v=.int .i64 d/\(σ.env 4).v=.int .i64 1)) (fun i hi σ k h ih hk=>?_) _ _ ?_ (fun e σ h=>?_)
 ·obtain ⟨e1,m1,e16,e17,e18,hd⟩:=h
  refine q04 ?_
  by_cases hlt:i<s.types.length
  ·have hlt':(i:Int)<s.types.length:=by omega
   have g1:(s.types.map typC)[i]?=some (typC s.types[i]):=by simp [hlt]
   have hw:=q0W (i:=i) (by have:=hs.1; omega)
   have hfine:=hs.2 _ (List.getElem_mem hlt)
   have hd64:=h64 _ (List.getElem_mem hlt)
   rw [dflts_step hlt] at hd
   generalize s.types[i]=t at *
   simp only [typC] at g1
   simp [q3i,-Option.bind_some,-Int.toNat_lt,-List.map_map,List.range_succ,e1,m1,e16,e17,e18,hlt',g1]
   refine dlp s.nl s.types hS t hfine hd64 t.mn i _ (fun σ2=>(σ2.env 1).v=.ptr 1 1 0/\σ2.mem 1 1=some [⟨.sl s.nl (s.types.map typC),.no⟩]/\(σ2.env 16).v=.sl s.nl (s.types.map typC)/\(σ2.env 17).v=.int .i64 s.types.length/\(σ2.env 18).v=.int .i64 i) (fun a b hm he h=>?_) _ (fun σ2 hn h=>?_) (fun σ2 d hn q2 q3 q4=>?_) _ ⟨?_,?_,?_,?_,?_⟩ ?_ ?_ ?_ ?_ ?_ ?_
   ·rw [hm 1 1 (by decide),he 1 (by decide),he 16 (by decide),he 17 (by decide),he 18 (by decide)]
    exact h
   ·obtain ⟨f1,fm,f16,f17,f18⟩:=h
    simp [-Option.bind_some,-Int.toNat_lt,-List.map_map,List.range_succ,f18,hw]
    refine ih hlt _ ⟨?_,?_,?_,?_,?_,by rw [<- hd,hn]⟩ <;> simp [f1,fm,f16,f17]
   ·simp [-Option.bind_some,-Int.toNat_lt,-List.map_map,List.range_succ]
    exact hk _ _ (.inr ⟨rfl,i,d,by rw [<- hd,hn],q2,q3,q4⟩)
   all_goals simp [e1,m1,e16,e17,e18]
  ·have hlt':¬ (i:Int)<s.types.length:=by omega
   simp [q3i,-Option.bind_some,-Int.toNat_lt,-List.map_map,List.range_succ,e17,e18,hlt']
   exact hk _ _ (.inl ⟨rfl,by rw [<- hd,show s.types.length - i=0 from by omega,q2i]⟩)
 ·simp
 ·rcases h with ⟨rfl,h1⟩ | ⟨rfl,j,d,h1,h2,h3,h4⟩
  ·rw [h1]; simp [-Option.bind_some,-Int.toNat_lt,-List.map_map,List.range_succ,dfltA]
  ·rw [h1]; simp [-Option.bind_some,-Int.toNat_lt,-List.map_map,List.range_succ,h2,h3,h4,dfltA]
theorem rdlp (sn:Bool) (S:List Typ) (hS:goodS S) (t:Typ) (ht:t.fine) (h64:t.d64) (b:Bool) (i:Nat) (r:RV) (P:MSt->Prop) (hP:∀ s s':MSt,s'.mem=s.mem->(∀ t,t ∉ [2,3,4,8,27,28,29,30,31,32,33,34,35,36,37,38,39,40,41,42,43,44,45,46,47,48,49,50,51,52]->s'.env t=s.env t)->P s->P s') (k:Ex->MSt->Option RV)
  (hk:∀ s',q6f S t=none->P s'->k (.exit 2) s'=some r) (hr:∀ (s':MSt) d,q6f S t=some d->(s'.env 2).v=.int .i64 i->(s'.env 3).v=.int .i64 d->(s'.env 4).v=.int .i64 1->k .ret s'=some r)
  (s:MSt) (hs:P s) (h1:(s.env 1).v=.ptr 1 1 0) (m1:s.mem 1 1=some [⟨.sl sn (S.map typC),.no⟩]) (h6:(s.env 6).v=.int .i64 i) (h7:(s.env 7).v=.sl b (t.mems.map memC)) (h8:(s.env 8).v=.int .i64 0):evL allT q02 q14 s k=some r:=by
 refine q0h t.mems.length (fun j s=>P s/\(s.env 1).v=.ptr 1 1 0/\s.mem 1 1=some [⟨.sl sn (S.map typC),.no⟩]/\(s.env 6).v=.int .i64 i/\(s.env 7).v=.sl b (t.mems.map memC)/\(s.env 8).v=.int .i64 j/\(t.mems.drop j).find? (badM S)=t.mems.find? (badM S))
  (fun e s=>(e=.exit 2/\q6f S t=none/\P s)\/(e=.ret/\∃ d,q6f S t=some d/\(s.env 2).v=.int .i64 i/\(s.env 3).v=.int .i64 d/\(s.env 4).v=.int .i64 1)) (fun j hj s k h ih hk=>?_) _ _ ?_ (fun e s h=>?_)
 ·obtain ⟨hp,e1,m1,e6,e7,e8,hs⟩:=h
  refine q04 ?_
  by_cases hlt:j<t.mems.length
  ·have hlt':(j:Int)<t.mems.length:=by omega
   have g1:(t.mems.map memC)[j]?=some (memC t.mems[j]):=by simp [hlt]
   have hw:=q0W (i:=j) (by have:=ht.2.2; omega)
   have hpl:=rplain_v sn S hS t.mems[j].ty t.mems[j].dflt (ht.1.2.2 _ (List.getElem_mem _)).1 (h64 _ (List.getElem_mem _))
   rw [List.drop_eq_getElem_cons hlt,List.find?_cons] at hs
   generalize t.mems[j]=m at *
   simp only [memC] at g1
   simp only [evA,q03] at hpl
   have bad:badM S m=true->q6f S t=some m.id:=fun h=>by unfold q6f; rw [<- hs,h]; rfl
   have good:badM S m=false->(t.mems.drop (j + 1)).find? (badM S)=t.mems.find? (badM S):=fun h=>by rw [<- hs,h]
   have nxt:∀ s':MSt,s'.mem=s.mem->(∀ t,t ∉ [2,3,4,8,27,28,29,30,31,32,33,34,35,36,37,38,39,40,41,42,43,44,45,46,47,48,49,50,51,52]->s'.env t=s.env t)->(s'.env 8).v=.int .i64 ((j + 1:Nat):Int)->badM S m=false->evL allT q02 q14 s' k=some r:=fun s' hm he h26 hb=>by
    refine ih hlt _ ⟨hP s s' hm he hp,?_,?_,?_,?_,h26,good hb⟩
    ·rw [he 1 (by decide)]; exact e1
    ·rw [hm]; exact m1
    ·rw [he 6 (by decide)]; exact e6
    ·rw [he 7 (by decide)]; exact e7
   cases hh:m.has with
   | false =>
    simp [q14,-Option.bind_some,-Int.toNat_lt,-List.map_map,List.range_succ,e1,m1,e6,e7,e8,hlt',g1,hh,hw]
    refine nxt _ rfl ?_ ?_ (by simp [badM,hh])
    ·intro t ht
     simp only [List.mem_cons,List.not_mem_nil,or_false,not_or] at ht
     simp [q2V,ht]
    ·simp
   | true =>
    cases hpv:q7O S m.ty m.dflt with
    | true =>
     rw [hpv] at hpl
     simp [q14,-Option.bind_some,-Int.toNat_lt,-List.map_map,List.range_succ,e1,m1,e6,e7,e8,hlt',g1,hh,hpl,hw]
     refine nxt _ rfl ?_ ?_ (by simp [badM,hh,hpv])
     ·intro t ht
      simp only [List.mem_cons,List.not_mem_nil,or_false,not_or] at ht
      simp [q2V,ht]
     ·simp
    | false =>
     rw [hpv] at hpl
     simp [q14,-Option.bind_some,-Int.toNat_lt,-List.map_map,List.range_succ,e1,m1,e6,e7,e8,hlt',g1,hh,hpl]
     exact hk _ _ (.inr ⟨rfl,m.id,bad (by simp [badM,hh,hpv]),by simp,by simp,by simp⟩)
  ·have hlt':¬ (j:Int)<t.mems.length:=by omega
   simp [q14,-Option.bind_some,-Int.toNat_lt,-List.map_map,List.range_succ,e7,e8,hlt']
   rw [List.drop_eq_nil_of_le (by omega)] at hs
   refine hk _ _ (.inl ⟨rfl,by unfold q6f; rw [<- hs]; rfl,hP s _ rfl ?_ hp⟩)
   intro t ht
   simp only [List.mem_cons,List.not_mem_nil,or_false,not_or] at ht
   simp [q2V,ht]
 ·simp [hs,h1,m1,h6,h7,h8]
 ·rcases h with ⟨rfl,h1,h2⟩ | ⟨rfl,d,h1,h2,h3,h4⟩
  ·exact hk s h1 h2
  ·exact hr s d h1 h2 h3 h4
theorem rdflts_ev (s:Sch) (hs:s.fine) (h64:s.d64):evA 43 [.agg (schC s)] (dfltsA s.types):=by
 have hv:=rvalid_ev s hs
 simp only [evA,schC] at hv
 refine q00 (c:=q2n) rfl rfl ?_
 unfold dfltsA
 by_cases h0:valid s.types=0
 case neg =>
  rw [if_neg h0]
  simp [q2n,-Option.bind_some,-Int.toNat_lt,-List.map_map,List.range_succ,schC,hv,h0]
 have hS:=valid_good hs h0
 rw [if_pos h0]
 rw [h0] at hv
 simp [q2n,-Option.bind_some,-Int.toNat_lt,-List.map_map,List.range_succ,schC,hv]
 refine q0h s.types.length (fun i σ=>(σ.env 1).v=.ptr 1 1 0/\σ.mem 1 1=some [⟨.sl s.nl (s.types.map typC),.no⟩]/\(σ.env 6).v=.int .i64 i/\q2i s.types (s.types.length - i) i=q2i s.types s.types.length 0)
  (fun e σ=>(e=.exit 0/\q2i s.types s.types.length 0=none)\/(e=.ret/\∃ j d,q2i s.types s.types.length 0=some (j,d)/\(σ.env 2).v=.int .i64 j/\(σ.env 3).v=.int .i64 d/\(σ.env 4).v=.int .i64 1)) (fun i hi σ k h ih hk=>?_) _ _ ?_ (fun e σ h=>?_)
 ·obtain ⟨e1,m1,e6,hd⟩:=h
  refine q04 ?_
  by_cases hlt:i<s.types.length
  ·have hlt':(i:Int)<s.types.length:=by omega
   have g1:(s.types.map typC)[i]?=some (typC s.types[i]):=by simp [hlt]
   have hw:=q0W (i:=i) (by have:=hs.1; omega)
   have hfine:=hs.2 _ (List.getElem_mem hlt)
   have hd64:=h64 _ (List.getElem_mem hlt)
   rw [dflts_step hlt] at hd
   generalize s.types[i]=t at *
   simp only [typC] at g1
   simp [q3c,-Option.bind_some,-Int.toNat_lt,-List.map_map,List.range_succ,e1,m1,e6,hlt',g1]
   refine rdlp s.nl s.types hS t hfine hd64 t.mn i _ (fun σ2=>(σ2.env 1).v=.ptr 1 1 0/\σ2.mem 1 1=some [⟨.sl s.nl (s.types.map typC),.no⟩]/\(σ2.env 6).v=.int .i64 i) (fun a b hm he h=>?_) _ (fun σ2 hn h=>?_) (fun σ2 d hn q2 q3 q4=>?_) _ ⟨?_,?_,?_⟩ ?_ ?_ ?_ ?_ ?_
   ·rw [hm,he 1 (by decide),he 6 (by decide)]
    exact h
   ·obtain ⟨f1,fm,f6⟩:=h
    simp [-Option.bind_some,-Int.toNat_lt,-List.map_map,List.range_succ,f6,hw]
    refine ih hlt _ ⟨?_,?_,?_,by rw [<- hd,hn]⟩ <;> simp [f1,fm]
   ·simp [-Option.bind_some,-Int.toNat_lt,-List.map_map,List.range_succ]
    exact hk _ _ (.inr ⟨rfl,i,d,by rw [<- hd,hn],q2,q3,q4⟩)
   all_goals simp [e1,m1,e6]
  ·have hlt':¬ (i:Int)<s.types.length:=by omega
   simp [q3c,-Option.bind_some,-Int.toNat_lt,-List.map_map,List.range_succ,e1,m1,e6,hlt']
   exact hk _ _ (.inl ⟨rfl,by rw [<- hd,show s.types.length - i=0 from by omega,q2i]⟩)
 ·simp
 ·rcases h with ⟨rfl,h1⟩ | ⟨rfl,j,d,h1,h2,h3,h4⟩
  ·rw [h1]; simp [-Option.bind_some,-Int.toNat_lt,-List.map_map,List.range_succ,dfltA]
  ·rw [h1]; simp [-Option.bind_some,-Int.toNat_lt,-List.map_map,List.range_succ,h2,h3,h4,dfltA]
noncomputable def q28 (S:List Typ):Int:=if valid S=0 then (match q2i S S.length 0 with
 | some _=>1
 | none=>0) else valid S
theorem dfltsA_ne {S:List Typ} (h:valid S=0):∃ i d,dfltsA S=.tup [.int .i64 i,.int .i64 d,.int .i64 (q28 S)]:=by
 unfold dfltsA q28
 rw [if_pos h,if_pos h]
 cases q2i S S.length 0 with
 | none=>exact ⟨_,_,rfl⟩
 | some p=>exact ⟨_,_,rfl⟩
theorem right_ev (s:Sch) (hs:s.fine) (h64:s.d64):evA 30 [.agg (schC s)] (.int .i64 (q28 s.types)):=by
 have hv:=valid_ev s hs
 have hd:=dflts_ev s hs h64
 refine q00 (c:=q2D) rfl rfl ?_
 simp only [evA,schC] at hv hd
 by_cases h0:valid s.types=0
 ·obtain ⟨i,d,hA⟩:=dfltsA_ne h0
  rw [hA] at hd
  rw [h0] at hv
  simp [q2D,-Option.bind_some,-Int.toNat_lt,-List.map_map,List.range_succ,schC,hv,hd]
 ·unfold q28
  rw [if_neg h0]
  simp [q2D,-Option.bind_some,-Int.toNat_lt,-List.map_map,List.range_succ,schC,hv,h0]
theorem rerror_ev (s:Sch) (hs:s.fine) (h64:s.d64):evA 29 [.agg (schC s)] (.int .i64 (q28 s.types)):=by
 have hv:=rvalid_ev s hs
 have hd:=rdflts_ev s hs h64
 refine q00 (c:=q3u) rfl rfl ?_
 simp only [evA,schC] at hv hd
 by_cases h0:valid s.types=0
 ·obtain ⟨i,d,hA⟩:=dfltsA_ne h0
  rw [hA] at hd
  rw [h0] at hv
  simp [q3u,-Option.bind_some,-Int.toNat_lt,-List.map_map,List.range_succ,schC,hv,hd]
 ·unfold q28
  rw [if_neg h0]
  simp [q3u,-Option.bind_some,-Int.toNat_lt,-List.map_map,List.range_succ,schC,hv,h0]
section
abbrev Vec:=Nat->Int
def inR (N:Nat) (v:Vec):Prop:=∀ j,j<N->0<=v j/\v j<=2
structure Grows (N:Nat) (F:Nat->Vec->Int):Prop where
 mono:∀ u v,inR N u->inR N v->(∀ j,j<N->u j<=v j)->∀ i,i<N->F i u<=F i v
 rng:∀ u,inR N u->∀ i,i<N->0<=F i u/\F i u<=2
def upd (F:Nat->Vec->Int) (v:Vec) (i:Nat):Vec:=fun j=>if j=i then F i v else v j
structure Low (N:Nat) (F:Nat->Vec->Int) (v:Vec):Prop where
 rng:inR N v
 post:∀ j,j<N->v j<=F j v
 least:∀ m,inR N m->(∀ j,j<N->F j m<=m j)->∀ j,j<N->v j<=m j
def sumV:Nat->Vec->Int
 | 0,_=>0
 | n + 1,v=>sumV n v + v n
theorem sumV_le (v:Vec):∀ N,inR N v->sumV N v<=2 * N
 | 0,_=>by simp [sumV]
 | n + 1,h=>by
  have:=sumV_le v n fun j hj=>h j (by omega)
  have:=h n (by omega)
  simp only [sumV]
  omega
theorem sumV_0 (v:Vec):∀ N,inR N v->0<=sumV N v
 | 0,_=>by simp [sumV]
 | n + 1,h=>by
  have:=sumV_0 v n fun j hj=>h j (by omega)
  have:=h n (by omega)
  simp only [sumV]
  omega
theorem sumV_same (v w:Vec):∀ N,(∀ j,j<N->v j=w j)->sumV N v=sumV N w
 | 0,_=>rfl
 | n + 1,h=>by simp only [sumV,sumV_same v w n fun j hj=>h j (by omega),h n (by omega)]
theorem q6K (F:Nat->Vec->Int) (v:Vec) (i:Nat):∀ N,i<N->sumV N (upd F v i)=sumV N v + (F i v - v i)
 | 0,h=>by omega
 | n + 1,h=>by
  simp only [sumV]
  by_cases e:i=n
  ·subst e
   rw [sumV_same (upd F v i) v i fun j hj=>by simp [upd,show ¬ j=i from by omega]]
   simp only [upd,if_true]
   omega
  ·rw [q6K F v i n (by omega)]
   have:upd F v i n=v n:=by simp [upd,show ¬ n=i from fun e'=>e e'.symm]
   omega
section
variable {N:Nat} {F:Nat->Vec->Int}
theorem Low.zero (G:Grows N F):Low N F (fun _=>0):=by
 refine ⟨fun j hj=>by omega,fun j hj=>(G.rng _ (fun j hj=>by omega) j hj).1,fun m hm _ j hj=>(hm j hj).1⟩
theorem upd_ge {v:Vec} (h:Low N F v) {i:Nat} (hi:i<N) (j:Nat):v j<=upd F v i j:=by
 unfold upd
 split
 ·rename_i e; subst e; exact h.post _ hi
 ·exact Int.le_refl _
theorem upd_rng (G:Grows N F) {v:Vec} (h:Low N F v) {i:Nat} (hi:i<N):inR N (upd F v i):=fun j hj=>by
 unfold upd
 split
 ·exact G.rng v h.rng i hi
 ·exact h.rng j hj
theorem Low.upd (G:Grows N F) {v:Vec} (h:Low N F v) {i:Nat} (hi:i<N):Low N F (upd F v i):=by
 have hr:=upd_rng G h hi
 refine ⟨hr,fun j hj=>?_,fun m hm hp j hj=>?_⟩
 ·have hm:=G.mono v (Go.Proofs.YtdjomefkhdimaaaGreat.upd F v i) h.rng hr (fun j _=>upd_ge h hi j) j hj
  unfold Go.Proofs.YtdjomefkhdimaaaGreat.upd at hm ⊢
  by_cases e:j=i
  ·subst e; simp only [if_true]; exact hm
  ·simp only [if_neg e]; have:=h.post j hj; omega
 ·unfold Go.Proofs.YtdjomefkhdimaaaGreat.upd
  split
  ·rename_i e; subst e
   have:=G.mono v m h.rng hm (h.least m hm hp) j hj
   have:=hp j hj
   omega
  ·exact h.least m hm hp j hj
theorem upd_same {v:Vec} {i:Nat} (h:F i v=v i):upd F v i=v:=by
 funext j
 unfold upd
 split
 ·rename_i e; subst e; exact h
 ·rfl
end
end
def vecC (N:Nat) (v:Vec):List (List AV):=(List.range N).map fun i=>[AV.int .i64 (v i)]
theorem q7K (N:Nat) (v:Vec):(vecC N v).length=N:=by simp [vecC]
theorem q7y (N:Nat) (v:Vec):q18 1 (vecC N v)=true:=q1T _ _ _ fun _=>rfl
theorem vecC_free (N:Nat) (v:Vec):q2e (vecC N v)=true:=q6Z _ _ fun _=>rfl
theorem q1h {N:Nat} (v:Vec) {t:Int} (h:0<=t/\t<N):(vecC N v)[t.toNat]?=some [.int .i64 (v t.toNat)]:=by
 have:t.toNat<N:=by omega
 simp [vecC,this]
theorem vecC_set {N:Nat} (v w:Vec) {i:Nat} {x:Int} (hi:w i=x) (h:∀ j,j≠i->w j=v j):(vecC N v).set i [.int .i64 x]=vecC N w:=by
 apply List.ext_getElem?
 intro j
 by_cases e:j=i
 ·subst e
  by_cases hj:j<N
  ·simp [vecC,hj,hi]
  ·simp [vecC,hj]
 ·rw [List.getElem?_set_ne (fun e'=>e e'.symm)]
  by_cases hj:j<N
  ·simp [vecC,hj,h j e]
  ·simp [vecC,hj]
def recF (v:Vec):List Mem->Int->Int
 | [],c=>c
 | m :: r,c=>recF v r (min 2 (c * v m.ty.toNat))
def sumF (v:Vec):List Mem->Int->Int
 | [],c=>c
 | m :: r,c=>sumF v r (c + v m.ty.toNat)
def capF (v:Vec):List Mem->Int->Int
 | [],c=>c
 | m :: r,c=>capF v r (min 2 (c + v m.ty.toNat))
def cntP (x:Typ) (v:Vec):Int :=
 if x.kind=2 then (if x.low=x.high then 1 else 2)
 else if x.kind=3 then (if x.max=0 then 1 else 2)
 else if x.kind=4 then x.syms.length
 else if x.kind=5 then recF v x.mems 1
 else if x.kind=6 then sumF v x.mems 0
 else if x.kind=7 then (if x.max=0\/v x.elem.toNat=0 then 1 else 2)
 else if x.kind=8 then (if x.max=0\/v x.elem.toNat=0\/v x.key.toNat=0 then 1 else 2)
 else if x.kind=9 then 1 + v x.elem.toNat
 else 2
def cntR (x:Typ) (v:Vec):Int :=
 if x.kind=2 then (if x.low=x.high then 1 else 2)
 else if x.kind=3 then (if x.max=0 then 1 else 2)
 else if x.kind=4 then min 2 x.syms.length
 else if x.kind=5 then recF v x.mems 1
 else if x.kind=6 then capF v x.mems 0
 else if x.kind=7\/x.kind=8 then (if x.max=0\/v x.elem.toNat=0 then 1 else 2)
 else if x.kind=9 then min 2 (1 + v x.elem.toNat)
 else 2
structure q1f (N:Nat) (x:Typ):Prop where
 mems:∀ m∈x.mems,0<=m.ty/\m.ty<N
 few:x.mems.length<=16
 elem:7<=x.kind->0<=x.elem/\x.elem<N
 key:x.kind=8->0<=x.key/\x.key<N
theorem recF_rng {N:Nat} {v:Vec} (hv:inR N v):∀ (l:List Mem) (c:Int),(∀ m∈l,0<=m.ty/\m.ty<N)->0<=c/\c<=2->0<=recF v l c/\recF v l c<=2
 | [],c,_,hc=>hc
 | m :: r,c,hm,hc=>by
  have h1:=hm m List.mem_cons_self
  have h2:=hv m.ty.toNat (by omega)
  refine recF_rng hv r _ (fun m' h=>hm m' (List.mem_cons_of_mem _ h)) ?_
  have:0<=c * v m.ty.toNat:=Int.mul_nonneg hc.1 h2.1
  omega
theorem capF_rng {N:Nat} {v:Vec} (hv:inR N v):∀ (l:List Mem) (c:Int),(∀ m∈l,0<=m.ty/\m.ty<N)->0<=c/\c<=2->0<=capF v l c/\capF v l c<=2
 | [],c,_,hc=>hc
 | m :: r,c,hm,hc=>by
  have h1:=hm m List.mem_cons_self
  have h2:=hv m.ty.toNat (by omega)
  refine capF_rng hv r _ (fun m' h=>hm m' (List.mem_cons_of_mem _ h)) ?_
  omega
theorem cap_sum {N:Nat} {v:Vec} (hv:inR N v):∀ (l:List Mem) (c:Int),(∀ m∈l,0<=m.ty/\m.ty<N)->capF v l (min 2 c)=min 2 (sumF v l c)
 | [],c,_=>rfl
 | m :: r,c,hm=>by
  have h1:=hm m List.mem_cons_self
  have h2:=hv m.ty.toNat (by omega)
  rw [capF,sumF,<- cap_sum hv r _ (fun m' h=>hm m' (List.mem_cons_of_mem _ h))]
  congr 1
  omega
theorem mul_mono {a b c d:Int} (h1:0<=a) (h2:a<=b) (h3:0<=c) (h4:c<=d):a * c<=b * d:=Int.mul_le_mul h2 h4 h3 (by omega)
theorem recF_mono {N:Nat} {u v:Vec} (hu:inR N u) (hv:inR N v) (huv:∀ j,j<N->u j<=v j):∀ (l:List Mem) (c d:Int),(∀ m∈l,0<=m.ty/\m.ty<N)->0<=c->c<=d->d<=2->recF u l c<=recF v l d
 | [],c,d,_,_,h,_=>h
 | m :: r,c,d,hm,h0,h,hd=>by
  have h1:=hm m List.mem_cons_self
  have h2:=hu m.ty.toNat (by omega)
  have h4:=huv m.ty.toNat (by omega)
  have h5:=mul_mono h0 h h2.1 h4
  have h6:0<=c * u m.ty.toNat:=Int.mul_nonneg h0 h2.1
  exact recF_mono hu hv huv r _ _ (fun m' h=>hm m' (List.mem_cons_of_mem _ h)) (by omega) (by omega) (by omega)
theorem capF_mono {N:Nat} {u v:Vec} (hu:inR N u) (hv:inR N v) (huv:∀ j,j<N->u j<=v j):∀ (l:List Mem) (c d:Int),(∀ m∈l,0<=m.ty/\m.ty<N)->c<=d->capF u l c<=capF v l d
 | [],c,d,_,h=>h
 | m :: r,c,d,hm,h=>by
  have h1:=hm m List.mem_cons_self
  have h4:=huv m.ty.toNat (by omega)
  exact capF_mono hu hv huv r _ _ (fun m' h=>hm m' (List.mem_cons_of_mem _ h)) (by omega)
theorem cntR_rng {N:Nat} {v:Vec} (hv:inR N v) {x:Typ} (hx:q1f N x):0<=cntR x v/\cntR x v<=2:=by
 unfold cntR
 repeat' split
 all_goals first
  | omega
  | exact recF_rng hv _ _ hx.mems (by omega)
  | exact capF_rng hv _ _ hx.mems (by omega)
  | (have:=hx.elem (by omega); have:=hv x.elem.toNat (by omega); omega)
theorem q7M {N:Nat} {v:Vec} (hv:inR N v) {x:Typ} (hx:q1f N x) (hk:x.kind≠8):min 2 (cntP x v)=cntR x v:=by
 unfold cntR cntP
 by_cases h5:x.kind=5
 ·have:=recF_rng hv x.mems 1 hx.mems (by omega)
  simp [h5]
  omega
 ·by_cases h6:x.kind=6
  ·have:=cap_sum hv x.mems 0 hx.mems
   simp [h6]
   exact this.symm
  ·by_cases h7:x.kind=7
   ·simp [h7]; split <;> rfl
   ·simp only [h5,h6,h7,hk,if_false,or_self]
    repeat' split
    all_goals rfl
theorem cntP_8 {v:Vec} {x:Typ} (hk:x.kind=8):min 2 (cntP x v)=if x.max=0\/v x.elem.toNat=0\/v x.key.toNat=0 then 1 else 2:=by
 simp [cntP,hk]
 split <;> rfl
theorem cntR_8 {v:Vec} {x:Typ} (hk:x.kind=8):cntR x v=if x.max=0\/v x.elem.toNat=0 then 1 else 2:=by simp [cntR,hk]
theorem cntR_mono {N:Nat} {u v:Vec} (hu:inR N u) (hv:inR N v) (huv:∀ j,j<N->u j<=v j) {x:Typ} (hx:q1f N x):cntR x u<=cntR x v:=by
 have he:7<=x.kind->0<=u x.elem.toNat/\u x.elem.toNat<=v x.elem.toNat:=fun h=>by
  have:=hx.elem h
  exact ⟨(hu _ (by omega)).1,huv _ (by omega)⟩
 unfold cntR
 by_cases h5:x.kind=5
 ·simp [h5]; exact recF_mono hu hv huv _ _ _ hx.mems (by omega) (by omega) (by omega)
 ·by_cases h6:x.kind=6
  ·simp [h6]; exact capF_mono hu hv huv _ _ _ hx.mems (by omega)
  ·by_cases h7:x.kind=7\/x.kind=8
   ·have:=he (by omega)
    have h2:¬ x.kind=2:=by omega
    have h3:¬ x.kind=3:=by omega
    have h4:¬ x.kind=4:=by omega
    simp only [h2,h3,h4,h5,h6,h7,if_true,if_false]
    split <;> split <;> omega
   ·by_cases h9:x.kind=9
    ·have:=he (by omega)
     simp [h9]; omega
    ·simp only [h5,h6,h7,h9,if_false]
     repeat' split
     all_goals omega
def FP (S:List Typ) (i:Nat) (v:Vec):Int:=match S[i]? with
 | some x=>min 2 (cntP x v)
 | none=>0
def FR (S:List Typ) (i:Nat) (v:Vec):Int:=match S[i]? with
 | some x=>cntR x v
 | none=>0
theorem FR_grows {S:List Typ} (hS:∀ x∈S,q1f S.length x):Grows S.length (FR S):=by
 refine ⟨fun u v hu hv huv i hi=>?_,fun u hu i hi=>?_⟩
 ·unfold FR
  rw [List.getElem?_eq_getElem hi]
  exact cntR_mono hu hv huv (hS _ (List.getElem_mem _))
 ·unfold FR
  rw [List.getElem?_eq_getElem hi]
  exact cntR_rng hu (hS _ (List.getElem_mem _))
theorem FP_rng {N:Nat} {v:Vec} (hv:inR N v) {x:Typ} (hx:q1f N x):0<=min 2 (cntP x v)/\min 2 (cntP x v)<=2:=by
 by_cases h8:x.kind=8
 ·rw [cntP_8 h8]; split <;> omega
 ·rw [q7M hv hx h8]; exact cntR_rng hv hx
theorem FP_grows {S:List Typ} (hS:∀ x∈S,q1f S.length x):Grows S.length (FP S):=by
 refine ⟨fun u v hu hv huv i hi=>?_,fun u hu i hi=>?_⟩
 ·unfold FP
  rw [List.getElem?_eq_getElem hi]
  have hx:=hS _ (List.getElem_mem hi)
  simp only
  by_cases h8:S[i].kind=8
  ·rw [cntP_8 h8,cntP_8 h8]
   have h1:=hx.elem (by omega)
   have h2:=hx.key h8
   have:=hu S[i].elem.toNat (by omega)
   have:=huv S[i].elem.toNat (by omega)
   have:=hu S[i].key.toNat (by omega)
   have:=huv S[i].key.toNat (by omega)
   split <;> split <;> omega
  ·rw [q7M hu hx h8,q7M hv hx h8]
   exact cntR_mono hu hv huv hx
 ·unfold FP
  rw [List.getElem?_eq_getElem hi]
  exact FP_rng hu (hS _ (List.getElem_mem _))
theorem FPR {S:List Typ} (hS:∀ x∈S,q1f S.length x) (hk:∀ x∈S,x.kind=8->∀ v,inR S.length v->1<=FP S x.key.toNat v) {v w:Vec} (hv:Low S.length (FP S) v) (hvf:∀ j,j<S.length->FP S j v=v j) (hw:Low S.length (FR S) w) (hwf:∀ j,j<S.length->FR S j w=w j):∀ j,j<S.length->v j=w j:=by
 have e:∀ j,j<S.length->FR S j v=FP S j v:=fun j hj=>by
  unfold FR FP
  rw [List.getElem?_eq_getElem hj]
  have hx:=hS _ (List.getElem_mem hj)
  simp only
  by_cases h8:S[j].kind=8
  ·rw [cntP_8 h8,cntR_8 h8]
   have h2:=hx.key h8
   have:=hk _ (List.getElem_mem hj) h8 v hv.rng
   rw [hvf _ (by omega)] at this
   have:¬ v S[j].key.toNat=0:=by omega
   simp [this]
  ·exact (q7M hv.rng hx h8).symm
 have hle:∀ u,inR S.length u->∀ j,j<S.length->FP S j u<=FR S j u:=fun u hu j hj=>by
  unfold FR FP
  rw [List.getElem?_eq_getElem hj]
  have hx:=hS _ (List.getElem_mem hj)
  simp only
  by_cases h8:S[j].kind=8
  ·rw [cntP_8 h8,cntR_8 h8]; split <;> split <;> omega
  ·rw [q7M hu hx h8]; exact Int.le_refl _
 have h1:∀ j,j<S.length->w j<=v j:=hw.least v hv.rng fun j hj=>by rw [e j hj,hvf j hj]; exact Int.le_refl _
 have h2:∀ j,j<S.length->v j<=w j:=hv.least w hw.rng fun j hj=>by rw [<- hwf j hj]; exact hle w hw.rng j hj
 intro j hj
 have:=h1 j hj
 have:=h2 j hj
 omega
theorem cr_ev1 {N:Nat} {v:Vec} (hv:inR N v) {x:Typ} (hx:q1f N x) (h:x.kind=1):evA 47 [.agg (typC x),.bl (vecC N v)] (.int .i64 (cntR x v)):=by
 refine q00 (c:=q0e) rfl rfl ?_
 simp [q0e,-Option.bind_some,-Int.toNat_lt,-List.map_map,List.range_succ,typC,h,cntR]
theorem cr_ev2 {N:Nat} {v:Vec} (hv:inR N v) {x:Typ} (hx:q1f N x) (h:x.kind=2):evA 47 [.agg (typC x),.bl (vecC N v)] (.int .i64 (cntR x v)):=by
 refine q00 (c:=q0e) rfl rfl ?_
 by_cases c1:x.low=x.high
 ·simp [q0e,-Option.bind_some,-Int.toNat_lt,-List.map_map,List.range_succ,typC,h,cntR,c1]
 ·simp [q0e,-Option.bind_some,-Int.toNat_lt,-List.map_map,List.range_succ,typC,h,cntR,c1]
theorem cr_ev3 {N:Nat} {v:Vec} (hv:inR N v) {x:Typ} (hx:q1f N x) (h:x.kind=3):evA 47 [.agg (typC x),.bl (vecC N v)] (.int .i64 (cntR x v)):=by
 refine q00 (c:=q0e) rfl rfl ?_
 by_cases c1:x.max=0
 ·simp [q0e,-Option.bind_some,-Int.toNat_lt,-List.map_map,List.range_succ,typC,h,cntR,c1]
 ·simp [q0e,-Option.bind_some,-Int.toNat_lt,-List.map_map,List.range_succ,typC,h,cntR,c1]
theorem cr_ev4 {N:Nat} {v:Vec} (hv:inR N v) {x:Typ} (hx:q1f N x) (h:x.kind=4):evA 47 [.agg (typC x),.bl (vecC N v)] (.int .i64 (cntR x v)):=by
 refine q00 (c:=q0e) rfl rfl ?_
 simp [q0e,-Option.bind_some,-Int.toNat_lt,-List.map_map,List.range_succ,typC,h,cntR]
theorem cr_ev7 {N:Nat} {v:Vec} (hv:inR N v) {x:Typ} (hx:q1f N x) (h:x.kind=7):evA 47 [.agg (typC x),.bl (vecC N v)] (.int .i64 (cntR x v)):=by
 refine q00 (c:=q0e) rfl rfl ?_
 have hel:=hx.elem (by omega)
 have gel:=q1h v hel
 have he0:=hel.1
 by_cases c1:x.max=0
 ·simp [q0e,-Option.bind_some,-Int.toNat_lt,-List.map_map,List.range_succ,typC,h,cntR,c1]
 ·by_cases c2:v x.elem.toNat=0
  ·simp [q0e,-Option.bind_some,-Int.toNat_lt,-List.map_map,List.range_succ,typC,h,cntR,c1,c2,gel,he0]
  ·simp [q0e,-Option.bind_some,-Int.toNat_lt,-List.map_map,List.range_succ,typC,h,cntR,c1,c2,gel,he0]
theorem cr_ev8 {N:Nat} {v:Vec} (hv:inR N v) {x:Typ} (hx:q1f N x) (h:x.kind=8):evA 47 [.agg (typC x),.bl (vecC N v)] (.int .i64 (cntR x v)):=by
 refine q00 (c:=q0e) rfl rfl ?_
 have hel:=hx.elem (by omega)
 have gel:=q1h v hel
 have he0:=hel.1
 by_cases c1:x.max=0
 ·simp [q0e,-Option.bind_some,-Int.toNat_lt,-List.map_map,List.range_succ,typC,h,cntR,c1]
 ·by_cases c2:v x.elem.toNat=0
  ·simp [q0e,-Option.bind_some,-Int.toNat_lt,-List.map_map,List.range_succ,typC,h,cntR,c1,c2,gel,he0]
  ·simp [q0e,-Option.bind_some,-Int.toNat_lt,-List.map_map,List.range_succ,typC,h,cntR,c1,c2,gel,he0]
theorem cr_ev9 {N:Nat} {v:Vec} (hv:inR N v) {x:Typ} (hx:q1f N x) (h:x.kind=9):evA 47 [.agg (typC x),.bl (vecC N v)] (.int .i64 (cntR x v)):=by
 refine q00 (c:=q0e) rfl rfl ?_
 have hel:=hx.elem (by omega)
 have gel:=q1h v hel
 have he0:=hel.1
 have ve:=hv x.elem.toNat (by omega)
 have hw:IntKind.i64.wrap (1 + v x.elem.toNat)=1 + v x.elem.toNat:=IntWalk.i64_in _ (by omega)
 simp [q0e,-Option.bind_some,-Int.toNat_lt,-List.map_map,List.range_succ,typC,h,cntR,gel,he0,hw]
theorem cr_ev5 {N:Nat} {v:Vec} (hv:inR N v) {x:Typ} (hx:q1f N x) (h:x.kind=5):evA 47 [.agg (typC x),.bl (vecC N v)] (.int .i64 (cntR x v)):=by
 refine q00 (c:=q0e) rfl rfl ?_
 simp [q0e,-Option.bind_some,-Int.toNat_lt,-List.map_map,List.range_succ,typC,h,cntR]
 refine q0h x.mems.length (fun i s=>(s.env 1).v=.bl (vecC N v)/\(s.env 2).v=.ptr 2 1 0/\s.mem 2 1=some (q12 x)/\(s.env 6).v=.int .i64 i/\∃ a,(s.env 5).v=.int .i64 a/\recF v (x.mems.drop i) a=recF v x.mems 1/\0<=a/\a<=2)
  (fun e s=>e=.exit 1/\(s.env 5).v=.int .i64 (recF v x.mems 1)) (fun i hi s k h' ih hk=>?_) _ _ ?_ (fun e s h'=>?_)
 ·obtain ⟨e1,e2,e3,e4,a,ea,hs,hb⟩:=h'
  refine q04 ?_
  by_cases hlt:i<x.mems.length
  ·have hlt':(i:Int)<x.mems.length:=by omega
   have g1:(x.mems.map memC)[i]?=some (memC x.mems[i]):=by simp [hlt]
   have hw:=q0W (i:=i) (by have:=hx.few; omega)
   have hmt:=hx.mems x.mems[i] (List.getElem_mem _)
   rw [List.drop_eq_getElem_cons hlt,recF] at hs
   generalize x.mems[i]=m at *
   have hvm:=hv m.ty.toNat (by omega)
   have gm:=q1h v hmt
   have hm0:=hmt.1
   have hm2:=Int.mul_nonneg hb.1 hvm.1
   have hm3:a * v m.ty.toNat<=2 * 2:=mul_mono hb.1 hb.2 hvm.1 hvm.2
   have hw2:IntKind.i64.wrap (a * v m.ty.toNat)=a * v m.ty.toNat:=IntWalk.i64_in _ (by omega)
   simp only [memC] at g1
   simp [q4i,-Option.bind_some,-Int.toNat_lt,-List.map_map,List.range_succ,e1,e2,e3,e4,ea,hlt',g1,gm,hm0,hw,hw2]
   refine ih hlt _ ⟨?_,?_,?_,?_,min 2 (a * v m.ty.toNat),?_,hs,by omega⟩ <;> simp [e1,e2,e3]
  ·have hlt':¬ (i:Int)<x.mems.length:=by omega
   simp [q4i,-Option.bind_some,-Int.toNat_lt,-List.map_map,List.range_succ,e1,e2,e3,e4,hlt']
   rw [List.drop_eq_nil_of_le (by omega),recF] at hs
   exact hk _ _ ⟨rfl,by simp [ea,hs]⟩
 ·simp [typC,h]
 ·obtain ⟨rfl,ea⟩:=h'
  simp [-Option.bind_some,-Int.toNat_lt,-List.map_map,List.range_succ,ea]
theorem cr_ev6 {N:Nat} {v:Vec} (hv:inR N v) {x:Typ} (hx:q1f N x) (h:x.kind=6):evA 47 [.agg (typC x),.bl (vecC N v)] (.int .i64 (cntR x v)):=by
 refine q00 (c:=q0e) rfl rfl ?_
 simp [q0e,-Option.bind_some,-Int.toNat_lt,-List.map_map,List.range_succ,typC,h,cntR]
 refine q0h x.mems.length (fun i s=>(s.env 1).v=.bl (vecC N v)/\(s.env 2).v=.ptr 2 1 0/\s.mem 2 1=some (q12 x)/\(s.env 8).v=.int .i64 i/\∃ a,(s.env 7).v=.int .i64 a/\capF v (x.mems.drop i) a=capF v x.mems 0/\0<=a/\a<=2)
  (fun e s=>e=.exit 3/\(s.env 7).v=.int .i64 (capF v x.mems 0)) (fun i hi s k h' ih hk=>?_) _ _ ?_ (fun e s h'=>?_)
 ·obtain ⟨e1,e2,e3,e4,a,ea,hs,hb⟩:=h'
  refine q04 ?_
  by_cases hlt:i<x.mems.length
  ·have hlt':(i:Int)<x.mems.length:=by omega
   have g1:(x.mems.map memC)[i]?=some (memC x.mems[i]):=by simp [hlt]
   have hw:=q0W (i:=i) (by have:=hx.few; omega)
   have hmt:=hx.mems x.mems[i] (List.getElem_mem _)
   rw [List.drop_eq_getElem_cons hlt,capF] at hs
   generalize x.mems[i]=m at *
   have hvm:=hv m.ty.toNat (by omega)
   have gm:=q1h v hmt
   have hm0:=hmt.1
   have hw2:IntKind.i64.wrap (a + v m.ty.toNat)=a + v m.ty.toNat:=IntWalk.i64_in _ (by omega)
   simp only [memC] at g1
   simp [q4e,-Option.bind_some,-Int.toNat_lt,-List.map_map,List.range_succ,e1,e2,e3,e4,ea,hlt',g1,gm,hm0,hw,hw2]
   refine ih hlt _ ⟨?_,?_,?_,?_,min 2 (a + v m.ty.toNat),?_,hs,by omega⟩ <;> simp [e1,e2,e3]
  ·have hlt':¬ (i:Int)<x.mems.length:=by omega
   simp [q4e,-Option.bind_some,-Int.toNat_lt,-List.map_map,List.range_succ,e1,e2,e3,e4,hlt']
   rw [List.drop_eq_nil_of_le (by omega),capF] at hs
   exact hk _ _ ⟨rfl,by simp [ea,hs]⟩
 ·simp [typC,h]
 ·obtain ⟨rfl,ea⟩:=h'
  simp [-Option.bind_some,-Int.toNat_lt,-List.map_map,List.range_succ,ea]
theorem cr_ev {N:Nat} {v:Vec} (hv:inR N v) {x:Typ} (hx:q1f N x) (hk:1<=x.kind/\x.kind<=9):evA 47 [.agg (typC x),.bl (vecC N v)] (.int .i64 (cntR x v)):=by
 rcases q8O x.kind with e | e | e | e | e | e | e | e | e | e
 ·exact cr_ev1 hv hx e
 ·exact cr_ev2 hv hx e
 ·exact cr_ev3 hv hx e
 ·exact cr_ev4 hv hx e
 ·exact cr_ev5 hv hx e
 ·exact cr_ev6 hv hx e
 ·exact cr_ev7 hv hx e
 ·exact cr_ev8 hv hx e
 ·exact cr_ev9 hv hx e
 ·exact absurd hk e
theorem cp_ev1 {N:Nat} {v:Vec} (hv:inR N v) {x:Typ} (hx:q1f N x) (h:x.kind=1):evA 46 [.agg (typC x),.bl (vecC N v)] (.int .i64 (cntP x v)):=by
 refine q00 (c:=q09) rfl rfl ?_
 simp [q09,-Option.bind_some,-Int.toNat_lt,-List.map_map,List.range_succ,typC,h,cntP]
theorem cp_ev2 {N:Nat} {v:Vec} (hv:inR N v) {x:Typ} (hx:q1f N x) (h:x.kind=2):evA 46 [.agg (typC x),.bl (vecC N v)] (.int .i64 (cntP x v)):=by
 refine q00 (c:=q09) rfl rfl ?_
 by_cases c1:x.low=x.high
 ·simp [q09,-Option.bind_some,-Int.toNat_lt,-List.map_map,List.range_succ,typC,h,cntP,c1]
 ·simp [q09,-Option.bind_some,-Int.toNat_lt,-List.map_map,List.range_succ,typC,h,cntP,c1]
theorem cp_ev3 {N:Nat} {v:Vec} (hv:inR N v) {x:Typ} (hx:q1f N x) (h:x.kind=3):evA 46 [.agg (typC x),.bl (vecC N v)] (.int .i64 (cntP x v)):=by
 refine q00 (c:=q09) rfl rfl ?_
 by_cases c1:x.max=0
 ·simp [q09,-Option.bind_some,-Int.toNat_lt,-List.map_map,List.range_succ,typC,h,cntP,c1]
 ·simp [q09,-Option.bind_some,-Int.toNat_lt,-List.map_map,List.range_succ,typC,h,cntP,c1]
theorem cp_ev4 {N:Nat} {v:Vec} (hv:inR N v) {x:Typ} (hx:q1f N x) (h:x.kind=4):evA 46 [.agg (typC x),.bl (vecC N v)] (.int .i64 (cntP x v)):=by
 refine q00 (c:=q09) rfl rfl ?_
 simp [q09,-Option.bind_some,-Int.toNat_lt,-List.map_map,List.range_succ,typC,h,cntP]
theorem cp_ev7 {N:Nat} {v:Vec} (hv:inR N v) {x:Typ} (hx:q1f N x) (h:x.kind=7):evA 46 [.agg (typC x),.bl (vecC N v)] (.int .i64 (cntP x v)):=by
 refine q00 (c:=q09) rfl rfl ?_
 have hel:=hx.elem (by omega)
 have gel:=q1h v hel
 have he0:=hel.1
 by_cases c1:x.max=0
 ·simp [q09,-Option.bind_some,-Int.toNat_lt,-List.map_map,List.range_succ,typC,h,cntP,c1]
 ·by_cases c2:v x.elem.toNat=0
  ·simp [q09,-Option.bind_some,-Int.toNat_lt,-List.map_map,List.range_succ,typC,h,cntP,c1,c2,gel,he0]
  ·simp [q09,-Option.bind_some,-Int.toNat_lt,-List.map_map,List.range_succ,typC,h,cntP,c1,c2,gel,he0]
theorem cp_ev8 {N:Nat} {v:Vec} (hv:inR N v) {x:Typ} (hx:q1f N x) (h:x.kind=8):evA 46 [.agg (typC x),.bl (vecC N v)] (.int .i64 (cntP x v)):=by
 refine q00 (c:=q09) rfl rfl ?_
 have hel:=hx.elem (by omega)
 have gel:=q1h v hel
 have he0:=hel.1
 have hkl:=hx.key h
 have gkl:=q1h v hkl
 have hk0:=hkl.1
 by_cases c1:x.max=0
 ·simp [q09,-Option.bind_some,-Int.toNat_lt,-List.map_map,List.range_succ,typC,h,cntP,c1]
 ·by_cases c2:v x.elem.toNat=0
  ·simp [q09,-Option.bind_some,-Int.toNat_lt,-List.map_map,List.range_succ,typC,h,cntP,c1,c2,gel,he0]
  ·by_cases c3:v x.key.toNat=0
   ·simp [q09,-Option.bind_some,-Int.toNat_lt,-List.map_map,List.range_succ,typC,h,cntP,c1,c2,c3,gel,he0,gkl,hk0]
   ·simp [q09,-Option.bind_some,-Int.toNat_lt,-List.map_map,List.range_succ,typC,h,cntP,c1,c2,c3,gel,he0,gkl,hk0]
theorem cp_ev9 {N:Nat} {v:Vec} (hv:inR N v) {x:Typ} (hx:q1f N x) (h:x.kind=9):evA 46 [.agg (typC x),.bl (vecC N v)] (.int .i64 (cntP x v)):=by
 refine q00 (c:=q09) rfl rfl ?_
 have hel:=hx.elem (by omega)
 have gel:=q1h v hel
 have he0:=hel.1
 have ve:=hv x.elem.toNat (by omega)
 have hw:IntKind.i64.wrap (1 + v x.elem.toNat)=1 + v x.elem.toNat:=IntWalk.i64_in _ (by omega)
 simp [q09,-Option.bind_some,-Int.toNat_lt,-List.map_map,List.range_succ,typC,h,cntP,gel,he0,hw]
theorem cp_ev5 {N:Nat} {v:Vec} (hv:inR N v) {x:Typ} (hx:q1f N x) (h:x.kind=5):evA 46 [.agg (typC x),.bl (vecC N v)] (.int .i64 (cntP x v)):=by
 refine q00 (c:=q09) rfl rfl ?_
 simp [q09,-Option.bind_some,-Int.toNat_lt,-List.map_map,List.range_succ,typC,h,cntP]
 refine q0h x.mems.length (fun i s=>(s.env 1).v=.bl (vecC N v)/\(s.env 33).v=.sl x.mn (x.mems.map memC)/\(s.env 34).v=.int .i64 x.mems.length/\(s.env 35).v=.int .i64 i/\∃ a,(s.env 5).v=.int .i64 a/\recF v (x.mems.drop i) a=recF v x.mems 1/\0<=a/\a<=2)
  (fun e s=>e=.exit 1/\(s.env 5).v=.int .i64 (recF v x.mems 1)) (fun i hi s k h' ih hk=>?_) _ _ ?_ (fun e s h'=>?_)
 ·obtain ⟨e1,e2,e3,e4,a,ea,hs,hb⟩:=h'
  refine q04 ?_
  by_cases hlt:i<x.mems.length
  ·have hlt':(i:Int)<x.mems.length:=by omega
   have g1:(x.mems.map memC)[i]?=some (memC x.mems[i]):=by simp [hlt]
   have hw:=q0W (i:=i) (by have:=hx.few; omega)
   have hmt:=hx.mems x.mems[i] (List.getElem_mem _)
   rw [List.drop_eq_getElem_cons hlt,recF] at hs
   generalize x.mems[i]=m at *
   have hvm:=hv m.ty.toNat (by omega)
   have gm:=q1h v hmt
   have hm0:=hmt.1
   have hm2:=Int.mul_nonneg hb.1 hvm.1
   have hm3:a * v m.ty.toNat<=2 * 2:=mul_mono hb.1 hb.2 hvm.1 hvm.2
   have hw2:IntKind.i64.wrap (a * v m.ty.toNat)=a * v m.ty.toNat:=IntWalk.i64_in _ (by omega)
   simp only [memC] at g1
   simp [q3s,-Option.bind_some,-Int.toNat_lt,-List.map_map,List.range_succ,e1,e2,e3,e4,ea,hlt',g1,gm,hm0,hw,hw2]
   refine ih hlt _ ⟨?_,?_,?_,?_,min 2 (a * v m.ty.toNat),?_,hs,by omega⟩ <;> simp [e1,e2,e3]
  ·have hlt':¬ (i:Int)<x.mems.length:=by omega
   simp [q3s,-Option.bind_some,-Int.toNat_lt,-List.map_map,List.range_succ,e1,e2,e3,e4,hlt']
   rw [List.drop_eq_nil_of_le (by omega),recF] at hs
   exact hk _ _ ⟨rfl,by simp [ea,hs]⟩
 ·simp [typC,h]
 ·obtain ⟨rfl,ea⟩:=h'
  simp [-Option.bind_some,-Int.toNat_lt,-List.map_map,List.range_succ,ea]
theorem cp_ev6 {N:Nat} {v:Vec} (hv:inR N v) {x:Typ} (hx:q1f N x) (h:x.kind=6):evA 46 [.agg (typC x),.bl (vecC N v)] (.int .i64 (cntP x v)):=by
 refine q00 (c:=q09) rfl rfl ?_
 simp [q09,-Option.bind_some,-Int.toNat_lt,-List.map_map,List.range_succ,typC,h,cntP]
 refine q0h x.mems.length (fun i s=>(s.env 1).v=.bl (vecC N v)/\(s.env 52).v=.sl x.mn (x.mems.map memC)/\(s.env 53).v=.int .i64 x.mems.length/\(s.env 54).v=.int .i64 i/\∃ a,(s.env 8).v=.int .i64 a/\sumF v (x.mems.drop i) a=sumF v x.mems 0/\0<=a/\a<=2 * i)
  (fun e s=>e=.exit 3/\(s.env 8).v=.int .i64 (sumF v x.mems 0)) (fun i hi s k h' ih hk=>?_) _ _ ?_ (fun e s h'=>?_)
 ·obtain ⟨e1,e2,e3,e4,a,ea,hs,hb⟩:=h'
  refine q04 ?_
  by_cases hlt:i<x.mems.length
  ·have hlt':(i:Int)<x.mems.length:=by omega
   have g1:(x.mems.map memC)[i]?=some (memC x.mems[i]):=by simp [hlt]
   have hw:=q0W (i:=i) (by have:=hx.few; omega)
   have hmt:=hx.mems x.mems[i] (List.getElem_mem _)
   rw [List.drop_eq_getElem_cons hlt,sumF] at hs
   generalize x.mems[i]=m at *
   have hvm:=hv m.ty.toNat (by omega)
   have gm:=q1h v hmt
   have hm0:=hmt.1
   have hw2:IntKind.i64.wrap (a + v m.ty.toNat)=a + v m.ty.toNat:=IntWalk.i64_in _ (by have:=hx.few; omega)
   simp only [memC] at g1
   simp [q3v,-Option.bind_some,-Int.toNat_lt,-List.map_map,List.range_succ,e1,e2,e3,e4,ea,hlt',g1,gm,hm0,hw,hw2]
   refine ih hlt _ ⟨?_,?_,?_,?_,a + v m.ty.toNat,?_,hs,by omega⟩ <;> simp [e1,e2,e3]
  ·have hlt':¬ (i:Int)<x.mems.length:=by omega
   simp [q3v,-Option.bind_some,-Int.toNat_lt,-List.map_map,List.range_succ,e1,e2,e3,e4,hlt']
   rw [List.drop_eq_nil_of_le (by omega),sumF] at hs
   exact hk _ _ ⟨rfl,by simp [ea,hs]⟩
 ·simp [typC,h]
 ·obtain ⟨rfl,ea⟩:=h'
  simp [-Option.bind_some,-Int.toNat_lt,-List.map_map,List.range_succ,ea]
theorem cp_ev {N:Nat} {v:Vec} (hv:inR N v) {x:Typ} (hx:q1f N x) (hk:1<=x.kind/\x.kind<=9):evA 46 [.agg (typC x),.bl (vecC N v)] (.int .i64 (cntP x v)):=by
 rcases q8O x.kind with e | e | e | e | e | e | e | e | e | e
 ·exact cp_ev1 hv hx e
 ·exact cp_ev2 hv hx e
 ·exact cp_ev3 hv hx e
 ·exact cp_ev4 hv hx e
 ·exact cp_ev5 hv hx e
 ·exact cp_ev6 hv hx e
 ·exact cp_ev7 hv hx e
 ·exact cp_ev8 hv hx e
 ·exact cp_ev9 hv hx e
 ·exact absurd hk e
theorem q8G {l:List Mem} (h:q0y l []=true):l=[]:=by
 cases l with
 | nil=>rfl
 | cons=>simp [q0y] at h
theorem good_few {t:Typ} (h:q0N t=true):t.mems.length<=16:=by
 have hk:=q4X h
 unfold q0N q62 Typ.left at h
 rcases q8O t.kind with e | e | e | e | e | e | e | e | e | e
 all_goals first | exact absurd hk e | skip
 all_goals simp [e,Typ.same,q1r,q4K] at h
 all_goals first
  | (obtain ⟨⟨_,h⟩,_⟩:=h; omega)
  | (have:=q8G h.2; rw [this]; simp)
  | (have:=q8G h.2.2; rw [this]; simp)
  | omega
theorem q3l {S:List Typ} (h:valid S=0):∀ x∈S,q1f S.length x:=fun x hx=>by
 obtain ⟨j,hj,rfl⟩:=List.getElem_of_mem hx
 obtain ⟨h1,h2⟩:=q60 (q4J h j hj)
 generalize S[j]=t at *
 have use:∀ u∈t.usesL,0<=u/\u<S.length:=fun u hu=>by
  have:=List.any_eq_false.1 h2 u hu
  simp [q0D] at this
  omega
 refine ⟨fun m hm=>use _ ?_,good_few h1,fun h7=>use _ ?_,fun h8=>key_in h8 h2⟩
 ·unfold Typ.usesL
  exact List.mem_append_left _ (List.mem_append_left _ (List.mem_map_of_mem hm))
 ·unfold Typ.usesL
  rw [if_pos h7]
  exact List.mem_append_right _ (by simp)
theorem q4L {S:List Typ} (h:valid S=0):S.length<=32:=by
 unfold valid at h
 by_cases h32:32<S.length
 ·rw [if_pos h32] at h; cases h
 ·omega
theorem vec0 (N:Nat):(List.replicate N [AV.int .i64 0]).flatten.map (fun v=>(⟨v,.no⟩:Slot))=q0f (vecC N fun _=>0):=by
 unfold q0f
 congr 1
 congr 1
 apply List.ext_getElem?
 intro i
 by_cases h:i<N
 ·simp [vecC,h]
 ·simp [vecC,h]
theorem vec0' (N:Nat):List.replicate N (⟨AV.int .i64 0,.no⟩:Slot)=q0f (vecC N fun _=>0):=by
 rw [<- vec0]
 simp
theorem q5I (N:Nat) (v:Vec):q4m (q0f (vecC N v)) 1 0 N=some (vecC N v):=by
 have:=rowOf_els (q7y N v) (vecC_free N v)
 rwa [q7K] at this
theorem vec_load (N:Nat) (v:Vec) {i:Nat} (hi:i<N):q0C false 1 i (q0f (vecC N v))=some ⟨.int .i64 (v i),.no⟩:=rowOf_load1 (q7y N v) (by have:=q1h v (t:=(i:Int)) (N:=N) (by omega); simpa using this) 1
theorem vec_at (N:Nat) (v:Vec) {i:Nat} (hi:i<N):(q0f (vecC N v))[i]?=some ⟨.int .i64 (v i),.no⟩:=rowOf_at (q7y N v) (by have:=q1h v (t:=(i:Int)) (N:=N) (by omega); simpa using this)
theorem q4W (N:Nat) (v w:Vec) {i:Nat} (hi:i<N) {x:Int} (hx:w i=x) (h:∀ j,j≠i->w j=v j):q0d false 1 i (q0f (vecC N v)) (.int .i64 x) .no=some (q0f (vecC N w)):=by
 rw [rowOf_store1 (q7y N v) (by rw [q7K]; exact hi) rfl,vecC_set v w hx h]
theorem lfp {N:Nat} {F:Nat->Vec->Int} (G:Grows N F):∃ w,Low N F w/\∀ j,j<N->F j w=w j:=by
 have:∀ (k:Nat) (v:Vec),Low N F v->2 * (N:Int) - sumV N v<=k->∃ w,Low N F w/\∀ j,j<N->F j w=w j:=by
  intro k
  induction k with
  | zero =>
   intro v hv hk
   refine ⟨v,hv,fun j hj=>Classical.byContradiction fun hne=>?_⟩
   have h1:=sumV_le _ N (Low.upd G hv hj).rng
   rw [q6K F v j N hj] at h1
   have:=hv.post j hj
   omega
  | succ k ih =>
   intro v hv hk
   by_cases h:∀ j,j<N->F j v=v j
   ·exact ⟨v,hv,h⟩
   ·obtain ⟨j,hj⟩:=Classical.not_forall.1 h
    obtain ⟨hj,hne⟩:=Classical.not_imp.1 hj
    refine ih (upd F v j) (Low.upd G hv hj) ?_
    rw [q6K F v j N hj]
    have:=hv.post j hj
    omega
 exact this (2 * N) _ (Low.zero G) (by have:=sumV_0 (fun _=>0) N (fun j _=>⟨Int.le_refl _,by show (0:Int)<=2; decide⟩); omega)
theorem lfp_eq {N:Nat} {F:Nat->Vec->Int} {v w:Vec} (hv:Low N F v) (fv:∀ j,j<N->F j v=v j) (hw:Low N F w) (fw:∀ j,j<N->F j w=w j):∀ j,j<N->v j=w j:=fun j hj=>by
 have h1:=hv.least w hw.rng (fun j hj=>by rw [fw j hj]; exact Int.le_refl _) j hj
 have h2:=hw.least v hv.rng (fun j hj=>by rw [fv j hj]; exact Int.le_refl _) j hj
 omega
theorem q1s {N:Nat} {v w:Vec} (h:∀ j,j<N->v j=w j):vecC N v=vecC N w:=by
 unfold vecC
 exact List.map_congr_left fun j hj=>by rw [h j (List.mem_range.1 hj)]
theorem counts_ev (s:Sch) (h0:valid s.types=0) {w:Vec} (hw:Low s.types.length (FP s.types) w) (fw:∀ j,j<s.types.length->FP s.types j w=w j):evA 31 [.agg (schC s)] (.sl false (vecC s.types.length w)):=by
 have hW:=q3l h0
 have hN:=q4L h0
 have hG:=FP_grows hW
 have hkind:∀ x∈s.types,1<=x.kind/\x.kind<=9:=fun x hx=>by
  obtain ⟨j,hj,rfl⟩:=List.getElem_of_mem hx
  exact q4X (q60 (q4J h0 j hj)).1
 clear h0
 simp only [schC]
 generalize s.types=S at *
 generalize s.nl=b at *
 obtain ⟨N,hNN⟩:∃ N,N=S.length:=⟨_,rfl⟩
 rw [<- hNN] at hW hN hG hw fw ⊢
 have hroom:q1E 8 N=true:=by rw [q0s]; omega
 have hr1:(N:Int)=(S.length:Int):=by omega
 refine q00 (c:=q33) rfl rfl ?_
 have hb8:N * 8<=140737488355328:=by omega
 have hb1:N<=140737488355328:=by omega
 simp [q33,-Option.bind_some,-Int.toNat_lt,-List.map_map,List.range_succ,-q0C,-q0d,q0l,q0m,q0c,q0b,<- hNN,hb8,hb1]
 refine q0h (2 * N + 1) (fun r σ=>(σ.env 1).v=.ptr 1 1 0/\σ.mem 1 1=some [⟨.sl b (S.map typC),.no⟩]/\(σ.env 3).v=.ref 11 2 1 0 N N/\∃ v,σ.mem 11 2=some (q0f (vecC N v))/\Low N (FP S) v/\((σ.env 4).v=.bool true/\(r:Int)<=sumV N v\/(σ.env 4).v=.bool false/\∀ j,j<N->FP S j v=v j))
  (fun e σ=>e=.exit 0/\(σ.env 3).v=.ref 11 2 1 0 N N/\∃ v,σ.mem 11 2=some (q0f (vecC N v))/\Low N (FP S) v/\∀ j,j<N->FP S j v=v j) (fun r hr σ k h ih hk=>?_) _ _ ?_ (fun e σ h=>?_)
 ·obtain ⟨e1,m1,e3,v0,m3,hv0,hst⟩:=h
  refine q04 ?_
  rcases hst with ⟨e4,hsum⟩ | ⟨e4,hfix⟩
  case inr =>
   simp [q3f,-Option.bind_some,-Int.toNat_lt,-List.map_map,List.range_succ,-q0C,-q0d,q0l,q0m,q0c,q0b,e4]
   exact hk _ _ ⟨rfl,by simp [e3],v0,by simp [m3],hv0,hfix⟩
  have hrN:r<2 * N + 1:=by
   have:=sumV_le v0 N hv0.rng
   omega
  simp [q3f,-Option.bind_some,-Int.toNat_lt,-List.map_map,List.range_succ,-q0C,-q0d,q0l,q0m,q0c,q0b,e1,m1,e4,<- hNN]
  refine q0h N (fun i σ=>(σ.env 1).v=.ptr 1 1 0/\σ.mem 1 1=some [⟨.sl b (S.map typC),.no⟩]/\(σ.env 3).v=.ref 11 2 1 0 N N/\(σ.env 14).v=.sl b (S.map typC)/\(σ.env 15).v=.int .i64 N/\(σ.env 16).v=.int .i64 i/\∃ v,σ.mem 11 2=some (q0f (vecC N v))/\Low N (FP S) v/\((σ.env 4).v=.bool false/\v=v0/\(∀ j,j<i->FP S j v=v j)\/(σ.env 4).v=.bool true/\sumV N v0 + 1<=sumV N v))
   (fun e σ=>e=.exit 2/\(σ.env 1).v=.ptr 1 1 0/\σ.mem 1 1=some [⟨.sl b (S.map typC),.no⟩]/\(σ.env 3).v=.ref 11 2 1 0 N N/\∃ v,σ.mem 11 2=some (q0f (vecC N v))/\Low N (FP S) v/\((σ.env 4).v=.bool false/\(∀ j,j<N->FP S j v=v j)\/(σ.env 4).v=.bool true/\sumV N v0 + 1<=sumV N v)) (fun i hi σ k' h ih' hk'=>?_) _ _ ?_ (fun e σ h=>?_)
  ·obtain ⟨f1,n1,f3,f14,f15,f16,v,n3,hv,hst⟩:=h
   refine q04 ?_
   by_cases hlt:i<N
   ·have hlt':(i:Int)<N:=by omega
    have hltS:i<S.length:=by omega
    have g1:(S.map typC)[i]?=some (typC S[i]):=by simp [hltS]
    have hw':=q0W (i:=i) (by omega)
    have hc:=cp_ev hv.rng (hW _ (List.getElem_mem hltS)) (hkind _ (List.getElem_mem hltS))
    have hF:FP S i v=min 2 (cntP S[i] v):=by unfold FP; rw [List.getElem?_eq_getElem hltS]
    generalize S[i]=x at *
    simp only [typC] at g1
    simp only [evA,typC] at hc
    have hel:=q5I N v
    have hld:=vec_load N v hlt
    have hat:=vec_at N v hlt
    have hpost:=hv.post i hlt
    have hup:=Low.upd hG hv hlt
    have hsu:=q6K (FP S) v i N hlt
    have hstv:=q4W N v (upd (FP S) v i) hlt (x:=FP S i v) (by simp [upd]) (fun j hj=>by simp [upd,hj])
    rw [hF] at hpost hsu hstv
    by_cases hne:min 2 (cntP x v)=v i
    ·rcases hst with ⟨f4,rfl,hj⟩ | ⟨f4,hsum'⟩
     ·simp [q1N,-Option.bind_some,-Int.toNat_lt,-List.map_map,List.range_succ,-q0C,-q0d,q0l,q0m,q0c,q0b,f1,n1,f3,f14,f15,f16,n3,hlt',g1,hel,hc,hld,hat,hw',hlt,hne]
      refine ih' hlt _ ⟨?_,?_,?_,?_,?_,?_,v,?_,hv,.inl ⟨?_,rfl,fun j hj'=>?_⟩⟩
      case refine_9=>
       rcases Nat.lt_succ_iff_lt_or_eq.1 hj' with h | rfl
       ·exact hj j h
       ·exact hF.trans hne
      all_goals simp [f1,n1,f3,f14,f15,n3,f4]
     ·simp [q1N,-Option.bind_some,-Int.toNat_lt,-List.map_map,List.range_succ,-q0C,-q0d,q0l,q0m,q0c,q0b,f1,n1,f3,f14,f15,f16,n3,hlt',g1,hel,hc,hld,hat,hw',hlt,hne]
      refine ih' hlt _ ⟨?_,?_,?_,?_,?_,?_,v,?_,hv,.inr ⟨?_,hsum'⟩⟩
      all_goals simp [f1,n1,f3,f14,f15,n3,f4]
    ·simp [q1N,-Option.bind_some,-Int.toNat_lt,-List.map_map,List.range_succ,-q0C,-q0d,q0l,q0m,q0c,q0b,f1,n1,f3,f14,f15,f16,n3,hlt',g1,hel,hc,hld,hat,hw',hlt,hne,hstv]
     refine ih' hlt _ ⟨?_,?_,?_,?_,?_,?_,upd (FP S) v i,?_,hup,.inr ⟨?_,?_⟩⟩
     case refine_9 =>
      rcases hst with ⟨f4,rfl,hj⟩ | ⟨f4,hsum'⟩ <;> omega
     all_goals simp [f1,n1,f3,f14,f15,n3]
   ·have hlt':¬ (i:Int)<N:=by omega
    have hiN:i=N:=by omega
    simp [q1N,-Option.bind_some,-Int.toNat_lt,-List.map_map,List.range_succ,-q0C,-q0d,q0l,q0m,q0c,q0b,f15,f16,hlt']
    refine hk' _ _ ⟨rfl,by simp [f1],by simp [n1],by simp [f3],v,by simp [n3],hv,?_⟩
    rcases hst with ⟨f4,rfl,hj⟩ | ⟨f4,hsum'⟩
    ·exact .inl ⟨by simp [f4],hiN ▸ hj⟩
    ·exact .inr ⟨by simp [f4],hsum'⟩
  ·refine ⟨?_,?_,?_,?_,?_,?_,v0,?_,hv0,.inl ⟨?_,rfl,fun j hj=>absurd hj (by omega)⟩⟩
   all_goals simp [e1,m1,e3,m3]
  ·obtain ⟨rfl,e1,m1,e3,v,m3,hv,hst⟩:=h
   simp [-Option.bind_some,-Int.toNat_lt,-List.map_map,List.range_succ,-q0C,-q0d,q0l,q0m,q0c,q0b]
   refine ih hrN _ ⟨by simp [e1],by simp [m1],by simp [e3],v,by simp [m3],hv,?_⟩
   rcases hst with ⟨e4,hf⟩ | ⟨e4,hs⟩
   ·exact .inr ⟨by simp [e4],hf⟩
   ·exact .inl ⟨by simp [e4],by omega⟩
 ·refine ⟨?_,?_,?_,fun _=>0,?_,Low.zero hG,.inl ⟨?_,?_⟩⟩
  case refine_4=>simp [vec0']
  case refine_6=>exact sumV_0 _ N (fun j _=>⟨Int.le_refl _,by show (0:Int)<=2; decide⟩)
  all_goals simp
 ·obtain ⟨rfl,e3,v,m3,hv,hf⟩:=h
  have hel:=q5I N v
  rw [q1s (lfp_eq hv hf hw fw)] at hel
  rw [q1s (lfp_eq hv hf hw fw)] at m3
  simp [-Option.bind_some,-Int.toNat_lt,-List.map_map,List.range_succ,-q0C,-q0d,q0l,q0m,q0c,q0b,e3,m3,hel]
theorem rcounts_ev (s:Sch) (h0:valid s.types=0) {w:Vec} (hw:Low s.types.length (FR s.types) w) (fw:∀ j,j<s.types.length->FR s.types j w=w j):evA 32 [.agg (schC s)] (.sl false (vecC s.types.length w)):=by
 have hW:=q3l h0
 have hN:=q4L h0
 have hG:=FR_grows hW
 have hkind:∀ x∈s.types,1<=x.kind/\x.kind<=9:=fun x hx=>by
  obtain ⟨j,hj,rfl⟩:=List.getElem_of_mem hx
  exact q4X (q60 (q4J h0 j hj)).1
 clear h0
 simp only [schC]
 generalize s.types=S at *
 generalize s.nl=b at *
 obtain ⟨N,hNN⟩:∃ N,N=S.length:=⟨_,rfl⟩
 rw [<- hNN] at hW hN hG hw fw ⊢
 have hb8:N * 8<=140737488355328:=by omega
 have hb1:N<=140737488355328:=by omega
 have hw2:IntKind.i64.wrap (2 * (N:Int))=2 * N:=IntWalk.i64_in _ (by omega)
 refine q00 (c:=q3Z) rfl rfl ?_
 simp [q3Z,-Option.bind_some,-Int.toNat_lt,-List.map_map,List.range_succ,-q0C,-q0d,q0l,q0m,q0c,q0b,<- hNN,hb8,hb1]
 refine q0h (2 * N + 1) (fun r σ=>(σ.env 1).v=.ptr 1 1 0/\σ.mem 1 1=some [⟨.sl b (S.map typC),.no⟩]/\(σ.env 3).v=.ref 9 2 1 0 N N/\(σ.env 4).v=.int .i64 r/\∃ v,σ.mem 9 2=some (q0f (vecC N v))/\Low N (FR S) v/\((r:Int)<=sumV N v\/∀ j,j<N->FR S j v=v j))
  (fun e σ=>e=.exit 0/\(σ.env 3).v=.ref 9 2 1 0 N N/\∃ v,σ.mem 9 2=some (q0f (vecC N v))/\Low N (FR S) v/\∀ j,j<N->FR S j v=v j) (fun r hr σ k h ih hk=>?_) _ _ ?_ (fun e σ h=>?_)
 ·obtain ⟨e1,m1,e3,e4,v0,m3,hv0,hst⟩:=h
  refine q04 ?_
  by_cases hrN:r<2 * N + 1
  case neg =>
   have hlt':¬ (r:Int)<=2 * N:=by omega
   simp [q3Q,-Option.bind_some,-Int.toNat_lt,-List.map_map,List.range_succ,-q0C,-q0d,q0l,q0m,q0c,q0b,e1,m1,e4,<- hNN,hw2,hlt']
   refine hk _ _ ⟨rfl,by simp [e3],v0,by simp [m3],hv0,?_⟩
   rcases hst with h | h
   ·have:=sumV_le v0 N hv0.rng
    omega
   ·exact h
  have hlt':(r:Int)<=2 * N:=by omega
  have hwr:=q0W (i:=r) (by omega)
  simp [q3Q,-Option.bind_some,-Int.toNat_lt,-List.map_map,List.range_succ,-q0C,-q0d,q0l,q0m,q0c,q0b,e1,m1,e4,<- hNN,hw2,hlt']
  refine q0h N (fun i σ=>(σ.env 1).v=.ptr 1 1 0/\σ.mem 1 1=some [⟨.sl b (S.map typC),.no⟩]/\(σ.env 3).v=.ref 9 2 1 0 N N/\(σ.env 4).v=.int .i64 r/\(σ.env 5).v=.int .i64 i/\∃ v,σ.mem 9 2=some (q0f (vecC N v))/\Low N (FR S) v/\((∀ j,j<N->FR S j v0=v0 j)->v=v0)/\(v=v0/\(∀ j,j<i->FR S j v=v j)\/sumV N v0 + 1<=sumV N v))
   (fun e σ=>e=.exit 2/\(σ.env 1).v=.ptr 1 1 0/\σ.mem 1 1=some [⟨.sl b (S.map typC),.no⟩]/\(σ.env 3).v=.ref 9 2 1 0 N N/\(σ.env 4).v=.int .i64 r/\∃ v,σ.mem 9 2=some (q0f (vecC N v))/\Low N (FR S) v/\((∀ j,j<N->FR S j v=v j)\/(r:Int) + 1<=sumV N v)) (fun i hi σ k' h ih' hk'=>?_) _ _ ?_ (fun e σ h=>?_)
  ·obtain ⟨f1,n1,f3,f4,f5,v,n3,hv,hfx,hst'⟩:=h
   refine q04 ?_
   by_cases hlt:i<N
   ·have hlt':(i:Int)<N:=by omega
    have hltS:i<S.length:=by omega
    have g1:(S.map typC)[i]?=some (typC S[i]):=by simp [hltS]
    have hw':=q0W (i:=i) (by omega)
    have hc:=cr_ev hv.rng (hW _ (List.getElem_mem hltS)) (hkind _ (List.getElem_mem hltS))
    have hF:FR S i v=cntR S[i] v:=by unfold FR; rw [List.getElem?_eq_getElem hltS]
    generalize S[i]=x at *
    simp only [typC] at g1
    simp only [evA,typC] at hc
    have hel:=q5I N v
    have hpost:=hv.post i hlt
    have hup:=Low.upd hG hv hlt
    have hsu:=q6K (FR S) v i N hlt
    have hstv:=q4W N v (upd (FR S) v i) hlt (x:=FR S i v) (by simp [upd]) (fun j hj=>by simp [upd,hj])
    have hsame:FR S i v=v i->upd (FR S) v i=v:=upd_same
    rw [hF] at hpost hsu hstv
    have hltS':(i:Int)<S.length:=by omega
    simp [q3R,-Option.bind_some,-Int.toNat_lt,-List.map_map,List.range_succ,-q0C,-q0d,q0l,q0m,q0c,q0b,f1,n1,f3,f4,f5,n3,hltS',g1,hel,hc,hw',hlt,hstv]
    refine ih' hlt _ ⟨?_,?_,?_,?_,?_,upd (FR S) v i,?_,hup,?_,?_⟩
    case refine_7 =>
     intro hall
     have e:=hfx hall
     subst e
     exact hsame (hall i hlt)
    case refine_8 =>
     by_cases hne:FR S i v=v i
     ·rw [hsame hne]
      rcases hst' with ⟨rfl,hj⟩ | hs
      ·refine .inl ⟨rfl,fun j hj'=>?_⟩
       rcases Nat.lt_succ_iff_lt_or_eq.1 hj' with h | rfl
       ·exact hj j h
       ·exact hne
      ·exact .inr hs
     ·right
      rw [hF] at hne
      rcases hst' with ⟨rfl,hj⟩ | hs <;> omega
    all_goals simp [f1,n1,f3,f4]
   ·have hlt':¬ (i:Int)<N:=by omega
    have hiN:i=N:=by omega
    simp [q3R,-Option.bind_some,-Int.toNat_lt,-List.map_map,List.range_succ,-q0C,-q0d,q0l,q0m,q0c,q0b,f1,n1,f5,<- hNN,hlt']
    refine hk' _ _ ⟨rfl,by simp [f1],by simp [n1],by simp [f3],by simp [f4],v,by simp [n3],hv,?_⟩
    rcases hst with hr | hall
    ·rcases hst' with ⟨rfl,hj⟩ | hs
     ·exact .inl (hiN ▸ hj)
     ·exact .inr (by omega)
    ·rw [hfx hall]; exact .inl hall
  ·refine ⟨?_,?_,?_,?_,?_,v0,?_,hv0,fun _=>rfl,.inl ⟨rfl,fun j hj=>absurd hj (by omega)⟩⟩
   all_goals simp [e1,m1,e3,e4,m3]
  ·obtain ⟨rfl,f1,n1,f3,f4,v,n3,hv,hst'⟩:=h
   simp [-Option.bind_some,-Int.toNat_lt,-List.map_map,List.range_succ,-q0C,-q0d,q0l,q0m,q0c,q0b,f4,hwr]
   refine ih hrN _ ⟨by simp [f1],by simp [n1],by simp [f3],by simp,v,by simp [n3],hv,?_⟩
   rcases hst' with h | h
   ·exact .inr h
   ·exact .inl (by omega)
 ·refine ⟨?_,?_,?_,?_,fun _=>0,?_,Low.zero hG,.inl ?_⟩
  case refine_5=>simp [vec0']
  case refine_6=>exact sumV_0 _ N (fun j _=>⟨Int.le_refl _,by show (0:Int)<=2; decide⟩)
  all_goals simp
 ·obtain ⟨rfl,e3,v,m3,hv,hf⟩:=h
  have hel:=q5I N v
  rw [q1s (lfp_eq hv hf hw fw)] at hel
  rw [q1s (lfp_eq hv hf hw fw)] at m3
  simp [-Option.bind_some,-Int.toNat_lt,-List.map_map,List.range_succ,-q0C,-q0d,q0l,q0m,q0c,q0b,e3,m3,hel]
theorem both_cnts (s:Sch) (h0:valid s.types=0):∃ w:Vec,Low s.types.length (FP s.types) w/\(∀ j,j<s.types.length->FP s.types j w=w j)/\evA 31 [.agg (schC s)] (.sl false (vecC s.types.length w))/\evA 32 [.agg (schC s)] (.sl false (vecC s.types.length w)):=by
 have hW:=q3l h0
 obtain ⟨v,hv,fv⟩:=lfp (FP_grows hW)
 obtain ⟨w,hw,fw⟩:=lfp (FR_grows hW)
 have h1:=counts_ev s h0 hv fv
 have h2:=rcounts_ev s h0 hw fw
 refine ⟨v,hv,fv,h1,?_⟩
 rw [q1s (FPR hW ?_ hv fv hw fw)]
 ·exact h2
 ·intro x hx h8 u hu
  obtain ⟨j,hj,rfl⟩:=List.getElem_of_mem hx
  have he:=q4J h0 j hj
  obtain ⟨hg,ho⟩:=q60 he
  obtain ⟨k0,k1⟩:=key_in h8 ho
  have hlt:s.types[j].key.toNat<s.types.length:=by omega
  have hkk:1<=s.types[s.types[j].key.toNat].kind/\s.types[s.types[j].key.toNat].kind<=4:=by
   have hka:q7j s.types s.types[j].key=s.types[s.types[j].key.toNat].kind:=by unfold q7j; rw [List.getElem?_eq_getElem hlt]
   rw [<- hka]
   refine Classical.byContradiction fun hn=>?_
   unfold q1F at he
   rw [if_neg (by simp [hg])] at he
   by_cases h2:s.types[j].named=true/\s.types[j].name∈(s.types.take j).map Typ.name
   ·rw [if_pos h2] at he; cases he
   ·rw [if_neg h2,if_neg (by simp [ho]),if_pos ⟨h8,hn⟩] at he
    cases he
  have hgk:=(q60 (q4J h0 _ hlt)).1
  unfold FP
  rw [List.getElem?_eq_getElem hlt]
  generalize s.types[s.types[j].key.toNat]=y at *
  have hy:y.kind=1\/y.kind=2\/y.kind=3\/y.kind=4:=by omega
  simp only
  rcases hy with e | e | e | e
  ·simp [cntP,e]
  ·simp [cntP,e]; split <;> decide
  ·simp [cntP,e]; split <;> decide
  ·have:0<y.syms.length:=by
    unfold q0N q62 q6U at hgk
    simp [e] at hgk
    exact hgk.1.2.1
   simp [cntP,e]
   omega
def posV (w:Vec) (n:Nat):List (List AV):=(List.range n).map fun j=>[AV.bool (decide (0<w j))]
theorem q7E (w:Vec) (n:Nat):posV w (n + 1)=posV w n++[[AV.bool (decide (0<w n))]]:=by simp [posV,List.range_succ]
theorem posV_els (w:Vec) (n:Nat):q18 1 (posV w n)=true:=q1T _ _ _ fun _=>rfl
theorem posV_len (w:Vec) (n:Nat):(posV w n).length=n:=by simp [posV]
theorem posV_get (w:Vec) {n i:Nat} (h:i<n):(posV w n)[i]?=some [.bool (decide (0<w i))]:=by simp [posV,h]
noncomputable def finA (S:List Typ) (w:Vec):AV:=if q28 S=0 then .tup [.sl (decide (S.length=0)) (posV w S.length),.int .i64 0] else .tup [.sl true [],.int .i64 (q28 S)]
theorem err_valid {S:List Typ} (h:q28 S=0):valid S=0:=by
 unfold q28 at h
 by_cases h0:valid S=0
 ·exact h0
 ·rw [if_neg h0] at h; exact absurd h h0
theorem finite_ev (s:Sch) (hs:s.fine) (h64:s.d64) {w:Vec} (hw:q28 s.types=0->inR s.types.length w/\evA 31 [.agg (schC s)] (.sl false (vecC s.types.length w))):evA 11 [.agg (schC s)] (finA s.types w):=by
 have hr:=right_ev s hs h64
 refine q00 (c:=q2m) rfl rfl ?_
 unfold finA
 simp only [evA,schC] at hr hw
 by_cases h0:q28 s.types=0
 case neg =>
  rw [if_neg h0]
  simp [q2m,-Option.bind_some,-Int.toNat_lt,-List.map_map,List.range_succ,schC,hr,h0]
 have hN:=q4L (err_valid h0)
 obtain ⟨hrng,hc⟩:=hw h0
 rw [if_pos h0]
 rw [h0] at hr
 simp only [schC]
 generalize s.types=S at *
 generalize s.nl=b at *
 obtain ⟨N,hNN⟩:∃ N,N=S.length:=⟨_,rfl⟩
 rw [<- hNN] at hN hrng hc ⊢
 have hvl:=q7K N w
 simp [q2m,-Option.bind_some,-Int.toNat_lt,-List.map_map,List.range_succ,schC,hr,hc,hvl]
 refine q0h N (fun i σ=>(σ.env 14).v=.sl false (vecC N w)/\(σ.env 15).v=.int .i64 N/\(σ.env 16).v=.int .i64 i/\(σ.env 5).v=.sl (decide (i=0)) (posV w i)/\(i=0/\(σ.env 5).a=.ex\/¬ i=0/\(σ.env 5).a=.own 24 4))
  (fun e σ=>e=.exit 0/\(σ.env 5).v=.sl (decide (N=0)) (posV w N)) (fun i hi σ k h ih hk=>?_) _ _ ?_ (fun e σ h=>?_)
 ·obtain ⟨e14,e15,e16,e5,an⟩:=h
  refine q04 ?_
  by_cases hlt:i<N
  ·have hlt':(i:Int)<N:=by omega
   have g1:(vecC N w)[i]?=some [.int .i64 (w i)]:=by have:=q1h w (t:=(i:Int)) (N:=N) (by omega); simpa using this
   have hwi:=q0W (i:=i) (by omega)
   have q:=posV_els w i
   have ql:=posV_len w i
   have hroom:q1E 1 (i + 1)=true:=by rw [q0s]; omega
   rcases an with ⟨a0,a5⟩ | ⟨a0,a5⟩
   ·simp [q2g,-Option.bind_some,-Int.toNat_lt,-List.map_map,List.range_succ,e14,e15,e16,e5,a5,hlt',g1,q,ql,hwi,hroom]
    refine ih hlt _ ⟨?_,?_,?_,?_,?_⟩ <;> simp [e14,e15,q7E,An.strip]
   ·simp [q2g,-Option.bind_some,-Int.toNat_lt,-List.map_map,List.range_succ,e14,e15,e16,e5,a0,a5,hlt',g1,q,ql,hwi,hroom]
    refine ih hlt _ ⟨?_,?_,?_,?_,?_⟩ <;> simp [e14,e15,q7E,An.strip]
  ·have hlt':¬ (i:Int)<N:=by omega
   have hiN:i=N:=by omega
   simp [q2g,-Option.bind_some,-Int.toNat_lt,-List.map_map,List.range_succ,e15,e16,hlt']
   exact hk _ _ ⟨rfl,by rw [<- hiN]; simp [e5]⟩
 ·simp [posV]
 ·obtain ⟨rfl,e5⟩:=h
  simp [-Option.bind_some,-Int.toNat_lt,-List.map_map,List.range_succ,e5]
theorem rfinite_ev (s:Sch) (hs:s.fine) (h64:s.d64) {w:Vec} (hw:q28 s.types=0->inR s.types.length w/\evA 32 [.agg (schC s)] (.sl false (vecC s.types.length w))):evA 12 [.agg (schC s)] (finA s.types w):=by
 have hr:=rerror_ev s hs h64
 refine q00 (c:=q2Y) rfl rfl ?_
 unfold finA
 simp only [evA,schC] at hr hw
 by_cases h0:q28 s.types=0
 case neg =>
  rw [if_neg h0]
  simp [q2Y,-Option.bind_some,-Int.toNat_lt,-List.map_map,List.range_succ,schC,hr,h0]
 have hN:=q4L (err_valid h0)
 obtain ⟨hrng,hc⟩:=hw h0
 rw [if_pos h0]
 rw [h0] at hr
 simp only [schC]
 generalize s.types=S at *
 generalize s.nl=b at *
 obtain ⟨N,hNN⟩:∃ N,N=S.length:=⟨_,rfl⟩
 rw [<- hNN] at hN hrng hc ⊢
 have hvl:=q7K N w
 simp [q2Y,-Option.bind_some,-Int.toNat_lt,-List.map_map,List.range_succ,schC,hr,hc]
 refine q0h N (fun i σ=>(σ.env 5).v=.sl false (vecC N w)/\(σ.env 7).v=.int .i64 i/\(σ.env 6).v=.sl (decide (i=0)) (posV w i)/\(i=0/\(σ.env 6).a=.ex\/¬ i=0/\(σ.env 6).a=.own 28 4))
  (fun e σ=>e=.exit 0/\(σ.env 6).v=.sl (decide (N=0)) (posV w N)) (fun i hi σ k h ih hk=>?_) _ _ ?_ (fun e σ h=>?_)
 ·obtain ⟨e5,e7,e6,an⟩:=h
  refine q04 ?_
  by_cases hlt:i<N
  ·have hlt':(i:Int)<N:=by omega
   have g1:(vecC N w)[i]?=some [.int .i64 (w i)]:=by have:=q1h w (t:=(i:Int)) (N:=N) (by omega); simpa using this
   have hwi:=q0W (i:=i) (by omega)
   have q:=posV_els w i
   have ql:=posV_len w i
   have hroom:q1E 1 (i + 1)=true:=by rw [q0s]; omega
   rcases an with ⟨a0,a5⟩ | ⟨a0,a5⟩
   ·simp [q2N,-Option.bind_some,-Int.toNat_lt,-List.map_map,List.range_succ,e5,e7,e6,a5,hlt',hvl,g1,q,ql,hwi,hroom]
    refine ih hlt _ ⟨?_,?_,?_,?_⟩ <;> simp [e5,q7E,An.strip]
   ·simp [q2N,-Option.bind_some,-Int.toNat_lt,-List.map_map,List.range_succ,e5,e7,e6,a0,a5,hlt',hvl,g1,q,ql,hwi,hroom]
    refine ih hlt _ ⟨?_,?_,?_,?_⟩ <;> simp [e5,q7E,An.strip]
  ·have hlt':¬ (i:Int)<N:=by omega
   have hiN:i=N:=by omega
   simp [q2N,-Option.bind_some,-Int.toNat_lt,-List.map_map,List.range_succ,e5,e7,hvl,hlt']
   exact hk _ _ ⟨rfl,by rw [<- hiN]; simp [e6]⟩
 ·simp [posV]
 ·obtain ⟨rfl,e5⟩:=h
  simp [-Option.bind_some,-Int.toNat_lt,-List.map_map,List.range_succ,e5]
abbrev i6 (n:Int):AV:=.int .i64 n
abbrev f6:AV:=.bool false
abbrev t6:AV:=.bool true
abbrev n6:AV:=.sl true []
abbrev e6:AV:=.str ⟨#[]⟩
def exA0:AV:=(.sl false [[(i6 5),(.str (.mk #[65])),(i6 0),(i6 0),(i6 0),n6,(.sl false [[(i6 1),(.str (.mk #[97])),(i6 0),f6,f6,(i6 0),f6,(i6 0),e6,(i6 0),n6,n6,n6]]),(i6 0),(i6 0),f6],[(i6 7),e6,(i6 0),(i6 0),(i6 3),n6,n6,(i6 0),(i6 2),f6],[(i6 5),(.str (.mk #[66])),(i6 0),(i6 0),(i6 0),n6,(.sl false [[(i6 1),(.str (.mk #[98])),(i6 1),f6,f6,(i6 0),f6,(i6 0),e6,(i6 0),n6,n6,n6]]),(i6 0),(i6 0),f6],[(i6 2),e6,(i6 7),(i6 7),(i6 0),n6,n6,(i6 0),(i6 0),f6],[(i6 6),(.str (.mk #[85])),(i6 0),(i6 0),(i6 0),n6,(.sl false [[(i6 1),(.str (.mk #[120])),(i6 0),f6,f6,(i6 0),f6,(i6 0),e6,(i6 0),n6,n6,n6],[(i6 2),(.str (.mk #[121])),(i6 3),f6,f6,(i6 0),f6,(i6 0),e6,(i6 0),n6,n6,n6]]),(i6 0),(i6 0),f6]])
def exA:AV:=(.agg [exA0])
def awk_M0:List ME:=[]
theorem awk_k0:q0k allT q02 awk_M0:=q0k.nil
def awk_M1:List ME:=⟨27,[],none,(exA,none)⟩ :: awk_M0
theorem awk_k1:q0k allT q02 awk_M1:=awk_k0.more 3000 _ (by kernel_rfl)
def awk_M2:List ME:=⟨44,[exA],none,((i6 0),none)⟩ :: awk_M1
theorem awk_k2:q0k allT q02 awk_M2:=awk_k1.more 3000 _ (by kernel_rfl)
def awk_M3:List ME:=⟨45,[exA],none,((.tup [(i6 0),(i6 0),(i6 0)]),none)⟩ :: awk_M2
theorem awk_k3:q0k allT q02 awk_M3:=awk_k2.more 3000 _ (by kernel_rfl)
def awk_M4:List ME:=⟨30,[exA],none,((i6 0),none)⟩ :: awk_M3
theorem awk_k4:q0k allT q02 awk_M4:=awk_k3.more 3000 _ (by kernel_rfl)
def awk_M5:List ME:=⟨46,[(.agg [(i6 5),(.str (.mk #[65])),(i6 0),(i6 0),(i6 0),n6,(.sl false [[(i6 1),(.str (.mk #[97])),(i6 0),f6,f6,(i6 0),f6,(i6 0),e6,(i6 0),n6,n6,n6]]),(i6 0),(i6 0),f6]),(.bl [[(i6 0)],[(i6 0)],[(i6 0)],[(i6 0)],[(i6 0)]])],none,((i6 0),none)⟩ :: awk_M4
theorem awk_k5:q0k allT q02 awk_M5:=awk_k4.more 3000 _ (by kernel_rfl)
def awk_M6:List ME:=⟨46,[(.agg [(i6 7),e6,(i6 0),(i6 0),(i6 3),n6,n6,(i6 0),(i6 2),f6]),(.bl [[(i6 0)],[(i6 0)],[(i6 0)],[(i6 0)],[(i6 0)]])],none,((i6 1),none)⟩ :: awk_M5
theorem awk_k6:q0k allT q02 awk_M6:=awk_k5.more 3000 _ (by kernel_rfl)
def awk_M7:List ME:=⟨46,[(.agg [(i6 5),(.str (.mk #[66])),(i6 0),(i6 0),(i6 0),n6,(.sl false [[(i6 1),(.str (.mk #[98])),(i6 1),f6,f6,(i6 0),f6,(i6 0),e6,(i6 0),n6,n6,n6]]),(i6 0),(i6 0),f6]),(.bl [[(i6 0)],[(i6 1)],[(i6 0)],[(i6 0)],[(i6 0)]])],none,((i6 1),none)⟩ :: awk_M6
theorem awk_k7:q0k allT q02 awk_M7:=awk_k6.more 3000 _ (by kernel_rfl)
def awk_M8:List ME:=⟨46,[(.agg [(i6 2),e6,(i6 7),(i6 7),(i6 0),n6,n6,(i6 0),(i6 0),f6]),(.bl [[(i6 0)],[(i6 1)],[(i6 1)],[(i6 0)],[(i6 0)]])],none,((i6 1),none)⟩ :: awk_M7
theorem awk_k8:q0k allT q02 awk_M8:=awk_k7.more 3000 _ (by kernel_rfl)
def awk_M9:List ME:=⟨46,[(.agg [(i6 6),(.str (.mk #[85])),(i6 0),(i6 0),(i6 0),n6,(.sl false [[(i6 1),(.str (.mk #[120])),(i6 0),f6,f6,(i6 0),f6,(i6 0),e6,(i6 0),n6,n6,n6],[(i6 2),(.str (.mk #[121])),(i6 3),f6,f6,(i6 0),f6,(i6 0),e6,(i6 0),n6,n6,n6]]),(i6 0),(i6 0),f6]),(.bl [[(i6 0)],[(i6 1)],[(i6 1)],[(i6 1)],[(i6 0)]])],none,((i6 1),none)⟩ :: awk_M8
theorem awk_k9:q0k allT q02 awk_M9:=awk_k8.more 3000 _ (by kernel_rfl)
def awk_M10:List ME:=⟨46,[(.agg [(i6 5),(.str (.mk #[65])),(i6 0),(i6 0),(i6 0),n6,(.sl false [[(i6 1),(.str (.mk #[97])),(i6 0),f6,f6,(i6 0),f6,(i6 0),e6,(i6 0),n6,n6,n6]]),(i6 0),(i6 0),f6]),(.bl [[(i6 0)],[(i6 1)],[(i6 1)],[(i6 1)],[(i6 1)]])],none,((i6 0),none)⟩ :: awk_M9
theorem awk_k10:q0k allT q02 awk_M10:=awk_k9.more 3000 _ (by kernel_rfl)
def awk_M11:List ME:=⟨46,[(.agg [(i6 7),e6,(i6 0),(i6 0),(i6 3),n6,n6,(i6 0),(i6 2),f6]),(.bl [[(i6 0)],[(i6 1)],[(i6 1)],[(i6 1)],[(i6 1)]])],none,((i6 2),none)⟩ :: awk_M10
theorem awk_k11:q0k allT q02 awk_M11:=awk_k10.more 3000 _ (by kernel_rfl)
def awk_M12:List ME:=⟨46,[(.agg [(i6 5),(.str (.mk #[66])),(i6 0),(i6 0),(i6 0),n6,(.sl false [[(i6 1),(.str (.mk #[98])),(i6 1),f6,f6,(i6 0),f6,(i6 0),e6,(i6 0),n6,n6,n6]]),(i6 0),(i6 0),f6]),(.bl [[(i6 0)],[(i6 2)],[(i6 1)],[(i6 1)],[(i6 1)]])],none,((i6 2),none)⟩ :: awk_M11
theorem awk_k12:q0k allT q02 awk_M12:=awk_k11.more 3000 _ (by kernel_rfl)
def awk_M13:List ME:=⟨46,[(.agg [(i6 2),e6,(i6 7),(i6 7),(i6 0),n6,n6,(i6 0),(i6 0),f6]),(.bl [[(i6 0)],[(i6 2)],[(i6 2)],[(i6 1)],[(i6 1)]])],none,((i6 1),none)⟩ :: awk_M12
theorem awk_k13:q0k allT q02 awk_M13:=awk_k12.more 3000 _ (by kernel_rfl)
def awk_M14:List ME:=⟨46,[(.agg [(i6 6),(.str (.mk #[85])),(i6 0),(i6 0),(i6 0),n6,(.sl false [[(i6 1),(.str (.mk #[120])),(i6 0),f6,f6,(i6 0),f6,(i6 0),e6,(i6 0),n6,n6,n6],[(i6 2),(.str (.mk #[121])),(i6 3),f6,f6,(i6 0),f6,(i6 0),e6,(i6 0),n6,n6,n6]]),(i6 0),(i6 0),f6]),(.bl [[(i6 0)],[(i6 2)],[(i6 2)],[(i6 1)],[(i6 1)]])],none,((i6 1),none)⟩ :: awk_M13
theorem awk_k14:q0k allT q02 awk_M14:=awk_k13.more 3000 _ (by kernel_rfl)
def awk_M15:List ME:=⟨46,[(.agg [(i6 5),(.str (.mk #[65])),(i6 0),(i6 0),(i6 0),n6,(.sl false [[(i6 1),(.str (.mk #[97])),(i6 0),f6,f6,(i6 0),f6,(i6 0),e6,(i6 0),n6,n6,n6]]),(i6 0),(i6 0),f6]),(.bl [[(i6 0)],[(i6 2)],[(i6 2)],[(i6 1)],[(i6 1)]])],none,((i6 0),none)⟩ :: awk_M14
theorem awk_k15:q0k allT q02 awk_M15:=awk_k14.more 3000 _ (by kernel_rfl)
def awk_M16:List ME:=⟨46,[(.agg [(i6 7),e6,(i6 0),(i6 0),(i6 3),n6,n6,(i6 0),(i6 2),f6]),(.bl [[(i6 0)],[(i6 2)],[(i6 2)],[(i6 1)],[(i6 1)]])],none,((i6 2),none)⟩ :: awk_M15
theorem awk_k16:q0k allT q02 awk_M16:=awk_k15.more 3000 _ (by kernel_rfl)
def awk_M17:List ME:=⟨46,[(.agg [(i6 5),(.str (.mk #[66])),(i6 0),(i6 0),(i6 0),n6,(.sl false [[(i6 1),(.str (.mk #[98])),(i6 1),f6,f6,(i6 0),f6,(i6 0),e6,(i6 0),n6,n6,n6]]),(i6 0),(i6 0),f6]),(.bl [[(i6 0)],[(i6 2)],[(i6 2)],[(i6 1)],[(i6 1)]])],none,((i6 2),none)⟩ :: awk_M16
theorem awk_k17:q0k allT q02 awk_M17:=awk_k16.more 3000 _ (by kernel_rfl)
def awk_M18:List ME:=⟨31,[exA],none,((.sl false [[(i6 0)],[(i6 2)],[(i6 2)],[(i6 1)],[(i6 1)]]),none)⟩ :: awk_M17
theorem awk_k18:q0k allT q02 awk_M18:=awk_k17.more 3000 _ (by kernel_rfl)
def awk_M19:List ME:=⟨11,[exA],none,((.tup [(.sl false [[f6],[t6],[t6],[t6],[t6]]),(i6 0)]),none)⟩ :: awk_M18
theorem awk_k19:q0k allT q02 awk_M19:=awk_k18.more 3000 _ (by kernel_rfl)
def awk_M20:List ME:=⟨33,[exA,(i6 2)],none,((i6 0),none)⟩ :: awk_M19
theorem awk_k20:q0k allT q02 awk_M20:=awk_k19.more 3000 _ (by kernel_rfl)
def awk_M21:List ME:=⟨48,[exA,(i6 0),(.agg [(i6 5),(.str (.mk #[65])),(i6 0),(i6 0),(i6 0),n6,(.sl false [[(i6 1),(.str (.mk #[97])),(i6 0),f6,f6,(i6 0),f6,(i6 0),e6,(i6 0),n6,n6,n6]]),(i6 0),(i6 0),f6]),(.bl [[f6,f6,e6,(i6 0),f6,(i6 0),e6,(i6 0),n6,n6,n6],[f6,f6,e6,(i6 0),f6,(i6 0),e6,(i6 0),n6,n6,n6],[f6,f6,e6,(i6 0),f6,(i6 0),e6,(i6 0),n6,n6,n6],[f6,f6,e6,(i6 0),f6,(i6 0),e6,(i6 0),n6,n6,n6],[f6,f6,e6,(i6 0),f6,(i6 0),e6,(i6 0),n6,n6,n6]])],none,((.agg [f6,f6,e6,(i6 0),f6,(i6 0),e6,(i6 0),n6,n6,n6]),none)⟩ :: awk_M20
theorem awk_k21:q0k allT q02 awk_M21:=awk_k20.more 3000 _ (by kernel_rfl)
def awk_M22:List ME:=⟨49,[(.agg [f6,f6,e6,(i6 0),f6,(i6 0),e6,(i6 0),n6,n6,n6]),(.agg [f6,f6,e6,(i6 0),f6,(i6 0),e6,(i6 0),n6,n6,n6])],none,(f6,none)⟩ :: awk_M21
theorem awk_k22:q0k allT q02 awk_M22:=awk_k21.more 3000 _ (by kernel_rfl)
def awk_M23:List ME:=⟨82,[exA,(i6 1),(.agg [(i6 7),f6,(i6 0),e6,(i6 0),n6,n6,n6]),f6],none,(t6,none)⟩ :: awk_M22
theorem awk_k23:q0k allT q02 awk_M23:=awk_k22.more 3000 _ (by kernel_rfl)
def awk_M24:List ME:=⟨115,[exA,(i6 1),(.agg [(i6 7),f6,(i6 0),e6,(i6 0),n6,n6,n6])],none,((i6 0),none)⟩ :: awk_M23
theorem awk_k24:q0k allT q02 awk_M24:=awk_k23.more 3000 _ (by kernel_rfl)
def awk_M25:List ME:=⟨116,[.undef,.undef,(.ptr 0 0 0),(i6 1),(.agg [(i6 7),f6,(i6 0),e6,(i6 0),n6,n6,n6]),(i6 1)],(some (.agg [exA0,(i6 0)])),(e6,(some (.agg [exA0,(i6 1)])))⟩ :: awk_M24
theorem awk_k25:q0k allT q02 awk_M25:=awk_k24.more 3000 _ (by kernel_rfl)
def awk_M26:List ME:=⟨83,[exA,(i6 1),(.agg [(i6 7),f6,(i6 0),e6,(i6 0),n6,n6,n6])],none,((.tup [(i6 0),(i6 0)]),none)⟩ :: awk_M25
theorem awk_k26:q0k allT q02 awk_M26:=awk_k25.more 3000 _ (by kernel_rfl)
def awk_M27:List ME:=⟨117,[exA,(i6 1),(.agg [(i6 7),f6,(i6 0),e6,(i6 0),n6,n6,n6])],none,((.tup [e6,(i6 0)]),none)⟩ :: awk_M26
theorem awk_k27:q0k allT q02 awk_M27:=awk_k26.more 3000 _ (by kernel_rfl)
def awk_M28:List ME:=⟨84,[exA,(i6 1),(.agg [(i6 7),f6,(i6 0),e6,(i6 0),n6,n6,n6])],none,(e6,none)⟩ :: awk_M27
theorem awk_k28:q0k allT q02 awk_M28:=awk_k27.more 3000 _ (by kernel_rfl)
def awk_M29:List ME:=⟨67,[exA,(i6 1),(.agg [(i6 7),f6,(i6 0),e6,(i6 0),n6,n6,n6])],none,((.agg [t6,f6,e6,(i6 7),f6,(i6 0),e6,(i6 0),n6,n6,n6]),none)⟩ :: awk_M28
theorem awk_k29:q0k allT q02 awk_M29:=awk_k28.more 3000 _ (by kernel_rfl)
def awk_M30:List ME:=⟨48,[exA,(i6 1),(.agg [(i6 7),e6,(i6 0),(i6 0),(i6 3),n6,n6,(i6 0),(i6 2),f6]),(.bl [[f6,f6,e6,(i6 0),f6,(i6 0),e6,(i6 0),n6,n6,n6],[f6,f6,e6,(i6 0),f6,(i6 0),e6,(i6 0),n6,n6,n6],[f6,f6,e6,(i6 0),f6,(i6 0),e6,(i6 0),n6,n6,n6],[f6,f6,e6,(i6 0),f6,(i6 0),e6,(i6 0),n6,n6,n6],[f6,f6,e6,(i6 0),f6,(i6 0),e6,(i6 0),n6,n6,n6]])],none,((.agg [t6,f6,e6,(i6 7),f6,(i6 0),e6,(i6 0),n6,n6,n6]),none)⟩ :: awk_M29
theorem awk_k30:q0k allT q02 awk_M30:=awk_k29.more 3000 _ (by kernel_rfl)
def awk_M31:List ME:=⟨49,[(.agg [t6,f6,e6,(i6 7),f6,(i6 0),e6,(i6 0),n6,n6,n6]),(.agg [f6,f6,e6,(i6 0),f6,(i6 0),e6,(i6 0),n6,n6,n6])],none,(t6,none)⟩ :: awk_M30
theorem awk_k31:q0k allT q02 awk_M31:=awk_k30.more 3000 _ (by kernel_rfl)
def awk_M32:List ME:=⟨82,[exA,(i6 2),(.agg [(i6 5),f6,(i6 0),e6,(i6 0),n6,(.sl false [[(i6 7),f6,(i6 0),e6,(i6 0),n6,n6,n6]]),n6]),f6],none,(t6,none)⟩ :: awk_M31
theorem awk_k32:q0k allT q02 awk_M32:=awk_k31.more 3000 _ (by kernel_rfl)
def awk_M33:List ME:=⟨115,[exA,(i6 2),(.agg [(i6 5),f6,(i6 0),e6,(i6 0),n6,(.sl false [[(i6 7),f6,(i6 0),e6,(i6 0),n6,n6,n6]]),n6])],none,((i6 0),none)⟩ :: awk_M32
theorem awk_k33:q0k allT q02 awk_M33:=awk_k32.more 3000 _ (by kernel_rfl)
def awk_M34:List ME:=⟨116,[.undef,.undef,(.ptr 0 0 0),(i6 1),(.agg [(i6 7),f6,(i6 0),e6,(i6 0),n6,n6,n6]),(i6 2)],(some (.agg [exA0,(i6 1)])),(e6,(some (.agg [exA0,(i6 2)])))⟩ :: awk_M33
theorem awk_k34:q0k allT q02 awk_M34:=awk_k33.more 3000 _ (by kernel_rfl)
def awk_M35:List ME:=⟨116,[.undef,.undef,(.ptr 0 0 0),(i6 2),(.agg [(i6 5),f6,(i6 0),e6,(i6 0),n6,(.sl false [[(i6 7),f6,(i6 0),e6,(i6 0),n6,n6,n6]]),n6]),(i6 1)],(some (.agg [exA0,(i6 0)])),((.str (.mk #[2,0])),(some (.agg [exA0,(i6 2)])))⟩ :: awk_M34
theorem awk_k35:q0k allT q02 awk_M35:=awk_k34.more 3000 _ (by kernel_rfl)
def awk_M36:List ME:=⟨83,[exA,(i6 2),(.agg [(i6 5),f6,(i6 0),e6,(i6 0),n6,(.sl false [[(i6 7),f6,(i6 0),e6,(i6 0),n6,n6,n6]]),n6])],none,((.tup [(i6 2),(i6 0)]),none)⟩ :: awk_M35
theorem awk_k36:q0k allT q02 awk_M36:=awk_k35.more 3000 _ (by kernel_rfl)
def awk_M37:List ME:=⟨117,[exA,(i6 2),(.agg [(i6 5),f6,(i6 0),e6,(i6 0),n6,(.sl false [[(i6 7),f6,(i6 0),e6,(i6 0),n6,n6,n6]]),n6])],none,((.tup [(.str (.mk #[2,0])),(i6 0)]),none)⟩ :: awk_M36
theorem awk_k37:q0k allT q02 awk_M37:=awk_k36.more 3000 _ (by kernel_rfl)
def awk_M38:List ME:=⟨84,[exA,(i6 2),(.agg [(i6 5),f6,(i6 0),e6,(i6 0),n6,(.sl false [[(i6 7),f6,(i6 0),e6,(i6 0),n6,n6,n6]]),n6])],none,((.str (.mk #[2,0])),none)⟩ :: awk_M37
theorem awk_k38:q0k allT q02 awk_M38:=awk_k37.more 3000 _ (by kernel_rfl)
def awk_M39:List ME:=⟨67,[exA,(i6 2),(.agg [(i6 5),f6,(i6 0),e6,(i6 0),n6,(.sl false [[(i6 7),f6,(i6 0),e6,(i6 0),n6,n6,n6]]),n6])],none,((.agg [t6,f6,(.str (.mk #[2,0])),(i6 5),f6,(i6 0),e6,(i6 0),n6,(.sl false [[(i6 7),f6,(i6 0),e6,(i6 0),n6,n6,n6]]),n6]),none)⟩ :: awk_M38
theorem awk_k39:q0k allT q02 awk_M39:=awk_k38.more 3000 _ (by kernel_rfl)
def awk_M40:List ME:=⟨48,[exA,(i6 2),(.agg [(i6 5),(.str (.mk #[66])),(i6 0),(i6 0),(i6 0),n6,(.sl false [[(i6 1),(.str (.mk #[98])),(i6 1),f6,f6,(i6 0),f6,(i6 0),e6,(i6 0),n6,n6,n6]]),(i6 0),(i6 0),f6]),(.bl [[f6,f6,e6,(i6 0),f6,(i6 0),e6,(i6 0),n6,n6,n6],[t6,f6,e6,(i6 7),f6,(i6 0),e6,(i6 0),n6,n6,n6],[f6,f6,e6,(i6 0),f6,(i6 0),e6,(i6 0),n6,n6,n6],[f6,f6,e6,(i6 0),f6,(i6 0),e6,(i6 0),n6,n6,n6],[f6,f6,e6,(i6 0),f6,(i6 0),e6,(i6 0),n6,n6,n6]])],none,((.agg [t6,f6,(.str (.mk #[2,0])),(i6 5),f6,(i6 0),e6,(i6 0),n6,(.sl false [[(i6 7),f6,(i6 0),e6,(i6 0),n6,n6,n6]]),n6]),none)⟩ :: awk_M39
theorem awk_k40:q0k allT q02 awk_M40:=awk_k39.more 3000 _ (by kernel_rfl)
def awk_M41:List ME:=⟨49,[(.agg [t6,f6,(.str (.mk #[2,0])),(i6 5),f6,(i6 0),e6,(i6 0),n6,(.sl false [[(i6 7),f6,(i6 0),e6,(i6 0),n6,n6,n6]]),n6]),(.agg [f6,f6,e6,(i6 0),f6,(i6 0),e6,(i6 0),n6,n6,n6])],none,(t6,none)⟩ :: awk_M40
theorem awk_k41:q0k allT q02 awk_M41:=awk_k40.more 3000 _ (by kernel_rfl)
def awk_M42:List ME:=⟨82,[exA,(i6 3),(.agg [(i6 2),f6,(i6 7),e6,(i6 0),n6,n6,n6]),f6],none,(t6,none)⟩ :: awk_M41
theorem awk_k42:q0k allT q02 awk_M42:=awk_k41.more 3000 _ (by kernel_rfl)
def awk_M43:List ME:=⟨115,[exA,(i6 3),(.agg [(i6 2),f6,(i6 7),e6,(i6 0),n6,n6,n6])],none,((i6 0),none)⟩ :: awk_M42
theorem awk_k43:q0k allT q02 awk_M43:=awk_k42.more 3000 _ (by kernel_rfl)
def awk_M44:List ME:=⟨116,[.undef,.undef,(.ptr 0 0 0),(i6 3),(.agg [(i6 2),f6,(i6 7),e6,(i6 0),n6,n6,n6]),(i6 1)],(some (.agg [exA0,(i6 0)])),((.str (.mk #[14])),(some (.agg [exA0,(i6 1)])))⟩ :: awk_M43
theorem awk_k44:q0k allT q02 awk_M44:=awk_k43.more 3000 _ (by kernel_rfl)
def awk_M45:List ME:=⟨83,[exA,(i6 3),(.agg [(i6 2),f6,(i6 7),e6,(i6 0),n6,n6,n6])],none,((.tup [(i6 1),(i6 0)]),none)⟩ :: awk_M44
theorem awk_k45:q0k allT q02 awk_M45:=awk_k44.more 3000 _ (by kernel_rfl)
def awk_M46:List ME:=⟨117,[exA,(i6 3),(.agg [(i6 2),f6,(i6 7),e6,(i6 0),n6,n6,n6])],none,((.tup [(.str (.mk #[14])),(i6 0)]),none)⟩ :: awk_M45
theorem awk_k46:q0k allT q02 awk_M46:=awk_k45.more 3000 _ (by kernel_rfl)
def awk_M47:List ME:=⟨84,[exA,(i6 3),(.agg [(i6 2),f6,(i6 7),e6,(i6 0),n6,n6,n6])],none,((.str (.mk #[14])),none)⟩ :: awk_M46
theorem awk_k47:q0k allT q02 awk_M47:=awk_k46.more 3000 _ (by kernel_rfl)
def awk_M48:List ME:=⟨67,[exA,(i6 3),(.agg [(i6 2),f6,(i6 7),e6,(i6 0),n6,n6,n6])],none,((.agg [t6,f6,(.str (.mk #[14])),(i6 2),f6,(i6 7),e6,(i6 0),n6,n6,n6]),none)⟩ :: awk_M47
theorem awk_k48:q0k allT q02 awk_M48:=awk_k47.more 3000 _ (by kernel_rfl)
def awk_M49:List ME:=⟨48,[exA,(i6 3),(.agg [(i6 2),e6,(i6 7),(i6 7),(i6 0),n6,n6,(i6 0),(i6 0),f6]),(.bl [[f6,f6,e6,(i6 0),f6,(i6 0),e6,(i6 0),n6,n6,n6],[t6,f6,e6,(i6 7),f6,(i6 0),e6,(i6 0),n6,n6,n6],[t6,f6,(.str (.mk #[2,0])),(i6 5),f6,(i6 0),e6,(i6 0),n6,(.sl false [[(i6 7),f6,(i6 0),e6,(i6 0),n6,n6,n6]]),n6],[f6,f6,e6,(i6 0),f6,(i6 0),e6,(i6 0),n6,n6,n6],[f6,f6,e6,(i6 0),f6,(i6 0),e6,(i6 0),n6,n6,n6]])],none,((.agg [t6,f6,(.str (.mk #[14])),(i6 2),f6,(i6 7),e6,(i6 0),n6,n6,n6]),none)⟩ :: awk_M48
theorem awk_k49:q0k allT q02 awk_M49:=awk_k48.more 3000 _ (by kernel_rfl)
def awk_M50:List ME:=⟨49,[(.agg [t6,f6,(.str (.mk #[14])),(i6 2),f6,(i6 7),e6,(i6 0),n6,n6,n6]),(.agg [f6,f6,e6,(i6 0),f6,(i6 0),e6,(i6 0),n6,n6,n6])],none,(t6,none)⟩ :: awk_M49
theorem awk_k50:q0k allT q02 awk_M50:=awk_k49.more 3000 _ (by kernel_rfl)
def awk_M51:List ME:=⟨82,[exA,(i6 4),(.agg [(i6 6),f6,(i6 0),e6,(i6 2),n6,(.sl false [[(i6 2),f6,(i6 7),e6,(i6 0),n6,n6,n6]]),n6]),f6],none,(t6,none)⟩ :: awk_M50
theorem awk_k51:q0k allT q02 awk_M51:=awk_k50.more 3000 _ (by kernel_rfl)
def awk_M52:List ME:=⟨115,[exA,(i6 4),(.agg [(i6 6),f6,(i6 0),e6,(i6 2),n6,(.sl false [[(i6 2),f6,(i6 7),e6,(i6 0),n6,n6,n6]]),n6])],none,((i6 0),none)⟩ :: awk_M51
theorem awk_k52:q0k allT q02 awk_M52:=awk_k51.more 3000 _ (by kernel_rfl)
def awk_M53:List ME:=⟨116,[.undef,.undef,(.ptr 0 0 0),(i6 3),(.agg [(i6 2),f6,(i6 7),e6,(i6 0),n6,n6,n6]),(i6 2)],(some (.agg [exA0,(i6 1)])),((.str (.mk #[14])),(some (.agg [exA0,(i6 2)])))⟩ :: awk_M52
theorem awk_k53:q0k allT q02 awk_M53:=awk_k52.more 3000 _ (by kernel_rfl)
def awk_M54:List ME:=⟨116,[.undef,.undef,(.ptr 0 0 0),(i6 4),(.agg [(i6 6),f6,(i6 0),e6,(i6 2),n6,(.sl false [[(i6 2),f6,(i6 7),e6,(i6 0),n6,n6,n6]]),n6]),(i6 1)],(some (.agg [exA0,(i6 0)])),((.str (.mk #[2,14])),(some (.agg [exA0,(i6 2)])))⟩ :: awk_M53
theorem awk_k54:q0k allT q02 awk_M54:=awk_k53.more 3000 _ (by kernel_rfl)
def awk_M55:List ME:=⟨83,[exA,(i6 4),(.agg [(i6 6),f6,(i6 0),e6,(i6 2),n6,(.sl false [[(i6 2),f6,(i6 7),e6,(i6 0),n6,n6,n6]]),n6])],none,((.tup [(i6 2),(i6 0)]),none)⟩ :: awk_M54
theorem awk_k55:q0k allT q02 awk_M55:=awk_k54.more 3000 _ (by kernel_rfl)
def awk_M56:List ME:=⟨117,[exA,(i6 4),(.agg [(i6 6),f6,(i6 0),e6,(i6 2),n6,(.sl false [[(i6 2),f6,(i6 7),e6,(i6 0),n6,n6,n6]]),n6])],none,((.tup [(.str (.mk #[2,14])),(i6 0)]),none)⟩ :: awk_M55
theorem awk_k56:q0k allT q02 awk_M56:=awk_k55.more 3000 _ (by kernel_rfl)
def awk_M57:List ME:=⟨84,[exA,(i6 4),(.agg [(i6 6),f6,(i6 0),e6,(i6 2),n6,(.sl false [[(i6 2),f6,(i6 7),e6,(i6 0),n6,n6,n6]]),n6])],none,((.str (.mk #[2,14])),none)⟩ :: awk_M56
theorem awk_k57:q0k allT q02 awk_M57:=awk_k56.more 3000 _ (by kernel_rfl)
def awk_M58:List ME:=⟨67,[exA,(i6 4),(.agg [(i6 6),f6,(i6 0),e6,(i6 2),n6,(.sl false [[(i6 2),f6,(i6 7),e6,(i6 0),n6,n6,n6]]),n6])],none,((.agg [t6,f6,(.str (.mk #[2,14])),(i6 6),f6,(i6 0),e6,(i6 2),n6,(.sl false [[(i6 2),f6,(i6 7),e6,(i6 0),n6,n6,n6]]),n6]),none)⟩ :: awk_M57
theorem awk_k58:q0k allT q02 awk_M58:=awk_k57.more 3000 _ (by kernel_rfl)
def awk_M59:List ME:=⟨49,[(.agg [t6,f6,(.str (.mk #[2,14])),(i6 6),f6,(i6 0),e6,(i6 2),n6,(.sl false [[(i6 2),f6,(i6 7),e6,(i6 0),n6,n6,n6]]),n6]),(.agg [f6,f6,e6,(i6 0),f6,(i6 0),e6,(i6 0),n6,n6,n6])],none,(t6,none)⟩ :: awk_M58
theorem awk_k59:q0k allT q02 awk_M59:=awk_k58.more 3000 _ (by kernel_rfl)
def awk_M60:List ME:=⟨48,[exA,(i6 4),(.agg [(i6 6),(.str (.mk #[85])),(i6 0),(i6 0),(i6 0),n6,(.sl false [[(i6 1),(.str (.mk #[120])),(i6 0),f6,f6,(i6 0),f6,(i6 0),e6,(i6 0),n6,n6,n6],[(i6 2),(.str (.mk #[121])),(i6 3),f6,f6,(i6 0),f6,(i6 0),e6,(i6 0),n6,n6,n6]]),(i6 0),(i6 0),f6]),(.bl [[f6,f6,e6,(i6 0),f6,(i6 0),e6,(i6 0),n6,n6,n6],[t6,f6,e6,(i6 7),f6,(i6 0),e6,(i6 0),n6,n6,n6],[t6,f6,(.str (.mk #[2,0])),(i6 5),f6,(i6 0),e6,(i6 0),n6,(.sl false [[(i6 7),f6,(i6 0),e6,(i6 0),n6,n6,n6]]),n6],[t6,f6,(.str (.mk #[14])),(i6 2),f6,(i6 7),e6,(i6 0),n6,n6,n6],[f6,f6,e6,(i6 0),f6,(i6 0),e6,(i6 0),n6,n6,n6]])],none,((.agg [t6,f6,(.str (.mk #[2,14])),(i6 6),f6,(i6 0),e6,(i6 2),n6,(.sl false [[(i6 2),f6,(i6 7),e6,(i6 0),n6,n6,n6]]),n6]),none)⟩ :: awk_M59
theorem awk_k60:q0k allT q02 awk_M60:=awk_k59.more 3000 _ (by kernel_rfl)
def awk_M61:List ME:=⟨48,[exA,(i6 0),(.agg [(i6 5),(.str (.mk #[65])),(i6 0),(i6 0),(i6 0),n6,(.sl false [[(i6 1),(.str (.mk #[97])),(i6 0),f6,f6,(i6 0),f6,(i6 0),e6,(i6 0),n6,n6,n6]]),(i6 0),(i6 0),f6]),(.bl [[f6,f6,e6,(i6 0),f6,(i6 0),e6,(i6 0),n6,n6,n6],[t6,f6,e6,(i6 7),f6,(i6 0),e6,(i6 0),n6,n6,n6],[t6,f6,(.str (.mk #[2,0])),(i6 5),f6,(i6 0),e6,(i6 0),n6,(.sl false [[(i6 7),f6,(i6 0),e6,(i6 0),n6,n6,n6]]),n6],[t6,f6,(.str (.mk #[14])),(i6 2),f6,(i6 7),e6,(i6 0),n6,n6,n6],[t6,f6,(.str (.mk #[2,14])),(i6 6),f6,(i6 0),e6,(i6 2),n6,(.sl false [[(i6 2),f6,(i6 7),e6,(i6 0),n6,n6,n6]]),n6]])],none,((.agg [f6,f6,e6,(i6 0),f6,(i6 0),e6,(i6 0),n6,n6,n6]),none)⟩ :: awk_M60
theorem awk_k61:q0k allT q02 awk_M61:=awk_k60.more 3000 _ (by kernel_rfl)
def awk_M62:List ME:=⟨48,[exA,(i6 1),(.agg [(i6 7),e6,(i6 0),(i6 0),(i6 3),n6,n6,(i6 0),(i6 2),f6]),(.bl [[f6,f6,e6,(i6 0),f6,(i6 0),e6,(i6 0),n6,n6,n6],[t6,f6,e6,(i6 7),f6,(i6 0),e6,(i6 0),n6,n6,n6],[t6,f6,(.str (.mk #[2,0])),(i6 5),f6,(i6 0),e6,(i6 0),n6,(.sl false [[(i6 7),f6,(i6 0),e6,(i6 0),n6,n6,n6]]),n6],[t6,f6,(.str (.mk #[14])),(i6 2),f6,(i6 7),e6,(i6 0),n6,n6,n6],[t6,f6,(.str (.mk #[2,14])),(i6 6),f6,(i6 0),e6,(i6 2),n6,(.sl false [[(i6 2),f6,(i6 7),e6,(i6 0),n6,n6,n6]]),n6]])],none,((.agg [t6,f6,e6,(i6 7),f6,(i6 0),e6,(i6 0),n6,n6,n6]),none)⟩ :: awk_M61
theorem awk_k62:q0k allT q02 awk_M62:=awk_k61.more 3000 _ (by kernel_rfl)
def awk_M63:List ME:=⟨49,[(.agg [t6,f6,e6,(i6 7),f6,(i6 0),e6,(i6 0),n6,n6,n6]),(.agg [t6,f6,e6,(i6 7),f6,(i6 0),e6,(i6 0),n6,n6,n6])],none,(f6,none)⟩ :: awk_M62
theorem awk_k63:q0k allT q02 awk_M63:=awk_k62.more 3000 _ (by kernel_rfl)
def awk_M64:List ME:=⟨48,[exA,(i6 2),(.agg [(i6 5),(.str (.mk #[66])),(i6 0),(i6 0),(i6 0),n6,(.sl false [[(i6 1),(.str (.mk #[98])),(i6 1),f6,f6,(i6 0),f6,(i6 0),e6,(i6 0),n6,n6,n6]]),(i6 0),(i6 0),f6]),(.bl [[f6,f6,e6,(i6 0),f6,(i6 0),e6,(i6 0),n6,n6,n6],[t6,f6,e6,(i6 7),f6,(i6 0),e6,(i6 0),n6,n6,n6],[t6,f6,(.str (.mk #[2,0])),(i6 5),f6,(i6 0),e6,(i6 0),n6,(.sl false [[(i6 7),f6,(i6 0),e6,(i6 0),n6,n6,n6]]),n6],[t6,f6,(.str (.mk #[14])),(i6 2),f6,(i6 7),e6,(i6 0),n6,n6,n6],[t6,f6,(.str (.mk #[2,14])),(i6 6),f6,(i6 0),e6,(i6 2),n6,(.sl false [[(i6 2),f6,(i6 7),e6,(i6 0),n6,n6,n6]]),n6]])],none,((.agg [t6,f6,(.str (.mk #[2,0])),(i6 5),f6,(i6 0),e6,(i6 0),n6,(.sl false [[(i6 7),f6,(i6 0),e6,(i6 0),n6,n6,n6]]),n6]),none)⟩ :: awk_M63
theorem awk_k64:q0k allT q02 awk_M64:=awk_k63.more 3000 _ (by kernel_rfl)
def awk_M65:List ME:=⟨49,[(.agg [t6,f6,(.str (.mk #[2,0])),(i6 5),f6,(i6 0),e6,(i6 0),n6,(.sl false [[(i6 7),f6,(i6 0),e6,(i6 0),n6,n6,n6]]),n6]),(.agg [t6,f6,(.str (.mk #[2,0])),(i6 5),f6,(i6 0),e6,(i6 0),n6,(.sl false [[(i6 7),f6,(i6 0),e6,(i6 0),n6,n6,n6]]),n6])],none,(f6,none)⟩ :: awk_M64
theorem awk_k65:q0k allT q02 awk_M65:=awk_k64.more 3000 _ (by kernel_rfl)
def awk_M66:List ME:=⟨48,[exA,(i6 3),(.agg [(i6 2),e6,(i6 7),(i6 7),(i6 0),n6,n6,(i6 0),(i6 0),f6]),(.bl [[f6,f6,e6,(i6 0),f6,(i6 0),e6,(i6 0),n6,n6,n6],[t6,f6,e6,(i6 7),f6,(i6 0),e6,(i6 0),n6,n6,n6],[t6,f6,(.str (.mk #[2,0])),(i6 5),f6,(i6 0),e6,(i6 0),n6,(.sl false [[(i6 7),f6,(i6 0),e6,(i6 0),n6,n6,n6]]),n6],[t6,f6,(.str (.mk #[14])),(i6 2),f6,(i6 7),e6,(i6 0),n6,n6,n6],[t6,f6,(.str (.mk #[2,14])),(i6 6),f6,(i6 0),e6,(i6 2),n6,(.sl false [[(i6 2),f6,(i6 7),e6,(i6 0),n6,n6,n6]]),n6]])],none,((.agg [t6,f6,(.str (.mk #[14])),(i6 2),f6,(i6 7),e6,(i6 0),n6,n6,n6]),none)⟩ :: awk_M65
theorem awk_k66:q0k allT q02 awk_M66:=awk_k65.more 3000 _ (by kernel_rfl)
def awk_M67:List ME:=⟨49,[(.agg [t6,f6,(.str (.mk #[14])),(i6 2),f6,(i6 7),e6,(i6 0),n6,n6,n6]),(.agg [t6,f6,(.str (.mk #[14])),(i6 2),f6,(i6 7),e6,(i6 0),n6,n6,n6])],none,(f6,none)⟩ :: awk_M66
theorem awk_k67:q0k allT q02 awk_M67:=awk_k66.more 3000 _ (by kernel_rfl)
def awk_M68:List ME:=⟨48,[exA,(i6 4),(.agg [(i6 6),(.str (.mk #[85])),(i6 0),(i6 0),(i6 0),n6,(.sl false [[(i6 1),(.str (.mk #[120])),(i6 0),f6,f6,(i6 0),f6,(i6 0),e6,(i6 0),n6,n6,n6],[(i6 2),(.str (.mk #[121])),(i6 3),f6,f6,(i6 0),f6,(i6 0),e6,(i6 0),n6,n6,n6]]),(i6 0),(i6 0),f6]),(.bl [[f6,f6,e6,(i6 0),f6,(i6 0),e6,(i6 0),n6,n6,n6],[t6,f6,e6,(i6 7),f6,(i6 0),e6,(i6 0),n6,n6,n6],[t6,f6,(.str (.mk #[2,0])),(i6 5),f6,(i6 0),e6,(i6 0),n6,(.sl false [[(i6 7),f6,(i6 0),e6,(i6 0),n6,n6,n6]]),n6],[t6,f6,(.str (.mk #[14])),(i6 2),f6,(i6 7),e6,(i6 0),n6,n6,n6],[t6,f6,(.str (.mk #[2,14])),(i6 6),f6,(i6 0),e6,(i6 2),n6,(.sl false [[(i6 2),f6,(i6 7),e6,(i6 0),n6,n6,n6]]),n6]])],none,((.agg [t6,f6,(.str (.mk #[2,14])),(i6 6),f6,(i6 0),e6,(i6 2),n6,(.sl false [[(i6 2),f6,(i6 7),e6,(i6 0),n6,n6,n6]]),n6]),none)⟩ :: awk_M67
theorem awk_k68:q0k allT q02 awk_M68:=awk_k67.more 3000 _ (by kernel_rfl)
def awk_M69:List ME:=⟨49,[(.agg [t6,f6,(.str (.mk #[2,14])),(i6 6),f6,(i6 0),e6,(i6 2),n6,(.sl false [[(i6 2),f6,(i6 7),e6,(i6 0),n6,n6,n6]]),n6]),(.agg [t6,f6,(.str (.mk #[2,14])),(i6 6),f6,(i6 0),e6,(i6 2),n6,(.sl false [[(i6 2),f6,(i6 7),e6,(i6 0),n6,n6,n6]]),n6])],none,(f6,none)⟩ :: awk_M68
theorem awk_k69:q0k allT q02 awk_M69:=awk_k68.more 3000 _ (by kernel_rfl)
def awk_M70:List ME:=⟨34,[exA],none,((.sl false [[f6,f6,e6,(i6 0),f6,(i6 0),e6,(i6 0),n6,n6,n6],[t6,f6,e6,(i6 7),f6,(i6 0),e6,(i6 0),n6,n6,n6],[t6,f6,(.str (.mk #[2,0])),(i6 5),f6,(i6 0),e6,(i6 0),n6,(.sl false [[(i6 7),f6,(i6 0),e6,(i6 0),n6,n6,n6]]),n6],[t6,f6,(.str (.mk #[14])),(i6 2),f6,(i6 7),e6,(i6 0),n6,n6,n6],[t6,f6,(.str (.mk #[2,14])),(i6 6),f6,(i6 0),e6,(i6 2),n6,(.sl false [[(i6 2),f6,(i6 7),e6,(i6 0),n6,n6,n6]]),n6]]),none)⟩ :: awk_M69
theorem awk_k70:q0k allT q02 awk_M70:=awk_k69.more 3000 _ (by kernel_rfl)
def awk_M71:List ME:=⟨13,[exA,(i6 2)],none,((.tup [(i6 2),(i6 0)]),none)⟩ :: awk_M70
theorem awk_k71:q0k allT q02 awk_M71:=awk_k70.more 3000 _ (by kernel_rfl)
def awk_M72:List ME:=⟨33,[exA,(i6 4)],none,((i6 0),none)⟩ :: awk_M71
theorem awk_k72:q0k allT q02 awk_M72:=awk_k71.more 3000 _ (by kernel_rfl)
def awk_M73:List ME:=⟨15,[exA,(i6 4)],none,((.tup [t6,(i6 0)]),none)⟩ :: awk_M72
theorem awk_k73:q0k allT q02 awk_M73:=awk_k72.more 3000 _ (by kernel_rfl)
def awk_M74:List ME:=⟨38,[(.agg [(i6 2),f6,(i6 7),e6,(i6 0),n6,n6,n6])],none,((.agg [(i6 2),f6,(i6 7),e6,(i6 0),n6,n6,n6]),none)⟩ :: awk_M73
theorem awk_k74:q0k allT q02 awk_M74:=awk_k73.more 3000 _ (by kernel_rfl)
def awk_M75:List ME:=⟨38,[(.agg [(i6 6),f6,(i6 0),e6,(i6 2),n6,(.sl false [[(i6 2),f6,(i6 7),e6,(i6 0),n6,n6,n6]]),n6])],none,((.agg [(i6 6),f6,(i6 0),e6,(i6 2),n6,(.sl false [[(i6 2),f6,(i6 7),e6,(i6 0),n6,n6,n6]]),n6]),none)⟩ :: awk_M74
theorem awk_k75:q0k allT q02 awk_M75:=awk_k74.more 3000 _ (by kernel_rfl)
def awk_M76:List ME:=⟨18,[exA,(i6 4)],none,((.tup [(.agg [(i6 6),f6,(i6 0),e6,(i6 2),n6,(.sl false [[(i6 2),f6,(i6 7),e6,(i6 0),n6,n6,n6]]),n6]),(i6 0)]),none)⟩ :: awk_M75
theorem awk_k76:q0k allT q02 awk_M76:=awk_k75.more 3000 _ (by kernel_rfl)
def awk_M77:List ME:=⟨37,[(.agg [(i6 5),(.str (.mk #[65])),(i6 0),(i6 0),(i6 0),n6,(.sl false [[(i6 1),(.str (.mk #[97])),(i6 0),f6,f6,(i6 0),f6,(i6 0),e6,(i6 0),n6,n6,n6]]),(i6 0),(i6 0),f6]),(.bl [[(i6 1073741824)],[(i6 1073741824)],[(i6 1073741824)],[(i6 1073741824)],[(i6 1073741824)]])],none,((i6 1073741824),none)⟩ :: awk_M76
theorem awk_k77:q0k allT q02 awk_M77:=awk_k76.more 3000 _ (by kernel_rfl)
def awk_M78:List ME:=⟨37,[(.agg [(i6 7),e6,(i6 0),(i6 0),(i6 3),n6,n6,(i6 0),(i6 2),f6]),(.bl [[(i6 1073741824)],[(i6 1073741824)],[(i6 1073741824)],[(i6 1073741824)],[(i6 1073741824)]])],none,((i6 0),none)⟩ :: awk_M77
theorem awk_k78:q0k allT q02 awk_M78:=awk_k77.more 3000 _ (by kernel_rfl)
def awk_M79:List ME:=⟨37,[(.agg [(i6 5),(.str (.mk #[66])),(i6 0),(i6 0),(i6 0),n6,(.sl false [[(i6 1),(.str (.mk #[98])),(i6 1),f6,f6,(i6 0),f6,(i6 0),e6,(i6 0),n6,n6,n6]]),(i6 0),(i6 0),f6]),(.bl [[(i6 1073741824)],[(i6 0)],[(i6 1073741824)],[(i6 1073741824)],[(i6 1073741824)]])],none,((i6 1),none)⟩ :: awk_M78
theorem awk_k79:q0k allT q02 awk_M79:=awk_k78.more 3000 _ (by kernel_rfl)
def awk_M80:List ME:=⟨37,[(.agg [(i6 2),e6,(i6 7),(i6 7),(i6 0),n6,n6,(i6 0),(i6 0),f6]),(.bl [[(i6 1073741824)],[(i6 0)],[(i6 1)],[(i6 1073741824)],[(i6 1073741824)]])],none,((i6 0),none)⟩ :: awk_M79
theorem awk_k80:q0k allT q02 awk_M80:=awk_k79.more 3000 _ (by kernel_rfl)
def awk_M81:List ME:=⟨37,[(.agg [(i6 6),(.str (.mk #[85])),(i6 0),(i6 0),(i6 0),n6,(.sl false [[(i6 1),(.str (.mk #[120])),(i6 0),f6,f6,(i6 0),f6,(i6 0),e6,(i6 0),n6,n6,n6],[(i6 2),(.str (.mk #[121])),(i6 3),f6,f6,(i6 0),f6,(i6 0),e6,(i6 0),n6,n6,n6]]),(i6 0),(i6 0),f6]),(.bl [[(i6 1073741824)],[(i6 0)],[(i6 1)],[(i6 0)],[(i6 1073741824)]])],none,((i6 1),none)⟩ :: awk_M80
theorem awk_k81:q0k allT q02 awk_M81:=awk_k80.more 3000 _ (by kernel_rfl)
def awk_M82:List ME:=⟨37,[(.agg [(i6 5),(.str (.mk #[65])),(i6 0),(i6 0),(i6 0),n6,(.sl false [[(i6 1),(.str (.mk #[97])),(i6 0),f6,f6,(i6 0),f6,(i6 0),e6,(i6 0),n6,n6,n6]]),(i6 0),(i6 0),f6]),(.bl [[(i6 1073741824)],[(i6 0)],[(i6 1)],[(i6 0)],[(i6 1)]])],none,((i6 1073741824),none)⟩ :: awk_M81
theorem awk_k82:q0k allT q02 awk_M82:=awk_k81.more 3000 _ (by kernel_rfl)
def awk_M83:List ME:=⟨37,[(.agg [(i6 7),e6,(i6 0),(i6 0),(i6 3),n6,n6,(i6 0),(i6 2),f6]),(.bl [[(i6 1073741824)],[(i6 0)],[(i6 1)],[(i6 0)],[(i6 1)]])],none,((i6 0),none)⟩ :: awk_M82
theorem awk_k83:q0k allT q02 awk_M83:=awk_k82.more 3000 _ (by kernel_rfl)
def awk_M84:List ME:=⟨37,[(.agg [(i6 5),(.str (.mk #[66])),(i6 0),(i6 0),(i6 0),n6,(.sl false [[(i6 1),(.str (.mk #[98])),(i6 1),f6,f6,(i6 0),f6,(i6 0),e6,(i6 0),n6,n6,n6]]),(i6 0),(i6 0),f6]),(.bl [[(i6 1073741824)],[(i6 0)],[(i6 1)],[(i6 0)],[(i6 1)]])],none,((i6 1),none)⟩ :: awk_M83
theorem awk_k84:q0k allT q02 awk_M84:=awk_k83.more 3000 _ (by kernel_rfl)
def awk_M85:List ME:=⟨37,[(.agg [(i6 2),e6,(i6 7),(i6 7),(i6 0),n6,n6,(i6 0),(i6 0),f6]),(.bl [[(i6 1073741824)],[(i6 0)],[(i6 1)],[(i6 0)],[(i6 1)]])],none,((i6 0),none)⟩ :: awk_M84
theorem awk_k85:q0k allT q02 awk_M85:=awk_k84.more 3000 _ (by kernel_rfl)
def awk_M86:List ME:=⟨37,[(.agg [(i6 6),(.str (.mk #[85])),(i6 0),(i6 0),(i6 0),n6,(.sl false [[(i6 1),(.str (.mk #[120])),(i6 0),f6,f6,(i6 0),f6,(i6 0),e6,(i6 0),n6,n6,n6],[(i6 2),(.str (.mk #[121])),(i6 3),f6,f6,(i6 0),f6,(i6 0),e6,(i6 0),n6,n6,n6]]),(i6 0),(i6 0),f6]),(.bl [[(i6 1073741824)],[(i6 0)],[(i6 1)],[(i6 0)],[(i6 1)]])],none,((i6 1),none)⟩ :: awk_M85
theorem awk_k86:q0k allT q02 awk_M86:=awk_k85.more 3000 _ (by kernel_rfl)
def awk_M87:List ME:=⟨17,[exA],none,((.tup [(.sl false [[(i6 (-1))],[(i6 0)],[(i6 1)],[(i6 0)],[(i6 1)]]),(i6 0)]),none)⟩ :: awk_M86
theorem awk_k87:q0k allT q02 awk_M87:=awk_k86.more 3000 _ (by kernel_rfl)
def awk_M88:List ME:=⟨21,[exA],none,((i6 10),none)⟩ :: awk_M87
theorem awk_k88:q0k allT q02 awk_M88:=awk_k87.more 3000 _ (by kernel_rfl)
def awk_M89:List ME:=⟨20,[(.sl false [[f6],[t6],[t6],[t6],[t6]]),(.sl false [[f6],[t6],[t6],[t6],[t6]])],none,(t6,none)⟩ :: awk_M88
theorem awk_k89:q0k allT q02 awk_M89:=awk_k88.more 3000 _ (by kernel_rfl)
def awk_M90:List ME:=⟨26,[(.agg [(i6 6),f6,(i6 0),e6,(i6 2),n6,(.sl false [[(i6 2),f6,(i6 7),e6,(i6 0),n6,n6,n6]]),n6]),(.agg [(i6 6),f6,(i6 0),e6,(i6 2),n6,(.sl false [[(i6 2),f6,(i6 7),e6,(i6 0),n6,n6,n6]]),n6])],none,(t6,none)⟩ :: awk_M89
theorem awk_k90:q0k allT q02 awk_M90:=awk_k89.more 3000 _ (by kernel_rfl)
def awk_M91:List ME:=⟨25,[(.sl false [[(i6 (-1))],[(i6 0)],[(i6 1)],[(i6 0)],[(i6 1)]]),(.sl false [[(i6 (-1))],[(i6 0)],[(i6 1)],[(i6 0)],[(i6 1)]])],none,(t6,none)⟩ :: awk_M90
theorem awk_k91:q0k allT q02 awk_M91:=awk_k90.more 3000 _ (by kernel_rfl)
theorem awk_knows:q0k allT q02 awk_M91:=awk_k91
theorem q5y {l:List Nde} {i:Int} {rc:Bool} {ps:List Prt}:∀ (n:Nat) (m:Mem),m∈q4S l i rc ps n->∃ id p,1<=id/\id<=(n:Int)/\p∈ps/\q6d l i id p=true/\m=memZ l i rc id p
 | 0,m,h=>by simp [q4S] at h
 | n + 1,m,h=>by
  rw [q4S] at h
  rcases List.mem_append.1 h with h | h
  ·obtain ⟨id,p,h1,h2,h3⟩:=q5y n m h
   exact ⟨id,p,h1,by omega,h3⟩
  ·unfold memAt at h
   split at h
   ·rename_i p hp
    simp only [List.mem_singleton] at h
    exact ⟨((n + 1:Nat):Int),p,by omega,by omega,List.mem_of_find?_eq_some hp,List.find?_some hp,h⟩
   ·cases h
theorem init_ok {l:List Nde} (hl:oks l) (t code:Int) (hc:0<=code):(q6r l t code).1.ok/\(q6r l t code).1.i64:=by
 have hx:u8 (ndAt l t).a/\u8 (ndAt l t).b:=by
  unfold ndAt
  cases h:l[t.toNat]? with
  | none=>exact ⟨⟨by decide,by decide⟩,⟨by decide,by decide⟩⟩
  | some x =>
   have:=hl.2.2 x (List.mem_of_getElem? h)
   exact ⟨this.2.1,this.2.2.1⟩
 obtain ⟨⟨a0,a1⟩,⟨b0,b1⟩⟩:=hx
 unfold q6r
 split
 ·exact ⟨by rw [Vl.ok_def]; simp [Vl.of,Vl.keys,Vl.items,Vl.rest,Vl.s]; decide,by rw [Vl.i64_def]; simp [Vl.of,Vl.keys,Vl.items,Vl.i,i64R]⟩
 ·refine ⟨?_,?_⟩
  ·rw [Vl.ok_def]
   refine ⟨by simp [Vl.of,Vl.keys],by simp [Vl.of,Vl.items],by simp [Vl.of,Vl.rest],?_,by simp [Vl.of,Vl.keys],by simp [Vl.of,Vl.items]⟩
   simp only [Vl.of,Vl.s]
   split <;> exact (by decide)
  ·rw [Vl.i64_def]
   refine ⟨?_,by simp [Vl.of,Vl.keys],by simp [Vl.of,Vl.items]⟩
   simp only [Vl.of,Vl.i,i64R]
   split
   ·have hm:0<(ndAt l t).b % 6 + 1:=by omega
    have:=Int.emod_nonneg code (show (ndAt l t).b % 6 + 1≠0 by omega)
    have:=Int.emod_lt_of_pos code hm
    simp only [Nde.low]
    omega
   ·omega
theorem memZ_ok {l:List Nde} (hl:oks l) {i:Int} {rc:Bool} {id:Int} {p:Prt} (hp:p.ok):(memZ l i rc id p).ok/\(memZ l i rc id p).dflt.i64:=by
 have hf:0<=p.flag / 4:=by have:=hp.2.2.1; omega
 obtain ⟨h1,h2⟩:=init_ok hl (tgtZ l i p.ty) (p.flag / 4) hf
 have hz:Vl.zero.ok/\Vl.zero.i64:=⟨by rw [Vl.ok_def]; simp [Vl.zero,Vl.keys,Vl.items,Vl.rest,Vl.s]; decide,by rw [Vl.i64_def]; simp [Vl.zero,Vl.keys,Vl.items,Vl.i,i64R]⟩
 have hn:(memZ l i rc id p).name.size<=9223372036854775807:=by
  have:=enc_size (97 + id)
  have h1:(⟨#[109]⟩:ByteArray).size=1:=rfl
  simp only [memZ,q80,ByteArray.size_append]
  omega
 refine ⟨⟨?_,hn⟩,?_⟩ <;> simp only [memZ] <;> split <;> first | exact h1 | exact h2 | exact hz.1 | exact hz.2
theorem typZ_ok {l:List Nde} (hl:oks l) (i:Nat) (hi:i<l.length):(typZ l (i:Int)).fine/\(typZ l (i:Int)).d64:=by
 have hx:=q3e hl hi
 have hm:∀ rc,∀ m∈q2E l (i:Int) rc (ndAt l (i:Int)).parts,m.ok/\m.dflt.i64:=fun rc m h=>by
  obtain ⟨id,p,_,_,h1,_,rfl⟩:=q5y 12 m h
  exact memZ_ok hl (hx.2.2.2.2.2 p h1)
 have hlen:∀ rc,(q2E l (i:Int) rc (ndAt l (i:Int)).parts).length<=12:=fun rc=>q5L l _ rc _ 12
 have hs:(q5k (ndAt l (i:Int)).a).length<=6:=by
  have:=q9h (ndAt l (i:Int)).a
  simp only [q5k,List.length_map]
  omega
 have base:∀ k nm,(Typ.of k nm).fine/\(Typ.of k nm).d64:=fun k nm=>⟨⟨⟨by simp [Typ.of],by simp [Typ.of],by simp [Typ.of]⟩,by simp [Typ.of],by simp [Typ.of]⟩,by simp [Typ.d64,Typ.of]⟩
 have hall:∀ t:Typ,t.syms.length<=6->t.mems.length<=12->(∀ m∈t.mems,m.ok/\m.dflt.i64)->t.fine/\t.d64:=fun t h1 h2 h3=>⟨⟨⟨by omega,by omega,fun m hm=>(h3 m hm).1⟩,by omega,by omega⟩,fun m hm=>(h3 m hm).2⟩
 unfold typZ
 simp only
 split
 ·exact base _ _
 ·exact hall _ (by simp [Typ.of]) (by simp [Typ.of]) (by simp [Typ.of])
 ·exact hall _ (by simp [Typ.of]) (by simp [Typ.of]) (by simp [Typ.of])
 ·exact hall _ hs (by simp [Typ.of]) (by simp [Typ.of])
 ·exact hall _ (by simp [Typ.of]) (hlen _) (hm _)
 ·split
  ·exact base _ _
  ·exact hall _ (by simp [Typ.of]) (hlen _) (hm _)
 ·exact hall _ (by simp [Typ.of]) (by simp [Typ.of]) (by simp [Typ.of])
 ·split <;> exact hall _ (by simp [Typ.of]) (by simp [Typ.of]) (by simp [Typ.of])
 ·exact hall _ (by simp [Typ.of]) (by simp [Typ.of]) (by simp [Typ.of])
theorem rwT_ok {n:Nat} {a b:Typ} (h:rwT n a b) (ha:a.fine/\a.d64):b.fine/\b.d64:=by
 obtain ⟨bs,⟨hl,hm⟩,rfl⟩:=h
 obtain ⟨⟨⟨h1,h2,h3⟩,h4,h5⟩,h6⟩:=ha
 have hz:Vl.zero.ok/\Vl.zero.i64:=⟨by rw [Vl.ok_def]; simp [Vl.zero,Vl.keys,Vl.items,Vl.rest,Vl.s]; decide,by rw [Vl.i64_def]; simp [Vl.zero,Vl.keys,Vl.items,Vl.i,i64R]⟩
 have hb:∀ m∈bs,m.ok/\m.dflt.i64:=fun m hmem=>by
  obtain ⟨i,hi,rfl⟩:=List.getElem_of_mem hmem
  have hia:i<a.mems.length:=by omega
  obtain ⟨g1,g2,g3,g4⟩:=hm i _ _ (List.getElem?_eq_getElem hia) (List.getElem?_eq_getElem hi)
  have hao:=h3 _ (List.getElem_mem hia)
  have had:=h6 _ (List.getElem_mem hia)
  rcases g4 with g4 | ⟨_,_,_,g4⟩
  ·rw [g4]; exact ⟨hao,had⟩
  ·exact ⟨⟨by rw [g4]; exact hz.1,by rw [g2]; exact hao.2⟩,by rw [g4]; exact hz.2⟩
 exact ⟨⟨⟨h1,by dsimp only; omega,fun m hmem=>(hb m hmem).1⟩,h4,by dsimp only; omega⟩,fun m hmem=>(hb m hmem).2⟩
theorem rwS_ok {l:List Nde} (hl:oks l) {T:List Typ} (h:rwS l.length (q2R l) T):(⟨false,T⟩:Sch).fine/\(⟨false,T⟩:Sch).d64:=by
 obtain ⟨hlen,h⟩:=h
 have hl5:=hl.2.1
 have hdl:(q2R l).length=l.length:=by simp [q2R]
 have hT:∀ t∈T,t.fine/\t.d64:=fun t ht=>by
  obtain ⟨i,hi,rfl⟩:=List.getElem_of_mem ht
  have hi':i<l.length:=by omega
  have:=h i (typZ l (i:Int)) _ (by simp [q2R,hi']) (List.getElem?_eq_getElem hi)
  exact rwT_ok this (typZ_ok hl i hi')
 exact ⟨⟨by dsimp only; omega,fun t ht=>(hT t ht).1⟩,fun t ht=>(hT t ht).2⟩
theorem awake11_ev:evA 8 [] (.bool true):=awk_knows.run 3000 (by kernel_rfl)
section
open Go Go.RowKit Go.ChangeShapes Go.WideShapes
theorem mixed:Tryz.prog.follows .mixedOrders=true:=by kernel_rfl
theorem list_of {α:Type} {sh:List Cs} {f:α->List AV} {p:α->Prop} (h:∀ x,TyL sh x->∃ o,x=f o/\p o):∀ els:List (List AV),(∀ x∈els,TyL sh x)->∃ L:List α,els=L.map f/\∀ o∈L,p o
 | [],_=>⟨[],rfl,fun _ h=>by cases h⟩
 | x :: r,hx=>by
  obtain ⟨L,h1,h2⟩:=list_of h r fun y hy=>hx y (List.mem_cons_of_mem _ hy)
  obtain ⟨o,h3,h4⟩:=h x (hx x List.mem_cons_self)
  refine ⟨o :: L,by rw [h1,h3]; rfl,fun y hy=>?_⟩
  rcases List.mem_cons.1 hy with rfl | hy
  ·exact h4
  ·exact h2 y hy
theorem u8_of {n:Int} (h:(Lit.int .u8 n).wf=true):u8 n:=by
 simp only [Lit.wf,Bool.and_eq_true,decide_eq_true_eq] at h
 have h1:IntKind.u8.min=0:=rfl
 have h2:IntKind.u8.max=255:=rfl
 exact ⟨by omega,by omega⟩
def prtSh:List Cs:=[.int .u8,.int .u8,.int .u8]
def ndeSh:List Cs:=[.int .u8,.int .u8,.int .u8,.int .u8,.sl prtSh]
theorem prtTy (x:List AV) (h:TyL prtSh x):∃ p:Prt,x=prtC p/\p.ok:=by
 simp only [prtSh,TyL,TyC] at h
 obtain ⟨_,_,rfl,⟨a,rfl,ha⟩,_,_,rfl,⟨b,rfl,hb⟩,_,_,rfl,⟨c,rfl,hc⟩,rfl⟩:=h
 exact ⟨⟨a,b,c⟩,rfl,u8_of ha,u8_of hb,u8_of hc⟩
theorem wireTy (x:List AV) (h:TyL prtSh x):∃ w:Wire,x=wireC w/\w.ok:=by
 simp only [prtSh,TyL,TyC] at h
 obtain ⟨_,_,rfl,⟨a,rfl,ha⟩,_,_,rfl,⟨b,rfl,hb⟩,_,_,rfl,⟨c,rfl,hc⟩,rfl⟩:=h
 exact ⟨⟨a,b,c⟩,rfl,u8_of ha,u8_of hb,u8_of hc⟩
theorem ndeTy (x:List AV) (h:TyL ndeSh x):∃ n:Nde,x=ndeC n/\n.ok:=by
 simp only [ndeSh,TyL,TyC] at h
 obtain ⟨_,_,rfl,⟨a,rfl,ha⟩,_,_,rfl,⟨b,rfl,hb⟩,_,_,rfl,⟨c,rfl,hc⟩,_,_,rfl,⟨d,rfl,hd⟩,_,_,rfl,⟨pn,els,rfl,hle,he⟩,rfl⟩:=h
 obtain ⟨L,rfl,hL⟩:=list_of prtTy els he
 exact ⟨⟨a,b,c,d,pn,L⟩,rfl,u8_of ha,u8_of hb,u8_of hc,u8_of hd,by simpa [maxLen] using hle,hL⟩
theorem looseTy {a:AV} (h:ParTy Tryz.prog 8 52 a):∃ dn,∃ l:List Nde,∃ wn,∃ ws:List Wire,a=.agg [.sl dn (l.map ndeC),.sl wn (ws.map wireC)]/\(∀ x∈l,x.ok)/\∀ w∈ws,w.ok:=by
 obtain ⟨sh,hs,h⟩:=h
 have hs':shOf Tryz.prog 8 52=some [.sl ndeSh,.sl prtSh]:=by kernel_rfl
 rw [hs'] at hs
 injection hs with hs
 subst hs
 rcases h with ⟨_,l,rfl,h⟩ | ⟨hw,_⟩
 ·simp only [TyL,TyC] at h
  obtain ⟨_,_,rfl,⟨dn,els,rfl,_,he⟩,_,_,rfl,⟨wn,els',rfl,_,he'⟩,rfl⟩:=h
  obtain ⟨L,rfl,hL⟩:=list_of ndeTy els he
  obtain ⟨M,rfl,hM⟩:=list_of wireTy els' he'
  exact ⟨dn,L,wn,M,rfl,hL,hM⟩
 ·have hw':q6V Tryz.prog 52=true:=by kernel_rfl
  rw [hw'] at hw
  cases hw
end
section
open Go.ChangeShapes Go.WideShapes Go.ChangeAt Go.RowKit
theorem own:ownKnob Tryz.prog.godebug=none:=by kernel_rfl
theorem laidOut:laidOutB Tryz.prog=true:=by kernel_rfl
theorem post_of_below {H:Type} {enc:TypeId × Value->H} {P:Program} {f:Func} {s:ChangeSpec} {apart fresh handsOn:Bool} {W W':World} {args:Array Value} {v:Value} {ds gs:List (DataW H)} {before pa pv:List MemPlace}
  (hW:DataW.Whole enc P f.params.toList s.vars apart W args.toList ds gs before)
  (hres:∀ (b:Nat) (sp:Nat->Bool) (hd:Bool),DataW.TrodAll enc P W' b sp hd f.resultTypes.toList (v.resultList f.resultTypes.size) (s.fn H (ds++gs)).results [])
  (hargs:DataW.TrodAll enc P W' 0 (fun b=>decide (b<W.heap.size)) true f.params.toList args.toList (s.fn H (ds++gs)).args pa)
  (hvars:DataW.TrodVars enc P W' (fun b=>decide (b<W.heap.size)) s.vars (s.fn H (ds++gs)).vars pv)
  (hb:Below W.heap.size W W'):s.post enc P f apart fresh handsOn false W args v W' :=
 ⟨ds,gs,before,[],pa,pv,hW,hres _ _ _,hargs,hvars,hb.frame _,fun h=>by cases h⟩
end
abbrev q0V:Int:=1073741824
def recR (v:Vec):List Mem->Int->Int
 | [],a=>a
 | m :: r,a=>recR v r (if m.has=true then a else max a (v m.ty.toNat + 1))
def uniR (v:Vec):List Mem->Int->Int
 | [],a=>a
 | m :: r,a=>uniR v r (min a (v m.ty.toNat + 1))
def rndP (x:Typ) (v:Vec):Int:=if x.kind=5 then min (recR v x.mems 0) q0V else if x.kind=6 then min (uniR v x.mems q0V) q0V else 0
def inB (N:Nat) (v:Vec):Prop:=∀ j,j<N->0<=v j/\v j<=q0V
theorem recR_rng {N:Nat} {v:Vec} (hv:inB N v):∀ (l:List Mem) (a:Int),(∀ m∈l,0<=m.ty/\m.ty<N)->0<=a/\a<=q0V + 1->0<=recR v l a/\recR v l a<=q0V + 1
 | [],a,_,ha=>ha
 | m :: r,a,hm,ha=>by
  have h1:=hm m List.mem_cons_self
  have h2:=hv m.ty.toNat (by omega)
  refine recR_rng hv r _ (fun x hx=>hm x (List.mem_cons_of_mem _ hx)) ?_
  split
  ·exact ha
  ·omega
theorem uniR_rng {N:Nat} {v:Vec} (hv:inB N v):∀ (l:List Mem) (a:Int),(∀ m∈l,0<=m.ty/\m.ty<N)->0<=a/\a<=q0V->0<=uniR v l a/\uniR v l a<=q0V
 | [],a,_,ha=>ha
 | m :: r,a,hm,ha=>by
  have h1:=hm m List.mem_cons_self
  have h2:=hv m.ty.toNat (by omega)
  refine uniR_rng hv r _ (fun x hx=>hm x (List.mem_cons_of_mem _ hx)) ?_
  omega
theorem round_ev {N:Nat} {v:Vec} (hv:inB N v) {x:Typ} (hx:q1f N x):evA 37 [.agg (typC x),.bl (vecC N v)] (.int .i64 (rndP x v)):=by
 refine q00 (c:=q23) rfl rfl ?_
 have hml:=hx.few
 have hnr:q0V=1073741824:=rfl
 by_cases h5:x.kind=5
 ·simp [q23,-Option.bind_some,-Int.toNat_lt,-List.map_map,List.range_succ,typC,h5,rndP]
  refine q0h x.mems.length (fun i s=>(s.env 1).v=.bl (vecC N v)/\(s.env 15).v=.sl x.mn (x.mems.map memC)/\(s.env 16).v=.int .i64 x.mems.length/\(s.env 17).v=.int .i64 i/\∃ a,(s.env 5).v=.int .i64 a/\recR v (x.mems.drop i) a=recR v x.mems 0/\0<=a/\a<=q0V + 1)
   (fun e s=>e=.exit 1/\(s.env 5).v=.int .i64 (recR v x.mems 0)) (fun i hi s k h ih hk=>?_) _ _ ?_ (fun e s h=>?_)
  ·obtain ⟨e1,e15,e16,e17,a,e5,hr,a0,a1⟩:=h
   refine q04 ?_
   by_cases hlt:i<x.mems.length
   ·have hlt':(i:Int)<x.mems.length:=by omega
    have g1:(x.mems.map memC)[i]?=some (memC x.mems[i]):=by simp [hlt]
    have hw':=q0W (i:=i) (by omega)
    have hmi:=hx.mems _ (List.getElem_mem hlt)
    rw [List.drop_eq_getElem_cons hlt,recR] at hr
    generalize x.mems[i]=m at *
    have gv:=q1h v hmi
    have hvm:=hv m.ty.toNat (by omega)
    rw [hnr] at hvm a1
    have hm0:=hmi.1
    have hw1:IntKind.i64.wrap (v m.ty.toNat + 1)=v m.ty.toNat + 1:=IntWalk.i64_in _ (by omega)
    simp only [memC] at g1
    by_cases hh:m.has=true
    ·rw [if_pos hh] at hr
     simp [q2w,-Option.bind_some,-Int.toNat_lt,-List.map_map,List.range_succ,e1,e15,e16,e17,e5,hlt',g1,hh,hw']
     refine ih hlt _ ⟨?_,?_,?_,?_,a,?_,hr,a0,by rw [hnr]; omega⟩ <;> simp [e1,e15,e16,e5]
    ·rw [if_neg hh] at hr
     have hh':m.has=false:=by simpa using hh
     simp [q2w,-Option.bind_some,-Int.toNat_lt,-List.map_map,List.range_succ,e1,e15,e16,e17,e5,hlt',g1,hh',hw',gv,hm0,hw1]
     refine ih hlt _ ⟨?_,?_,?_,?_,_,?_,hr,by omega,by rw [hnr]; omega⟩ <;> simp [e1,e15,e16]
   ·have hlt':¬ (i:Int)<x.mems.length:=by omega
    simp [q2w,-Option.bind_some,-Int.toNat_lt,-List.map_map,List.range_succ,e16,e17,hlt']
    refine hk _ _ ⟨rfl,?_⟩
    rw [List.drop_eq_nil_of_le (by omega),recR] at hr
    simp [e5,hr]
  ·exact ⟨by simp,by simp,by simp,by simp,0,by simp,rfl,by omega,by rw [hnr]; omega⟩
  ·obtain ⟨rfl,e5⟩:=h
   simp [-Option.bind_some,-Int.toNat_lt,-List.map_map,List.range_succ,e5]
 by_cases h6:x.kind=6
 ·simp [q23,-Option.bind_some,-Int.toNat_lt,-List.map_map,List.range_succ,typC,h6,rndP]
  refine q0h x.mems.length (fun i s=>(s.env 1).v=.bl (vecC N v)/\(s.env 36).v=.sl x.mn (x.mems.map memC)/\(s.env 37).v=.int .i64 x.mems.length/\(s.env 38).v=.int .i64 i/\∃ a,(s.env 5).v=.int .i64 a/\uniR v (x.mems.drop i) a=uniR v x.mems q0V/\0<=a/\a<=q0V)
   (fun e s=>e=.exit 3/\(s.env 5).v=.int .i64 (uniR v x.mems q0V)) (fun i hi s k h ih hk=>?_) _ _ ?_ (fun e s h=>?_)
  ·obtain ⟨e1,e15,e16,e17,a,e5,hr,a0,a1⟩:=h
   refine q04 ?_
   by_cases hlt:i<x.mems.length
   ·have hlt':(i:Int)<x.mems.length:=by omega
    have g1:(x.mems.map memC)[i]?=some (memC x.mems[i]):=by simp [hlt]
    have hw':=q0W (i:=i) (by omega)
    have hmi:=hx.mems _ (List.getElem_mem hlt)
    rw [List.drop_eq_getElem_cons hlt,uniR] at hr
    generalize x.mems[i]=m at *
    have gv:=q1h v hmi
    have hvm:=hv m.ty.toNat (by omega)
    rw [hnr] at hvm a1
    have hm0:=hmi.1
    have hw1:IntKind.i64.wrap (v m.ty.toNat + 1)=v m.ty.toNat + 1:=IntWalk.i64_in _ (by omega)
    simp only [memC] at g1
    simp [q3F,-Option.bind_some,-Int.toNat_lt,-List.map_map,List.range_succ,e1,e15,e16,e17,e5,hlt',g1,hw',gv,hm0,hw1]
    refine ih hlt _ ⟨?_,?_,?_,?_,_,?_,hr,by omega,by rw [hnr]; omega⟩ <;> simp [e1,e15,e16]
   ·have hlt':¬ (i:Int)<x.mems.length:=by omega
    simp [q3F,-Option.bind_some,-Int.toNat_lt,-List.map_map,List.range_succ,e16,e17,hlt']
    refine hk _ _ ⟨rfl,?_⟩
    rw [List.drop_eq_nil_of_le (by omega),uniR] at hr
    simp [e5,hr]
  ·exact ⟨by simp,by simp,by simp,by simp,q0V,by simp,rfl,by rw [hnr]; omega,by rw [hnr]; omega⟩
  ·obtain ⟨rfl,e5⟩:=h
   simp [-Option.bind_some,-Int.toNat_lt,-List.map_map,List.range_succ,e5]
 ·simp [q23,-Option.bind_some,-Int.toNat_lt,-List.map_map,List.range_succ,typC,h5,h6,rndP]
  decide
def FRn (S:List Typ) (i:Nat) (v:Vec):Int:=match S[i]? with
 | some x=>rndP x v
 | none=>0
def q4z (x:Int):Int:=if x=q0V then -1 else x
theorem recR_mono {N:Nat} {u v:Vec} (h:∀ j,j<N->u j<=v j):∀ (l:List Mem) (a b:Int),(∀ m∈l,0<=m.ty/\m.ty<N)->a<=b->recR u l a<=recR v l b
 | [],a,b,_,hab=>hab
 | m :: r,a,b,hm,hab=>by
  have h1:=hm m List.mem_cons_self
  have h2:=h m.ty.toNat (by omega)
  refine recR_mono h r _ _ (fun x hx=>hm x (List.mem_cons_of_mem _ hx)) ?_
  split
  ·exact hab
  ·omega
theorem uniR_mono {N:Nat} {u v:Vec} (h:∀ j,j<N->u j<=v j):∀ (l:List Mem) (a b:Int),(∀ m∈l,0<=m.ty/\m.ty<N)->a<=b->uniR u l a<=uniR v l b
 | [],a,b,_,hab=>hab
 | m :: r,a,b,hm,hab=>by
  have h1:=hm m List.mem_cons_self
  have h2:=h m.ty.toNat (by omega)
  refine uniR_mono h r _ _ (fun x hx=>hm x (List.mem_cons_of_mem _ hx)) ?_
  omega
theorem rndP_mono {N:Nat} {u v:Vec} (h:∀ j,j<N->u j<=v j) {x:Typ} (hx:q1f N x):rndP x u<=rndP x v:=by
 unfold rndP
 split
 ·have:=recR_mono h x.mems 0 0 hx.mems (Int.le_refl _)
  omega
 ·split
  ·have:=uniR_mono h x.mems q0V q0V hx.mems (Int.le_refl _)
   omega
  ·exact Int.le_refl _
theorem rndP_rng {N:Nat} {v:Vec} (hv:inB N v) {x:Typ} (hx:q1f N x):0<=rndP x v/\rndP x v<=q0V:=by
 have hnr:q0V=1073741824:=rfl
 unfold rndP
 split
 ·have:=recR_rng hv x.mems 0 hx.mems (by omega)
  omega
 ·split
  ·have:=uniR_rng hv x.mems q0V hx.mems (by omega)
   omega
  ·omega
structure Down (S:List Typ) (v:Vec):Prop where
 rng:inB S.length v
 post:∀ j,j<S.length->FRn S j v<=v j
theorem Down.top {S:List Typ} (hW:∀ x∈S,q1f S.length x):Down S (fun _=>q0V):=by
 have hr:inB S.length fun _=>q0V:=fun j hj=>⟨by show (0:Int)<=q0V; decide,Int.le_refl _⟩
 refine ⟨hr,fun j hj=>?_⟩
 unfold FRn
 rw [List.getElem?_eq_getElem hj]
 exact (rndP_rng hr (hW _ (List.getElem_mem hj))).2
theorem Down.upd {S:List Typ} (hW:∀ x∈S,q1f S.length x) {v:Vec} (h:Down S v) {i:Nat} (hi:i<S.length):Down S (upd (FRn S) v i):=by
 have hle:∀ j,j<S.length->Go.Proofs.YtdjomefkhdimaaaGreat.upd (FRn S) v i j<=v j:=fun j hj=>by
  unfold Go.Proofs.YtdjomefkhdimaaaGreat.upd
  split
  ·rename_i e; subst e; exact h.post _ hi
  ·exact Int.le_refl _
 have hm:∀ j,j<S.length->FRn S j (Go.Proofs.YtdjomefkhdimaaaGreat.upd (FRn S) v i)<=FRn S j v:=fun j hj=>by
  unfold FRn
  rw [List.getElem?_eq_getElem hj]
  exact rndP_mono hle (hW _ (List.getElem_mem hj))
 refine ⟨fun j hj=>?_,fun j hj=>?_⟩
 ·have h1:=hle j hj
  have h2:=h.rng j hj
  refine ⟨?_,by omega⟩
  unfold Go.Proofs.YtdjomefkhdimaaaGreat.upd
  split
  ·unfold FRn
   rw [List.getElem?_eq_getElem hi]
   exact (rndP_rng h.rng (hW _ (List.getElem_mem hi))).1
  ·exact h2.1
 ·have h1:=hm j hj
  have h2:=h.post j hj
  by_cases e:j=i
  ·subst e
   have:Go.Proofs.YtdjomefkhdimaaaGreat.upd (FRn S) v j j=FRn S j v:=by simp [Go.Proofs.YtdjomefkhdimaaaGreat.upd]
   omega
  ·have:Go.Proofs.YtdjomefkhdimaaaGreat.upd (FRn S) v i j=v j:=by simp [Go.Proofs.YtdjomefkhdimaaaGreat.upd,e]
   omega
theorem sumB_le (v:Vec):∀ N,inB N v->sumV N v<=1073741824 * N
 | 0,_=>by simp [sumV]
 | n + 1,h=>by
  have h1:=sumB_le v n fun j hj=>h j (by omega)
  have h2:=h n (by omega)
  have hnr:q0V=1073741824:=rfl
  rw [hnr] at h2
  simp only [sumV]
  omega
theorem sumB_0 (v:Vec):∀ N,inB N v->0<=sumV N v
 | 0,_=>by simp [sumV]
 | n + 1,h=>by
  have:=sumB_0 v n fun j hj=>h j (by omega)
  have:=h n (by omega)
  simp only [sumV]
  omega
def RndEnd (S:List Typ) (e:Ex) (s:MSt):Prop:=e=.ret/\∃ t n v,(s.env 2).v=.ref t n 1 0 S.length S.length/\(s.env 3).v=.int .i64 0/\inB S.length v/\(∀ j,j<S.length->FRn S j v=v j)/\s.mem t n=some (q0f (vecC S.length fun j=>q4z (v j)))
theorem rounds_run (b:Bool) (S:List Typ) (hs:(⟨b,S⟩:Sch).fine) (h64:(⟨b,S⟩:Sch).d64) (h0:q28 S=0) (k:Ex->MSt->Option RV) (r:RV) (hk:∀ e s',RndEnd S e s'->k e s'=some r):q1Q.code.run (evC allT q02) (evK allT q02) (MSt.init [.agg (schC ⟨b,S⟩)] none) k=some r:=by
 have hright:=right_ev ⟨b,S⟩ hs h64
 simp only [evA,schC,h0] at hright
 have hv0:valid S=0:=by
  unfold q28 at h0
  by_cases h:valid S=0
  ·exact h
  ·rw [if_neg h] at h0; exact absurd h0 h
 have hW:=q3l hv0
 have hN:=q4L hv0
 have hnr:q0V=1073741824:=rfl
 obtain ⟨N,hNN⟩:∃ N,N=S.length:=⟨_,rfl⟩
 unfold RndEnd at hk
 rw [<- hNN] at hN hk
 have hb8:N * 8<=140737488355328:=by omega
 have hb1:N<=140737488355328:=by omega
 simp [q1Q,-Option.bind_some,-Int.toNat_lt,-List.map_map,List.range_succ,-q0C,-q0d,q0l,q0m,q0c,q0b,schC,hright,<- hNN,hb8,hb1]
 refine q0h N (fun i σ=>(σ.env 1).v=.ptr 1 1 0/\σ.mem 1 1=some [⟨.sl b (S.map typC),.no⟩]/\(σ.env 5).v=.ref 20 4 1 0 N N/\(σ.env 22).v=.int .i64 N/\(σ.env 23).v=.int .i64 i/\σ.mem 20 4=some (q0f (vecC N fun j=>if j<i then q0V else 0)))
  (fun e σ=>e=.exit 0/\(σ.env 1).v=.ptr 1 1 0/\σ.mem 1 1=some [⟨.sl b (S.map typC),.no⟩]/\(σ.env 5).v=.ref 20 4 1 0 N N/\σ.mem 20 4=some (q0f (vecC N fun _=>q0V))) (fun i hi σ k4 h ih hk4=>?_) _ _ ?_ (fun e σ h=>?_)
 ·obtain ⟨e1,m1,e5,e22,e23,m20⟩:=h
  refine q04 ?_
  by_cases hlt:i<N
  ·have hlt':(i:Int)<N:=by omega
   have hw':=q0W (i:=i) (by omega)
   have hst:=q4W N (fun j=>if j<i then q0V else 0) (fun j=>if j<i + 1 then q0V else 0) hlt (x:=1073741824) (by simp) (fun j hj=>by simp [show (j<i + 1)=(j<i) from by simp only [eq_iff_iff]; omega])
   simp [q3d,-Option.bind_some,-Int.toNat_lt,-List.map_map,List.range_succ,-q0C,-q0d,q0l,q0m,q0c,q0b,e5,e22,e23,hlt',hlt,m20,hst,hw']
   refine ih hlt _ ⟨?_,?_,?_,?_,?_,?_⟩ <;> simp [e1,m1,e5,e22]
  ·have hlt':¬ (i:Int)<N:=by omega
   simp [q3d,-Option.bind_some,-Int.toNat_lt,-List.map_map,List.range_succ,-q0C,-q0d,q0l,q0m,q0c,q0b,e22,e23,hlt']
   refine hk4 _ _ ⟨rfl,by simp [e1],by simp [m1],by simp [e5],?_⟩
   rw [show vecC N (fun _=>q0V)=vecC N (fun j=>if j<i then q0V else 0) from q1s fun j hj=>by rw [if_pos (by omega)]]
   simp [m20]
 ·refine ⟨?_,?_,?_,?_,?_,?_⟩
  case refine_6=>simp [vec0']
  all_goals simp
 obtain ⟨rfl,e1,m1,e5,m20⟩:=h
 simp [-Option.bind_some,-Int.toNat_lt,-List.map_map,List.range_succ,-q0C,-q0d,q0l,q0m,q0c,q0b]
 refine q0h (1073741824 * N + 1) (fun r σ=>(σ.env 1).v=.ptr 1 1 0/\σ.mem 1 1=some [⟨.sl b (S.map typC),.no⟩]/\(σ.env 5).v=.ref 20 4 1 0 N N/\∃ v,σ.mem 20 4=some (q0f (vecC N v))/\Down S v/\((σ.env 7).v=.bool true/\sumV N v + r<=1073741824 * N\/(σ.env 7).v=.bool false/\∀ j,j<N->FRn S j v=v j))
  (fun e σ=>e=.exit 2/\(σ.env 5).v=.ref 20 4 1 0 N N/\∃ v,σ.mem 20 4=some (q0f (vecC N v))/\Down S v/\∀ j,j<N->FRn S j v=v j) (fun q hq σ k3 h ih hk3=>?_) _ _ ?_ (fun e σ h=>?_)
 ·obtain ⟨e1,m1,e5,v0,m20,hv0,hst⟩:=h
  refine q04 ?_
  rcases hst with ⟨e7,hsum⟩ | ⟨e7,hfix⟩
  case inr =>
   simp [q3g,-Option.bind_some,-Int.toNat_lt,-List.map_map,List.range_succ,-q0C,-q0d,q0l,q0m,q0c,q0b,e7]
   exact hk3 _ _ ⟨rfl,by simp [e5],v0,by simp [m20],hv0,hfix⟩
  have hqN:q<1073741824 * N + 1:=by
   have:=sumB_0 v0 N (by rw [hNN]; exact hv0.rng)
   omega
  simp [q3g,-Option.bind_some,-Int.toNat_lt,-List.map_map,List.range_succ,-q0C,-q0d,q0l,q0m,q0c,q0b,e1,m1,e7,<- hNN]
  refine q0h N (fun i σ=>(σ.env 1).v=.ptr 1 1 0/\σ.mem 1 1=some [⟨.sl b (S.map typC),.no⟩]/\(σ.env 5).v=.ref 20 4 1 0 N N/\(σ.env 32).v=.sl b (S.map typC)/\(σ.env 33).v=.int .i64 N/\(σ.env 34).v=.int .i64 i/\∃ v,σ.mem 20 4=some (q0f (vecC N v))/\Down S v/\((σ.env 7).v=.bool false/\v=v0/\(∀ j,j<i->FRn S j v=v j)\/(σ.env 7).v=.bool true/\sumV N v + 1<=sumV N v0))
   (fun e σ=>e=.exit 4/\(σ.env 1).v=.ptr 1 1 0/\σ.mem 1 1=some [⟨.sl b (S.map typC),.no⟩]/\(σ.env 5).v=.ref 20 4 1 0 N N/\∃ v,σ.mem 20 4=some (q0f (vecC N v))/\Down S v/\((σ.env 7).v=.bool false/\(∀ j,j<N->FRn S j v=v j)\/(σ.env 7).v=.bool true/\sumV N v + 1<=sumV N v0)) (fun i hi σ k' h ih' hk'=>?_) _ _ ?_ (fun e σ h=>?_)
  ·obtain ⟨f1,n1,f5,f32,f33,f34,v,n20,hv,hst⟩:=h
   refine q04 ?_
   by_cases hlt:i<N
   ·have hlt':(i:Int)<N:=by omega
    have hltS:i<S.length:=by omega
    have g1:(S.map typC)[i]?=some (typC S[i]):=by simp [hltS]
    have hw':=q0W (i:=i) (by omega)
    have hc:=round_ev hv.rng (hW _ (List.getElem_mem hltS))
    have hF:FRn S i v=rndP S[i] v:=by unfold FRn; rw [List.getElem?_eq_getElem hltS]
    generalize S[i]=x at *
    simp only [typC] at g1
    simp only [evA,typC,<- hNN] at hc
    have hel:=q5I N v
    have hld:=vec_load N v hlt
    have hat:=vec_at N v hlt
    have hpost:=hv.post i hltS
    have hup:=Down.upd hW hv hltS
    have hsu:=q6K (FRn S) v i N hlt
    have hstv:=q4W N v (upd (FRn S) v i) hlt (x:=FRn S i v) (by simp [upd]) (fun j hj=>by simp [upd,hj])
    rw [hF] at hpost hsu hstv
    by_cases hne:rndP x v<v i
    ·simp [q1L,-Option.bind_some,-Int.toNat_lt,-List.map_map,List.range_succ,-q0C,-q0d,q0l,q0m,q0c,q0b,f1,n1,f5,f32,f33,f34,n20,hlt',g1,hel,hc,hld,hat,hw',hlt,hne,hstv]
     refine ih' hlt _ ⟨?_,?_,?_,?_,?_,?_,upd (FRn S) v i,?_,hup,.inr ⟨?_,?_⟩⟩
     case refine_9 =>
      rcases hst with ⟨f7,rfl,hj⟩ | ⟨f7,hsum'⟩ <;> omega
     all_goals simp [f1,n1,f5,f32,f33,n20]
    ·rcases hst with ⟨f7,rfl,hj⟩ | ⟨f7,hsum'⟩
     ·simp [q1L,-Option.bind_some,-Int.toNat_lt,-List.map_map,List.range_succ,-q0C,-q0d,q0l,q0m,q0c,q0b,f1,n1,f5,f32,f33,f34,n20,hlt',g1,hel,hc,hld,hat,hw',hlt,hne]
      refine ih' hlt _ ⟨?_,?_,?_,?_,?_,?_,v,?_,hv,.inl ⟨?_,rfl,fun j hj'=>?_⟩⟩
      case refine_9 =>
       rcases Nat.lt_succ_iff_lt_or_eq.1 hj' with h | rfl
       ·exact hj j h
       ·omega
      all_goals simp [f1,n1,f5,f32,f33,n20,f7]
     ·simp [q1L,-Option.bind_some,-Int.toNat_lt,-List.map_map,List.range_succ,-q0C,-q0d,q0l,q0m,q0c,q0b,f1,n1,f5,f32,f33,f34,n20,hlt',g1,hel,hc,hld,hat,hw',hlt,hne]
      refine ih' hlt _ ⟨?_,?_,?_,?_,?_,?_,v,?_,hv,.inr ⟨?_,hsum'⟩⟩
      all_goals simp [f1,n1,f5,f32,f33,n20,f7]
   ·have hlt':¬ (i:Int)<N:=by omega
    have hiN:i=N:=by omega
    simp [q1L,-Option.bind_some,-Int.toNat_lt,-List.map_map,List.range_succ,-q0C,-q0d,q0l,q0m,q0c,q0b,f33,f34,hlt']
    refine hk' _ _ ⟨rfl,by simp [f1],by simp [n1],by simp [f5],v,by simp [n20],hv,?_⟩
    rcases hst with ⟨f7,rfl,hj⟩ | ⟨f7,hsum'⟩
    ·exact .inl ⟨by simp [f7],hiN ▸ hj⟩
    ·exact .inr ⟨by simp [f7],hsum'⟩
  ·refine ⟨?_,?_,?_,?_,?_,?_,v0,?_,hv0,.inl ⟨?_,rfl,fun j hj=>absurd hj (by omega)⟩⟩
   all_goals simp [e1,m1,e5,m20]
  ·obtain ⟨rfl,e1,m1,e5,v,m20,hv,hst⟩:=h
   simp [-Option.bind_some,-Int.toNat_lt,-List.map_map,List.range_succ,-q0C,-q0d,q0l,q0m,q0c,q0b]
   refine ih hqN _ ⟨by simp [e1],by simp [m1],by simp [e5],v,by simp [m20],hv,?_⟩
   rcases hst with ⟨e7,hf⟩ | ⟨e7,hs⟩
   ·exact .inr ⟨by simp [e7],hf⟩
   ·exact .inl ⟨by simp [e7],by omega⟩
 ·refine ⟨?_,?_,?_,fun _=>q0V,?_,Down.top hW,.inl ⟨?_,?_⟩⟩
  case refine_6 =>
   have:=sumB_le (fun _=>q0V) N fun j _=>⟨by show (0:Int)<=q0V; decide,Int.le_refl _⟩
   omega
  all_goals simp [e1,m1,e5,m20]
 obtain ⟨rfl,e5,v,m20,hv,hf⟩:=h
 simp [-Option.bind_some,-Int.toNat_lt,-List.map_map,List.range_succ,-q0C,-q0d,q0l,q0m,q0c,q0b,e5]
 refine q0h N (fun i σ=>(σ.env 5).v=.ref 20 4 1 0 N N/\(σ.env 54).v=.int .i64 N/\(σ.env 55).v=.int .i64 i/\σ.mem 20 4=some (q0f (vecC N fun j=>if j<i then q4z (v j) else v j)))
  (fun e σ=>e=.exit 6/\(σ.env 5).v=.ref 20 4 1 0 N N/\σ.mem 20 4=some (q0f (vecC N fun j=>q4z (v j)))) (fun i hi σ k1 h ih hk1=>?_) _ _ ?_ (fun e σ h=>?_)
 ·obtain ⟨e5,e54,e55,m20⟩:=h
  refine q04 ?_
  by_cases hlt:i<N
  ·have hlt':(i:Int)<N:=by omega
   have hw':=q0W (i:=i) (by omega)
   have hat:=vec_at N (fun j=>if j<i then q4z (v j) else v j) hlt
   simp only [Nat.lt_irrefl,if_false] at hat
   by_cases hv1:v i=1073741824
   ·have hst:=q4W N (fun j=>if j<i then q4z (v j) else v j) (fun j=>if j<i + 1 then q4z (v j) else v j) hlt (x:=-1) (by simp [q4z,hv1]) (fun j hj=>by simp [show (j<i + 1)=(j<i) from by simp only [eq_iff_iff]; omega])
    simp [q2j,-Option.bind_some,-Int.toNat_lt,-List.map_map,List.range_succ,-q0C,-q0d,q0l,q0m,q0c,q0b,e5,e54,e55,hlt',hlt,m20,hat,hv1,hst,hw']
    refine ih hlt _ ⟨?_,?_,?_,?_⟩ <;> simp [e5,e54]
   ·have hcg:vecC N (fun j=>if j<i + 1 then q4z (v j) else v j)=vecC N (fun j=>if j<i then q4z (v j) else v j):=q1s fun j hj=>by
     by_cases e:j=i
     ·subst e; simp [q4z,hnr,hv1]
     ·simp [show (j<i + 1)=(j<i) from by simp only [eq_iff_iff]; omega]
    simp [q2j,-Option.bind_some,-Int.toNat_lt,-List.map_map,List.range_succ,-q0C,-q0d,q0l,q0m,q0c,q0b,e5,e54,e55,hlt',hlt,m20,hat,hv1,hw']
    refine ih hlt _ ⟨?_,?_,?_,?_⟩ <;> simp [e5,e54,hcg,m20]
  ·have hlt':¬ (i:Int)<N:=by omega
   simp [q2j,-Option.bind_some,-Int.toNat_lt,-List.map_map,List.range_succ,-q0C,-q0d,q0l,q0m,q0c,q0b,e54,e55,hlt']
   refine hk1 _ _ ⟨rfl,by simp [e5],?_⟩
   rw [show vecC N (fun j=>q4z (v j))=vecC N (fun j=>if j<i then q4z (v j) else v j) from q1s fun j hj=>by rw [if_pos (by omega)]]
   simp [m20]
 ·refine ⟨?_,?_,?_,?_⟩ <;> simp [e5,m20]
 obtain ⟨rfl,e5,m20⟩:=h
 simp [-Option.bind_some,-Int.toNat_lt,-List.map_map,List.range_succ,-q0C,-q0d,q0l,q0m,q0c,q0b,e5]
 refine hk _ _ ⟨rfl,20,4,v,?_,?_,by rw [hNN]; exact hv.rng,hf,?_⟩ <;> simp [m20]
theorem mName_ok:∀ d:Fin 13,q2X (q80 (d.val:Int))=true:=by decide +kernel
theorem mName_inj:∀ d e:Fin 13,q80 (d.val:Int)=q80 (e.val:Int)->d=e:=by decide +kernel
theorem tName_ok:∀ d:Fin 5,q2X (q6e (d.val:Int))=true:=by decide +kernel
theorem tName_inj:∀ d e:Fin 5,q6e (d.val:Int)=q6e (e.val:Int)->d=e:=by decide +kernel
theorem symsZ_ok:∀ a:Fin 256,q6U (q5k (a.val:Int))=true:=by decide +kernel
theorem mName_ok' {d:Int} (h:0<=d/\d<=12):q2X (q80 d)=true:=by
 have:=mName_ok ⟨d.toNat,by omega⟩
 rwa [show ((d.toNat:Nat):Int)=d from by omega] at this
theorem mName_inj' {d e:Int} (h:0<=d/\d<=12) (h':0<=e/\e<=12) (he:q80 d=q80 e):d=e:=by
 have:=mName_inj ⟨d.toNat,by omega⟩ ⟨e.toNat,by omega⟩
 simp only [show ((d.toNat:Nat):Int)=d from by omega,show ((e.toNat:Nat):Int)=e from by omega] at this
 have:=congrArg Fin.val (this he)
 simp only at this
 omega
theorem ents_asc:∀ (L:List Int) (b:Int) (seen:List ByteArray),0<=b->(∀ d∈L,b<d/\d<=12)->L.Pairwise (·<·)->(∀ s∈seen,∃ j,0<=j/\j<=b/\s=q80 j)->q1z b seen (L.map fun d=>(d,q80 d))=true
 | [],_,_,_,_,_,_=>rfl
 | d :: r,b,seen,hb,hd,hp,hs=>by
  have h1:=hd d List.mem_cons_self
  rw [List.pairwise_cons] at hp
  simp only [List.map_cons,q1z,Bool.and_eq_true,Bool.not_eq_true']
  refine ⟨⟨⟨?_,?_⟩,mName_ok' (by omega)⟩,ents_asc r d (seen++[q80 d]) (by omega) (fun e he=>⟨hp.1 e he,(hd e (List.mem_cons_of_mem _ he)).2⟩) hp.2 fun s hs'=>?_⟩
  ·simp only [idOk,Bool.and_eq_true,decide_eq_true_eq]
   omega
  ·refine q9f fun hin=>?_
   obtain ⟨j,j0,j1,hj⟩:=hs _ hin
   have:=mName_inj' (by omega) (by omega) hj
   omega
  ·rcases List.mem_append.1 hs' with hs' | hs'
   ·obtain ⟨j,j0,j1,hj⟩:=hs s hs'
    exact ⟨j,j0,by omega,hj⟩
   ·rw [List.mem_singleton] at hs'
    exact ⟨d,by omega,by omega,hs'⟩
theorem parts_ents (l:List Nde) (i:Int) (rc:Bool) (ps:List Prt):∀ n:Nat,∃ L:List Int,(q4S l i rc ps n).map memE=L.map (fun d=>(d,q80 d))/\L.Pairwise (·<·)/\∀ d∈L,1<=d/\d<=(n:Int)
 | 0=>⟨[],rfl,List.Pairwise.nil,fun d h=>by cases h⟩
 | n + 1=>by
  obtain ⟨L,h1,h2,h3⟩:=parts_ents l i rc ps n
  rw [q4S,List.map_append,h1]
  unfold memAt
  split
  ·refine ⟨L++[((n + 1:Nat):Int)],by simp [memE,memZ],?_,fun d hd=>?_⟩
   ·rw [List.pairwise_append]
    refine ⟨h2,List.pairwise_singleton _ _,fun a ha b hb=>?_⟩
    rw [List.mem_singleton] at hb
    have:=h3 a ha
    omega
   ·rcases List.mem_append.1 hd with hd | hd
    ·have:=h3 d hd; omega
    ·rw [List.mem_singleton] at hd; omega
  ·exact ⟨L,by simp,h2,fun d hd=>by have:=h3 d hd; omega⟩
theorem rwL_ents {n:Nat} {xs bs:List Mem} (h:rwL n xs bs):bs.map memE=xs.map memE:=by
 refine List.ext_getElem (by simp [h.1]) fun i h1 h2=>?_
 simp only [List.length_map] at h1 h2
 have:=h.2 i xs[i] bs[i] (List.getElem?_eq_getElem h2) (List.getElem?_eq_getElem h1)
 simp only [List.getElem_map,memE,this.1,this.2.1]
theorem init_no {l:List Nde} {t c:Int} (h:(q6r l t c).2=false):(q6r l t c).1=Vl.zero:=by
 unfold q6r at h ⊢
 split at h
 ·rename_i hc
  rw [if_pos hc]
  rfl
 ·cases h
theorem memZ_good (l:List Nde) (i:Int) (rc:Bool) (id:Int) (p:Prt):q0J rc (memZ l i rc id p)=true:=by
 by_cases h2:2<=p.flag % 4
 ·have h1:¬ p.flag % 4=1:=by omega
  cases rc with
  | false=>simp [q0J,memZ,Vl.same_refl]
  | true =>
   cases h3:(q6r l (tgtZ l i p.ty) (p.flag / 4)).2 with
   | false=>simp [q0J,memZ,h1,h2,h3,init_no h3,Vl.same_refl]
   | true=>simp [q0J,memZ,h1,h2,h3]
 ·cases rc <;> simp [q0J,memZ,h2,Vl.same_refl]
theorem rwM_good {n:Nat} {rc:Bool} {a b:Mem} (h:rwM n a b) (ha:q0J rc a=true):q0J rc b=true:=by
 obtain ⟨h1,h2,h3,h4⟩:=h
 rcases h4 with rfl | ⟨_,_,h5,h6⟩
 ·exact ha
 ·simp only [q0J,h3,h5,h6,Vl.same_refl] at ha ⊢
  cases rc <;> cases hc:a.crit <;> simp [hc] at ha ⊢
theorem mems_good {l:List Nde} {i:Int} {rc:Bool} {ps:List Prt} {n:Nat} {bs:List Mem} (h:rwL n (q2E l i rc ps) bs) (hne:rc=true\/bs≠[]):q4K rc bs=true:=by
 obtain ⟨L,h1,h2,h3⟩:=parts_ents l i rc ps 12
 have hlen:bs.length<=12:=by rw [<- h.1]; exact q5L l i rc ps 12
 have hents:q1z 0 [] (bs.map memE)=true:=by
  rw [rwL_ents h,show (q2E l i rc ps).map memE=_ from h1]
  exact ents_asc L 0 [] (by omega) (fun d hd=>by have:=h3 d hd; omega) h2 (fun s hs=>by cases hs)
 have hall:bs.all (q0J rc)=true:=List.all_eq_true.2 fun b hb=>by
  obtain ⟨j,hj,rfl⟩:=List.getElem_of_mem hb
  have hja:j<(q2E l i rc ps).length:=by rw [h.1]; exact hj
  have hm:=h.2 j _ _ (List.getElem?_eq_getElem hja) (List.getElem?_eq_getElem hj)
  obtain ⟨id,p,_,_,_,_,he⟩:=q5y 12 _ (List.getElem_mem hja)
  refine rwM_good hm ?_
  rw [he]
  exact memZ_good l i rc id p
 have hpos:rc=true\/0<bs.length:=hne.imp id fun h=>List.length_pos_iff.2 h
 simp only [q4K,hall,hents,Bool.true_and,Bool.and_eq_true,Bool.or_eq_true,decide_eq_true_eq]
 exact ⟨hpos,by omega⟩
theorem key_neg {l:List Nde} {code:Int}:∀ n k,q3h l code n k<0->(∀ m,0<=(code + (m:Int)) % l.length)->∀ m:Nat,k<=m->m<k + n->isKey (kdAt l ((code + m) % l.length))=false
 | 0,k,_,_,m,h1,h2=>by omega
 | n + 1,k,h,hp,m,h1,h2=>by
  simp only [q3h] at h
  split at h
  ·have:=hp k; omega
  ·rename_i hk
   by_cases e:m=k
   ·subst e
    simpa using hk
   ·exact key_neg n (k + 1) h hp m (by omega) (by omega)
theorem key_is {l:List Nde} {code:Int}:∀ n k,0<=q3h l code n k->isKey (kdAt l (q3h l code n k))=true
 | 0,k,h=>by simp [q3h] at h
 | n + 1,k,h=>by
  simp only [q3h] at h ⊢
  split
  ·assumption
  ·rename_i hk
   rw [if_neg hk] at h
   exact key_is n (k + 1) h
theorem keyZ_neg {l:List Nde} (hl:oks l) {c:Int} (hc:0<=c) (h:keyZ l c<0) {z:Int} (h0:0<=z) (h1:z<l.length):isKey (kdAt l z)=false:=by
 have hp:=hl.1
 have hn:(l.length:Int)≠0:=by omega
 have hpos:∀ m,0<=(c + (m:Int)) % l.length:=fun m=>Int.emod_nonneg _ hn
 have:=key_neg (l:=l) (code:=c) l.length 0 h hpos ((z - c) % l.length).toNat (by omega) (by
  have:=Int.emod_lt_of_pos (z - c) (b:=(l.length:Int)) (by omega)
  omega)
 have h2:=Int.emod_nonneg (z - c) hn
 rw [show (((z - c) % l.length).toNat:Int)=(z - c) % l.length from by omega,Int.add_emod_emod] at this
 rw [show c + (z - c)=z from by omega,Int.emod_eq_of_lt h0 h1] at this
 exact this
theorem keyZ_some {l:List Nde} (hl:oks l) {c d:Int} (hc:0<=c) (hd:0<=d) (h:keyZ l c<0):keyZ l d<0:=by
 by_cases h':keyZ l d<0
 ·exact h'
 ·have h1:=key_is (l:=l) (code:=d) l.length 0 (by simpa [keyZ] using h')
  have h2:=q78 hl d l.length 0
  have h3:=keyZ_neg hl hc h (z:=keyZ l d) (by omega) (by unfold keyZ; omega)
  unfold keyZ at h3
  rw [h3] at h1
  cases h1
structure TypD (l:List Nde) (i:Nat) (b:Typ):Prop where
 good:q0N b=true
 nm:b.named=true->b.name=q6e (i:Int)
 uses:∀ u∈b.usesL,0<=u/\u<l.length
 key:b.kind=8->isKey (kdAt l b.key)=true
theorem q5N {n:Nat} {bs:List Mem} (h:rwL n [] bs):bs=[]:=List.eq_nil_of_length_eq_zero h.1.symm
theorem mem_uses {l:List Nde} (hl:oks l) {i:Nat} (hi:i<l.length) {rc:Bool} {ps:List Prt} {bs:List Mem} (h:rwL l.length (q2E l (i:Int) rc ps) bs):∀ u∈bs.map Mem.ty,0<=u/\u<l.length:=fun u hu=>by
 obtain ⟨b,hb,rfl⟩:=List.mem_map.1 hu
 obtain ⟨j,hj,rfl⟩:=List.getElem_of_mem hb
 have hja:j<(q2E l (i:Int) rc ps).length:=by rw [h.1]; exact hj
 have hm:=h.2 j _ _ (List.getElem?_eq_getElem hja) (List.getElem?_eq_getElem hj)
 obtain ⟨id,p,_,_,_,hp,he⟩:=q5y 12 _ (List.getElem_mem hja)
 rcases hm.2.2.2 with h4 | ⟨h4,h5,_⟩
 ·rw [h4,he]
  simp only [q6d,decide_eq_true_eq] at hp
  exact ⟨hp.2,(q9d hl (i:Int) p.ty (by omega)).2⟩
 ·exact ⟨h4,h5⟩
theorem typ_d {l:List Nde} (hl:oks l) {i:Nat} (hi:i<l.length) {b:Typ} (h:rwT l.length (typZ l (i:Int)) b):TypD l i b:=by
 obtain ⟨bs,hrw,rfl⟩:=h
 have hx:=q3e hl hi
 obtain ⟨xk,xa,xb,xc,_⟩:=hx0 _ hx
 have hl5:=hl.2.1
 have hn:(l.length:Int)≠0:=by omega
 have hkr:=kind_rng hx
 have hnm:q2X (q6e (i:Int))=true:=tName_ok ⟨i,by omega⟩
 have hsy:q6U (q5k (ndAt l (i:Int)).a)=true:=by
  have:=symsZ_ok ⟨(ndAt l (i:Int)).a.toNat,by have:=xa.2; have:=xa.1; omega⟩
  rwa [show (((ndAt l (i:Int)).a.toNat:Nat):Int)=(ndAt l (i:Int)).a from by have:=xa.1; omega] at this
 have helem:0<=(ndAt l (i:Int)).c % l.length/\(ndAt l (i:Int)).c % l.length<l.length:=⟨Int.emod_nonneg _ hn,Int.emod_lt_of_pos _ (by omega)⟩
 unfold typZ at hrw ⊢
 generalize ndAt l (i:Int)=x at *
 by_cases k1:x.kind=1
 ·simp only [k1] at hrw ⊢
  obtain rfl:=q5N hrw
  exact ⟨by simp [q0N,q62,Typ.left,Typ.same,q1r,Typ.of,q0y],fun h=>by simp [Typ.named,Typ.of] at h,fun u hu=>by simp [Typ.usesL,Typ.of] at hu,fun h=>by simp [Typ.of] at h⟩
 by_cases k2:x.kind=2
 ·simp only [k2] at hrw ⊢
  obtain rfl:=q5N hrw
  have hlh:x.low<=x.high:=by
   simp only [Nde.high]
   have:=Int.emod_nonneg x.b (show (6:Int)≠0 by decide)
   omega
  exact ⟨by simp [q0N,q62,Typ.left,Typ.same,q1r,Typ.of,q0y,hlh],fun h=>by simp [Typ.named,Typ.of] at h,fun u hu=>by simp [Typ.usesL,Typ.of] at hu,fun h=>by simp [Typ.of] at h⟩
 by_cases k3:x.kind=3
 ·simp only [k3] at hrw ⊢
  obtain rfl:=q5N hrw
  exact ⟨by simp [q0N,q62,Typ.left,Typ.same,q1r,Typ.of,q0y]; omega,fun h=>by simp [Typ.named,Typ.of] at h,fun u hu=>by simp [Typ.usesL,Typ.of] at hu,fun h=>by simp [Typ.of] at h⟩
 by_cases k4:x.kind=4
 ·simp only [k4] at hrw ⊢
  obtain rfl:=q5N hrw
  exact ⟨by simp [q0N,q62,Typ.left,Typ.same,q1r,Typ.of,q0y,hnm,hsy],fun h=>by simp [Typ.of],fun u hu=>by simp [Typ.usesL,Typ.of] at hu,fun h=>by simp [Typ.of] at h⟩
 by_cases k5:x.kind=5
 ·simp only [k5] at hrw ⊢
  have hg:=mems_good hrw (.inl rfl)
  have hu:=mem_uses hl hi hrw
  exact ⟨by simp [q0N,q62,Typ.left,Typ.same,q1r,Typ.of,q0y,hnm,hg],fun h=>by simp [Typ.of],fun u h=>hu u (by simpa [Typ.usesL,Typ.of] using h),fun h=>by simp [Typ.of] at h⟩
 by_cases k6:x.kind=6
 ·simp only [k6] at hrw ⊢
  by_cases he:(q2E l (i:Int) false x.parts).isEmpty=true
  ·simp only [he,if_true] at hrw ⊢
   obtain rfl:=q5N hrw
   exact ⟨by simp [q0N,q62,Typ.left,Typ.same,q1r,Typ.of,q0y,hnm,q4K,q1z],fun h=>by simp [Typ.of],fun u hu=>by simp [Typ.usesL,Typ.of] at hu,fun h=>by simp [Typ.of] at h⟩
  ·simp only [he,if_false,Bool.false_eq_true] at hrw ⊢
   have hne:bs≠[]:=fun e=>by
    rw [e] at hrw
    have:=hrw.1
    simp only [List.length_nil] at this
    rw [List.eq_nil_of_length_eq_zero this] at he
    simp at he
   have hg:=mems_good hrw (.inr hne)
   have hu:=mem_uses hl hi hrw
   exact ⟨by simp [q0N,q62,Typ.left,Typ.same,q1r,Typ.of,q0y,hnm,hg],fun h=>by simp [Typ.of],fun u h=>hu u (by simpa [Typ.usesL,Typ.of] using h),fun h=>by simp [Typ.of] at h⟩
 by_cases k7:x.kind=7
 ·simp only [k7] at hrw ⊢
  obtain rfl:=q5N hrw
  exact ⟨by simp [q0N,q62,Typ.left,Typ.same,q1r,Typ.of,q0y]; omega,fun h=>by simp [Typ.named,Typ.of] at h,fun u hu=>by simp [Typ.usesL,Typ.of] at hu; rw [hu]; exact helem,fun h=>by simp [Typ.of] at h⟩
 by_cases k8:x.kind=8
 ·simp only [k8] at hrw ⊢
  by_cases hc:keyZ l x.b<0
  ·simp only [if_pos hc] at hrw ⊢
   obtain rfl:=q5N hrw
   exact ⟨by simp [q0N,q62,Typ.left,Typ.same,q1r,Typ.of,q0y]; omega,fun h=>by simp [Typ.named,Typ.of] at h,fun u hu=>by simp [Typ.usesL,Typ.of] at hu; rw [hu]; exact helem,fun h=>by simp [Typ.of] at h⟩
  ·simp only [if_neg hc] at hrw ⊢
   obtain rfl:=q5N hrw
   have hkr:=q78 hl x.b l.length 0
   refine ⟨by simp [q0N,q62,Typ.left,Typ.same,q1r,Typ.of,q0y]; omega,fun h=>by simp [Typ.named,Typ.of] at h,fun u hu=>?_,fun h=>key_is l.length 0 (by simpa [keyZ] using hc)⟩
   simp [Typ.usesL,Typ.of] at hu
   rcases hu with rfl | rfl
   ·exact ⟨by omega,hkr.2⟩
   ·exact helem
 have k9:x.kind=9:=by omega
 simp only [k9] at hrw ⊢
 obtain rfl:=q5N hrw
 exact ⟨by simp [q0N,q62,Typ.left,Typ.same,q1r,Typ.of,q0y],fun h=>by simp [Typ.named,Typ.of] at h,fun u hu=>by simp [Typ.usesL,Typ.of] at hu; rw [hu]; exact helem,fun h=>by simp [Typ.of] at h⟩
theorem kdAt_nd (l:List Nde) {j:Nat} (hj:j<l.length):kdAt l (j:Int)=(ndAt l (j:Int)).kind:=by
 simp [kdAt,ndAt,List.getElem?_eq_getElem hj]
theorem typZ_kind (l:List Nde) {j:Nat} (hj:j<l.length):(typZ l (j:Int)).kind=(if kdAt l (j:Int)=6/\(q2E l (j:Int) false (ndAt l (j:Int)).parts).isEmpty=true then 5 else if kdAt l (j:Int)=8/\keyZ l (ndAt l (j:Int)).b<0 then 7 else if 1<=kdAt l (j:Int)/\kdAt l (j:Int)<=8 then kdAt l (j:Int) else 9):=by
 rw [kdAt_nd l hj]
 unfold typZ
 generalize ndAt l (j:Int)=x
 simp only
 split
 ·rename_i h; simp [h,Typ.of]
 ·rename_i h; simp [h,Typ.of]
 ·rename_i h; simp [h,Typ.of]
 ·rename_i h; simp [h,Typ.of]
 ·rename_i h; simp [h,Typ.of]
 ·rename_i h
  split
  ·rename_i h'; simp [h,h',Typ.of]
  ·rename_i h'; simp [h,h',Typ.of]
 ·rename_i h; simp [h,Typ.of]
 ·rename_i h
  split
  ·rename_i h'; simp [h,h',Typ.of]
  ·rename_i h'; simp [h,h',Typ.of]
 ·rename_i h1 h2 h3 h4 h5 h6 h7 h8
  have e6:¬ x.kind=6:=h6
  have e8:¬ x.kind=8:=h8
  have hr:¬ (1<=x.kind/\x.kind<=8):=fun ⟨a,b⟩=>by
   have q1:¬ x.kind=1:=h1
   have q2:¬ x.kind=2:=h2
   have q3:¬ x.kind=3:=h3
   have q4:¬ x.kind=4:=h4
   have q5:¬ x.kind=5:=h5
   have q7:¬ x.kind=7:=h7
   omega
  simp [e6,e8,hr,Typ.of]
theorem q8i {n:Nat} {l:List Nde} {T:List Typ} (h:rwS n (q2R l) T):T.length=l.length:=by
 have:=h.1
 simp [q2R] at this
 exact this.symm
theorem q7X {l:List Nde} {T:List Typ} (h:rwS l.length (q2R l) T) {i:Nat} (hi:i<T.length):rwT l.length (typZ l (i:Int)) T[i]:=by
 have hi':i<l.length:=by rw [<- q8i h]; exact hi
 exact h.2 i _ _ (by simp [q2R,hi']) (List.getElem?_eq_getElem hi)
theorem rwT_kind {n:Nat} {a b:Typ} (h:rwT n a b):b.kind=a.kind:=by
 obtain ⟨bs,_,rfl⟩:=h
 rfl
theorem q8w {l:List Typ} (h:∀ i,(hi:i<l.length)->q1F l i l[i]=0):∀ n i,q1q l n i=0
 | 0,i=>rfl
 | n + 1,i=>by
  rw [q1q]
  by_cases hi:i<l.length
  ·rw [List.getElem?_eq_getElem hi]
   simp only [h i hi,if_true]
   exact q8w h n (i + 1)
  ·rw [List.getElem?_eq_none (by omega)]
theorem rwS_valid {l:List Nde} (hl:oks l) {T:List Typ} (h:rwS l.length (q2R l) T):valid T=0:=by
 have hl5:=hl.2.1
 have hlen:=q8i h
 unfold valid
 rw [if_neg (by omega)]
 refine q8w (fun i hi=>?_) _ _
 have hd:∀ j,(hj:j<T.length)->TypD l j T[j]:=fun j hj=>typ_d hl (by omega) (q7X h hj)
 obtain ⟨hg,hnm,hu,hk⟩:=hd i hi
 unfold q1F
 rw [if_neg (by rw [hg]; decide)]
 rw [if_neg]
 ·rw [if_neg]
  ·rw [if_neg]
   rintro ⟨h8,hn⟩
   have hkey:=hk h8
   have huk:=hu T[i].key (by simp [Typ.usesL,h8])
   have hkl:T[i].key.toNat<T.length:=by omega
   apply hn
   unfold q7j
   rw [List.getElem?_eq_getElem hkl]
   simp only
   rw [rwT_kind (q7X h hkl),typZ_kind l (by omega)]
   rw [show ((T[i].key.toNat:Nat):Int)=T[i].key from by omega]
   simp only [isKey,decide_eq_true_eq] at hkey
   rw [if_neg (by omega),if_neg (by omega),if_pos (by omega)]
   exact hkey
  ·intro hany
   obtain ⟨u,hmem,ho⟩:=List.any_eq_true.1 hany
   have:=hu u hmem
   simp only [q0D,Bool.or_eq_true,decide_eq_true_eq] at ho
   omega
 ·rintro ⟨hn,hmem⟩
  rw [List.mem_map] at hmem
  obtain ⟨b,hb,he⟩:=hmem
  obtain ⟨j,hj,rfl⟩:=List.getElem_of_mem hb
  rw [List.length_take] at hj
  rw [List.getElem_take] at he
  have hjT:j<T.length:=by omega
  obtain ⟨hgj,hnmj,_,_⟩:=hd j hjT
  rw [hnm hn] at he
  have hbn:T[j].named=true:=by
   cases hc:T[j].named with
   | true=>rfl
   | false =>
    have hi':=tName_ok ⟨i,by omega⟩
    simp only at hi'
    rw [<- he] at hi'
    have hno:T[j].name=⟨#[]⟩:=by
     unfold q0N at hgj
     simp only [Typ.named,Bool.or_eq_false_iff,decide_eq_false_iff_not] at hc
     simp only [Bool.and_eq_true,decide_eq_true_eq] at hgj
     have hs:=hgj.2.2
     unfold Typ.left at hs
     obtain ⟨⟨c4,c5⟩,c6⟩:=hc
     simp only [c4,c5,c6,if_false] at hs
     split at hs
     ·simp only [Typ.same,q1r,Bool.and_eq_true,decide_eq_true_eq] at hs; exact of_decide_eq_true hs.1.1.1.1.1.1.1.1.2
     ·split at hs
      ·simp only [Typ.same,q1r,Bool.and_eq_true,decide_eq_true_eq] at hs; exact of_decide_eq_true hs.1.1.1.1.1.1.1.1.2
      ·split at hs
       ·simp only [Typ.same,q1r,Bool.and_eq_true,decide_eq_true_eq] at hs; exact of_decide_eq_true hs.1.1.1.1.1.1.1.1.2
       ·split at hs
        ·simp only [Typ.same,q1r,Bool.and_eq_true,decide_eq_true_eq] at hs; exact of_decide_eq_true hs.1.1.1.1.1.1.1.1.2
        ·split at hs
         ·simp only [Typ.same,q1r,Bool.and_eq_true,decide_eq_true_eq] at hs; exact of_decide_eq_true hs.1.1.1.1.1.1.1.1.2
         ·simp only [Typ.same,q1r,Bool.and_eq_true,decide_eq_true_eq] at hs; exact of_decide_eq_true hs.1.1.1.1.1.1.1.1.2
    rw [hno] at hi'
    exact absurd hi' (by decide)
  have:=tName_inj ⟨j,by omega⟩ ⟨i,by omega⟩ (by simp only; rw [<- hnmj hbn,he])
  have:=congrArg Fin.val this
  simp only at this
  omega
theorem idxI_mem {α:Type} (p:α->Bool):∀ l:List α,(∃ x∈l,p x=true)->0<=idxI p l
 | [],h=>by obtain ⟨x,hx,_⟩:=h; cases hx
 | x :: r,h=>by
  have hg:=q2U p r
  unfold idxI
  by_cases hp:p x=true
  ·rw [if_pos hp]; exact Int.le_refl 0
  ·rw [if_neg hp]
   have:0<=idxI p r:=idxI_mem p r (by
    obtain ⟨y,hy,hpy⟩:=h
    rcases List.mem_cons.1 hy with rfl | hy
    ·exact absurd hpy hp
    ·exact ⟨y,hy,hpy⟩)
   rw [if_neg (by omega)]
   omega
theorem idAt_mem (a c:Int) (hc:0<=c):0<=symIx (q5k a) (idAt a c):=by
 have hlen:=q9h a
 have hn:((idsZ a).length:Int)≠0:=by omega
 have h0:=Int.emod_nonneg c hn
 have h1:=Int.emod_lt_of_pos c (b:=((idsZ a).length:Int)) (by omega)
 have hlt:(c % (idsZ a).length).toNat<(idsZ a).length:=by omega
 refine idxI_mem _ _ ⟨⟨idAt a c,sName (idAt a c)⟩,?_,by simp⟩
 unfold q5k
 refine List.mem_map.2 ⟨idAt a c,?_,rfl⟩
 unfold idAt
 rw [List.getElem?_eq_getElem hlt]
 exact List.getElem_mem hlt
theorem init_plain {l:List Nde} (hl:oks l) {T:List Typ} (h:rwS l.length (q2R l) T) {t c:Int} (ht:0<=t/\t<l.length) (hc:0<=c) (hi:(q6r l t c).2=true):q7O T t (q6r l t c).1=true:=by
 have hlen:=q8i h
 have hjT:t.toNat<T.length:=by omega
 have hjl:t.toNat<l.length:=by omega
 have hrw:=q7X h hjT
 have htt:((t.toNat:Nat):Int)=t:=by omega
 have hkd:=typZ_kind l hjl
 rw [htt] at hrw hkd
 have hx:=q3e hl hjl
 rw [htt] at hx
 have hkr:=kdAt_rng hl ht.1 ht.2
 have hke:kdAt l t=(ndAt l t).kind:=by rw [<- htt]; exact kdAt_nd l hjl
 obtain ⟨xk,xa,xb,xc,_⟩:=hx0 _ hx
 unfold q7O
 unfold fitN
 have ho:q0D T.length t=false:=by simp [q0D]; omega
 rw [ho,List.getElem?_eq_getElem hjT]
 generalize hf:fitN T _=f
 clear hf
 have hk:=rwT_kind hrw
 rw [hkd] at hk
 unfold q6r at hi ⊢
 by_cases h56:kdAt l t=5\/kdAt l t=6
 ·rw [if_pos h56] at hi; cases hi
 rw [if_neg h56]
 have e6:¬ (kdAt l t=6/\(q2E l t false (ndAt l t).parts).isEmpty=true):=fun e=>h56 (.inr e.1)
 rw [if_neg e6] at hk
 obtain ⟨bs,hbs,hb⟩:=hrw
 rw [hb] at hk ⊢
 simp only [Bool.not_false,Bool.true_and]
 have hin:inK l t=(typZ l t).kind:=by
  unfold inK
  by_cases h8:kdAt l t=8
  ·by_cases hn:keyZ l 0<0
   ·have hn':=keyZ_some hl (by omega) xb.1 hn
    rw [if_pos ⟨h8,hn⟩]
    rw [if_pos ⟨h8,hn'⟩] at hk
    exact hk.symm
   ·have hn':¬ keyZ l (ndAt l t).b<0:=fun q=>hn (keyZ_some hl xb.1 (by omega) q)
    rw [if_neg (fun q=>hn q.2)]
    rw [if_neg (fun q=>hn' q.2),if_pos (by omega)] at hk
    exact hk.symm
  ·rw [if_neg (fun q=>h8 q.1)]
   rw [if_neg (fun q=>h8 q.1)] at hk
   by_cases h9:kdAt l t<=8
   ·rw [if_pos ⟨by omega,h9⟩] at hk; exact hk.symm
   ·rw [if_neg (fun q=>h9 q.2)] at hk
    show kdAt l t=_
    have:(typZ l t).kind=9:=hk
    omega
 rw [hin]
 have hzV:∀ (k:Int) (b:Bool) (i:Int) (s:ByteArray) (d:Int),(k=1\/b=false)->(k=2\/i=0)->(k=3\/s=⟨#[]⟩)->(k=4\/k=6\/d=0)->q2K (Vl.of k b i s d)=true:=fun k b i s d h1 h2 h3 h4=>by
  simp only [q2K,Vl.of,Vl.kind,Vl.b,Vl.i,Vl.s,Vl.id,Vl.keys,Vl.items,Vl.rest,List.isEmpty_nil,Bool.or_true,Bool.and_true,Bool.and_eq_true,Bool.or_eq_true,decide_eq_true_eq,Bool.not_eq_true',or_assoc]
  exact ⟨h1.imp (fun h=>decide_eq_true h) id,h2.imp (fun h=>decide_eq_true h) (fun h=>decide_eq_true h),h3.imp (fun h=>decide_eq_true h) (fun h=>decide_eq_true h),h4.imp (fun h=>decide_eq_true h) (Or.imp (fun h=>decide_eq_true h) (fun h=>decide_eq_true h))⟩
 by_cases k1:kdAt l t=1
 ·have hz:(typZ l t).kind=1:=by simp [typZ,<- hke,k1,Typ.of]
  rw [hz]
  simp [Vl.of,Vl.kind,fitK,q2K,Vl.b,Vl.i,Vl.s,Vl.id,Vl.keys,Vl.items,Vl.rest,k1]
 by_cases k2:kdAt l t=2
 ·have hz:(typZ l t).kind=2:=by simp [typZ,<- hke,k2,Typ.of]
  have hlo:(typZ l t).low=(ndAt l t).low:=by simp [typZ,<- hke,k2,Typ.of]
  have hhi:(typZ l t).high=(ndAt l t).high:=by simp [typZ,<- hke,k2,Typ.of]
  rw [hz,hlo,hhi]
  have h1:=Int.emod_nonneg c (show (ndAt l t).b % 6 + 1≠0 by have:=xb.1; omega)
  have h2:=Int.emod_lt_of_pos c (show 0<(ndAt l t).b % 6 + 1 by have:=xb.1; omega)
  have h3:(ndAt l t).low<=(ndAt l t).low + c % ((ndAt l t).b % 6 + 1):=by omega
  have h4:(ndAt l t).low + c % ((ndAt l t).b % 6 + 1)<=(ndAt l t).high:=by simp only [Nde.high]; omega
  simp [Vl.of,Vl.kind,fitK,q2K,Vl.b,Vl.i,Vl.s,Vl.id,Vl.keys,Vl.items,Vl.rest,k2,h3,h4,h1]
 by_cases k3:kdAt l t=3
 ·have hz:(typZ l t).kind=3:=by simp [typZ,<- hke,k3,Typ.of]
  have hmx:(typZ l t).max=(ndAt l t).a % 4:=by simp [typZ,<- hke,k3,Typ.of]
  have h0:0<=(ndAt l t).a % 4:=by omega
  have hs0:(⟨#[]⟩:ByteArray).size=0:=rfl
  have hs1:(⟨#[97]⟩:ByteArray).size=1:=rfl
  rw [hz,hmx]
  by_cases hq:0<(ndAt l t).a % 4/\c % 2=1
  ·have h1:1<=(ndAt l t).a % 4:=by omega
   simp [Vl.of,Vl.kind,fitK,q2K,Vl.b,Vl.i,Vl.s,Vl.id,Vl.keys,Vl.items,Vl.rest,k3,hq,hs1,h1]
  ·simp [Vl.of,Vl.kind,fitK,q2K,Vl.b,Vl.i,Vl.s,Vl.id,Vl.keys,Vl.items,Vl.rest,k3,hq,hs0,h0]
 by_cases k4:kdAt l t=4
 ·have hz:(typZ l t).kind=4:=by simp [typZ,<- hke,k4,Typ.of]
  have hsy:(typZ l t).syms=q5k (ndAt l t).a:=by simp [typZ,<- hke,k4,Typ.of]
  have hm:=idAt_mem (ndAt l t).a c hc
  rw [hz,hsy]
  simp [Vl.of,Vl.kind,fitK,q2K,Vl.b,Vl.i,Vl.s,Vl.id,Vl.keys,Vl.items,Vl.rest,k4,hm]
 have hz:7<=(typZ l t).kind/\(typZ l t).kind<=9:=by
  rw [hkd,if_neg e6]
  split
  ·omega
  ·split <;> omega
 have hmx:(typZ l t).kind<=8->0<=(typZ l t).max:=fun h8=>by
  by_cases k7:kdAt l t=7
  ·have:(typZ l t).max=(ndAt l t).a % 4:=by simp [typZ,<- hke,k7,Typ.of]
   omega
  by_cases k8:kdAt l t=8
  ·by_cases hc:keyZ l (ndAt l t).b<0
   ·have:(typZ l t).max=(ndAt l t).a % 4:=by simp [typZ,<- hke,k8,hc,Typ.of]
    omega
   ·have:(typZ l t).max=(ndAt l t).a % 4:=by simp [typZ,<- hke,k8,hc,Typ.of]
    omega
  have k9:kdAt l t=9:=by omega
  have:(typZ l t).kind=9:=by simp [typZ,<- hke,k9,Typ.of]
  omega
 generalize (typZ l t).kind=kk at *
 have q1:¬ kk=1:=by omega
 have q2:¬ kk=2:=by omega
 have q3:¬ kk=3:=by omega
 have q4:¬ kk=4:=by omega
 have q5:¬ kk=5:=by omega
 have q6:¬ kk=6:=by omega
 have hfit:fitK f { kind:=kk,name:=(typZ l t).name,low:=(typZ l t).low,high:=(typZ l t).high,max:=(typZ l t).max,sn:=(typZ l t).sn,syms:=(typZ l t).syms,mn:=bs.isEmpty,mems:=bs,key:=(typZ l t).key,elem:=(typZ l t).elem,opn:=(typZ l t).opn } (Vl.of kk false 0 ⟨#[]⟩ 0)=true:=by
  simp only [fitK,q1,q2,q3,q4,q5,q6,if_false,Vl.of,Vl.items,Vl.keys]
  by_cases k7:kk=7
  ·simp [k7,hmx (by omega)]
  by_cases k8:kk=8
  ·simp [k8,hmx (by omega),ascV]
  simp [k7,k8]
 simp only [k1,k2,k3,k4,false_and,if_false,decide_false]
 rw [hzV kk false 0 ⟨#[]⟩ 0 (.inr rfl) (.inr rfl) (.inr rfl) (.inr (.inr rfl)),hfit]
 simp [Vl.of,Vl.kind]
theorem dflts_none {S:List Typ} (h:∀ t∈S,q6f S t=none):∀ n i,q2i S n i=none
 | 0,i=>rfl
 | n + 1,i=>by
  rw [q2i]
  cases hi:S[i]? with
  | none=>rfl
  | some t =>
   simp only [h t (List.mem_of_getElem? hi)]
   exact dflts_none h n (i + 1)
theorem rwS_err {l:List Nde} (hl:oks l) {T:List Typ} (h:rwS l.length (q2R l) T):q28 T=0:=by
 unfold q28
 rw [if_pos (rwS_valid hl h),dflts_none fun t ht=>?_]
 obtain ⟨i,hi,rfl⟩:=List.getElem_of_mem ht
 have hil:i<l.length:=by rw [<- q8i h]; exact hi
 unfold q6f
 rw [Option.map_eq_none_iff,List.find?_eq_none]
 intro m hm
 obtain ⟨bs,hbs,hb⟩:=q7X h hi
 have hm':m∈bs:=by rw [hb] at hm; exact hm
 obtain ⟨j,hj,rfl⟩:=List.getElem_of_mem hm'
 have hja:j<(typZ l (i:Int)).mems.length:=by rw [hbs.1]; exact hj
 have hr:=hbs.2 j _ _ (List.getElem?_eq_getElem hja) (List.getElem?_eq_getElem hj)
 unfold badM
 rcases hr.2.2.2 with h4 | ⟨_,_,h5,_⟩
 ·rw [h4]
  have hmz:∃ rc id p,p.ok/\q6d l (i:Int) id p=true/\(typZ l (i:Int)).mems[j]=memZ l (i:Int) rc id p:=by
   have hmem:=List.getElem_mem hja
   generalize (typZ l (i:Int)).mems[j]=m at *
   have hx:=q3e hl hil
   unfold typZ at hmem
   generalize ndAt l (i:Int)=x at *
   have hp:∀ rc,m∈q2E l (i:Int) rc x.parts->∃ rc id p,p.ok/\q6d l (i:Int) id p=true/\m=memZ l (i:Int) rc id p:=fun rc hmem=>by
    obtain ⟨id,p,_,_,h1,h2,h3⟩:=q5y 12 m hmem
    exact ⟨rc,id,p,hx.2.2.2.2.2 p h1,h2,h3⟩
   simp only at hmem
   split at hmem <;> first | (simp [Typ.of] at hmem; done) | exact hp _ hmem | skip
   all_goals split at hmem <;> first | (simp [Typ.of] at hmem; done) | exact hp _ hmem
  obtain ⟨rc,id,p,hpo,hp,he⟩:=hmz
  rw [he]
  simp only [q6d,decide_eq_true_eq] at hp
  have hrg:=q9d hl (i:Int) p.ty (by omega)
  cases hh:(memZ l (i:Int) rc id p).has with
  | false=>simp
  | true =>
   simp only [memZ,Bool.and_eq_true,decide_eq_true_eq] at hh
   have:=init_plain hl h ⟨hp.2,hrg.2⟩ (c:=p.flag / 4) (by have:=hpo.2.2.1; omega) hh.2
   simp [memZ,hh.1,this]
 ·simp [h5]
theorem rounds_ev (b:Bool) (S:List Typ) (hs:(⟨b,S⟩:Sch).fine) (h64:(⟨b,S⟩:Sch).d64) (h0:q28 S=0):∃ r:RV,(∃ v,inB S.length v/\(∀ j,j<S.length->FRn S j v=v j)/\r=(.tup [.sl false (vecC S.length fun j=>q4z (v j)),.int .i64 0],none))/\evC allT q02 17 [.agg (schC ⟨b,S⟩)] none=some r:=by
 refine evC_reach q1Q rfl rfl (F:=RndEnd S) (rounds_run b S hs h64 h0) fun e s' h=>?_
 have hres:q1Q.res=[.tmp 2,.tmp 3]:=rfl
 obtain ⟨rfl,t,n,v,e2,e3,h1,h2,hm⟩:=h
 have hel:=q5I S.length fun j=>q4z (v j)
 exact ⟨_,by simp [hres,e2,e3,hm,hel],v,h1,h2,rfl⟩
theorem recR_ge {v:Vec}:∀ (l:List Mem) (a:Int),a<=recR v l a/\∀ m∈l,m.has=false->v m.ty.toNat + 1<=recR v l a
 | [],a=>⟨Int.le_refl _,fun m h=>by cases h⟩
 | x :: r,a=>by
  rw [recR]
  by_cases hx:x.has=true
  ·rw [if_pos hx]
   obtain ⟨h1,h2⟩:=recR_ge (v:=v) r a
   refine ⟨h1,fun m hm hh=>?_⟩
   rcases List.mem_cons.1 hm with rfl | hm
   ·rw [hx] at hh; cases hh
   ·exact h2 m hm hh
  ·rw [if_neg hx]
   obtain ⟨h1,h2⟩:=recR_ge (v:=v) r (max a (v x.ty.toNat + 1))
   refine ⟨by omega,fun m hm hh=>?_⟩
   rcases List.mem_cons.1 hm with rfl | hm
   ·omega
   ·exact h2 m hm hh
theorem uniR_ex {v:Vec}:∀ (l:List Mem) (a:Int),uniR v l a=a\/∃ m∈l,uniR v l a=v m.ty.toNat + 1
 | [],a=>.inl rfl
 | x :: r,a=>by
  rw [uniR]
  rcases uniR_ex (v:=v) r (min a (v x.ty.toNat + 1)) with h | ⟨m,hm,h⟩
  ·by_cases hc:a<=v x.ty.toNat + 1
   ·left; omega
   ·right; exact ⟨x,List.mem_cons_self,by omega⟩
  ·exact .inr ⟨m,List.mem_cons_of_mem _ hm,h⟩
def gb (ρ:Vec) (r:Int) (m:Mem):Bool:=decide (0<=ρ m.ty.toNat)&&decide (ρ m.ty.toNat<r)
def q99 (n:Vec):List Mem->Int->Int
 | [],a=>a + 1
 | m :: r,a=>if m.has=true then q99 n r a else if n m.ty.toNat<0 then -1 else q99 n r (max a (n m.ty.toNat))
def runiR (n:Vec):List Mem->Int->Int
 | [],a=>a
 | m :: r,a=>runiR n r (if 0<=n m.ty.toNat/\(a<0\/n m.ty.toNat + 1<a) then n m.ty.toNat + 1 else a)
def rrndP (x:Typ) (n:Vec):Int:=if x.kind=5 then q99 n x.mems (-1) else if x.kind=6 then runiR n x.mems (-1) else 0
def inM (N:Nat) (v:Vec):Prop:=∀ j,j<N->-1<=v j/\v j<=1000
theorem rround_ev {N:Nat} {v:Vec} (hv:inM N v) {x:Typ} (hx:q1f N x):evA 40 [.agg (typC x),.bl (vecC N v)] (.int .i64 (rrndP x v)):=by
 refine q00 (c:=q2L) rfl rfl ?_
 have hml:=hx.few
 by_cases h5:x.kind=5
 ·simp [q2L,-Option.bind_some,-Int.toNat_lt,-List.map_map,List.range_succ,typC,h5,rrndP]
  refine q0h x.mems.length (fun i s=>(s.env 1).v=.bl (vecC N v)/\(s.env 2).v=.ptr 2 1 0/\s.mem 2 1=some (q12 x)/\(s.env 6).v=.int .i64 i/\∃ a,(s.env 5).v=.int .i64 a/\q99 v (x.mems.drop i) a=q99 v x.mems (-1)/\-1<=a/\a<=1000)
   (fun e s=>(e=.exit 1/\∃ a,(s.env 5).v=.int .i64 a/\a + 1=q99 v x.mems (-1)/\-1<=a/\a<=1000)\/(e=.ret/\(s.env 4).v=.int .i64 (q99 v x.mems (-1)))) (fun i hi s k h ih hk=>?_) _ _ ?_ (fun e s h=>?_)
  ·obtain ⟨e1,e2,m2,e6,a,e5,hr,a0,a1⟩:=h
   simp only [q12,h5] at m2
   refine q04 ?_
   by_cases hlt:i<x.mems.length
   ·have hlt':(i:Int)<x.mems.length:=by omega
    have g1:(x.mems.map memC)[i]?=some (memC x.mems[i]):=by simp [hlt]
    have hw':=q0W (i:=i) (by omega)
    have hmi:=hx.mems _ (List.getElem_mem hlt)
    rw [List.drop_eq_getElem_cons hlt,q99] at hr
    generalize x.mems[i]=m at *
    have gv:=q1h v hmi
    have hvm:=hv m.ty.toNat (by omega)
    have hm0:=hmi.1
    simp only [memC] at g1
    by_cases hh:m.has=true
    ·rw [if_pos hh] at hr
     simp [q2l,-Option.bind_some,-Int.toNat_lt,-List.map_map,List.range_succ,e1,e2,m2,e6,e5,hlt',g1,hh,hw']
     refine ih hlt _ ⟨?_,?_,?_,?_,a,?_,hr,a0,a1⟩ <;> simp [e1,e2,m2,e5,h5,q12]
    ·rw [if_neg hh] at hr
     have hh':m.has=false:=by simpa using hh
     by_cases hn:v m.ty.toNat<0
     ·rw [if_pos hn] at hr
      simp [q2l,-Option.bind_some,-Int.toNat_lt,-List.map_map,List.range_succ,e1,e2,m2,e6,e5,hlt',g1,hh',hw',gv,hm0,hn]
      refine hk _ _ (.inr ⟨rfl,?_⟩)
      simp [<- hr]
     ·rw [if_neg hn] at hr
      simp [q2l,-Option.bind_some,-Int.toNat_lt,-List.map_map,List.range_succ,e1,e2,m2,e6,e5,hlt',g1,hh',hw',gv,hm0,hn]
      refine ih hlt _ ⟨?_,?_,?_,?_,_,?_,hr,by omega,by omega⟩ <;> simp [e1,e2,m2,h5,q12]
   ·have hlt':¬ (i:Int)<x.mems.length:=by omega
    simp [q2l,-Option.bind_some,-Int.toNat_lt,-List.map_map,List.range_succ,e2,m2,e6,hlt']
    rw [List.drop_eq_nil_of_le (by omega),q99] at hr
    exact hk _ _ (.inl ⟨rfl,a,by simp [e5],hr,a0,a1⟩)
  ·exact ⟨by simp,by simp,by simp [q12,h5],by simp,-1,by simp,rfl,by omega,by omega⟩
  ·rcases h with ⟨rfl,a,e5,hr,a0,a1⟩ | ⟨rfl,e4⟩
   ·have hw1:IntKind.i64.wrap (a + 1)=a + 1:=IntWalk.i64_in _ (by omega)
    rw [hr] at hw1
    simp [-Option.bind_some,-Int.toNat_lt,-List.map_map,List.range_succ,e5,hr,hw1]
   ·simp [-Option.bind_some,-Int.toNat_lt,-List.map_map,List.range_succ,e4]
 by_cases h6:x.kind=6
 ·simp [q2L,-Option.bind_some,-Int.toNat_lt,-List.map_map,List.range_succ,typC,h6,rrndP]
  refine q0h x.mems.length (fun i s=>(s.env 1).v=.bl (vecC N v)/\(s.env 2).v=.ptr 2 1 0/\s.mem 2 1=some (q12 x)/\(s.env 7).v=.int .i64 i/\∃ a,(s.env 5).v=.int .i64 a/\runiR v (x.mems.drop i) a=runiR v x.mems (-1)/\-1<=a/\a<=1001)
   (fun e s=>e=.exit 3/\(s.env 5).v=.int .i64 (runiR v x.mems (-1))) (fun i hi s k h ih hk=>?_) _ _ ?_ (fun e s h=>?_)
  ·obtain ⟨e1,e2,m2,e6,a,e5,hr,a0,a1⟩:=h
   simp only [q12,h6] at m2
   refine q04 ?_
   by_cases hlt:i<x.mems.length
   ·have hlt':(i:Int)<x.mems.length:=by omega
    have g1:(x.mems.map memC)[i]?=some (memC x.mems[i]):=by simp [hlt]
    have hw':=q0W (i:=i) (by omega)
    have hmi:=hx.mems _ (List.getElem_mem hlt)
    rw [List.drop_eq_getElem_cons hlt,runiR] at hr
    generalize x.mems[i]=m at *
    have gv:=q1h v hmi
    have hvm:=hv m.ty.toNat (by omega)
    have hm0:=hmi.1
    have hw1:IntKind.i64.wrap (v m.ty.toNat + 1)=v m.ty.toNat + 1:=IntWalk.i64_in _ (by omega)
    simp only [memC] at g1
    by_cases hn:0<=v m.ty.toNat
    ·by_cases ha:a<0
     ·rw [if_pos ⟨hn,.inl ha⟩] at hr
      simp [q1O,-Option.bind_some,-Int.toNat_lt,-List.map_map,List.range_succ,e1,e2,m2,e6,e5,hlt',g1,hw',gv,hm0,hn,ha,hw1]
      refine ih hlt _ ⟨?_,?_,?_,?_,_,?_,hr,by omega,by omega⟩ <;> simp [e1,e2,m2,h6,q12]
     ·by_cases hb:v m.ty.toNat + 1<a
      ·rw [if_pos ⟨hn,.inr hb⟩] at hr
       simp [q1O,-Option.bind_some,-Int.toNat_lt,-List.map_map,List.range_succ,e1,e2,m2,e6,e5,hlt',g1,hw',gv,hm0,hn,ha,hb,hw1]
       refine ih hlt _ ⟨?_,?_,?_,?_,_,?_,hr,by omega,by omega⟩ <;> simp [e1,e2,m2,h6,q12]
      ·rw [if_neg (fun h=>by omega)] at hr
       simp [q1O,-Option.bind_some,-Int.toNat_lt,-List.map_map,List.range_succ,e1,e2,m2,e6,e5,hlt',g1,hw',gv,hm0,hn,ha,hb,hw1]
       refine ih hlt _ ⟨?_,?_,?_,?_,a,?_,hr,a0,a1⟩ <;> simp [e1,e2,m2,e5,h6,q12]
    ·rw [if_neg (fun h=>hn h.1)] at hr
     simp [q1O,-Option.bind_some,-Int.toNat_lt,-List.map_map,List.range_succ,e1,e2,m2,e6,e5,hlt',g1,hw',gv,hm0,hn]
     refine ih hlt _ ⟨?_,?_,?_,?_,a,?_,hr,a0,a1⟩ <;> simp [e1,e2,m2,e5,h6,q12]
   ·have hlt':¬ (i:Int)<x.mems.length:=by omega
    simp [q1O,-Option.bind_some,-Int.toNat_lt,-List.map_map,List.range_succ,e2,m2,e6,hlt']
    rw [List.drop_eq_nil_of_le (by omega),runiR] at hr
    exact hk _ _ ⟨rfl,by simp [e5,hr]⟩
  ·exact ⟨by simp,by simp,by simp [q12,h6],by simp,-1,by simp,rfl,by omega,by omega⟩
  ·obtain ⟨rfl,e5⟩:=h
   simp [-Option.bind_some,-Int.toNat_lt,-List.map_map,List.range_succ,e5]
 ·simp [q2L,-Option.bind_some,-Int.toNat_lt,-List.map_map,List.range_succ,typC,h5,h6,rrndP]
def below (v:Vec) (k:Int):Vec:=fun j=>if v j<k then v j else -1
theorem rrecR_iff {N:Nat} {v:Vec} (hv:inB N v) {k:Int} (hk:0<=k/\k<q0V):∀ (l:List Mem) (a:Int),(∀ m∈l,0<=m.ty/\m.ty<N)->-1<=a/\a<k->k<=recR v l (a + 1)->(q99 (below v k) l a=k ↔ recR v l (a + 1)=k)
 | [],a,_,_,_=>by simp only [q99,recR]
 | m :: r,a,hm,ha,hr=>by
  rw [q99,recR]
  rw [recR] at hr
  have hmi:=hm m List.mem_cons_self
  have hvm:=hv m.ty.toNat (by omega)
  by_cases hh:m.has=true
  ·rw [if_pos hh,if_pos hh]
   rw [if_pos hh] at hr
   exact rrecR_iff hv hk r a (fun x hx=>hm x (List.mem_cons_of_mem _ hx)) ha hr
  ·rw [if_neg hh,if_neg hh]
   rw [if_neg hh] at hr
   by_cases hb:v m.ty.toNat<k
   ·have e1:below v k m.ty.toNat=v m.ty.toNat:=if_pos hb
    rw [e1,if_neg (by omega)]
    rw [show max (a + 1) (v m.ty.toNat + 1)=max a (v m.ty.toNat) + 1 from by omega] at hr ⊢
    exact rrecR_iff hv hk r _ (fun x hx=>hm x (List.mem_cons_of_mem _ hx)) (by omega) hr
   ·have e1:below v k m.ty.toNat=-1:=if_neg hb
    rw [e1,if_pos (by omega)]
    have:=(recR_ge (v:=v) r (max (a + 1) (v m.ty.toNat + 1))).1
    constructor <;> intro h <;> omega
theorem uniR_le {v:Vec}:∀ (l:List Mem) (a:Int),uniR v l a<=a
 | [],a=>Int.le_refl _
 | x :: r,a=>by
  rw [uniR]
  have:=uniR_le (v:=v) r (min a (v x.ty.toNat + 1))
  omega
theorem runiR_iff {N:Nat} {v:Vec} (hv:inB N v) {k:Int} (hk:0<=k/\k<q0V):∀ (l:List Mem) (a b:Int),(∀ m∈l,0<=m.ty/\m.ty<N)->(a=-1/\k<b\/a=k/\b=k)->k<=uniR v l b->(runiR (below v k) l a=k ↔ uniR v l b=k)
 | [],a,b,_,hab,hr=>by
  simp only [runiR,uniR]
  omega
 | m :: r,a,b,hm,hab,hr=>by
  rw [runiR,uniR]
  rw [uniR] at hr
  have hmi:=hm m List.mem_cons_self
  have hvm:=hv m.ty.toNat (by omega)
  have hle:=uniR_le (v:=v) r (min b (v m.ty.toNat + 1))
  refine runiR_iff hv hk r _ _ (fun x hx=>hm x (List.mem_cons_of_mem _ hx)) ?_ hr
  by_cases hb:v m.ty.toNat<k
  ·have e1:below v k m.ty.toNat=v m.ty.toNat:=if_pos hb
   rw [e1]
   split <;> omega
  ·have e1:below v k m.ty.toNat=-1:=if_neg hb
   rw [e1]
   rw [if_neg (by omega)]
   omega
theorem rrnd_iff {N:Nat} {v:Vec} (hv:inB N v) {k:Int} (hk:0<=k/\k<q0V) {x:Typ} (hx:q1f N x) {r:Int} (h:rndP x v=r) (hr:k<=r):rrndP x (below v k)=k ↔ r=k:=by
 have hnr:q0V=1073741824:=rfl
 unfold rrndP
 by_cases h5:x.kind=5
 ·rw [if_pos h5]
  simp only [rndP,h5,if_true] at h
  have:=rrecR_iff hv hk x.mems (-1) hx.mems (by omega) (by show k<=recR v x.mems 0; omega)
  rw [this]
  show recR v x.mems 0=k ↔ r=k
  omega
 ·rw [if_neg h5]
  by_cases h6:x.kind=6
  ·rw [if_pos h6]
   simp only [rndP,h5,h6,if_true,if_false] at h
   rw [runiR_iff hv hk x.mems (-1) q0V hx.mems (.inl ⟨rfl,by omega⟩) (by omega)]
   omega
  ·rw [if_neg h6]
   simp only [rndP,h5,h6,if_false] at h
   omega
section
theorem recR_ex {v:Vec}:∀ (l:List Mem) (a:Int),recR v l a=a\/∃ m∈l,m.has=false/\recR v l a=v m.ty.toNat + 1
 | [],a=>.inl rfl
 | x :: r,a=>by
  rw [recR]
  by_cases hx:x.has=true
  ·rw [if_pos hx]
   rcases recR_ex (v:=v) r a with h | ⟨m,hm,h⟩
   ·exact .inl h
   ·exact .inr ⟨m,List.mem_cons_of_mem _ hm,h⟩
  ·rw [if_neg hx]
   rcases recR_ex (v:=v) r (max a (v x.ty.toNat + 1)) with h | ⟨m,hm,h⟩
   ·by_cases hc:v x.ty.toNat + 1<=a
    ·left; omega
    ·right; exact ⟨x,List.mem_cons_self,by simpa using hx,by omega⟩
   ·exact .inr ⟨m,List.mem_cons_of_mem _ hm,h⟩
theorem sumV_mono {u w:Vec}:∀ N,(∀ j,j<N->u j<=w j)->sumV N u<=sumV N w
 | 0,_=>Int.le_refl _
 | n + 1,h=>by
  have:=sumV_mono n fun j hj=>h j (by omega)
  have:=h n (by omega)
  simp only [sumV]
  omega
theorem sumV_more {u w:Vec}:∀ N,(∀ j,j<N->u j<=w j)->∀ j,j<N->u j + 1<=w j->sumV N u + 1<=sumV N w
 | 0,_,j,hj,_=>by omega
 | n + 1,h,j,hj,hlt=>by
  simp only [sumV]
  by_cases e:j=n
  ·subst e
   have:=sumV_mono j fun i hi=>h i (by omega)
   omega
  ·have:=sumV_more n (fun i hi=>h i (by omega)) j (by omega) hlt
   have:=h n (by omega)
   omega
theorem uniR_at {v:Vec}:∀ (l:List Mem) (a:Int),∀ m∈l,uniR v l a<=v m.ty.toNat + 1
 | [],a,m,h=>by cases h
 | x :: r,a,m,h=>by
  rw [uniR]
  rcases List.mem_cons.1 h with rfl | h
  ·have:=uniR_le (v:=v) r (min a (v m.ty.toNat + 1))
   omega
  ·exact uniR_at r _ m h
def ind (v:Vec) (k:Int):Vec:=fun j=>if v j<k then 1 else 0
theorem ind_le (v:Vec) (k:Int):∀ N:Nat,sumV N (ind v k)<=N
 | 0=>Int.le_refl _
 | n + 1=>by
  have:=ind_le v k n
  have:ind v k n<=1:=by unfold ind; split <;> omega
  simp only [sumV]
  omega
theorem ind_0 (v:Vec) (k:Int):∀ N:Nat,0<=sumV N (ind v k)
 | 0=>Int.le_refl _
 | n + 1=>by
  have:=ind_0 v k n
  have:0<=ind v k n:=by unfold ind; split <;> omega
  simp only [sumV]
  omega
section
variable {S:List Typ} {v:Vec} (hW:∀ x∈S,q1f S.length x) (hv:inB S.length v) (hf:∀ j,(hj:j<S.length)->rndP S[j] v=v j)
include hW hv hf
theorem rnd_step {j:Nat} (hj:j<S.length) {k:Int} (hk:0<=k) (h:v j=k + 1) (hn:k + 1<q0V):∃ i,i<S.length/\v i=k:=by
 have hnr:q0V=1073741824:=rfl
 have hx:=hW _ (List.getElem_mem hj)
 have hfj:=hf j hj
 generalize S[j]=x at *
 unfold rndP at hfj
 by_cases h5:x.kind=5
 ·rw [if_pos h5] at hfj
  rcases recR_ex (v:=v) x.mems 0 with e | ⟨m,hm,_,e⟩
  ·omega
  ·have:=hx.mems m hm
   exact ⟨m.ty.toNat,by omega,by omega⟩
 ·rw [if_neg h5] at hfj
  by_cases h6:x.kind=6
  ·rw [if_pos h6] at hfj
   rcases uniR_ex (v:=v) x.mems q0V with e | ⟨m,hm,e⟩
   ·omega
   ·have:=hx.mems m hm
    exact ⟨m.ty.toNat,by omega,by omega⟩
  ·rw [if_neg h6] at hfj
   omega
theorem rnd_cnt (K:Nat):(K:Int)<q0V->(∃ j,j<S.length/\v j=K)->(K:Int) + 1<=sumV S.length (ind v ((K:Int) + 1)):=by
 induction K with
 | zero =>
  intro hK hex
  obtain ⟨j,hj,h⟩:=hex
  have h1:=sumV_more (u:=ind v 0) (w:=ind v 1) S.length (fun i _=>by unfold ind; split <;> split <;> omega) j hj (by
   unfold ind
   rw [if_neg (by omega),if_pos (by omega)]
   omega)
  have:=ind_0 v 0 S.length
  simp only [Int.natCast_zero,Int.zero_add]
  omega
 | succ K ih =>
  intro hK hex
  obtain ⟨j,hj,h⟩:=hex
  have h0:=ih (by omega) (rnd_step hW hv hf hj (k:=(K:Int)) (by omega) (by omega) (by omega))
  have h1:=sumV_more (u:=ind v ((K:Int) + 1)) (w:=ind v (((K + 1:Nat):Int) + 1)) S.length (fun i _=>by unfold ind; split <;> split <;> omega) j hj (by
   unfold ind
   rw [if_neg (by omega),if_pos (by omega)]
   omega)
  omega
theorem rnd_bound {j:Nat} (hj:j<S.length) (h:v j<q0V):v j<S.length:=by
 have h0:=hv j hj
 have:=rnd_cnt hW hv hf (v j).toNat (by omega) ⟨j,hj,by omega⟩
 have:=ind_le v (((v j).toNat:Int) + 1) S.length
 omega
end
theorem recF_pos {w:Vec}:∀ (l:List Mem) (c:Int),(∀ m∈l,1<=w m.ty.toNat)->1<=c->1<=recF w l c
 | [],c,_,hc=>hc
 | x :: r,c,hm,hc=>by
  rw [recF]
  have h1:=hm x List.mem_cons_self
  have h2:1 * 1<=c * w x.ty.toNat:=Int.mul_le_mul hc h1 (by decide) (by omega)
  exact recF_pos r _ (fun m h=>hm m (List.mem_cons_of_mem _ h)) (by omega)
theorem recF_0 {w:Vec}:∀ (l:List Mem),recF w l 0=0
 | []=>rfl
 | x :: r=>by
  rw [recF,Int.zero_mul,show min (2:Int) 0=0 from by decide]
  exact recF_0 r
theorem recF_no {w:Vec}:∀ (l:List Mem) (c:Int),(∃ m∈l,w m.ty.toNat=0)->recF w l c=0
 | [],c,h=>by obtain ⟨m,hm,_⟩:=h; cases hm
 | x :: r,c,h=>by
  rw [recF]
  by_cases h0:w x.ty.toNat=0
  ·rw [h0,Int.mul_zero,show min (2:Int) 0=0 from by decide]
   exact recF_0 r
  ·obtain ⟨m,hm,e⟩:=h
   rcases List.mem_cons.1 hm with rfl | hm
   ·exact absurd e h0
   ·exact recF_no r _ ⟨m,hm,e⟩
theorem sumF_ge {w:Vec}:∀ (l:List Mem) (c:Int),(∀ m∈l,0<=w m.ty.toNat)->c<=sumF w l c/\((∃ m∈l,1<=w m.ty.toNat)->c + 1<=sumF w l c)
 | [],c,_=>⟨Int.le_refl _,fun h=>by obtain ⟨m,hm,_⟩:=h; cases hm⟩
 | x :: r,c,hm=>by
  rw [sumF]
  have h0:=hm x List.mem_cons_self
  obtain ⟨h1,h2⟩:=sumF_ge r (c + w x.ty.toNat) fun m h=>hm m (List.mem_cons_of_mem _ h)
  refine ⟨by omega,fun h=>?_⟩
  obtain ⟨m,hmem,hp⟩:=h
  rcases List.mem_cons.1 hmem with rfl | hmem
  ·omega
  ·have:=h2 ⟨m,hmem,hp⟩
   omega
theorem sumF_no {w:Vec}:∀ (l:List Mem) (c:Int),(∀ m∈l,w m.ty.toNat=0)->sumF w l c=c
 | [],c,_=>rfl
 | x :: r,c,hm=>by
  rw [sumF,hm x List.mem_cons_self,Int.add_zero]
  exact sumF_no r c fun m h=>hm m (List.mem_cons_of_mem _ h)
theorem cnt_other {N:Nat} {w:Vec} (hw:inR N w) {x:Typ} (hx:q1f N x) (hg:q0N x=true) (h5:x.kind≠5) (h6:x.kind≠6):1<=cntP x w:=by
 unfold cntP
 by_cases h2:x.kind=2
 ·rw [if_pos h2]; split <;> omega
 rw [if_neg h2]
 by_cases h3:x.kind=3
 ·rw [if_pos h3]; split <;> omega
 rw [if_neg h3]
 by_cases h4:x.kind=4
 ·rw [if_pos h4]
  unfold q0N at hg
  rw [Bool.and_eq_true,Bool.and_eq_true] at hg
  have ho:=hg.2.1
  unfold q62 at ho
  rw [if_neg h2,if_neg h3,if_pos h4,Bool.and_eq_true] at ho
  have hs:=ho.2
  unfold q6U at hs
  rw [Bool.and_eq_true] at hs
  have:=of_decide_eq_true hs.1
  omega
 rw [if_neg h4,if_neg h5,if_neg h6]
 by_cases h7:x.kind=7
 ·rw [if_pos h7]; split <;> omega
 rw [if_neg h7]
 by_cases h8:x.kind=8
 ·rw [if_pos h8]; split <;> omega
 rw [if_neg h8]
 by_cases h9:x.kind=9
 ·rw [if_pos h9]
  have:=hx.elem (by omega)
  have:=hw x.elem.toNat (by omega)
  omega
 rw [if_neg h9]
 omega
section
variable {S:List Typ} {v w:Vec} (hW:∀ x∈S,q1f S.length x) (hG:∀ x∈S,q0N x=true) (hv:inB S.length v) (hf:∀ j,(hj:j<S.length)->rndP S[j] v=v j) (hd:∀ j,(hj:j<S.length)->∀ m∈S[j].mems,m.has=true->∀ y,S[m.ty.toNat]?=some y->y.kind≠5/\y.kind≠6) (hw:Low S.length (FP S) w) (fw:∀ j,j<S.length->FP S j w=w j)
include hW hG hv hf hd hw fw
theorem rnd_pos (k:Nat):∀ j,(hj:j<S.length)->v j<=k->v j<q0V->1<=w j:=by
 have hnr:q0V=1073741824:=rfl
 have other:∀ j,(hj:j<S.length)->S[j].kind≠5->S[j].kind≠6->1<=w j:=fun j hj h5 h6=>by
  have:=cnt_other hw.rng (hW _ (List.getElem_mem hj)) (hG _ (List.getElem_mem hj)) h5 h6
  have h:=fw j hj
  unfold FP at h
  rw [List.getElem?_eq_getElem hj] at h
  simp only at h
  omega
 have rec5:∀ j,(hj:j<S.length)->S[j].kind=5->v j<q0V->(∀ m∈S[j].mems,m.has=false->v m.ty.toNat<v j->1<=w m.ty.toNat)->1<=w j:=fun j hj h5 hlt hih=>by
  have h:=fw j hj
  unfold FP at h
  rw [List.getElem?_eq_getElem hj] at h
  simp only [cntP,h5] at h
  have hfj:=hf j hj
  simp only [rndP,h5,if_true] at hfj
  have hpos:=recF_pos (w:=w) S[j].mems 1 (fun m hm=>by
   have hmi:=(hW _ (List.getElem_mem hj)).mems m hm
   have hml:m.ty.toNat<S.length:=by omega
   cases hh:m.has with
   | true =>
    obtain ⟨q5,q6⟩:=hd j hj m hm hh _ (List.getElem?_eq_getElem hml)
    exact other _ hml q5 q6
   | false =>
    have:=(recR_ge (v:=v) S[j].mems 0).2 m hm hh
    exact hih m hm hh (by omega)) (Int.le_refl _)
  simp at h
  omega
 induction k with
 | zero =>
  intro j hj hk hlt
  by_cases h5:S[j].kind=5
  ·refine rec5 j hj h5 hlt fun m hm hh hl=>?_
   have hmi:=(hW _ (List.getElem_mem hj)).mems m hm
   have:=hv m.ty.toNat (by omega)
   omega
  by_cases h6:S[j].kind=6
  ·have hfj:=hf j hj
   have h0:=hv j hj
   simp only [rndP,h6,if_true] at hfj
   rcases uniR_ex (v:=v) S[j].mems q0V with e | ⟨m,hm,e⟩
   ·simp at hfj; omega
   ·have hmi:=(hW _ (List.getElem_mem hj)).mems m hm
    have:=hv m.ty.toNat (by omega)
    simp at hfj; omega
  exact other j hj h5 h6
 | succ k ih =>
  intro j hj hk hlt
  by_cases h5:S[j].kind=5
  ·refine rec5 j hj h5 hlt fun m hm hh hl=>?_
   have hmi:=(hW _ (List.getElem_mem hj)).mems m hm
   exact ih _ (by omega) (by omega) (by omega)
  by_cases h6:S[j].kind=6
  ·have hfj:=hf j hj
   simp only [rndP,h6,if_true] at hfj
   rcases uniR_ex (v:=v) S[j].mems q0V with e | ⟨m,hm,e⟩
   ·simp at hfj; omega
   ·have hmi:=(hW _ (List.getElem_mem hj)).mems m hm
    simp at hfj
    have hp:=ih m.ty.toNat (by omega) (by omega) (by omega)
    have h:=fw j hj
    unfold FP at h
    rw [List.getElem?_eq_getElem hj] at h
    simp only [cntP,h6] at h
    have:=(sumF_ge (w:=w) S[j].mems 0 (fun m hm=>by
     have:=(hW _ (List.getElem_mem hj)).mems m hm
     exact (hw.rng m.ty.toNat (by omega)).1)).2 ⟨m,hm,hp⟩
    simp at h
    omega
  exact other j hj h5 h6
theorem cnt_rnd (hN:S.length<=32) {j:Nat} (hj:j<S.length):0<w j ↔ v j<q0V:=by
 have hnr:q0V=1073741824:=rfl
 constructor
 ·intro hp
  have hb:=fun i hi h=>rnd_bound (v:=v) hW hv hf (j:=i) hi h
  have hle:=hw.least (fun i=>if v i<q0V then 2 else 0) (fun i _=>by show 0<=(if v i<q0V then (2:Int) else 0)/\(if v i<q0V then (2:Int) else 0)<=2; split <;> omega) (fun i hi=>by
   show FP S i _<=if v i<q0V then (2:Int) else 0
   unfold FP
   rw [List.getElem?_eq_getElem hi]
   simp only
   split
   ·omega
   ·rename_i hno
    have h0:=hv i hi
    have hfi:=hf i hi
    have hWi:=hW _ (List.getElem_mem hi)
    generalize S[i]=x at *
    have hvi:v i=q0V:=by omega
    rw [hvi] at hfi
    have hz:∀ m∈x.mems,q0V<=v m.ty.toNat + 1->(if v m.ty.toNat<q0V then (2:Int) else 0)=0:=fun m hm hge=>by
     have hmi:=hWi.mems m hm
     refine if_neg fun hlt=>?_
     have:=hb m.ty.toNat (by omega) hlt
     omega
    unfold rndP at hfi
    by_cases h5:x.kind=5
    ·rw [if_pos h5] at hfi
     simp only [cntP,h5]
     rcases recR_ex (v:=v) x.mems 0 with e | ⟨m,hm,_,e⟩
     ·omega
     ·rw [recF_no x.mems 1 ⟨m,hm,hz m hm (by omega)⟩]
      simp
      decide
    ·rw [if_neg h5] at hfi
     by_cases h6:x.kind=6
     ·rw [if_pos h6] at hfi
      simp only [cntP,h6]
      rw [sumF_no x.mems 0 fun m hm=>hz m hm (by have:=uniR_at (v:=v) x.mems q0V m hm; omega)]
      simp
      decide
     ·rw [if_neg h6] at hfi
      omega) j hj
  by_cases h:v j<q0V
  ·exact h
  ·rw [if_neg h] at hle
   omega
 ·intro h
  have:=rnd_pos hW hG hv hf hd hw fw (v j).toNat j hj (by have:=hv j hj; omega) h
  omega
end
end
theorem known_ev (b:Bool) (S:List Typ) (hs:(⟨b,S⟩:Sch).fine) (h64:(⟨b,S⟩:Sch).d64) (h0:q28 S=0) {i:Nat} (hi:i<S.length):evA 33 [.agg (schC ⟨b,S⟩),.int .i64 i] (.int .i64 0):=by
 have hr:=right_ev ⟨b,S⟩ hs h64
 simp only [evA,schC,h0] at hr
 have h1:¬ (S.length:Int)<=i:=by omega
 have h2:¬ (i:Int)<0:=by omega
 refine q00 (c:=q3p) rfl rfl ?_
 simp [q3p,-Option.bind_some,-Int.toNat_lt,-List.map_map,List.range_succ,schC,hr,h1,h2]
theorem rat_ev (b:Bool) (S:List Typ) (hs:(⟨b,S⟩:Sch).fine) (h64:(⟨b,S⟩:Sch).d64) (h0:q28 S=0) {i:Nat} (hi:i<S.length):evA 36 [.agg (schC ⟨b,S⟩),.int .i64 i] (.int .i64 0):=by
 have hr:=rerror_ev ⟨b,S⟩ hs h64
 simp only [evA,schC,h0] at hr
 have h1:¬ (S.length:Int)<=i:=by omega
 have h2:¬ (i:Int)<0:=by omega
 refine q00 (c:=q6I) rfl rfl ?_
 simp [q6I,-Option.bind_some,-Int.toNat_lt,-List.map_map,List.range_succ,schC,hr,h1,h2]
theorem single_ev (b:Bool) (S:List Typ) (hs:(⟨b,S⟩:Sch).fine) (h64:(⟨b,S⟩:Sch).d64) (h0:q28 S=0) {w:Vec} (hw:evA 31 [.agg (schC ⟨b,S⟩)] (.sl false (vecC S.length w))) {i:Nat} (hi:i<S.length):evA 15 [.agg (schC ⟨b,S⟩),.int .i64 i] (.tup [.bool (decide (w i=1)),.int .i64 0]):=by
 have hk:=known_ev b S hs h64 h0 hi
 have gw:=q1h w (t:=(i:Int)) (N:=S.length) (by omega)
 simp only [Int.toNat_natCast] at gw
 simp only [evA,schC] at hk hw
 refine q00 (c:=q36) rfl rfl ?_
 simp [q36,-Option.bind_some,-Int.toNat_lt,-List.map_map,List.range_succ,schC,hk,hw,gw]
theorem rsingle_ev (b:Bool) (S:List Typ) (hs:(⟨b,S⟩:Sch).fine) (h64:(⟨b,S⟩:Sch).d64) (h0:q28 S=0) {w:Vec} (hw:evA 32 [.agg (schC ⟨b,S⟩)] (.sl false (vecC S.length w))) {i:Nat} (hi:i<S.length):evA 16 [.agg (schC ⟨b,S⟩),.int .i64 i] (.tup [.bool (decide (w i=1)),.int .i64 0]):=by
 have hk:=rat_ev b S hs h64 h0 hi
 have gw:=q1h w (t:=(i:Int)) (N:=S.length) (by omega)
 simp only [Int.toNat_natCast] at gw
 simp only [evA,schC] at hk hw
 refine q00 (c:=q3X) rfl rfl ?_
 simp [q3X,-Option.bind_some,-Int.toNat_lt,-List.map_map,List.range_succ,schC,hk,hw,gw]
theorem typZ_mem {l:List Nde} (hl:oks l) {i:Nat} (hi:i<l.length) {m:Mem} (hmem:m∈(typZ l (i:Int)).mems):∃ rc id p,p.ok/\q6d l (i:Int) id p=true/\m=memZ l (i:Int) rc id p:=by
 have hx:=q3e hl hi
 unfold typZ at hmem
 generalize ndAt l (i:Int)=x at *
 have hp:∀ rc,m∈q2E l (i:Int) rc x.parts->∃ rc id p,p.ok/\q6d l (i:Int) id p=true/\m=memZ l (i:Int) rc id p:=fun rc hmem=>by
  obtain ⟨id,p,_,_,h1,h2,h3⟩:=q5y 12 m hmem
  exact ⟨rc,id,p,hx.2.2.2.2.2 p h1,h2,h3⟩
 simp only at hmem
 split at hmem <;> first | (simp [Typ.of] at hmem; done) | exact hp _ hmem | skip
 all_goals split at hmem <;> first | (simp [Typ.of] at hmem; done) | exact hp _ hmem
theorem dflt_kind {l:List Nde} (hl:oks l) {T:List Typ} (h:rwS l.length (q2R l) T):∀ j,(hj:j<T.length)->∀ m∈T[j].mems,m.has=true->∀ y,T[m.ty.toNat]?=some y->y.kind≠5/\y.kind≠6:=fun j hj m hm hh y hy=>by
 have hjl:j<l.length:=by rw [<- q8i h]; exact hj
 obtain ⟨bs,hbs,hb⟩:=q7X h hj
 have hm':m∈bs:=by rw [hb] at hm; exact hm
 obtain ⟨i,hi,rfl⟩:=List.getElem_of_mem hm'
 have hia:i<(typZ l (j:Int)).mems.length:=by rw [hbs.1]; exact hi
 have hr:=hbs.2 i _ _ (List.getElem?_eq_getElem hia) (List.getElem?_eq_getElem hi)
 rcases hr.2.2.2 with h4 | ⟨_,_,h5,_⟩
 ·obtain ⟨rc,id,p,hpo,hp,he⟩:=typZ_mem hl hjl (List.getElem_mem hia)
  rw [h4,he] at hh hy
  simp only [q6d,decide_eq_true_eq] at hp
  have hrg:=q9d hl (j:Int) p.ty (by omega)
  simp only [memZ,Bool.and_eq_true] at hh hy
  have h2:=hh.2
  unfold q6r at h2
  split at h2
  ·cases h2
  ·rename_i hk
   obtain ⟨ht,hty⟩:=List.getElem?_eq_some_iff.1 hy
   have htl:(tgtZ l (j:Int) p.ty).toNat<l.length:=by omega
   have hkd:=typZ_kind l htl
   have e1:(((tgtZ l (j:Int) p.ty).toNat:Nat):Int)=tgtZ l (j:Int) p.ty:=by omega
   have hrt:=rwT_kind (q7X h ht)
   rw [e1] at hkd hrt
   rw [<- hty,hrt,hkd]
   rw [if_neg (fun q=>hk (.inr q.1))]
   split
   ·decide
   ·split
    ·constructor <;> omega
    ·decide
 ·rw [h5] at hh; cases hh
theorem ints_same (l:List Int) (hl:l.length<=1000) (b c:Bool):evA 25 [.sl b (l.map fun x=>[.int .i64 x]),.sl c (l.map fun x=>[.int .i64 x])] (.bool true):=by
 refine q00 (c:=q5e) rfl rfl ?_
 simp [q5e,-Option.bind_some,-Int.toNat_lt,-List.map_map,List.range_succ]
 refine q0h l.length (fun i s=>(s.env 0).v=.sl b (l.map fun x=>[.int .i64 x])/\(s.env 1).v=.sl c (l.map fun x=>[.int .i64 x])/\(s.env 5).v=.int .i64 i) (fun e s=>e=.exit 0) (fun i hi s k h ih hk=>?_) _ _ ?_ (fun e s h=>?_)
 ·obtain ⟨e0,e1,e5⟩:=h
  refine q04 ?_
  by_cases hlt:i<l.length
  ·have hlt':(i:Int)<l.length:=by omega
   have g1:(l.map fun x=>[AV.int .i64 x])[i]?=some [.int .i64 l[i]]:=by simp [hlt]
   have hw':=q0W (i:=i) (by omega)
   generalize l[i]=x at *
   simp [q4R,-Option.bind_some,-Int.toNat_lt,-List.map_map,List.range_succ,e0,e1,e5,hlt',g1,hw']
   refine ih hlt _ ⟨?_,?_,?_⟩ <;> simp [e0,e1]
  ·have hlt':¬ (i:Int)<l.length:=by omega
   simp [q4R,-Option.bind_some,-Int.toNat_lt,-List.map_map,List.range_succ,e0,e5,hlt']
   exact hk _ _ rfl
 ·exact ⟨by simp,by simp,by simp⟩
 ·subst h
  simp [-Option.bind_some,-Int.toNat_lt,-List.map_map,List.range_succ]
theorem bools_same (l:List Bool) (hl:l.length<=1000) (b c:Bool):evA 20 [.sl b (l.map fun x=>[.bool x]),.sl c (l.map fun x=>[.bool x])] (.bool true):=by
 refine q00 (c:=q4A) rfl rfl ?_
 simp [q4A,-Option.bind_some,-Int.toNat_lt,-List.map_map,List.range_succ]
 refine q0h l.length (fun i s=>(s.env 0).v=.sl b (l.map fun x=>[.bool x])/\(s.env 1).v=.sl c (l.map fun x=>[.bool x])/\(s.env 5).v=.int .i64 i) (fun e s=>e=.exit 0) (fun i hi s k h ih hk=>?_) _ _ ?_ (fun e s h=>?_)
 ·obtain ⟨e0,e1,e5⟩:=h
  refine q04 ?_
  by_cases hlt:i<l.length
  ·have hlt':(i:Int)<l.length:=by omega
   have g1:(l.map fun x=>[AV.bool x])[i]?=some [.bool l[i]]:=by simp [hlt]
   have hw':=q0W (i:=i) (by omega)
   generalize l[i]=x at *
   simp [q4l,-Option.bind_some,-Int.toNat_lt,-List.map_map,List.range_succ,e0,e1,e5,hlt',g1,hw']
   refine ih hlt _ ⟨?_,?_,?_⟩ <;> simp [e0,e1]
  ·have hlt':¬ (i:Int)<l.length:=by omega
   simp [q4l,-Option.bind_some,-Int.toNat_lt,-List.map_map,List.range_succ,e0,e5,hlt']
   exact hk _ _ rfl
 ·exact ⟨by simp,by simp,by simp⟩
 ·subst h
  simp [-Option.bind_some,-Int.toNat_lt,-List.map_map,List.range_succ]
theorem below_top {N:Nat} {v:Vec} (hN:N<=32) (hb:∀ j,j<N->v j<q0V->v j<N) (hv:inB N v):∀ j,j<N->below v ((N:Int) + 1) j=q4z (v j):=fun j hj=>by
 have h0:=hv j hj
 unfold below q4z
 by_cases h:v j<q0V
 ·have:=hb j hj h
  rw [if_pos (by omega),if_neg (by omega)]
 ·have hnr:q0V=1073741824:=rfl
  rw [if_neg (by omega),if_pos (by omega)]
def RREnd (N:Nat) (v:Vec) (e:Ex) (s:MSt):Prop:=e=.ret/\∃ t n,(s.env 2).v=.ref t n 1 0 N N/\(s.env 3).v=.int .i64 0/\s.mem t n=some (q0f (vecC N (below v ((N:Int) + 1))))
theorem rrounds_run (b:Bool) (S:List Typ) (hs:(⟨b,S⟩:Sch).fine) (h64:(⟨b,S⟩:Sch).d64) (h0:q28 S=0) (hpos:0<S.length) {v:Vec} (hv:inB S.length v) (hf:∀ j,(hj:j<S.length)->rndP S[j] v=v j) (k:Ex->MSt->Option RV) (r:RV) (hk:∀ e s',RREnd S.length v e s'->k e s'=some r):q2s.code.run (evC allT q02) (evK allT q02) (MSt.init [.agg (schC ⟨b,S⟩)] none) k=some r:=by
 have hright:=rerror_ev ⟨b,S⟩ hs h64
 simp only [evA,schC,h0] at hright
 have hv0:valid S=0:=by
  unfold q28 at h0
  by_cases h:valid S=0
  ·exact h
  ·rw [if_neg h] at h0; exact absurd h0 h
 have hW:=q3l hv0
 have hN:=q4L hv0
 have hnr:q0V=1073741824:=rfl
 obtain ⟨N,hNN⟩:∃ N,N=S.length:=⟨_,rfl⟩
 rw [<- hNN] at hN hk hv
 have hb8:N * 8<=140737488355328:=by omega
 have hb1:N<=140737488355328:=by omega
 simp [q2s,-Option.bind_some,-Int.toNat_lt,-List.map_map,List.range_succ,-q0C,-q0d,q0l,q0m,q0c,q0b,schC,hright,<- hNN,hb8,hb1]
 refine q0h N (fun i σ=>(σ.env 1).v=.ptr 1 1 0/\σ.mem 1 1=some [⟨.sl b (S.map typC),.no⟩]/\(σ.env 5).v=.ref 18 4 1 0 N N/\(σ.env 6).v=.int .i64 i/\σ.mem 18 4=some (q0f (vecC N fun j=>if j<i then -1 else 0))/\4<σ.next)
  (fun e σ=>e=.exit 0/\(σ.env 1).v=.ptr 1 1 0/\σ.mem 1 1=some [⟨.sl b (S.map typC),.no⟩]/\(σ.env 5).v=.ref 18 4 1 0 N N/\σ.mem 18 4=some (q0f (vecC N fun _=>-1))/\4<σ.next) (fun i hi σ k4 h ih hk4=>?_) _ _ ?_ (fun e σ h=>?_)
 ·obtain ⟨e1,m1,e5,e6,m18,lt4⟩:=h
  refine q04 ?_
  by_cases hlt:i<N
  ·have hlt':(i:Int)<N:=by omega
   have hw':=q0W (i:=i) (by omega)
   have hst:=q4W N (fun j=>if j<i then -1 else 0) (fun j=>if j<i + 1 then -1 else 0) hlt (x:=-1) (by simp) (fun j hj=>by simp [show (j<i + 1)=(j<i) from by simp only [eq_iff_iff]; omega])
   simp [q3L,-Option.bind_some,-Int.toNat_lt,-List.map_map,List.range_succ,-q0C,-q0d,q0l,q0m,q0c,q0b,e5,e6,hlt',hlt,m18,hst,hw']
   refine ih hlt _ ⟨?_,?_,?_,?_,?_,?_⟩
   case refine_6=>first | omega | (dsimp only; omega)
   all_goals simp [e1,m1,e5]
  ·have hlt':¬ (i:Int)<N:=by omega
   simp [q3L,-Option.bind_some,-Int.toNat_lt,-List.map_map,List.range_succ,-q0C,-q0d,q0l,q0m,q0c,q0b,e5,e6,hlt']
   refine hk4 _ _ ⟨rfl,by simp [e1],by simp [m1],by simp [e5],?_,by dsimp only; omega⟩
   rw [show vecC N (fun _=>(-1:Int))=vecC N (fun j=>if j<i then -1 else 0) from q1s fun j hj=>by rw [if_pos (by omega)]]
   simp [m18]
 ·refine ⟨?_,?_,?_,?_,?_,?_⟩
  case refine_5=>simp [vec0']
  case refine_6=>first | omega | (dsimp only; omega)
  all_goals simp
 obtain ⟨rfl,e1,m1,e5,m18,lt4⟩:=h
 simp [-Option.bind_some,-Int.toNat_lt,-List.map_map,List.range_succ,-q0C,-q0d,q0l,q0m,q0c,q0b]
 refine q0h (N + 1) (fun q σ=>(σ.env 1).v=.ptr 1 1 0/\σ.mem 1 1=some [⟨.sl b (S.map typC),.no⟩]/\(σ.env 7).v=.int .i64 q/\(σ.env 7).a=.no/\∃ t n,(σ.env 5).v=.ref t n 1 0 N N/\σ.mem t n=some (q0f (vecC N (below v q)))/\n<σ.next/\t≠1)
  (fun e σ=>e=.exit 2/\∃ t n,(σ.env 5).v=.ref t n 1 0 N N/\σ.mem t n=some (q0f (vecC N (below v ((N:Int) + 1))))) (fun q hq σ k3 h ih hk3=>?_) _ _ ?_ (fun e σ h=>?_)
 ·obtain ⟨e1,m1,e7,a7,t,n,e5,mt,ltn,t1⟩:=h
  refine q04 ?_
  by_cases hqN:q<N + 1
  case neg =>
   have hq':¬ (q:Int)<=N:=by omega
   have hqe:q=N + 1:=by omega
   simp [q3P,-Option.bind_some,-Int.toNat_lt,-List.map_map,List.range_succ,-q0C,-q0d,q0l,q0m,q0c,q0b,e1,m1,e7,<- hNN,hq']
   refine hk3 _ _ ⟨rfl,t,n,by simp [e5],?_⟩
   rw [show ((N:Int) + 1)=(q:Int) from by omega]
   simp [mt]
  have hq':(q:Int)<=N:=by omega
  have hwq:=q0W (i:=q) (by omega)
  have hel:=q5I N (below v q)
  have hroom:q1E 8 N=true:=by rw [q0s]; omega
  have hvel:=q7y N (below v q)
  have hvl:=q7K N (below v q)
  have hvn:¬ vecC N (below v q)=[]:=fun e=>by rw [e] at hvl; simp at hvl; omega
  simp [q3P,-Option.bind_some,-Int.toNat_lt,-List.map_map,List.range_succ,-q0C,-q0d,q0l,q0m,q0c,q0b,e1,m1,e5,e7,<- hNN,hq',mt,hel,hroom,hvel,hvl,hvn]
  refine q0h N (fun i τ=>(τ.env 1).v=.ptr 1 1 0/\τ.mem 1 1=some [⟨.sl b (S.map typC),.no⟩]/\(τ.env 7).v=.int .i64 q/\(τ.env 7).a=.no/\(τ.env 5).v=.ref t n 1 0 N N/\τ.mem t n=some (q0f (vecC N (below v q)))/\∃ M,(τ.env 8).v=.ref 37 M 1 0 N N/\(τ.env 9).v=.int .i64 i/\τ.mem 37 M=some (q0f (vecC N fun j=>if j<i then below v ((q:Int) + 1) j else below v q j))/\n<M/\M<τ.next)
   (fun e τ=>e=.exit 4/\(τ.env 1).v=.ptr 1 1 0/\τ.mem 1 1=some [⟨.sl b (S.map typC),.no⟩]/\(τ.env 7).v=.int .i64 q/\∃ M,(τ.env 8).v=.ref 37 M 1 0 N N/\τ.mem 37 M=some (q0f (vecC N (below v ((q:Int) + 1))))/\M<τ.next) (fun i hi τ k' h ih' hk'=>?_) _ _ ?_ (fun e τ h=>?_)
  ·obtain ⟨f1,n1,f7,b7,f5,nt,M,f8,f9,n37,hnM,hM⟩:=h
   refine q04 ?_
   have hMn:¬ M=n:=by omega
   have hnM':¬ n=M:=by omega
   by_cases hlt:i<N
   ·have hlt':(i:Int)<N:=by omega
    have hltS:i<S.length:=by omega
    have g1:(S.map typC)[i]?=some (typC S[i]):=by simp [hltS]
    have hw':=q0W (i:=i) (by omega)
    have hin:inM N (below v q):=fun j hj=>by
     have:=hv j hj
     unfold below
     split <;> omega
    have hx:=hW _ (List.getElem_mem hltS)
    rw [<- hNN] at hx
    have hc:=rround_ev hin hx
    have hfi:=hf i hltS
    have hiff:v i>=q->(rrndP S[i] (below v q)=q ↔ v i=q):=fun hge=>rrnd_iff hv ⟨by omega,by omega⟩ hx hfi hge
    generalize S[i]=x at *
    simp only [typC] at g1
    simp only [evA,typC] at hc
    have hel:=q5I N (below v q)
    have hat:=vec_at N (below v q) hlt
    have hvi:=hv i hlt
    by_cases hge:(q:Int)<=v i
    ·have hb:below v q i=-1:=by unfold below; rw [if_neg (by omega)]
     have hrr:=hiff hge
     by_cases he:v i=q
     ·have hrq:=hrr.2 he
      have hst:=q4W N (fun j=>if j<i then below v ((q:Int) + 1) j else below v q j) (fun j=>if j<i + 1 then below v ((q:Int) + 1) j else below v q j) hlt (x:=q) (by simp [below,he]; omega) (fun j hj=>by simp [show (j<i + 1)=(j<i) from by simp only [eq_iff_iff]; omega])
      simp [q24,-Option.bind_some,-Int.toNat_lt,-List.map_map,List.range_succ,-q0C,-q0d,q0l,q0m,q0c,q0b,f1,n1,f5,f7,f8,f9,nt,n37,hlt',g1,hel,hc,hat,hb,hrq,hw',hlt,hst,hMn,hnM',b7]
      refine ih' hlt _ ⟨?_,?_,?_,?_,?_,?_,M,?_,?_,?_,hnM,?_⟩
      case refine_10=>first | omega | (dsimp only; omega)
      all_goals simp [f1,n1,f5,f7,f8,nt,hMn,hnM',t1,b7]
     ·have hrq:¬ rrndP x (below v q)=q:=fun e=>he (hrr.1 e)
      have hcg:vecC N (fun j=>if j<i + 1 then below v ((q:Int) + 1) j else below v q j)=vecC N (fun j=>if j<i then below v ((q:Int) + 1) j else below v q j):=q1s fun j hj=>by
       by_cases e:j=i
       ·subst e; simp [below]; omega
       ·simp [show (j<i + 1)=(j<i) from by simp only [eq_iff_iff]; omega]
      simp [q24,-Option.bind_some,-Int.toNat_lt,-List.map_map,List.range_succ,-q0C,-q0d,q0l,q0m,q0c,q0b,f1,n1,f5,f7,f8,f9,nt,n37,hlt',g1,hel,hc,hat,hb,hrq,hw',hlt]
      refine ih' hlt _ ⟨?_,?_,?_,?_,?_,?_,M,?_,?_,?_,hnM,?_⟩
      case refine_10=>first | omega | (dsimp only; omega)
      all_goals simp [f1,n1,f5,f7,f8,nt,hcg,n37,b7]
    ·have hb:below v q i=v i:=by unfold below; rw [if_pos (by omega)]
     have hb':¬ below v q i<0:=by omega
     have hcg:vecC N (fun j=>if j<i + 1 then below v ((q:Int) + 1) j else below v q j)=vecC N (fun j=>if j<i then below v ((q:Int) + 1) j else below v q j):=q1s fun j hj=>by
      by_cases e:j=i
      ·subst e; simp [below]; omega
      ·simp [show (j<i + 1)=(j<i) from by simp only [eq_iff_iff]; omega]
     simp [q24,-Option.bind_some,-Int.toNat_lt,-List.map_map,List.range_succ,-q0C,-q0d,q0l,q0m,q0c,q0b,f1,n1,f5,f7,f8,f9,nt,n37,hlt',g1,hat,hb',hw',hlt]
     refine ih' hlt _ ⟨?_,?_,?_,?_,?_,?_,M,?_,?_,?_,hnM,?_⟩
     case refine_10=>first | omega | (dsimp only; omega)
     all_goals simp [f1,n1,f5,f7,f8,nt,hcg,n37,b7]
   ·have hlt':¬ (i:Int)<N:=by omega
    simp [q24,-Option.bind_some,-Int.toNat_lt,-List.map_map,List.range_succ,-q0C,-q0d,q0l,q0m,q0c,q0b,f5,f9,hlt']
    refine hk' _ _ ⟨rfl,by simp [f1],by simp [n1],by simp [f7],M,by simp [f8],?_,by dsimp only; omega⟩
    rw [show vecC N (below v ((q:Int) + 1))=vecC N (fun j=>if j<i then below v ((q:Int) + 1) j else below v q j) from q1s fun j hj=>by rw [if_pos (by omega)]]
    simp [n37]
  ·refine ⟨?_,?_,?_,?_,?_,?_,σ.next + 1,?_,?_,?_,?_,?_⟩
   case refine_10=>first | omega | (dsimp only; omega)
   case refine_11=>first | omega | (dsimp only; omega)
   all_goals simp [e1,m1,e5,e7,a7,mt,show ¬ n=σ.next + 1 from by omega]
  ·obtain ⟨rfl,f1,n1,f7,M,f8,n37,hM⟩:=h
   simp [-Option.bind_some,-Int.toNat_lt,-List.map_map,List.range_succ,-q0C,-q0d,q0l,q0m,q0c,q0b,f7,f8,hwq]
   refine ih hqN _ ⟨by simp [f1],by simp [n1],by simp,by simp,37,M,by simp,?_,by dsimp only; omega,by omega⟩
   simp [n37]
 ·refine ⟨?_,?_,?_,?_,18,4,?_,?_,?_,by omega⟩
  case refine_7=>first | omega | (dsimp only; omega)
  case refine_6 =>
   rw [show vecC N (below v ((0:Nat):Int))=vecC N (fun _=>-1) from q1s fun j hj=>by have:=hv j hj; simp [below]; omega]
   simp [m18]
  all_goals simp [e1,m1,e5]
 ·obtain ⟨rfl,t,n,e5,mt⟩:=h
  simp [-Option.bind_some,-Int.toNat_lt,-List.map_map,List.range_succ,-q0C,-q0d,q0l,q0m,q0c,q0b,e5]
  refine hk _ _ ⟨rfl,t,n,?_,?_,?_⟩ <;> simp [mt,hNN]
theorem rrounds_ev (b:Bool) (S:List Typ) (hs:(⟨b,S⟩:Sch).fine) (h64:(⟨b,S⟩:Sch).d64) (h0:q28 S=0) (hpos:0<S.length) {v:Vec} (hv:inB S.length v) (hf:∀ j,(hj:j<S.length)->rndP S[j] v=v j):evA 24 [.agg (schC ⟨b,S⟩)] (.tup [.sl false (vecC S.length (below v ((S.length:Int) + 1))),.int .i64 0]):=by
 refine q00 (c:=q2s) rfl rfl (rrounds_run b S hs h64 h0 hpos hv hf _ _ fun e s' h=>?_)
 obtain ⟨rfl,t,n,e2,e3,m⟩:=h
 have hres:q2s.res=[.tmp 2,.tmp 3]:=rfl
 have hel:=q5I S.length (below v ((S.length:Int) + 1))
 have hfr:=vecC_free S.length (below v ((S.length:Int) + 1))
 simp [fin,hres,resC,e2,e3,m,AV.frz,AV.frz0,hel,finV,AV.free,AV.free0,pack]
theorem finite11_ev {dn wn:Bool} {l:List Nde} (hl:∀ x∈l,x.ok) {ws:List Wire} (hw:∀ w∈ws,w.ok):evA 4 [.agg [.sl dn (l.map ndeC),.sl wn (ws.map wireC)]] (.bool true):=by
 have haw:=awake11_ev
 refine q00 (c:=q16) rfl rfl ?_
 obtain ⟨r,h,hof⟩:=of11_ev (dn:=dn) (wn:=wn) hl hw
 rcases h with ⟨_,rfl⟩ | ⟨ho,_,S,hT,rfl⟩
 ·simp [q16,-Option.bind_some,-Int.toNat_lt,-List.map_map,List.range_succ,hof,haw]
 obtain ⟨hf,h6⟩:=rwS_ok ho hT
 have h0:=rwS_err ho hT
 have hv0:=rwS_valid ho hT
 have hW:=q3l hv0
 have hN:=q4L hv0
 have hG:∀ x∈S,q0N x=true:=fun x hx=>by
  obtain ⟨j,hj,rfl⟩:=List.getElem_of_mem hx
  exact (q60 (q4J hv0 j hj)).1
 have hd:=dflt_kind ho hT
 have hpos:0<S.length:=by rw [q8i hT]; exact ho.1
 obtain ⟨w,hlw,fw,hc1,hc2⟩:=both_cnts ⟨false,S⟩ hv0
 obtain ⟨q,⟨v,hv,hfix,rfl⟩,hr⟩:=rounds_ev false S hf h6 h0
 have hfix':∀ j (hj:j<S.length),rndP S[j] v=v j:=fun j hj=>by
  have:=hfix j hj
  unfold FRn at this
  rwa [List.getElem?_eq_getElem hj] at this
 have hrr:=rrounds_ev false S hf h6 h0 hpos hv hfix'
 have hfin:=finite_ev ⟨false,S⟩ hf h6 fun _=>⟨hlw.rng,hc1⟩
 have hrfin:=rfinite_ev ⟨false,S⟩ hf h6 fun _=>⟨hlw.rng,hc2⟩
 have hcr:∀ i,i<S.length->(0<w i ↔ v i<q0V):=fun i hi=>cnt_rnd hW hG hv hfix' hd hlw fw hN hi
 have hbt:vecC S.length (below v ((S.length:Int) + 1))=vecC S.length fun j=>q4z (v j):=q1s (below_top hN (fun j hj h=>rnd_bound hW hv hfix' hj h) hv)
 rw [hbt] at hrr
 have hsg:∀ i,i<S.length->_:=fun i hi=>single_ev false S hf h6 h0 hc1 hi
 have hrsg:∀ i,i<S.length->_:=fun i hi=>rsingle_ev false S hf h6 h0 hc2 hi
 have hi1:=ints_same ((List.range S.length).map fun j=>q4z (v j)) (by simp; omega) false false
 have hb1:=bools_same ((List.range S.length).map fun j=>decide (0<w j)) (by simp; omega) (decide (S.length=0)) (decide (S.length=0))
 simp only [List.map_map,Function.comp_def] at hi1 hb1
 have e1:((List.range S.length).map fun j=>[AV.int .i64 (q4z (v j))])=vecC S.length fun j=>q4z (v j):=rfl
 have e2:((List.range S.length).map fun j=>[AV.bool (decide (0<w j))])=posV w S.length:=rfl
 rw [e1] at hi1
 rw [e2] at hb1
 simp only [finA,h0,if_true] at hfin hrfin
 simp only [evA,schC] at hr hrr hfin hrfin hsg hrsg
 simp only [evA] at hi1 hb1
 obtain ⟨N,hNN⟩:∃ N,N=S.length:=⟨_,rfl⟩
 rw [<- hNN] at hr hrr hfin hrfin hi1 hb1 hsg hrsg hcr hv hN hpos
 simp [q16,-Option.bind_some,-Int.toNat_lt,-List.map_map,List.range_succ,hof,haw,hr,hrr,hfin,hrfin,hi1,hb1,<- hNN]
 refine q0h N (fun i σ=>(σ.env 5).v=.sl (decide (N=0)) (posV w N)/\(σ.env 7).v=.sl false (vecC N fun j=>q4z (v j))/\(∃ m,(σ.env 3).v=.ptr 3 m 0/\σ.mem 3 m=some [⟨.sl false (S.map typC),.no⟩])/\(σ.env 70).v=.int .i64 N/\(σ.env 71).v=.int .i64 i)
  (fun e σ=>e=.exit 0) (fun i hi σ k h ih hk=>?_) _ _ ?_ (fun e σ h=>?_)
 ·obtain ⟨e5,e7,⟨m,e3,m3⟩,e70,e71⟩:=h
  refine q04 ?_
  by_cases hlt:i<N
  ·have hlt':(i:Int)<N:=by omega
   have hw':=q0W (i:=i) (by omega)
   have h1:=hsg i hlt
   have h2:=hrsg i hlt
   have gi:=q1h (fun j=>q4z (v j)) (t:=(i:Int)) (N:=N) (by omega)
   simp only [Int.toNat_natCast] at gi
   have gp:=posV_get w (n:=N) hlt
   have hvi:=hv i hlt
   have hnr:q0V=1073741824:=rfl
   have hcmp:decide (0<w i)=decide (0<=q4z (v i)):=by
    rw [decide_eq_decide,hcr i hlt]
    unfold q4z
    constructor
    ·intro h; rw [if_neg (by omega)]; omega
    ·intro h
     by_cases hn:v i=q0V
     ·rw [if_pos hn] at h; omega
     ·omega
   simp [q26,-Option.bind_some,-Int.toNat_lt,-List.map_map,List.range_succ,e3,m3,e5,e7,e70,e71,hlt',h1,h2,gi,gp,hcmp,hw']
   refine ih hlt _ ⟨?_,?_,⟨m,?_,?_⟩,?_,?_⟩ <;> simp [e3,m3,e5,e7,e70]
  ·have hlt':¬ (i:Int)<N:=by omega
   simp [q26,-Option.bind_some,-Int.toNat_lt,-List.map_map,List.range_succ,e70,e71,hlt']
   exact hk _ _ rfl
 ·refine ⟨?_,?_,⟨_,rfl,?_⟩,?_,?_⟩ <;> simp
 ·subst h
  simp [-Option.bind_some,-Int.toNat_lt,-List.map_map,List.range_succ]
end Go.Proofs.YtdjomefkhdimaaaGreat
