/- Part of the proof: the machine, the code of functions, and what it computes. -/
import Derived.Test.YtdjomefkhdimaaaGreatKre
set_option linter.unusedSimpArgs false
set_option linter.unusedVariables false
set_option linter.unusedSectionVars false
namespace Go.Proofs.YtdjomefkhdimaaaGreat
open Go
set_option maxRecDepth 10000
set_option maxHeartbeats 8000000
set_option linter.unusedSimpArgs false
def FRn (S:List Typ) (i:Nat) (v:Vec):Int:=match S[i]? with
 | some x=>rndP x v
 | none=>0
def q1m (x:Int):Int:=if x=q1D then -1 else x
theorem recR_mono {N:Nat} {u v:Vec} (h:∀ j,j<N->u j<=v j):∀ (l:List Mem) (a b:Int),(∀ m∈l,0<=m.ty/\m.ty<N)->a<=b->recR u l a<=recR v l b
 | [],a,b,_,hab=>hab
 | m :: r,a,b,hm,hab=>by
  have h1:=hm m List.mem_cons_self
  have h2:=h m.ty.toNat (by omega)
  refine recR_mono h r _ _ (fun x hx=>hm x (List.mem_cons_of_mem _ hx)) ?_
  split
  ·exact hab
  ·omega
theorem uniR_mono {N:Nat} {u v:Vec} (h:∀ j,j<N->u j<=v j):∀ (l:List Mem) (a b:Int),(∀ m∈l,0<=m.ty/\m.ty<N)->a<=b->uniR u l a<=uniR v l b
 | [],a,b,_,hab=>hab
 | m :: r,a,b,hm,hab=>by
  have h1:=hm m List.mem_cons_self
  have h2:=h m.ty.toNat (by omega)
  refine uniR_mono h r _ _ (fun x hx=>hm x (List.mem_cons_of_mem _ hx)) ?_
  omega
theorem rndP_mono {N:Nat} {u v:Vec} (h:∀ j,j<N->u j<=v j) {x:Typ} (hx:q6G N x):rndP x u<=rndP x v:=by
 unfold rndP
 split
 ·have:=recR_mono h x.mems 0 0 hx.mems (Int.le_refl _)
  omega
 ·split
  ·have:=uniR_mono h x.mems q1D q1D hx.mems (Int.le_refl _)
   omega
  ·exact Int.le_refl _
theorem rndP_rng {N:Nat} {v:Vec} (hv:inB N v) {x:Typ} (hx:q6G N x):0<=rndP x v/\rndP x v<=q1D:=by
 have hnr:q1D=1073741824:=rfl
 unfold rndP
 split
 ·have:=recR_rng hv x.mems 0 hx.mems (by omega)
  omega
 ·split
  ·have:=uniR_rng hv x.mems q1D hx.mems (by omega)
   omega
  ·omega
structure Down (S:List Typ) (v:Vec):Prop where
 rng:inB S.length v
 post:∀ j,j<S.length->FRn S j v<=v j
theorem Down.top {S:List Typ} (hW:∀ x∈S,q6G S.length x):Down S (fun _=>q1D):=by
 have hr:inB S.length fun _=>q1D:=fun j hj=>⟨by show (0:Int)<=q1D; decide,Int.le_refl _⟩
 refine ⟨hr,fun j hj=>?_⟩
 unfold FRn
 rw [List.getElem?_eq_getElem hj]
 exact (rndP_rng hr (hW _ (List.getElem_mem hj))).2
theorem Down.upd {S:List Typ} (hW:∀ x∈S,q6G S.length x) {v:Vec} (h:Down S v) {i:Nat} (hi:i<S.length):Down S (upd (FRn S) v i):=by
 have hle:∀ j,j<S.length->Go.Proofs.YtdjomefkhdimaaaGreat.upd (FRn S) v i j<=v j:=fun j hj=>by
  unfold Go.Proofs.YtdjomefkhdimaaaGreat.upd
  split
  ·rename_i e; subst e; exact h.post _ hi
  ·exact Int.le_refl _
 have hm:∀ j,j<S.length->FRn S j (Go.Proofs.YtdjomefkhdimaaaGreat.upd (FRn S) v i)<=FRn S j v:=fun j hj=>by
  unfold FRn
  rw [List.getElem?_eq_getElem hj]
  exact rndP_mono hle (hW _ (List.getElem_mem hj))
 refine ⟨fun j hj=>?_,fun j hj=>?_⟩
 ·have h1:=hle j hj
  have h2:=h.rng j hj
  refine ⟨?_,by omega⟩
  unfold Go.Proofs.YtdjomefkhdimaaaGreat.upd
  split
  ·unfold FRn
   rw [List.getElem?_eq_getElem hi]
   exact (rndP_rng h.rng (hW _ (List.getElem_mem hi))).1
  ·exact h2.1
 ·have h1:=hm j hj
  have h2:=h.post j hj
  by_cases e:j=i
  ·subst e
   have:Go.Proofs.YtdjomefkhdimaaaGreat.upd (FRn S) v j j=FRn S j v:=by simp [Go.Proofs.YtdjomefkhdimaaaGreat.upd]
   omega
  ·have:Go.Proofs.YtdjomefkhdimaaaGreat.upd (FRn S) v i j=v j:=by simp [Go.Proofs.YtdjomefkhdimaaaGreat.upd,e]
   omega
theorem sumB_le (v:Vec):∀ N,inB N v->sumV N v<=1073741824 * N
 | 0,_=>by simp [sumV]
 | n + 1,h=>by
  have h1:=sumB_le v n fun j hj=>h j (by omega)
  have h2:=h n (by omega)
  have hnr:q1D=1073741824:=rfl
  rw [hnr] at h2
  simp only [sumV]
  omega
theorem sumB_0 (v:Vec):∀ N,inB N v->0<=sumV N v
 | 0,_=>by simp [sumV]
 | n + 1,h=>by
  have:=sumB_0 v n fun j hj=>h j (by omega)
  have:=h n (by omega)
  simp only [sumV]
  omega
def RndEnd (S:List Typ) (e:Ex) (s:MSt):Prop:=e=.ret/\∃ t n v,(s.env 2).v=.ref t n 1 0 S.length S.length/\(s.env 3).v=.int .i64 0/\inB S.length v/\(∀ j,j<S.length->FRn S j v=v j)/\s.mem t n=some (q09 (vecC S.length fun j=>q1m (v j)))
theorem rounds_run (b:Bool) (S:List Typ) (hs:(⟨b,S⟩:Sch).fine) (h64:(⟨b,S⟩:Sch).d64) (h0:q6i S=0) (k:Ex->MSt->Option RV) (r:RV) (hk:∀ e s',RndEnd S e s'->k e s'=some r):q1q.code.run (evC allT q00) (evK allT q00) (MSt.init [.agg (schC ⟨b,S⟩)] none) k=some r:=by
 have hright:=right_ev ⟨b,S⟩ hs h64
 simp only [evA,schC,h0] at hright
 have hv0:valid S=0:=by
  unfold q6i at h0
  by_cases h:valid S=0
  ·exact h
  ·rw [if_neg h] at h0; exact absurd h0 h
 have hW:=q7I hv0
 have hN:=valid_len hv0
 have hnr:q1D=1073741824:=rfl
 obtain ⟨N,hNN⟩:∃ N,N=S.length:=⟨_,rfl⟩
 unfold RndEnd at hk
 rw [<- hNN] at hN hk
 have hb8:N * 8<=140737488355328:=by omega
 have hb1:N<=140737488355328:=by omega
 simp [q1q,-Option.bind_some,-Int.toNat_lt,-List.map_map,List.range_succ,-q18,-q0g,q1o,q1y,q0L,q0N,schC,hright,<- hNN,hb8,hb1]
 refine q0Q N (fun i σ=>(σ.env 1).v=.ptr 1 1 0/\σ.mem 1 1=some [⟨.sl b (S.map typC),.no⟩]/\(σ.env 5).v=.ref 20 4 1 0 N N/\(σ.env 22).v=.int .i64 N/\(σ.env 23).v=.int .i64 i/\σ.mem 20 4=some (q09 (vecC N fun j=>if j<i then q1D else 0)))
  (fun e σ=>e=.exit 0/\(σ.env 1).v=.ptr 1 1 0/\σ.mem 1 1=some [⟨.sl b (S.map typC),.no⟩]/\(σ.env 5).v=.ref 20 4 1 0 N N/\σ.mem 20 4=some (q09 (vecC N fun _=>q1D))) (fun i hi σ k4 h ih hk4=>?_) _ _ ?_ (fun e σ h=>?_)
 ·obtain ⟨e1,m1,e5,e22,e23,m20⟩:=h
  refine q08 ?_
  by_cases hlt:i<N
  ·have hlt':(i:Int)<N:=by omega
   have hw':=q2a (i:=i) (by omega)
   have hst:=vec_store N (fun j=>if j<i then q1D else 0) (fun j=>if j<i + 1 then q1D else 0) hlt (x:=1073741824) (by simp) (fun j hj=>by simp [show (j<i + 1)=(j<i) from by simp only [eq_iff_iff]; omega])
   simp [q2l,-Option.bind_some,-Int.toNat_lt,-List.map_map,List.range_succ,-q18,-q0g,q1o,q1y,q0L,q0N,e5,e22,e23,hlt',hlt,m20,hst,hw']
   refine ih hlt _ ⟨?_,?_,?_,?_,?_,?_⟩ <;> simp [e1,m1,e5,e22]
  ·have hlt':¬ (i:Int)<N:=by omega
   simp [q2l,-Option.bind_some,-Int.toNat_lt,-List.map_map,List.range_succ,-q18,-q0g,q1o,q1y,q0L,q0N,e22,e23,hlt']
   refine hk4 _ _ ⟨rfl,by simp [e1],by simp [m1],by simp [e5],?_⟩
   rw [show vecC N (fun _=>q1D)=vecC N (fun j=>if j<i then q1D else 0) from q7i fun j hj=>by rw [if_pos (by omega)]]
   simp [m20]
 ·refine ⟨?_,?_,?_,?_,?_,?_⟩
  case refine_6=>simp [vec0']
  all_goals simp
 obtain ⟨rfl,e1,m1,e5,m20⟩:=h
 simp [-Option.bind_some,-Int.toNat_lt,-List.map_map,List.range_succ,-q18,-q0g,q1o,q1y,q0L,q0N]
 refine q0Q (1073741824 * N + 1) (fun r σ=>(σ.env 1).v=.ptr 1 1 0/\σ.mem 1 1=some [⟨.sl b (S.map typC),.no⟩]/\(σ.env 5).v=.ref 20 4 1 0 N N/\∃ v,σ.mem 20 4=some (q09 (vecC N v))/\Down S v/\((σ.env 7).v=.bool true/\sumV N v + r<=1073741824 * N\/(σ.env 7).v=.bool false/\∀ j,j<N->FRn S j v=v j))
  (fun e σ=>e=.exit 2/\(σ.env 5).v=.ref 20 4 1 0 N N/\∃ v,σ.mem 20 4=some (q09 (vecC N v))/\Down S v/\∀ j,j<N->FRn S j v=v j) (fun q hq σ k3 h ih hk3=>?_) _ _ ?_ (fun e σ h=>?_)
 ·obtain ⟨e1,m1,e5,v0,m20,hv0,hst⟩:=h
  refine q08 ?_
  rcases hst with ⟨e7,hsum⟩ | ⟨e7,hfix⟩
  case inr =>
   simp [q2o,-Option.bind_some,-Int.toNat_lt,-List.map_map,List.range_succ,-q18,-q0g,q1o,q1y,q0L,q0N,e7]
   exact hk3 _ _ ⟨rfl,by simp [e5],v0,by simp [m20],hv0,hfix⟩
  have hqN:q<1073741824 * N + 1:=by
   have:=sumB_0 v0 N (by rw [hNN]; exact hv0.rng)
   omega
  simp [q2o,-Option.bind_some,-Int.toNat_lt,-List.map_map,List.range_succ,-q18,-q0g,q1o,q1y,q0L,q0N,e1,m1,e7,<- hNN]
  refine q0Q N (fun i σ=>(σ.env 1).v=.ptr 1 1 0/\σ.mem 1 1=some [⟨.sl b (S.map typC),.no⟩]/\(σ.env 5).v=.ref 20 4 1 0 N N/\(σ.env 32).v=.sl b (S.map typC)/\(σ.env 33).v=.int .i64 N/\(σ.env 34).v=.int .i64 i/\∃ v,σ.mem 20 4=some (q09 (vecC N v))/\Down S v/\((σ.env 7).v=.bool false/\v=v0/\(∀ j,j<i->FRn S j v=v j)\/(σ.env 7).v=.bool true/\sumV N v + 1<=sumV N v0))
   (fun e σ=>e=.exit 4/\(σ.env 1).v=.ptr 1 1 0/\σ.mem 1 1=some [⟨.sl b (S.map typC),.no⟩]/\(σ.env 5).v=.ref 20 4 1 0 N N/\∃ v,σ.mem 20 4=some (q09 (vecC N v))/\Down S v/\((σ.env 7).v=.bool false/\(∀ j,j<N->FRn S j v=v j)\/(σ.env 7).v=.bool true/\sumV N v + 1<=sumV N v0)) (fun i hi σ k' h ih' hk'=>?_) _ _ ?_ (fun e σ h=>?_)
  ·obtain ⟨f1,n1,f5,f32,f33,f34,v,n20,hv,hst⟩:=h
   refine q08 ?_
   by_cases hlt:i<N
   ·have hlt':(i:Int)<N:=by omega
    have hltS:i<S.length:=by omega
    have g1:(S.map typC)[i]?=some (typC S[i]):=by simp [hltS]
    have hw':=q2a (i:=i) (by omega)
    have hc:=round_ev hv.rng (hW _ (List.getElem_mem hltS))
    have hF:FRn S i v=rndP S[i] v:=by unfold FRn; rw [List.getElem?_eq_getElem hltS]
    generalize S[i]=x at *
    simp only [typC] at g1
    simp only [evA,typC,<- hNN] at hc
    have hel:=vec_els N v
    have hld:=vec_load N v hlt
    have hat:=vec_at N v hlt
    have hpost:=hv.post i hltS
    have hup:=Down.upd hW hv hltS
    have hsu:=sumV_upd (FRn S) v i N hlt
    have hstv:=vec_store N v (upd (FRn S) v i) hlt (x:=FRn S i v) (by simp [upd]) (fun j hj=>by simp [upd,hj])
    rw [hF] at hpost hsu hstv
    by_cases hne:rndP x v<v i
    ·simp [q1i,-Option.bind_some,-Int.toNat_lt,-List.map_map,List.range_succ,-q18,-q0g,q1o,q1y,q0L,q0N,f1,n1,f5,f32,f33,f34,n20,hlt',g1,hel,hc,hld,hat,hw',hlt,hne,hstv]
     refine ih' hlt _ ⟨?_,?_,?_,?_,?_,?_,upd (FRn S) v i,?_,hup,.inr ⟨?_,?_⟩⟩
     case refine_9 =>
      rcases hst with ⟨f7,rfl,hj⟩ | ⟨f7,hsum'⟩ <;> omega
     all_goals simp [f1,n1,f5,f32,f33,n20]
    ·rcases hst with ⟨f7,rfl,hj⟩ | ⟨f7,hsum'⟩
     ·simp [q1i,-Option.bind_some,-Int.toNat_lt,-List.map_map,List.range_succ,-q18,-q0g,q1o,q1y,q0L,q0N,f1,n1,f5,f32,f33,f34,n20,hlt',g1,hel,hc,hld,hat,hw',hlt,hne]
      refine ih' hlt _ ⟨?_,?_,?_,?_,?_,?_,v,?_,hv,.inl ⟨?_,rfl,fun j hj'=>?_⟩⟩
      case refine_9 =>
       rcases Nat.lt_succ_iff_lt_or_eq.1 hj' with h | rfl
       ·exact hj j h
       ·omega
      all_goals simp [f1,n1,f5,f32,f33,n20,f7]
     ·simp [q1i,-Option.bind_some,-Int.toNat_lt,-List.map_map,List.range_succ,-q18,-q0g,q1o,q1y,q0L,q0N,f1,n1,f5,f32,f33,f34,n20,hlt',g1,hel,hc,hld,hat,hw',hlt,hne]
      refine ih' hlt _ ⟨?_,?_,?_,?_,?_,?_,v,?_,hv,.inr ⟨?_,hsum'⟩⟩
      all_goals simp [f1,n1,f5,f32,f33,n20,f7]
   ·have hlt':¬ (i:Int)<N:=by omega
    have hiN:i=N:=by omega
    simp [q1i,-Option.bind_some,-Int.toNat_lt,-List.map_map,List.range_succ,-q18,-q0g,q1o,q1y,q0L,q0N,f33,f34,hlt']
    refine hk' _ _ ⟨rfl,by simp [f1],by simp [n1],by simp [f5],v,by simp [n20],hv,?_⟩
    rcases hst with ⟨f7,rfl,hj⟩ | ⟨f7,hsum'⟩
    ·exact .inl ⟨by simp [f7],hiN ▸ hj⟩
    ·exact .inr ⟨by simp [f7],hsum'⟩
  ·refine ⟨?_,?_,?_,?_,?_,?_,v0,?_,hv0,.inl ⟨?_,rfl,fun j hj=>absurd hj (by omega)⟩⟩
   all_goals simp [e1,m1,e5,m20]
  ·obtain ⟨rfl,e1,m1,e5,v,m20,hv,hst⟩:=h
   simp [-Option.bind_some,-Int.toNat_lt,-List.map_map,List.range_succ,-q18,-q0g,q1o,q1y,q0L,q0N]
   refine ih hqN _ ⟨by simp [e1],by simp [m1],by simp [e5],v,by simp [m20],hv,?_⟩
   rcases hst with ⟨e7,hf⟩ | ⟨e7,hs⟩
   ·exact .inr ⟨by simp [e7],hf⟩
   ·exact .inl ⟨by simp [e7],by omega⟩
 ·refine ⟨?_,?_,?_,fun _=>q1D,?_,Down.top hW,.inl ⟨?_,?_⟩⟩
  case refine_6 =>
   have:=sumB_le (fun _=>q1D) N fun j _=>⟨by show (0:Int)<=q1D; decide,Int.le_refl _⟩
   omega
  all_goals simp [e1,m1,e5,m20]
 obtain ⟨rfl,e5,v,m20,hv,hf⟩:=h
 simp [-Option.bind_some,-Int.toNat_lt,-List.map_map,List.range_succ,-q18,-q0g,q1o,q1y,q0L,q0N,e5]
 refine q0Q N (fun i σ=>(σ.env 5).v=.ref 20 4 1 0 N N/\(σ.env 54).v=.int .i64 N/\(σ.env 55).v=.int .i64 i/\σ.mem 20 4=some (q09 (vecC N fun j=>if j<i then q1m (v j) else v j)))
  (fun e σ=>e=.exit 6/\(σ.env 5).v=.ref 20 4 1 0 N N/\σ.mem 20 4=some (q09 (vecC N fun j=>q1m (v j)))) (fun i hi σ k1 h ih hk1=>?_) _ _ ?_ (fun e σ h=>?_)
 ·obtain ⟨e5,e54,e55,m20⟩:=h
  refine q08 ?_
  by_cases hlt:i<N
  ·have hlt':(i:Int)<N:=by omega
   have hw':=q2a (i:=i) (by omega)
   have hat:=vec_at N (fun j=>if j<i then q1m (v j) else v j) hlt
   simp only [Nat.lt_irrefl,if_false] at hat
   by_cases hv1:v i=1073741824
   ·have hst:=vec_store N (fun j=>if j<i then q1m (v j) else v j) (fun j=>if j<i + 1 then q1m (v j) else v j) hlt (x:=-1) (by simp [q1m,hv1]) (fun j hj=>by simp [show (j<i + 1)=(j<i) from by simp only [eq_iff_iff]; omega])
    simp [q1G,-Option.bind_some,-Int.toNat_lt,-List.map_map,List.range_succ,-q18,-q0g,q1o,q1y,q0L,q0N,e5,e54,e55,hlt',hlt,m20,hat,hv1,hst,hw']
    refine ih hlt _ ⟨?_,?_,?_,?_⟩ <;> simp [e5,e54]
   ·have hcg:vecC N (fun j=>if j<i + 1 then q1m (v j) else v j)=vecC N (fun j=>if j<i then q1m (v j) else v j):=q7i fun j hj=>by
     by_cases e:j=i
     ·subst e; simp [q1m,hnr,hv1]
     ·simp [show (j<i + 1)=(j<i) from by simp only [eq_iff_iff]; omega]
    simp [q1G,-Option.bind_some,-Int.toNat_lt,-List.map_map,List.range_succ,-q18,-q0g,q1o,q1y,q0L,q0N,e5,e54,e55,hlt',hlt,m20,hat,hv1,hw']
    refine ih hlt _ ⟨?_,?_,?_,?_⟩ <;> simp [e5,e54,hcg,m20]
  ·have hlt':¬ (i:Int)<N:=by omega
   simp [q1G,-Option.bind_some,-Int.toNat_lt,-List.map_map,List.range_succ,-q18,-q0g,q1o,q1y,q0L,q0N,e54,e55,hlt']
   refine hk1 _ _ ⟨rfl,by simp [e5],?_⟩
   rw [show vecC N (fun j=>q1m (v j))=vecC N (fun j=>if j<i then q1m (v j) else v j) from q7i fun j hj=>by rw [if_pos (by omega)]]
   simp [m20]
 ·refine ⟨?_,?_,?_,?_⟩ <;> simp [e5,m20]
 obtain ⟨rfl,e5,m20⟩:=h
 simp [-Option.bind_some,-Int.toNat_lt,-List.map_map,List.range_succ,-q18,-q0g,q1o,q1y,q0L,q0N,e5]
 refine hk _ _ ⟨rfl,20,4,v,?_,?_,by rw [hNN]; exact hv.rng,hf,?_⟩ <;> simp [m20]
end Go.Proofs.YtdjomefkhdimaaaGreat
namespace Go.Proofs.YtdjomefkhdimaaaGreat
open Go
set_option maxRecDepth 10000
set_option linter.unusedSimpArgs false
theorem mName_ok:∀ d:Fin 13,q3N (q7a (d.val:Int))=true:=by decide +kernel
theorem mName_inj:∀ d e:Fin 13,q7a (d.val:Int)=q7a (e.val:Int)->d=e:=by decide +kernel
theorem tName_ok:∀ d:Fin 5,q3N (q4K (d.val:Int))=true:=by decide +kernel
theorem tName_inj:∀ d e:Fin 5,q4K (d.val:Int)=q4K (e.val:Int)->d=e:=by decide +kernel
theorem symsZ_ok:∀ a:Fin 256,symsOk (q3S (a.val:Int))=true:=by decide +kernel
theorem mName_ok' {d:Int} (h:0<=d/\d<=12):q3N (q7a d)=true:=by
 have:=mName_ok ⟨d.toNat,by omega⟩
 rwa [show ((d.toNat:Nat):Int)=d from by omega] at this
theorem mName_inj' {d e:Int} (h:0<=d/\d<=12) (h':0<=e/\e<=12) (he:q7a d=q7a e):d=e:=by
 have:=mName_inj ⟨d.toNat,by omega⟩ ⟨e.toNat,by omega⟩
 simp only [show ((d.toNat:Nat):Int)=d from by omega,show ((e.toNat:Nat):Int)=e from by omega] at this
 have:=congrArg Fin.val (this he)
 simp only at this
 omega
theorem ents_asc:∀ (L:List Int) (b:Int) (seen:List ByteArray),0<=b->(∀ d∈L,b<d/\d<=12)->L.Pairwise (·<·)->(∀ s∈seen,∃ j,0<=j/\j<=b/\s=q7a j)->q2I b seen (L.map fun d=>(d,q7a d))=true
 | [],_,_,_,_,_,_=>rfl
 | d :: r,b,seen,hb,hd,hp,hs=>by
  have h1:=hd d List.mem_cons_self
  rw [List.pairwise_cons] at hp
  simp only [List.map_cons,q2I,Bool.and_eq_true,Bool.not_eq_true']
  refine ⟨⟨⟨?_,?_⟩,mName_ok' (by omega)⟩,ents_asc r d (seen++[q7a d]) (by omega) (fun e he=>⟨hp.1 e he,(hd e (List.mem_cons_of_mem _ he)).2⟩) hp.2 fun s hs'=>?_⟩
  ·simp only [idOk,Bool.and_eq_true,decide_eq_true_eq]
   omega
  ·refine hasStr_f fun hin=>?_
   obtain ⟨j,j0,j1,hj⟩:=hs _ hin
   have:=mName_inj' (by omega) (by omega) hj
   omega
  ·rcases List.mem_append.1 hs' with hs' | hs'
   ·obtain ⟨j,j0,j1,hj⟩:=hs s hs'
    exact ⟨j,j0,by omega,hj⟩
   ·rw [List.mem_singleton] at hs'
    exact ⟨d,by omega,by omega,hs'⟩
theorem parts_ents (l:List Nde) (i:Int) (rc:Bool) (ps:List Prt):∀ n:Nat,∃ L:List Int,(q3u l i rc ps n).map memE=L.map (fun d=>(d,q7a d))/\L.Pairwise (·<·)/\∀ d∈L,1<=d/\d<=(n:Int)
 | 0=>⟨[],rfl,List.Pairwise.nil,fun d h=>by cases h⟩
 | n + 1=>by
  obtain ⟨L,h1,h2,h3⟩:=parts_ents l i rc ps n
  rw [q3u,List.map_append,h1]
  unfold memAt
  split
  ·refine ⟨L++[((n + 1:Nat):Int)],by simp [memE,memZ],?_,fun d hd=>?_⟩
   ·rw [List.pairwise_append]
    refine ⟨h2,List.pairwise_singleton _ _,fun a ha b hb=>?_⟩
    rw [List.mem_singleton] at hb
    have:=h3 a ha
    omega
   ·rcases List.mem_append.1 hd with hd | hd
    ·have:=h3 d hd; omega
    ·rw [List.mem_singleton] at hd; omega
  ·exact ⟨L,by simp,h2,fun d hd=>by have:=h3 d hd; omega⟩
theorem rwL_ents {n:Nat} {xs bs:List Mem} (h:rwL n xs bs):bs.map memE=xs.map memE:=by
 refine List.ext_getElem (by simp [h.1]) fun i h1 h2=>?_
 simp only [List.length_map] at h1 h2
 have:=h.2 i xs[i] bs[i] (List.getElem?_eq_getElem h2) (List.getElem?_eq_getElem h1)
 simp only [List.getElem_map,memE,this.1,this.2.1]
theorem init_no {l:List Nde} {t c:Int} (h:(q5p l t c).2=false):(q5p l t c).1=Vl.zero:=by
 unfold q5p at h ⊢
 split at h
 ·rename_i hc
  rw [if_pos hc]
  rfl
 ·cases h
theorem memZ_good (l:List Nde) (i:Int) (rc:Bool) (id:Int) (p:Prt):q1l rc (memZ l i rc id p)=true:=by
 by_cases h2:2<=p.flag % 4
 ·have h1:¬ p.flag % 4=1:=by omega
  cases rc with
  | false=>simp [q1l,memZ,Vl.same_refl]
  | true =>
   cases h3:(q5p l (tgtZ l i p.ty) (p.flag / 4)).2 with
   | false=>simp [q1l,memZ,h1,h2,h3,init_no h3,Vl.same_refl]
   | true=>simp [q1l,memZ,h1,h2,h3]
 ·cases rc <;> simp [q1l,memZ,h2,Vl.same_refl]
theorem rwM_good {n:Nat} {rc:Bool} {a b:Mem} (h:rwM n a b) (ha:q1l rc a=true):q1l rc b=true:=by
 obtain ⟨h1,h2,h3,h4⟩:=h
 rcases h4 with rfl | ⟨_,_,h5,h6⟩
 ·exact ha
 ·simp only [q1l,h3,h5,h6,Vl.same_refl] at ha ⊢
  cases rc <;> cases hc:a.crit <;> simp [hc] at ha ⊢
theorem mems_good {l:List Nde} {i:Int} {rc:Bool} {ps:List Prt} {n:Nat} {bs:List Mem} (h:rwL n (q27 l i rc ps) bs) (hne:rc=true\/bs≠[]):q69 rc bs=true:=by
 obtain ⟨L,h1,h2,h3⟩:=parts_ents l i rc ps 12
 have hlen:bs.length<=12:=by rw [<- h.1]; exact q4u l i rc ps 12
 have hents:q2I 0 [] (bs.map memE)=true:=by
  rw [rwL_ents h,show (q27 l i rc ps).map memE=_ from h1]
  exact ents_asc L 0 [] (by omega) (fun d hd=>by have:=h3 d hd; omega) h2 (fun s hs=>by cases hs)
 have hall:bs.all (q1l rc)=true:=List.all_eq_true.2 fun b hb=>by
  obtain ⟨j,hj,rfl⟩:=List.getElem_of_mem hb
  have hja:j<(q27 l i rc ps).length:=by rw [h.1]; exact hj
  have hm:=h.2 j _ _ (List.getElem?_eq_getElem hja) (List.getElem?_eq_getElem hj)
  obtain ⟨id,p,_,_,_,_,he⟩:=q4Q 12 _ (List.getElem_mem hja)
  refine rwM_good hm ?_
  rw [he]
  exact memZ_good l i rc id p
 have hpos:rc=true\/0<bs.length:=hne.imp id fun h=>List.length_pos_iff.2 h
 simp only [q69,hall,hents,Bool.true_and,Bool.and_eq_true,Bool.or_eq_true,decide_eq_true_eq]
 exact ⟨hpos,by omega⟩
end Go.Proofs.YtdjomefkhdimaaaGreat
namespace Go.Proofs.YtdjomefkhdimaaaGreat
open Go
set_option maxRecDepth 10000
set_option linter.unusedSimpArgs false
theorem key_neg {l:List Nde} {code:Int}:∀ n k,q2m l code n k<0->(∀ m,0<=(code + (m:Int)) % l.length)->∀ m:Nat,k<=m->m<k + n->isKey (kdAt l ((code + m) % l.length))=false
 | 0,k,_,_,m,h1,h2=>by omega
 | n + 1,k,h,hp,m,h1,h2=>by
  simp only [q2m] at h
  split at h
  ·have:=hp k; omega
  ·rename_i hk
   by_cases e:m=k
   ·subst e
    simpa using hk
   ·exact key_neg n (k + 1) h hp m (by omega) (by omega)
theorem key_is {l:List Nde} {code:Int}:∀ n k,0<=q2m l code n k->isKey (kdAt l (q2m l code n k))=true
 | 0,k,h=>by simp [q2m] at h
 | n + 1,k,h=>by
  simp only [q2m] at h ⊢
  split
  ·assumption
  ·rename_i hk
   rw [if_neg hk] at h
   exact key_is n (k + 1) h
theorem keyZ_neg {l:List Nde} (hl:oks l) {c:Int} (hc:0<=c) (h:keyZ l c<0) {z:Int} (h0:0<=z) (h1:z<l.length):isKey (kdAt l z)=false:=by
 have hp:=hl.1
 have hn:(l.length:Int)≠0:=by omega
 have hpos:∀ m,0<=(c + (m:Int)) % l.length:=fun m=>Int.emod_nonneg _ hn
 have:=key_neg (l:=l) (code:=c) l.length 0 h hpos ((z - c) % l.length).toNat (by omega) (by
  have:=Int.emod_lt_of_pos (z - c) (b:=(l.length:Int)) (by omega)
  omega)
 have h2:=Int.emod_nonneg (z - c) hn
 rw [show (((z - c) % l.length).toNat:Int)=(z - c) % l.length from by omega,Int.add_emod_emod] at this
 rw [show c + (z - c)=z from by omega,Int.emod_eq_of_lt h0 h1] at this
 exact this
theorem keyZ_some {l:List Nde} (hl:oks l) {c d:Int} (hc:0<=c) (hd:0<=d) (h:keyZ l c<0):keyZ l d<0:=by
 by_cases h':keyZ l d<0
 ·exact h'
 ·have h1:=key_is (l:=l) (code:=d) l.length 0 (by simpa [keyZ] using h')
  have h2:=q66 hl d l.length 0
  have h3:=keyZ_neg hl hc h (z:=keyZ l d) (by omega) (by unfold keyZ; omega)
  unfold keyZ at h3
  rw [h3] at h1
  cases h1
structure TypD (l:List Nde) (i:Nat) (b:Typ):Prop where
 good:q0Y b=true
 nm:b.named=true->b.name=q4K (i:Int)
 uses:∀ u∈b.usesL,0<=u/\u<l.length
 key:b.kind=8->isKey (kdAt l b.key)=true
theorem q4h {n:Nat} {bs:List Mem} (h:rwL n [] bs):bs=[]:=List.eq_nil_of_length_eq_zero h.1.symm
theorem mem_uses {l:List Nde} (hl:oks l) {i:Nat} (hi:i<l.length) {rc:Bool} {ps:List Prt} {bs:List Mem} (h:rwL l.length (q27 l (i:Int) rc ps) bs):∀ u∈bs.map Mem.ty,0<=u/\u<l.length:=fun u hu=>by
 obtain ⟨b,hb,rfl⟩:=List.mem_map.1 hu
 obtain ⟨j,hj,rfl⟩:=List.getElem_of_mem hb
 have hja:j<(q27 l (i:Int) rc ps).length:=by rw [h.1]; exact hj
 have hm:=h.2 j _ _ (List.getElem?_eq_getElem hja) (List.getElem?_eq_getElem hj)
 obtain ⟨id,p,_,_,_,hp,he⟩:=q4Q 12 _ (List.getElem_mem hja)
 rcases hm.2.2.2 with h4 | ⟨h4,h5,_⟩
 ·rw [h4,he]
  simp only [q5I,decide_eq_true_eq] at hp
  exact ⟨hp.2,(tgtZ_rng hl (i:Int) p.ty (by omega)).2⟩
 ·exact ⟨h4,h5⟩
theorem typ_d {l:List Nde} (hl:oks l) {i:Nat} (hi:i<l.length) {b:Typ} (h:rwT l.length (typZ l (i:Int)) b):TypD l i b:=by
 obtain ⟨bs,hrw,rfl⟩:=h
 have hx:=q2s hl hi
 obtain ⟨xk,xa,xb,xc,_⟩:=hx0 _ hx
 have hl5:=hl.2.1
 have hn:(l.length:Int)≠0:=by omega
 have hkr:=kind_rng hx
 have hnm:q3N (q4K (i:Int))=true:=tName_ok ⟨i,by omega⟩
 have hsy:symsOk (q3S (ndAt l (i:Int)).a)=true:=by
  have:=symsZ_ok ⟨(ndAt l (i:Int)).a.toNat,by have:=xa.2; have:=xa.1; omega⟩
  rwa [show (((ndAt l (i:Int)).a.toNat:Nat):Int)=(ndAt l (i:Int)).a from by have:=xa.1; omega] at this
 have helem:0<=(ndAt l (i:Int)).c % l.length/\(ndAt l (i:Int)).c % l.length<l.length:=⟨Int.emod_nonneg _ hn,Int.emod_lt_of_pos _ (by omega)⟩
 unfold typZ at hrw ⊢
 generalize ndAt l (i:Int)=x at *
 by_cases k1:x.kind=1
 ·simp only [k1] at hrw ⊢
  obtain rfl:=q4h hrw
  exact ⟨by simp [q0Y,q5r,Typ.left,Typ.same,q1f,Typ.of,q0P],fun h=>by simp [Typ.named,Typ.of] at h,fun u hu=>by simp [Typ.usesL,Typ.of] at hu,fun h=>by simp [Typ.of] at h⟩
 by_cases k2:x.kind=2
 ·simp only [k2] at hrw ⊢
  obtain rfl:=q4h hrw
  have hlh:x.low<=x.high:=by
   simp only [Nde.high]
   have:=Int.emod_nonneg x.b (show (6:Int)≠0 by decide)
   omega
  exact ⟨by simp [q0Y,q5r,Typ.left,Typ.same,q1f,Typ.of,q0P,hlh],fun h=>by simp [Typ.named,Typ.of] at h,fun u hu=>by simp [Typ.usesL,Typ.of] at hu,fun h=>by simp [Typ.of] at h⟩
 by_cases k3:x.kind=3
 ·simp only [k3] at hrw ⊢
  obtain rfl:=q4h hrw
  exact ⟨by simp [q0Y,q5r,Typ.left,Typ.same,q1f,Typ.of,q0P]; omega,fun h=>by simp [Typ.named,Typ.of] at h,fun u hu=>by simp [Typ.usesL,Typ.of] at hu,fun h=>by simp [Typ.of] at h⟩
 by_cases k4:x.kind=4
 ·simp only [k4] at hrw ⊢
  obtain rfl:=q4h hrw
  exact ⟨by simp [q0Y,q5r,Typ.left,Typ.same,q1f,Typ.of,q0P,hnm,hsy],fun h=>by simp [Typ.of],fun u hu=>by simp [Typ.usesL,Typ.of] at hu,fun h=>by simp [Typ.of] at h⟩
 by_cases k5:x.kind=5
 ·simp only [k5] at hrw ⊢
  have hg:=mems_good hrw (.inl rfl)
  have hu:=mem_uses hl hi hrw
  exact ⟨by simp [q0Y,q5r,Typ.left,Typ.same,q1f,Typ.of,q0P,hnm,hg],fun h=>by simp [Typ.of],fun u h=>hu u (by simpa [Typ.usesL,Typ.of] using h),fun h=>by simp [Typ.of] at h⟩
 by_cases k6:x.kind=6
 ·simp only [k6] at hrw ⊢
  by_cases he:(q27 l (i:Int) false x.parts).isEmpty=true
  ·simp only [he,if_true] at hrw ⊢
   obtain rfl:=q4h hrw
   exact ⟨by simp [q0Y,q5r,Typ.left,Typ.same,q1f,Typ.of,q0P,hnm,q69,q2I],fun h=>by simp [Typ.of],fun u hu=>by simp [Typ.usesL,Typ.of] at hu,fun h=>by simp [Typ.of] at h⟩
  ·simp only [he,if_false,Bool.false_eq_true] at hrw ⊢
   have hne:bs≠[]:=fun e=>by
    rw [e] at hrw
    have:=hrw.1
    simp only [List.length_nil] at this
    rw [List.eq_nil_of_length_eq_zero this] at he
    simp at he
   have hg:=mems_good hrw (.inr hne)
   have hu:=mem_uses hl hi hrw
   exact ⟨by simp [q0Y,q5r,Typ.left,Typ.same,q1f,Typ.of,q0P,hnm,hg],fun h=>by simp [Typ.of],fun u h=>hu u (by simpa [Typ.usesL,Typ.of] using h),fun h=>by simp [Typ.of] at h⟩
 by_cases k7:x.kind=7
 ·simp only [k7] at hrw ⊢
  obtain rfl:=q4h hrw
  exact ⟨by simp [q0Y,q5r,Typ.left,Typ.same,q1f,Typ.of,q0P]; omega,fun h=>by simp [Typ.named,Typ.of] at h,fun u hu=>by simp [Typ.usesL,Typ.of] at hu; rw [hu]; exact helem,fun h=>by simp [Typ.of] at h⟩
 by_cases k8:x.kind=8
 ·simp only [k8] at hrw ⊢
  by_cases hc:keyZ l x.b<0
  ·simp only [if_pos hc] at hrw ⊢
   obtain rfl:=q4h hrw
   exact ⟨by simp [q0Y,q5r,Typ.left,Typ.same,q1f,Typ.of,q0P]; omega,fun h=>by simp [Typ.named,Typ.of] at h,fun u hu=>by simp [Typ.usesL,Typ.of] at hu; rw [hu]; exact helem,fun h=>by simp [Typ.of] at h⟩
  ·simp only [if_neg hc] at hrw ⊢
   obtain rfl:=q4h hrw
   have hkr:=q66 hl x.b l.length 0
   refine ⟨by simp [q0Y,q5r,Typ.left,Typ.same,q1f,Typ.of,q0P]; omega,fun h=>by simp [Typ.named,Typ.of] at h,fun u hu=>?_,fun h=>key_is l.length 0 (by simpa [keyZ] using hc)⟩
   simp [Typ.usesL,Typ.of] at hu
   rcases hu with rfl | rfl
   ·exact ⟨by omega,hkr.2⟩
   ·exact helem
 have k9:x.kind=9:=by omega
 simp only [k9] at hrw ⊢
 obtain rfl:=q4h hrw
 exact ⟨by simp [q0Y,q5r,Typ.left,Typ.same,q1f,Typ.of,q0P],fun h=>by simp [Typ.named,Typ.of] at h,fun u hu=>by simp [Typ.usesL,Typ.of] at hu; rw [hu]; exact helem,fun h=>by simp [Typ.of] at h⟩
end Go.Proofs.YtdjomefkhdimaaaGreat
namespace Go.Proofs.YtdjomefkhdimaaaGreat
open Go
set_option maxRecDepth 10000
set_option linter.unusedSimpArgs false
theorem kdAt_nd (l:List Nde) {j:Nat} (hj:j<l.length):kdAt l (j:Int)=(ndAt l (j:Int)).kind:=by
 simp [kdAt,ndAt,List.getElem?_eq_getElem hj]
theorem typZ_kind (l:List Nde) {j:Nat} (hj:j<l.length):(typZ l (j:Int)).kind=(if kdAt l (j:Int)=6/\(q27 l (j:Int) false (ndAt l (j:Int)).parts).isEmpty=true then 5 else if kdAt l (j:Int)=8/\keyZ l (ndAt l (j:Int)).b<0 then 7 else if 1<=kdAt l (j:Int)/\kdAt l (j:Int)<=8 then kdAt l (j:Int) else 9):=by
 rw [kdAt_nd l hj]
 unfold typZ
 generalize ndAt l (j:Int)=x
 simp only
 split
 ·rename_i h; simp [h,Typ.of]
 ·rename_i h; simp [h,Typ.of]
 ·rename_i h; simp [h,Typ.of]
 ·rename_i h; simp [h,Typ.of]
 ·rename_i h; simp [h,Typ.of]
 ·rename_i h
  split
  ·rename_i h'; simp [h,h',Typ.of]
  ·rename_i h'; simp [h,h',Typ.of]
 ·rename_i h; simp [h,Typ.of]
 ·rename_i h
  split
  ·rename_i h'; simp [h,h',Typ.of]
  ·rename_i h'; simp [h,h',Typ.of]
 ·rename_i h1 h2 h3 h4 h5 h6 h7 h8
  have e6:¬ x.kind=6:=h6
  have e8:¬ x.kind=8:=h8
  have hr:¬ (1<=x.kind/\x.kind<=8):=fun ⟨a,b⟩=>by
   have q1:¬ x.kind=1:=h1
   have q2:¬ x.kind=2:=h2
   have q3:¬ x.kind=3:=h3
   have q4:¬ x.kind=4:=h4
   have q5:¬ x.kind=5:=h5
   have q7:¬ x.kind=7:=h7
   omega
  simp [e6,e8,hr,Typ.of]
theorem rwS_len {n:Nat} {l:List Nde} {T:List Typ} (h:rwS n (q2c l) T):T.length=l.length:=by
 have:=h.1
 simp [q2c] at this
 exact this.symm
theorem rwS_get {l:List Nde} {T:List Typ} (h:rwS l.length (q2c l) T) {i:Nat} (hi:i<T.length):rwT l.length (typZ l (i:Int)) T[i]:=by
 have hi':i<l.length:=by rw [<- rwS_len h]; exact hi
 exact h.2 i _ _ (by simp [q2c,hi']) (List.getElem?_eq_getElem hi)
theorem rwT_kind {n:Nat} {a b:Typ} (h:rwT n a b):b.kind=a.kind:=by
 obtain ⟨bs,_,rfl⟩:=h
 rfl
theorem q7N {l:List Typ} (h:∀ i,(hi:i<l.length)->q1W l i l[i]=0):∀ n i,q1x l n i=0
 | 0,i=>rfl
 | n + 1,i=>by
  rw [q1x]
  by_cases hi:i<l.length
  ·rw [List.getElem?_eq_getElem hi]
   simp only [h i hi,if_true]
   exact q7N h n (i + 1)
  ·rw [List.getElem?_eq_none (by omega)]
theorem rwS_valid {l:List Nde} (hl:oks l) {T:List Typ} (h:rwS l.length (q2c l) T):valid T=0:=by
 have hl5:=hl.2.1
 have hlen:=rwS_len h
 unfold valid
 rw [if_neg (by omega)]
 refine q7N (fun i hi=>?_) _ _
 have hd:∀ j,(hj:j<T.length)->TypD l j T[j]:=fun j hj=>typ_d hl (by omega) (rwS_get h hj)
 obtain ⟨hg,hnm,hu,hk⟩:=hd i hi
 unfold q1W
 rw [if_neg (by rw [hg]; decide)]
 rw [if_neg]
 ·rw [if_neg]
  ·rw [if_neg]
   rintro ⟨h8,hn⟩
   have hkey:=hk h8
   have huk:=hu T[i].key (by simp [Typ.usesL,h8])
   have hkl:T[i].key.toNat<T.length:=by omega
   apply hn
   unfold kindAt
   rw [List.getElem?_eq_getElem hkl]
   simp only
   rw [rwT_kind (rwS_get h hkl),typZ_kind l (by omega)]
   rw [show ((T[i].key.toNat:Nat):Int)=T[i].key from by omega]
   simp only [isKey,decide_eq_true_eq] at hkey
   rw [if_neg (by omega),if_neg (by omega),if_pos (by omega)]
   exact hkey
  ·intro hany
   obtain ⟨u,hmem,ho⟩:=List.any_eq_true.1 hany
   have:=hu u hmem
   simp only [q17,Bool.or_eq_true,decide_eq_true_eq] at ho
   omega
 ·rintro ⟨hn,hmem⟩
  rw [List.mem_map] at hmem
  obtain ⟨b,hb,he⟩:=hmem
  obtain ⟨j,hj,rfl⟩:=List.getElem_of_mem hb
  rw [List.length_take] at hj
  rw [List.getElem_take] at he
  have hjT:j<T.length:=by omega
  obtain ⟨hgj,hnmj,_,_⟩:=hd j hjT
  rw [hnm hn] at he
  have hbn:T[j].named=true:=by
   cases hc:T[j].named with
   | true=>rfl
   | false =>
    have hi':=tName_ok ⟨i,by omega⟩
    simp only at hi'
    rw [<- he] at hi'
    have hno:T[j].name=⟨#[]⟩:=by
     unfold q0Y at hgj
     simp only [Typ.named,Bool.or_eq_false_iff,decide_eq_false_iff_not] at hc
     simp only [Bool.and_eq_true,decide_eq_true_eq] at hgj
     have hs:=hgj.2.2
     unfold Typ.left at hs
     obtain ⟨⟨c4,c5⟩,c6⟩:=hc
     simp only [c4,c5,c6,if_false] at hs
     split at hs
     ·simp only [Typ.same,q1f,Bool.and_eq_true,decide_eq_true_eq] at hs; exact of_decide_eq_true hs.1.1.1.1.1.1.1.1.2
     ·split at hs
      ·simp only [Typ.same,q1f,Bool.and_eq_true,decide_eq_true_eq] at hs; exact of_decide_eq_true hs.1.1.1.1.1.1.1.1.2
      ·split at hs
       ·simp only [Typ.same,q1f,Bool.and_eq_true,decide_eq_true_eq] at hs; exact of_decide_eq_true hs.1.1.1.1.1.1.1.1.2
       ·split at hs
        ·simp only [Typ.same,q1f,Bool.and_eq_true,decide_eq_true_eq] at hs; exact of_decide_eq_true hs.1.1.1.1.1.1.1.1.2
        ·split at hs
         ·simp only [Typ.same,q1f,Bool.and_eq_true,decide_eq_true_eq] at hs; exact of_decide_eq_true hs.1.1.1.1.1.1.1.1.2
         ·simp only [Typ.same,q1f,Bool.and_eq_true,decide_eq_true_eq] at hs; exact of_decide_eq_true hs.1.1.1.1.1.1.1.1.2
    rw [hno] at hi'
    exact absurd hi' (by decide)
  have:=tName_inj ⟨j,by omega⟩ ⟨i,by omega⟩ (by simp only; rw [<- hnmj hbn,he])
  have:=congrArg Fin.val this
  simp only at this
  omega
theorem idxI_mem {α:Type} (p:α->Bool):∀ l:List α,(∃ x∈l,p x=true)->0<=idxI p l
 | [],h=>by obtain ⟨x,hx,_⟩:=h; cases hx
 | x :: r,h=>by
  have hg:=q3r p r
  unfold idxI
  by_cases hp:p x=true
  ·rw [if_pos hp]; exact Int.le_refl 0
  ·rw [if_neg hp]
   have:0<=idxI p r:=idxI_mem p r (by
    obtain ⟨y,hy,hpy⟩:=h
    rcases List.mem_cons.1 hy with rfl | hy
    ·exact absurd hpy hp
    ·exact ⟨y,hy,hpy⟩)
   rw [if_neg (by omega)]
   omega
theorem idAt_mem (a c:Int) (hc:0<=c):0<=symIx (q3S a) (idAt a c):=by
 have hlen:=q8u a
 have hn:((idsZ a).length:Int)≠0:=by omega
 have h0:=Int.emod_nonneg c hn
 have h1:=Int.emod_lt_of_pos c (b:=((idsZ a).length:Int)) (by omega)
 have hlt:(c % (idsZ a).length).toNat<(idsZ a).length:=by omega
 refine idxI_mem _ _ ⟨⟨idAt a c,sName (idAt a c)⟩,?_,by simp⟩
 unfold q3S
 refine List.mem_map.2 ⟨idAt a c,?_,rfl⟩
 unfold idAt
 rw [List.getElem?_eq_getElem hlt]
 exact List.getElem_mem hlt
theorem init_plain {l:List Nde} (hl:oks l) {T:List Typ} (h:rwS l.length (q2c l) T) {t c:Int} (ht:0<=t/\t<l.length) (hc:0<=c) (hi:(q5p l t c).2=true):plainV T t (q5p l t c).1=true:=by
 have hlen:=rwS_len h
 have hjT:t.toNat<T.length:=by omega
 have hjl:t.toNat<l.length:=by omega
 have hrw:=rwS_get h hjT
 have htt:((t.toNat:Nat):Int)=t:=by omega
 have hkd:=typZ_kind l hjl
 rw [htt] at hrw hkd
 have hx:=q2s hl hjl
 rw [htt] at hx
 have hkr:=kdAt_rng hl ht.1 ht.2
 have hke:kdAt l t=(ndAt l t).kind:=by rw [<- htt]; exact kdAt_nd l hjl
 obtain ⟨xk,xa,xb,xc,_⟩:=hx0 _ hx
 unfold plainV
 unfold fitN
 have ho:q17 T.length t=false:=by simp [q17]; omega
 rw [ho,List.getElem?_eq_getElem hjT]
 generalize hf:fitN T _=f
 clear hf
 have hk:=rwT_kind hrw
 rw [hkd] at hk
 unfold q5p at hi ⊢
 by_cases h56:kdAt l t=5\/kdAt l t=6
 ·rw [if_pos h56] at hi; cases hi
 rw [if_neg h56]
 have e6:¬ (kdAt l t=6/\(q27 l t false (ndAt l t).parts).isEmpty=true):=fun e=>h56 (.inr e.1)
 rw [if_neg e6] at hk
 obtain ⟨bs,hbs,hb⟩:=hrw
 rw [hb] at hk ⊢
 simp only [Bool.not_false,Bool.true_and]
 have hin:inK l t=(typZ l t).kind:=by
  unfold inK
  by_cases h8:kdAt l t=8
  ·by_cases hn:keyZ l 0<0
   ·have hn':=keyZ_some hl (by omega) xb.1 hn
    rw [if_pos ⟨h8,hn⟩]
    rw [if_pos ⟨h8,hn'⟩] at hk
    exact hk.symm
   ·have hn':¬ keyZ l (ndAt l t).b<0:=fun q=>hn (keyZ_some hl xb.1 (by omega) q)
    rw [if_neg (fun q=>hn q.2)]
    rw [if_neg (fun q=>hn' q.2),if_pos (by omega)] at hk
    exact hk.symm
  ·rw [if_neg (fun q=>h8 q.1)]
   rw [if_neg (fun q=>h8 q.1)] at hk
   by_cases h9:kdAt l t<=8
   ·rw [if_pos ⟨by omega,h9⟩] at hk; exact hk.symm
   ·rw [if_neg (fun q=>h9 q.2)] at hk
    show kdAt l t=_
    have:(typZ l t).kind=9:=hk
    omega
 rw [hin]
 have hzV:∀ (k:Int) (b:Bool) (i:Int) (s:ByteArray) (d:Int),(k=1\/b=false)->(k=2\/i=0)->(k=3\/s=⟨#[]⟩)->(k=4\/k=6\/d=0)->q89 (Vl.of k b i s d)=true:=fun k b i s d h1 h2 h3 h4=>by
  simp only [q89,Vl.of,Vl.kind,Vl.b,Vl.i,Vl.s,Vl.id,Vl.keys,Vl.items,Vl.rest,List.isEmpty_nil,Bool.or_true,Bool.and_true,Bool.and_eq_true,Bool.or_eq_true,decide_eq_true_eq,Bool.not_eq_true',or_assoc]
  exact ⟨h1.imp (fun h=>decide_eq_true h) id,h2.imp (fun h=>decide_eq_true h) (fun h=>decide_eq_true h),h3.imp (fun h=>decide_eq_true h) (fun h=>decide_eq_true h),h4.imp (fun h=>decide_eq_true h) (Or.imp (fun h=>decide_eq_true h) (fun h=>decide_eq_true h))⟩
 by_cases k1:kdAt l t=1
 ·have hz:(typZ l t).kind=1:=by simp [typZ,<- hke,k1,Typ.of]
  rw [hz]
  simp [Vl.of,Vl.kind,fitK,q89,Vl.b,Vl.i,Vl.s,Vl.id,Vl.keys,Vl.items,Vl.rest,k1]
 by_cases k2:kdAt l t=2
 ·have hz:(typZ l t).kind=2:=by simp [typZ,<- hke,k2,Typ.of]
  have hlo:(typZ l t).low=(ndAt l t).low:=by simp [typZ,<- hke,k2,Typ.of]
  have hhi:(typZ l t).high=(ndAt l t).high:=by simp [typZ,<- hke,k2,Typ.of]
  rw [hz,hlo,hhi]
  have h1:=Int.emod_nonneg c (show (ndAt l t).b % 6 + 1≠0 by have:=xb.1; omega)
  have h2:=Int.emod_lt_of_pos c (show 0<(ndAt l t).b % 6 + 1 by have:=xb.1; omega)
  have h3:(ndAt l t).low<=(ndAt l t).low + c % ((ndAt l t).b % 6 + 1):=by omega
  have h4:(ndAt l t).low + c % ((ndAt l t).b % 6 + 1)<=(ndAt l t).high:=by simp only [Nde.high]; omega
  simp [Vl.of,Vl.kind,fitK,q89,Vl.b,Vl.i,Vl.s,Vl.id,Vl.keys,Vl.items,Vl.rest,k2,h3,h4,h1]
 by_cases k3:kdAt l t=3
 ·have hz:(typZ l t).kind=3:=by simp [typZ,<- hke,k3,Typ.of]
  have hmx:(typZ l t).max=(ndAt l t).a % 4:=by simp [typZ,<- hke,k3,Typ.of]
  have h0:0<=(ndAt l t).a % 4:=by omega
  have hs0:(⟨#[]⟩:ByteArray).size=0:=rfl
  have hs1:(⟨#[97]⟩:ByteArray).size=1:=rfl
  rw [hz,hmx]
  by_cases hq:0<(ndAt l t).a % 4/\c % 2=1
  ·have h1:1<=(ndAt l t).a % 4:=by omega
   simp [Vl.of,Vl.kind,fitK,q89,Vl.b,Vl.i,Vl.s,Vl.id,Vl.keys,Vl.items,Vl.rest,k3,hq,hs1,h1]
  ·simp [Vl.of,Vl.kind,fitK,q89,Vl.b,Vl.i,Vl.s,Vl.id,Vl.keys,Vl.items,Vl.rest,k3,hq,hs0,h0]
 by_cases k4:kdAt l t=4
 ·have hz:(typZ l t).kind=4:=by simp [typZ,<- hke,k4,Typ.of]
  have hsy:(typZ l t).syms=q3S (ndAt l t).a:=by simp [typZ,<- hke,k4,Typ.of]
  have hm:=idAt_mem (ndAt l t).a c hc
  rw [hz,hsy]
  simp [Vl.of,Vl.kind,fitK,q89,Vl.b,Vl.i,Vl.s,Vl.id,Vl.keys,Vl.items,Vl.rest,k4,hm]
 have hz:7<=(typZ l t).kind/\(typZ l t).kind<=9:=by
  rw [hkd,if_neg e6]
  split
  ·omega
  ·split <;> omega
 have hmx:(typZ l t).kind<=8->0<=(typZ l t).max:=fun h8=>by
  by_cases k7:kdAt l t=7
  ·have:(typZ l t).max=(ndAt l t).a % 4:=by simp [typZ,<- hke,k7,Typ.of]
   omega
  by_cases k8:kdAt l t=8
  ·by_cases hc:keyZ l (ndAt l t).b<0
   ·have:(typZ l t).max=(ndAt l t).a % 4:=by simp [typZ,<- hke,k8,hc,Typ.of]
    omega
   ·have:(typZ l t).max=(ndAt l t).a % 4:=by simp [typZ,<- hke,k8,hc,Typ.of]
    omega
  have k9:kdAt l t=9:=by omega
  have:(typZ l t).kind=9:=by simp [typZ,<- hke,k9,Typ.of]
  omega
 generalize (typZ l t).kind=kk at *
 have q1:¬ kk=1:=by omega
 have q2:¬ kk=2:=by omega
 have q3:¬ kk=3:=by omega
 have q4:¬ kk=4:=by omega
 have q5:¬ kk=5:=by omega
 have q6:¬ kk=6:=by omega
 have hfit:fitK f { kind:=kk,name:=(typZ l t).name,low:=(typZ l t).low,high:=(typZ l t).high,max:=(typZ l t).max,sn:=(typZ l t).sn,syms:=(typZ l t).syms,mn:=bs.isEmpty,mems:=bs,key:=(typZ l t).key,elem:=(typZ l t).elem,opn:=(typZ l t).opn } (Vl.of kk false 0 ⟨#[]⟩ 0)=true:=by
  simp only [fitK,q1,q2,q3,q4,q5,q6,if_false,Vl.of,Vl.items,Vl.keys]
  by_cases k7:kk=7
  ·simp [k7,hmx (by omega)]
  by_cases k8:kk=8
  ·simp [k8,hmx (by omega),ascV]
  simp [k7,k8]
 simp only [k1,k2,k3,k4,false_and,if_false,decide_false]
 rw [hzV kk false 0 ⟨#[]⟩ 0 (.inr rfl) (.inr rfl) (.inr rfl) (.inr (.inr rfl)),hfit]
 simp [Vl.of,Vl.kind]
theorem dflts_none {S:List Typ} (h:∀ t∈S,dfltI S t=none):∀ n i,q2E S n i=none
 | 0,i=>rfl
 | n + 1,i=>by
  rw [q2E]
  cases hi:S[i]? with
  | none=>rfl
  | some t =>
   simp only [h t (List.mem_of_getElem? hi)]
   exact dflts_none h n (i + 1)
theorem rwS_err {l:List Nde} (hl:oks l) {T:List Typ} (h:rwS l.length (q2c l) T):q6i T=0:=by
 unfold q6i
 rw [if_pos (rwS_valid hl h),dflts_none fun t ht=>?_]
 obtain ⟨i,hi,rfl⟩:=List.getElem_of_mem ht
 have hil:i<l.length:=by rw [<- rwS_len h]; exact hi
 unfold dfltI
 rw [Option.map_eq_none_iff,List.find?_eq_none]
 intro m hm
 obtain ⟨bs,hbs,hb⟩:=rwS_get h hi
 have hm':m∈bs:=by rw [hb] at hm; exact hm
 obtain ⟨j,hj,rfl⟩:=List.getElem_of_mem hm'
 have hja:j<(typZ l (i:Int)).mems.length:=by rw [hbs.1]; exact hj
 have hr:=hbs.2 j _ _ (List.getElem?_eq_getElem hja) (List.getElem?_eq_getElem hj)
 unfold badM
 rcases hr.2.2.2 with h4 | ⟨_,_,h5,_⟩
 ·rw [h4]
  have hmz:∃ rc id p,p.ok/\q5I l (i:Int) id p=true/\(typZ l (i:Int)).mems[j]=memZ l (i:Int) rc id p:=by
   have hmem:=List.getElem_mem hja
   generalize (typZ l (i:Int)).mems[j]=m at *
   have hx:=q2s hl hil
   unfold typZ at hmem
   generalize ndAt l (i:Int)=x at *
   have hp:∀ rc,m∈q27 l (i:Int) rc x.parts->∃ rc id p,p.ok/\q5I l (i:Int) id p=true/\m=memZ l (i:Int) rc id p:=fun rc hmem=>by
    obtain ⟨id,p,_,_,h1,h2,h3⟩:=q4Q 12 m hmem
    exact ⟨rc,id,p,hx.2.2.2.2.2 p h1,h2,h3⟩
   simp only at hmem
   split at hmem <;> first | (simp [Typ.of] at hmem; done) | exact hp _ hmem | skip
   all_goals split at hmem <;> first | (simp [Typ.of] at hmem; done) | exact hp _ hmem
  obtain ⟨rc,id,p,hpo,hp,he⟩:=hmz
  rw [he]
  simp only [q5I,decide_eq_true_eq] at hp
  have hrg:=tgtZ_rng hl (i:Int) p.ty (by omega)
  cases hh:(memZ l (i:Int) rc id p).has with
  | false=>simp
  | true =>
   simp only [memZ,Bool.and_eq_true,decide_eq_true_eq] at hh
   have:=init_plain hl h ⟨hp.2,hrg.2⟩ (c:=p.flag / 4) (by have:=hpo.2.2.1; omega) hh.2
   simp [memZ,hh.1,this]
 ·simp [h5]
end Go.Proofs.YtdjomefkhdimaaaGreat
namespace Go.Proofs.YtdjomefkhdimaaaGreat
open Go
set_option maxRecDepth 10000
set_option maxHeartbeats 8000000
set_option linter.unusedSimpArgs false
theorem rounds_ev (b:Bool) (S:List Typ) (hs:(⟨b,S⟩:Sch).fine) (h64:(⟨b,S⟩:Sch).d64) (h0:q6i S=0):∃ r:RV,(∃ v,inB S.length v/\(∀ j,j<S.length->FRn S j v=v j)/\r=(.tup [.sl false (vecC S.length fun j=>q1m (v j)),.int .i64 0],none))/\evC allT q00 17 [.agg (schC ⟨b,S⟩)] none=some r:=by
 refine evC_reach q1q rfl rfl (F:=RndEnd S) (rounds_run b S hs h64 h0) fun e s' h=>?_
 have hres:q1q.res=[.tmp 2,.tmp 3]:=rfl
 obtain ⟨rfl,t,n,v,e2,e3,h1,h2,hm⟩:=h
 have hel:=vec_els S.length fun j=>q1m (v j)
 exact ⟨_,by simp [hres,e2,e3,hm,hel],v,h1,h2,rfl⟩
theorem recR_ge {v:Vec}:∀ (l:List Mem) (a:Int),a<=recR v l a/\∀ m∈l,m.has=false->v m.ty.toNat + 1<=recR v l a
 | [],a=>⟨Int.le_refl _,fun m h=>by cases h⟩
 | x :: r,a=>by
  rw [recR]
  by_cases hx:x.has=true
  ·rw [if_pos hx]
   obtain ⟨h1,h2⟩:=recR_ge (v:=v) r a
   refine ⟨h1,fun m hm hh=>?_⟩
   rcases List.mem_cons.1 hm with rfl | hm
   ·rw [hx] at hh; cases hh
   ·exact h2 m hm hh
  ·rw [if_neg hx]
   obtain ⟨h1,h2⟩:=recR_ge (v:=v) r (max a (v x.ty.toNat + 1))
   refine ⟨by omega,fun m hm hh=>?_⟩
   rcases List.mem_cons.1 hm with rfl | hm
   ·omega
   ·exact h2 m hm hh
theorem uniR_ex {v:Vec}:∀ (l:List Mem) (a:Int),uniR v l a=a\/∃ m∈l,uniR v l a=v m.ty.toNat + 1
 | [],a=>.inl rfl
 | x :: r,a=>by
  rw [uniR]
  rcases uniR_ex (v:=v) r (min a (v x.ty.toNat + 1)) with h | ⟨m,hm,h⟩
  ·by_cases hc:a<=v x.ty.toNat + 1
   ·left; omega
   ·right; exact ⟨x,List.mem_cons_self,by omega⟩
  ·exact .inr ⟨m,List.mem_cons_of_mem _ hm,h⟩
theorem rnd_rec {N:Nat} {v:Vec} (hv:inB N v) {x:Typ} (hx:q6G N x) {r:Int} (h:rndP x v=r) (h5:x.kind=5) (hr:0<=q1m r) {m:Mem} (hm:m∈x.mems) (hh:m.has=false):0<=q1m (v m.ty.toNat)/\q1m (v m.ty.toNat)<q1m r:=by
 have hnr:q1D=1073741824:=rfl
 have h1:=(recR_ge (v:=v) x.mems 0).2 m hm hh
 have h2:=hv m.ty.toNat (by have:=hx.mems m hm; omega)
 simp only [rndP,h5,if_true] at h
 have hne:r≠q1D:=fun e=>by simp [q1m,e] at hr
 have h3:q1m r=r:=if_neg hne
 have h4:q1m (v m.ty.toNat)=v m.ty.toNat:=if_neg (by omega)
 omega
theorem rnd_uni {N:Nat} {v:Vec} (hv:inB N v) {x:Typ} (hx:q6G N x) {r:Int} (h:rndP x v=r) (h6:x.kind=6) (hr:0<=q1m r):∃ m∈x.mems,0<=q1m (v m.ty.toNat)/\q1m (v m.ty.toNat)<q1m r:=by
 have hnr:q1D=1073741824:=rfl
 have h5:¬ x.kind=5:=by omega
 simp only [rndP,h5,h6,if_true,if_false] at h
 have hne:r≠q1D:=fun e=>by simp [q1m,e] at hr
 have h3:q1m r=r:=if_neg hne
 rcases uniR_ex (v:=v) x.mems q1D with h1 | ⟨m,hm,h1⟩
 ·omega
 ·have h2:=hv m.ty.toNat (by have:=hx.mems m hm; omega)
  have h4:q1m (v m.ty.toNat)=v m.ty.toNat:=if_neg (by omega)
  exact ⟨m,hm,by omega,by omega⟩
def gb (ρ:Vec) (r:Int) (m:Mem):Bool:=decide (0<=ρ m.ty.toNat)&&decide (ρ m.ty.toNat<r)
theorem any_take {α:Type} (p:α->Bool) (l:List α) {i:Nat} (h:i<l.length):(l.take (i + 1)).any p=((l.take i).any p||p l[i]):=by
 rw [<- List.take_append_getElem h,List.any_append]
 simp
theorem rlaw_in {r:RV} {N:Nat} {ρ:Vec} {x:Typ} (hx:q6G N x) {i:Nat} (hi:i<N) {n8:Nat} (hrec:x.kind=5->0<=ρ i->∀ m∈x.mems,m.has=false->0<=ρ m.ty.toNat/\ρ m.ty.toNat<ρ i) (s0:Bool) (σ:MSt) (k:Ex->MSt->Option RV)
  (e5:(σ.env 5).v=.sl false (vecC N ρ)) (e7:(σ.env 7).v=.int .i64 i) (e8:(σ.env 8).v=.ptr 8 n8 0) (m8:σ.mem 8 n8=some (q38 x)) (e9:(σ.env 9).v=.bool s0) (e58:(σ.env 58).v=.sl x.mn (x.mems.map memC)) (e59:(σ.env 59).v=.int .i64 x.mems.length) (e60:(σ.env 60).v=.int .i64 0)
  (hk:∀ σ',(∀ t,t<9\/11<t/\t<61->t≠60->(σ'.env t).v=(σ.env t).v)->(∀ t n,t≠11->σ'.mem t n=σ.mem t n)->(σ'.env 9).v=.bool (s0||x.mems.any (gb ρ (ρ i)))->k (.exit 2) σ'=some r):evL allT q00 q02 σ k=some r:=by
 have hml:=hx.few
 refine q0Q x.mems.length (fun j s=>(∀ t,t<9\/11<t/\t<61->t≠60->(s.env t).v=(σ.env t).v)/\(∀ t n,t≠11->s.mem t n=σ.mem t n)/\(s.env 60).v=.int .i64 j/\(s.env 9).v=.bool (s0||(x.mems.take j).any (gb ρ (ρ i))))
  (fun e s=>e=.exit 2/\(∀ t,t<9\/11<t/\t<61->t≠60->(s.env t).v=(σ.env t).v)/\(∀ t n,t≠11->s.mem t n=σ.mem t n)/\(s.env 9).v=.bool (s0||x.mems.any (gb ρ (ρ i)))) (fun j hj s k h ih hk=>?_) σ k ⟨fun _ _ _=>rfl,fun _ _ _=>rfl,by simpa using e60,by simpa using e9⟩ (fun e s h=>by obtain ⟨rfl,h1,h2,h3⟩:=h; exact hk s h1 h2 h3)
 obtain ⟨hE,hM,f60,f9⟩:=h
 have f5:=(hE 5 (by omega) (by omega)).trans e5
 have f7:=(hE 7 (by omega) (by omega)).trans e7
 have f8:=(hE 8 (by omega) (by omega)).trans e8
 have f58:=(hE 58 (by omega) (by omega)).trans e58
 have f59:=(hE 59 (by omega) (by omega)).trans e59
 have n8':=(hM 8 n8 (by omega)).trans m8
 refine q08 ?_
 by_cases hlt:j<x.mems.length
 ·have hlt':(j:Int)<x.mems.length:=by omega
  have g1:(x.mems.map memC)[j]?=some (memC x.mems[j]):=by simp [hlt]
  have hw':=q2a (i:=j) (by omega)
  have hmi:=hx.mems _ (List.getElem_mem hlt)
  have hr5:=fun h5 h0=>hrec h5 h0 _ (List.getElem_mem hlt)
  have hany:=any_take (gb ρ (ρ i)) x.mems hlt
  generalize x.mems[j]=m at *
  generalize (x.mems.take j).any (gb ρ (ρ i))=q at *
  have gv:=q4n ρ hmi
  have gi:=q4n ρ (t:=(i:Int)) (N:=N) (by omega)
  simp only [Int.toNat_natCast] at gi
  have hm0:=hmi.1
  simp only [memC] at g1
  simp only [q38] at n8'
  have fin:∀ (E:Nat->Slot) (M:Nat->Nat->Option (List Slot)) (nx:Nat),(∀ t,t<9\/11<t/\t<61->t≠60->(E t).v=(s.env t).v)->(∀ t n,t≠11->M t n=s.mem t n)->(E 60).v=.int .i64 ((j + 1:Nat):Int)->(E 9).v=.bool (s0||(q||gb ρ (ρ i) m))->evL allT q00 q02 ⟨E,M,nx,s.obj,s.gh⟩ k=some r:=fun E M nx h1 h2 h3 h4 =>
   ih hlt _ ⟨fun t ht h=>(h1 t ht h).trans (hE t ht h),fun t n h=>(h2 t n h).trans (hM t n h),h3,by rw [hany]; exact h4⟩
  have base:∀ (b9:Bool),(s0||q)=b9->(s0||(q||gb ρ (ρ i) m))=(b9||gb ρ (ρ i) m):=fun b9 h=>by rw [<- Bool.or_assoc,h]
  generalize hb9:(s0||q)=b9 at *
  rw [base b9 rfl] at fin
  by_cases k5:x.kind=5
  ·by_cases r0:0<=ρ i
   ·by_cases hh:m.has=true
    ·cases b9
     ·by_cases c1:0<=ρ m.ty.toNat
      ·by_cases c2:ρ m.ty.toNat<ρ i
       ·simp [q02,-Option.bind_some,-Int.toNat_lt,-List.map_map,List.range_succ,f5,f7,f8,f58,f59,f60,n8',f9,hlt',g1,hw',gv,gi,hm0,k5,r0,hh,c1,c2]
        refine fin _ _ _ (fun t ht h=>?_) (fun t n h=>?_) ?_ ?_
        ·have q:∀ c,(c=9\/c=11\/61<=c)->¬ t=c:=fun c hc=>by omega
         simp [q,h]
        ·simp [h]
        ·simp
        ·simp [gb,k5,r0,hh,c1,c2]
       ·simp [q02,-Option.bind_some,-Int.toNat_lt,-List.map_map,List.range_succ,f5,f7,f8,f58,f59,f60,n8',f9,hlt',g1,hw',gv,gi,hm0,k5,r0,hh,c1,c2]
        refine fin _ _ _ (fun t ht h=>?_) (fun t n h=>?_) ?_ ?_
        ·have q:∀ c,(c=9\/c=11\/61<=c)->¬ t=c:=fun c hc=>by omega
         simp [q,h]
        ·simp [h]
        ·simp
        ·simp [gb,k5,r0,hh,c1,c2]
      ·simp [q02,-Option.bind_some,-Int.toNat_lt,-List.map_map,List.range_succ,f5,f7,f8,f58,f59,f60,n8',f9,hlt',g1,hw',gv,gi,hm0,k5,r0,hh,c1]
       refine fin _ _ _ (fun t ht h=>?_) (fun t n h=>?_) ?_ ?_
       ·have q:∀ c,(c=9\/c=11\/61<=c)->¬ t=c:=fun c hc=>by omega
        simp [q,h]
       ·simp [h]
       ·simp
       ·simp [gb,k5,r0,hh,c1]
     ·simp [q02,-Option.bind_some,-Int.toNat_lt,-List.map_map,List.range_succ,f5,f7,f8,f58,f59,f60,n8',f9,hlt',g1,hw',gv,gi,hm0,k5,r0,hh]
      refine fin _ _ _ (fun t ht h=>?_) (fun t n h=>?_) ?_ ?_
      ·have q:∀ c,(c=9\/c=11\/61<=c)->¬ t=c:=fun c hc=>by omega
       simp [q,h]
      ·simp [h]
      ·simp
      ·simp [gb,k5,r0,hh]
    ·have hh':m.has=false:=by simpa using hh
     obtain ⟨c1,c2⟩:=hr5 k5 r0 hh'
     have c3:¬ ρ m.ty.toNat<0:=by omega
     have c4:¬ ρ i<=ρ m.ty.toNat:=by omega
     cases b9
     ·simp [q02,-Option.bind_some,-Int.toNat_lt,-List.map_map,List.range_succ,f5,f7,f8,f58,f59,f60,n8',f9,hlt',g1,hw',gv,gi,hm0,k5,r0,hh',c1,c2,c3,c4]
      refine fin _ _ _ (fun t ht h=>?_) (fun t n h=>?_) ?_ ?_
      ·have q:∀ c,(c=9\/c=11\/61<=c)->¬ t=c:=fun c hc=>by omega
       simp [q,h]
      ·simp [h]
      ·simp
      ·simp [gb,k5,r0,hh',c1,c2,c3,c4]
     ·simp [q02,-Option.bind_some,-Int.toNat_lt,-List.map_map,List.range_succ,f5,f7,f8,f58,f59,f60,n8',f9,hlt',g1,hw',gv,gi,hm0,k5,r0,hh',c1,c2,c3,c4]
      refine fin _ _ _ (fun t ht h=>?_) (fun t n h=>?_) ?_ ?_
      ·have q:∀ c,(c=9\/c=11\/61<=c)->¬ t=c:=fun c hc=>by omega
       simp [q,h]
      ·simp [h]
      ·simp
      ·simp [gb,k5,r0,hh',c1,c2,c3,c4]
   ·cases b9
    ·by_cases c1:0<=ρ m.ty.toNat
     ·by_cases c2:ρ m.ty.toNat<ρ i
      ·simp [q02,-Option.bind_some,-Int.toNat_lt,-List.map_map,List.range_succ,f5,f7,f8,f58,f59,f60,n8',f9,hlt',g1,hw',gv,gi,hm0,k5,r0,c1,c2]
       refine fin _ _ _ (fun t ht h=>?_) (fun t n h=>?_) ?_ ?_
       ·have q:∀ c,(c=9\/c=11\/61<=c)->¬ t=c:=fun c hc=>by omega
        simp [q,h]
       ·simp [h]
       ·simp
       ·simp [gb,k5,r0,c1,c2]
      ·simp [q02,-Option.bind_some,-Int.toNat_lt,-List.map_map,List.range_succ,f5,f7,f8,f58,f59,f60,n8',f9,hlt',g1,hw',gv,gi,hm0,k5,r0,c1,c2]
       refine fin _ _ _ (fun t ht h=>?_) (fun t n h=>?_) ?_ ?_
       ·have q:∀ c,(c=9\/c=11\/61<=c)->¬ t=c:=fun c hc=>by omega
        simp [q,h]
       ·simp [h]
       ·simp
       ·simp [gb,k5,r0,c1,c2]
     ·simp [q02,-Option.bind_some,-Int.toNat_lt,-List.map_map,List.range_succ,f5,f7,f8,f58,f59,f60,n8',f9,hlt',g1,hw',gv,gi,hm0,k5,r0,c1]
      refine fin _ _ _ (fun t ht h=>?_) (fun t n h=>?_) ?_ ?_
      ·have q:∀ c,(c=9\/c=11\/61<=c)->¬ t=c:=fun c hc=>by omega
       simp [q,h]
      ·simp [h]
      ·simp
      ·simp [gb,k5,r0,c1]
    ·simp [q02,-Option.bind_some,-Int.toNat_lt,-List.map_map,List.range_succ,f5,f7,f8,f58,f59,f60,n8',f9,hlt',g1,hw',gv,gi,hm0,k5,r0]
     refine fin _ _ _ (fun t ht h=>?_) (fun t n h=>?_) ?_ ?_
     ·have q:∀ c,(c=9\/c=11\/61<=c)->¬ t=c:=fun c hc=>by omega
      simp [q,h]
     ·simp [h]
     ·simp
     ·simp [gb,k5,r0]
  ·cases b9
   ·by_cases c1:0<=ρ m.ty.toNat
    ·by_cases c2:ρ m.ty.toNat<ρ i
     ·simp [q02,-Option.bind_some,-Int.toNat_lt,-List.map_map,List.range_succ,f5,f7,f8,f58,f59,f60,n8',f9,hlt',g1,hw',gv,gi,hm0,k5,c1,c2]
      refine fin _ _ _ (fun t ht h=>?_) (fun t n h=>?_) ?_ ?_
      ·have q:∀ c,(c=9\/c=11\/61<=c)->¬ t=c:=fun c hc=>by omega
       simp [q,h]
      ·simp [h]
      ·simp
      ·simp [gb,k5,c1,c2]
     ·simp [q02,-Option.bind_some,-Int.toNat_lt,-List.map_map,List.range_succ,f5,f7,f8,f58,f59,f60,n8',f9,hlt',g1,hw',gv,gi,hm0,k5,c1,c2]
      refine fin _ _ _ (fun t ht h=>?_) (fun t n h=>?_) ?_ ?_
      ·have q:∀ c,(c=9\/c=11\/61<=c)->¬ t=c:=fun c hc=>by omega
       simp [q,h]
      ·simp [h]
      ·simp
      ·simp [gb,k5,c1,c2]
    ·simp [q02,-Option.bind_some,-Int.toNat_lt,-List.map_map,List.range_succ,f5,f7,f8,f58,f59,f60,n8',f9,hlt',g1,hw',gv,gi,hm0,k5,c1]
     refine fin _ _ _ (fun t ht h=>?_) (fun t n h=>?_) ?_ ?_
     ·have q:∀ c,(c=9\/c=11\/61<=c)->¬ t=c:=fun c hc=>by omega
      simp [q,h]
     ·simp [h]
     ·simp
     ·simp [gb,k5,c1]
   ·simp [q02,-Option.bind_some,-Int.toNat_lt,-List.map_map,List.range_succ,f5,f7,f8,f58,f59,f60,n8',f9,hlt',g1,hw',gv,gi,hm0,k5]
    refine fin _ _ _ (fun t ht h=>?_) (fun t n h=>?_) ?_ ?_
    ·have q:∀ c,(c=9\/c=11\/61<=c)->¬ t=c:=fun c hc=>by omega
     simp [q,h]
    ·simp [h]
    ·simp
    ·simp [gb,k5]
 ·have hlt':¬ (j:Int)<x.mems.length:=by omega
  simp [q02,-Option.bind_some,-Int.toNat_lt,-List.map_map,List.range_succ,f59,f60,hlt']
  rw [List.take_of_length_le (by omega)] at f9
  refine hk _ _ ⟨rfl,fun t ht h=>?_,fun t n h=>?_,?_⟩
  ·have:=hE t ht h
   simp [show ¬ t=61 from by omega,this]
  ·exact hM t n h
  ·simp [f9]
end Go.Proofs.YtdjomefkhdimaaaGreat
namespace Go.Proofs.YtdjomefkhdimaaaGreat
open Go
set_option maxRecDepth 10000
set_option maxHeartbeats 8000000
set_option linter.unusedSimpArgs false
theorem roundslaw_ev {dn wn:Bool} {l:List Nde} (hl:∀ x∈l,x.ok) {ws:List Wire} (hw:∀ w∈ws,w.ok):evA 7 [.agg [.sl dn (l.map ndeC),.sl wn (ws.map wireC)]] (.bool true):=by
 have haw:=awake11_ev
 refine q05 (c:=q0K) rfl rfl ?_
 obtain ⟨r,h,hof⟩:=of11_ev (dn:=dn) (wn:=wn) hl hw
 rcases h with ⟨_,rfl⟩ | ⟨ho,_,S,hT,rfl⟩
 ·simp [q0K,-Option.bind_some,-Int.toNat_lt,-List.map_map,List.range_succ,hof,haw]
 obtain ⟨hf,h6⟩:=rwS_ok ho hT
 have h0:=rwS_err ho hT
 have hv0:=rwS_valid ho hT
 have hW:=q7I hv0
 have hN:=valid_len hv0
 obtain ⟨q,⟨v,hv,hfix,rfl⟩,hr⟩:=rounds_ev false S hf h6 h0
 simp only [schC] at hr
 obtain ⟨N,hNN⟩:∃ N,N=S.length:=⟨_,rfl⟩
 have hfix':∀ j (hj:j<S.length),rndP S[j] v=v j:=fun j hj=>by
  have:=hfix j hj
  unfold FRn at this
  rwa [List.getElem?_eq_getElem hj] at this
 rw [<- hNN] at hr hv hN hW
 have hvl:=vecC_len N fun j=>q1m (v j)
 simp [q0K,-Option.bind_some,-Int.toNat_lt,-List.map_map,List.range_succ,hof,haw,hr,hvl,<- hNN]
 refine q0Q N (fun i σ=>(σ.env 5).v=.sl false (vecC N fun j=>q1m (v j))/\(σ.env 40).v=.sl false (S.map typC)/\(σ.env 41).v=.int .i64 N/\(σ.env 42).v=.int .i64 i)
  (fun e σ=>e=.exit 0) (fun i hi σ k h ih hk=>?_) _ _ ?_ (fun e σ h=>?_)
 ·obtain ⟨e5,e40,e41,e42⟩:=h
  refine q08 ?_
  by_cases hlt:i<N
  ·have hlt':(i:Int)<N:=by omega
   have hltS:i<S.length:=by omega
   have g1:(S.map typC)[i]?=some (typC S[i]):=by simp [hltS]
   have hw':=q2a (i:=i) (by omega)
   have hx:=hW _ (List.getElem_mem hltS)
   have hfx:=hfix' i hltS
   generalize S[i]=x at *
   have gi:=q4n (fun j=>q1m (v j)) (t:=(i:Int)) (N:=N) (by omega)
   simp only [Int.toNat_natCast] at gi
   have hrec:x.kind=5->0<=q1m (v i)->∀ m∈x.mems,m.has=false->0<=q1m (v m.ty.toNat)/\q1m (v m.ty.toNat)<q1m (v i):=fun h5 h0 m hm hh=>rnd_rec hv hx hfx h5 h0 hm hh
   have huni:x.kind=6->0<=q1m (v i)->x.mems.any (gb (fun j=>q1m (v j)) (q1m (v i)))=true:=fun h6 h0=>by
    obtain ⟨m,hm,h1,h2⟩:=rnd_uni hv hx hfx h6 h0
    exact List.any_eq_true.2 ⟨m,hm,by simp [gb,h1,h2]⟩
   simp only [typC] at g1
   have fin:∀ (s0:Bool) (σ':MSt),(σ'.env 9).v=.bool (s0||x.mems.any (gb (fun j=>q1m (v j)) (q1m (v i))))->(s0=true\/x.kind=6/\0<=q1m (v i))->(σ'.env 9).v=.bool true:=fun s0 σ' h1 h2=>by
    rw [h1]
    rcases h2 with rfl | ⟨h2,h3⟩
    ·rfl
    ·rw [huni h2 h3,Bool.or_true]
   by_cases k6:x.kind=6
   ·by_cases r0:q1m (v i)<0
    ·simp [q0M,-Option.bind_some,-Int.toNat_lt,-List.map_map,List.range_succ,e5,e40,e41,e42,hlt',g1,gi,k6,r0]
     refine rlaw_in (ρ:=fun j=>q1m (v j)) (n8:=σ.next + 1) hx hlt hrec true _ _ ?_ ?_ ?_ ?_ ?_ ?_ ?_ ?_ (fun σ' h1 h2 h9=>?_)
     case refine_9 =>
      have h9':=fin true σ' h9 (.inl rfl)
      have h5':=h1 5 (by omega) (by omega)
      have h40':=h1 40 (by omega) (by omega)
      have h41':=h1 41 (by omega) (by omega)
      have h42':=h1 42 (by omega) (by omega)
      simp at h5' h40' h41' h42'
      simp [-Option.bind_some,-Int.toNat_lt,-List.map_map,List.range_succ,h9',h42',e42,hw']
      refine ih hlt _ ⟨?_,?_,?_,?_⟩ <;> simp [h5',h40',h41',e5,e40,e41]
     all_goals simp [e5,q38, *]
    ·simp [q0M,-Option.bind_some,-Int.toNat_lt,-List.map_map,List.range_succ,e5,e40,e41,e42,hlt',g1,gi,k6,r0]
     refine rlaw_in (ρ:=fun j=>q1m (v j)) (n8:=σ.next + 1) hx hlt hrec false _ _ ?_ ?_ ?_ ?_ ?_ ?_ ?_ ?_ (fun σ' h1 h2 h9=>?_)
     case refine_9 =>
      have h9':=fin false σ' h9 (.inr ⟨k6,by omega⟩)
      have h5':=h1 5 (by omega) (by omega)
      have h40':=h1 40 (by omega) (by omega)
      have h41':=h1 41 (by omega) (by omega)
      have h42':=h1 42 (by omega) (by omega)
      simp at h5' h40' h41' h42'
      simp [-Option.bind_some,-Int.toNat_lt,-List.map_map,List.range_succ,h9',h42',e42,hw']
      refine ih hlt _ ⟨?_,?_,?_,?_⟩ <;> simp [h5',h40',h41',e5,e40,e41]
     all_goals simp [e5,q38, *]
   ·simp [q0M,-Option.bind_some,-Int.toNat_lt,-List.map_map,List.range_succ,e5,e40,e41,e42,hlt',g1,gi,k6]
    refine rlaw_in (ρ:=fun j=>q1m (v j)) (n8:=σ.next + 1) hx hlt hrec true _ _ ?_ ?_ ?_ ?_ ?_ ?_ ?_ ?_ (fun σ' h1 h2 h9=>?_)
    case refine_9 =>
     have h9':=fin true σ' h9 (.inl rfl)
     have h5':=h1 5 (by omega) (by omega)
     have h40':=h1 40 (by omega) (by omega)
     have h41':=h1 41 (by omega) (by omega)
     have h42':=h1 42 (by omega) (by omega)
     simp at h5' h40' h41' h42'
     simp [-Option.bind_some,-Int.toNat_lt,-List.map_map,List.range_succ,h9',h42',e42,hw']
     refine ih hlt _ ⟨?_,?_,?_,?_⟩ <;> simp [h5',h40',h41',e5,e40,e41]
    all_goals simp [e5,q38, *]
  ·have hlt':¬ (i:Int)<N:=by omega
   simp [q0M,-Option.bind_some,-Int.toNat_lt,-List.map_map,List.range_succ,e41,e42,hlt']
   exact hk _ _ rfl
 ·refine ⟨?_,?_,?_,?_⟩ <;> simp
 ·subst h
  simp [-Option.bind_some,-Int.toNat_lt,-List.map_map,List.range_succ]
end Go.Proofs.YtdjomefkhdimaaaGreat
