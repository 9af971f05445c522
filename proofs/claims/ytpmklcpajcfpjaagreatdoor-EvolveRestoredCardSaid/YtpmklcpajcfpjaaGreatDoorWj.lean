/- A part of the proof. -/
import Derived.Test.YtpmklcpajcfpjaaGreatDoorWi
set_option linter.all false
set_option maxRecDepth 100000
set_option maxHeartbeats 8000000
namespace Go.Proofs.YtpmklcpajcfpjaaGreatDoor
open Go
section
abbrev Ug:=Nat->Int
def inR (N:Nat)(v:Ug):Prop:=∀j,j<N->0<=v j/\v j<=2
structure Nf (N:Nat)(F:Nat->Ug->Int):Prop where
 mono:∀u v,inR N u->inR N v->(∀j,j<N->u j<=v j)->∀i,i<N->F i u<=F i v
 fC:∀u,inR N u->∀i,i<N->0<=F i u/\F i u<=2
def upd (F:Nat->Ug->Int)(v:Ug)(i:Nat):Ug:=fun j=>if j=i then F i v else v j
structure Low (N:Nat)(F:Nat->Ug->Int)(v:Ug):Prop where
 fC:inR N v
 post:∀j,j<N->v j<=F j v
 least:∀m,inR N m->(∀j,j<N->F j m<=m j)->∀j,j<N->v j<=m j
section
variable {N:Nat} {F:Nat->Ug->Int}
theorem Low.zero (G:Nf N F):Low N F (fun _=>0):=by
 refine⟨fun j hj=>by omega,fun j hj=>(G.fC _ (fun j hj=>by omega) j hj).1,fun m hm _ j hj=>(hm j hj).1⟩
theorem upd_ge {v:Ug}(h:Low N F v){i:Nat}(hi:i<N)(j:Nat):v j<=upd F v i j:=by
 unfold upd;split
 ·rename_i e;subst e;exact h.post _ hi
 ·exact Int.le_refl _
theorem upd_rng (G:Nf N F){v:Ug}(h:Low N F v){i:Nat}(hi:i<N):inR N (upd F v i):=fun j hj=>by
 unfold upd;split
 ·exact G.fC v h.fC i hi
 ·exact h.fC j hj
theorem Low.upd (G:Nf N F){v:Ug}(h:Low N F v){i:Nat}(hi:i<N):Low N F (upd F v i):=by
 have hr:=upd_rng G h hi;refine⟨hr,fun j hj=>?_,fun m hm hp j hj=>?_⟩
 ·have hm:=G.mono v (Go.Proofs.YtpmklcpajcfpjaaGreatDoor.upd F v i) h.fC hr (fun j _=>upd_ge h hi j) j hj;unfold Go.Proofs.YtpmklcpajcfpjaaGreatDoor.upd at hm ⊢;by_cases e:j=i
  ·subst e;simp only[if_true];exact hm
  ·simp only[if_neg e];have:=h.post j hj;omega
 ·unfold Go.Proofs.YtpmklcpajcfpjaaGreatDoor.upd;split
  ·rename_i e;subst e;have:=G.mono v m h.fC hm (h.least m hm hp) j hj;have:=hp j hj;omega
  ·exact h.least m hm hp j hj
end
end


theorem ZV {l:List ED}(h:mD l []=true):l=[]:=by
 cases l with
 |nil=>rfl
 |cons=>simp[mD]at h
theorem Wl {t:BC}(h:bD t=true):t.qA.length<=16:=by
 have hk:=rT h;unfold bD EI BC.left at h;rcases kinds t.kind with e|e|e|e|e|e|e|e|e|e
 all_goals first|exact absurd hk e|skip
 all_goals simp[e,BC.same,pE,xI]at h
 all_goals first
  |(obtain⟨⟨_,h⟩,_⟩:=h;omega)
  |(have:=ZV h.2;rw[this];simp)
  |(have:=ZV h.2.2;rw[this];simp)
  |omega



end Go.Proofs.YtpmklcpajcfpjaaGreatDoor
