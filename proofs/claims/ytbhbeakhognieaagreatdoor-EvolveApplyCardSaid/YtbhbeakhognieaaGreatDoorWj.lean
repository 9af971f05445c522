/- A part of the proof. -/
import Derived.Test.YtbhbeakhognieaaGreatDoorWi
set_option linter.all false
set_option maxRecDepth 100000
set_option maxHeartbeats 8000000
namespace Go.Proofs.YtbhbeakhognieaaGreatDoor
open Go
section
abbrev Vec:=Nat->Int
def inR (N:Nat) (v:Vec):Prop:=∀ j,j<N->0<=v j/\v j<=2
structure Grows (N:Nat) (F:Nat->Vec->Int):Prop where
 mono:∀ u v,inR N u->inR N v->(∀ j,j<N->u j<=v j)->∀ i,i<N->F i u<=F i v
 rng:∀ u,inR N u->∀ i,i<N->0<=F i u/\F i u<=2
def upd (F:Nat->Vec->Int) (v:Vec) (i:Nat):Vec:=fun j=>if j=i then F i v else v j
structure Low (N:Nat) (F:Nat->Vec->Int) (v:Vec):Prop where
 rng:inR N v
 post:∀ j,j<N->v j<=F j v
 least:∀ m,inR N m->(∀ j,j<N->F j m<=m j)->∀ j,j<N->v j<=m j
section
variable {N:Nat} {F:Nat->Vec->Int}
theorem Low.zero (G:Grows N F):Low N F (fun _=>0):=by
 refine ⟨fun j hj=>by omega,fun j hj=>(G.rng _ (fun j hj=>by omega) j hj).1,fun m hm _ j hj=>(hm j hj).1⟩
theorem upd_ge {v:Vec} (h:Low N F v) {i:Nat} (hi:i<N) (j:Nat):v j<=upd F v i j:=by
 unfold upd;split
 ·rename_i e; subst e; exact h.post _ hi
 ·exact Int.le_refl _
theorem upd_rng (G:Grows N F) {v:Vec} (h:Low N F v) {i:Nat} (hi:i<N):inR N (upd F v i):=fun j hj=>by
 unfold upd;split
 ·exact G.rng v h.rng i hi
 ·exact h.rng j hj
theorem Low.upd (G:Grows N F) {v:Vec} (h:Low N F v) {i:Nat} (hi:i<N):Low N F (upd F v i):=by
 have hr:=upd_rng G h hi;refine ⟨hr,fun j hj=>?_,fun m hm hp j hj=>?_⟩
 ·have hm:=G.mono v (Go.Proofs.YtbhbeakhognieaaGreatDoor.upd F v i) h.rng hr (fun j _=>upd_ge h hi j) j hj;unfold Go.Proofs.YtbhbeakhognieaaGreatDoor.upd at hm ⊢;by_cases e:j=i
  ·subst e; simp only [if_true]; exact hm
  ·simp only [if_neg e]; have:=h.post j hj; omega
 ·unfold Go.Proofs.YtbhbeakhognieaaGreatDoor.upd;split
  ·rename_i e; subst e;have:=G.mono v m h.rng hm (h.least m hm hp) j hj;have:=hp j hj;omega
  ·exact h.least m hm hp j hj
end
end


theorem fT {l:List fB} (h:MB l []=true):l=[]:=by
 cases l with
 | nil=>rfl
 | cons=>simp [MB] at h
theorem good_few {t:QA} (h:zD t=true):t.mems.length<=16:=by
 have hk:=dU h;unfold zD GO QA.left at h;rcases kinds t.kind with e | e | e | e | e | e | e | e | e | e
 all_goals first | exact absurd hk e | skip
 all_goals simp [e,QA.same,xD,dI] at h
 all_goals first
  | (obtain ⟨⟨_,h⟩,_⟩:=h; omega)
  | (have:=fT h.2; rw [this]; simp)
  | (have:=fT h.2.2; rw [this]; simp)
  | omega
theorem valid_len {S:List QA} (h:EB S=0):S.length<=32:=by
 unfold EB at h;by_cases js:32<S.length
 ·rw [if_pos js] at h; cases h
 ·omega
end Go.Proofs.YtbhbeakhognieaaGreatDoor
