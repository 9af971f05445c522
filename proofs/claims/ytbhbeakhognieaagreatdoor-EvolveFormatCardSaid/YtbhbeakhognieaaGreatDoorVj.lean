/- A part of the proof. -/
import Derived.Test.YtbhbeakhognieaaGreatDoorVi
set_option linter.all false
set_option maxRecDepth 100000
set_option maxHeartbeats 8000000
namespace Go.Proofs.YtbhbeakhognieaaGreatDoor
open Go
section
abbrev Vec:=Nat->Int
def inR (N:Nat) (v:Vec):Prop:=∀ j,j<N->0<=v j/\v j<=2
structure Grows (N:Nat) (F:Nat->Vec->Int):Prop where
 mono:∀ u v,inR N u->inR N v->(∀ j,j<N->u j<=v j)->∀ i,i<N->F i u<=F i v
 rng:∀ u,inR N u->∀ i,i<N->0<=F i u/\F i u<=2
structure Low (N:Nat) (F:Nat->Vec->Int) (v:Vec):Prop where
 rng:inR N v
 post:∀ j,j<N->v j<=F j v
 least:∀ m,inR N m->(∀ j,j<N->F j m<=m j)->∀ j,j<N->v j<=m j
section
variable {N:Nat} {F:Nat->Vec->Int}
theorem Low.zero (G:Grows N F):Low N F (fun _=>0):=by
 refine ⟨fun j hj=>by omega,fun j hj=>(G.rng _ (fun j hj=>by omega) j hj).1,fun m hm _ j hj=>(hm j hj).1⟩
end
end



end Go.Proofs.YtbhbeakhognieaaGreatDoor
