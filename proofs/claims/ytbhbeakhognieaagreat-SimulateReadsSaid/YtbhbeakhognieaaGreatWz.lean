/- A part of the proof. -/
import Derived.Test.YtbhbeakhognieaaGreatWy
set_option linter.all false
set_option maxRecDepth 100000
set_option maxHeartbeats 8000000
open List renaming getElem_of_mem → yq
namespace Go.Proofs.YtbhbeakhognieaaGreat
open Go
theorem typZ_few {l:List fC} (i:Int):(kB l i).mems.length<=12/\zH (kB l i).low/\zH (kB l i).high:=by
 have z0:zH 0:=by unfold zH; omega
 have hp:∀ rc,(lE l i rc (DA l i).parts).length<=12:=fun rc=>LK l i rc _ 12
 unfold kB;simp only;split
 ·exact ⟨by simp [pA.of],z0,z0⟩
 ·refine ⟨by simp [pA.of],?_,?_⟩
  ·simp only [pA.of,fC.low]; unfold zH; omega
  ·simp only [pA.of,fC.low,fC.high]; unfold zH; omega
 ·exact ⟨by simp [pA.of],z0,z0⟩
 ·exact ⟨by simp [pA.of],z0,z0⟩
 ·exact ⟨hp true,z0,z0⟩
 ·split
  ·exact ⟨by simp [pA.of],z0,z0⟩
  ·exact ⟨hp false,z0,z0⟩
 ·exact ⟨by simp [pA.of],z0,z0⟩
 ·split
  ·exact ⟨by simp [pA.of],z0,z0⟩
  ·exact ⟨by simp [pA.of],z0,z0⟩
 ·exact ⟨by simp [pA.of],z0,z0⟩
theorem rwS_few {l:List fC} {T:List pA} (h:rwS l.length (lA l) T):∀ x∈T,x.mems.length<=12/\zH x.low/\zH x.high:=fun x hx=>by
 obtain ⟨j,hj,rfl⟩:=yq hx;obtain ⟨bs,ot,hb⟩:=xO h hj;obtain ⟨h1,h2,h3⟩:=typZ_few (l:=l) (j:Int);rw [hb];exact ⟨by show bs.length<=12; have:=ot.1; omega,h2,h3⟩
end Go.Proofs.YtbhbeakhognieaaGreat
