/- A part of the proof. -/
import Derived.Test.YtbhbeakhognieaaGreatDoorWh
set_option linter.all false
set_option maxRecDepth 100000
set_option maxHeartbeats 8000000
open List renaming getElem?_eq_getElem → yg
namespace Go.Proofs.YtbhbeakhognieaaGreatDoor
open Go






theorem lW {l:List QA}:∀ n i,i + n=l.length->dC l n i=0->∀ j,i<=j->(h:j<l.length)->EC l j l[j]=0
 | 0,i,hi,_,j,hj,h=>by omega
 | n + 1,i,hi,h0,j,hj,h=>by
  have ba:i<l.length:=by omega
  rw [dC,yg ba] at h0;simp only at h0;by_cases he:EC l i l[i]=0
  ·rw [if_pos he] at h0;rcases Nat.lt_or_eq_of_le hj with h1 | h1
   ·exact lW n (i + 1) (by omega) h0 j h1 h
   ·subst h1; exact he
  ·rw [if_neg he] at h0; exact absurd h0 he
theorem w6 {l:List QA} {i:Nat} {t:QA} (h:EC l i t=0):zD t=true/\t.usesL.any (KC l.length)=false:=by
 unfold EC at h;by_cases h1:zD t=false
 ·rw [if_pos h1] at h; cases h
 ·rw [if_neg h1] at h;refine ⟨by simpa using h1,?_⟩;by_cases h2:t.named=true/\t.name∈(l.take i).map QA.name
  ·rw [if_pos h2] at h; cases h
  ·rw [if_neg h2] at h;by_cases h3:t.usesL.any (KC l.length)=true
   ·rw [if_pos h3] at h; cases h
   ·simpa using h3
theorem O3 {l:List QA} (h:EB l=0) (j:Nat) (hj:j<l.length):EC l j l[j]=0:=by
 unfold EB at h;by_cases js:32<l.length
 ·rw [if_pos js] at h; cases h
 ·rw [if_neg js] at h;exact lW l.length 0 (by omega) h j (by omega) hj

end Go.Proofs.YtbhbeakhognieaaGreatDoor
