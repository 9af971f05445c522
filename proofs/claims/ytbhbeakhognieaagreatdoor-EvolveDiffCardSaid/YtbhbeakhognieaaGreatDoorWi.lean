/- A part of the proof. -/
import Derived.Test.YtbhbeakhognieaaGreatDoorWh
set_option linter.all false
set_option maxRecDepth 100000
set_option maxHeartbeats 8000000
open List renaming getElem?_eq_getElem → yg
namespace Go.Proofs.YtbhbeakhognieaaGreatDoor
open Go






theorem aT {l:List XA}:∀ n i,i + n=l.length->nC l n i=0->∀ j,i<=j->(h:j<l.length)->IC l j l[j]=0
 | 0,i,hi,_,j,hj,h=>by omega
 | n + 1,i,hi,h0,j,hj,h=>by
  have ia:i<l.length:=by omega
  rw [nC,yg ia] at h0;simp only at h0;by_cases he:IC l i l[i]=0
  ·rw [if_pos he] at h0;rcases Nat.lt_or_eq_of_le hj with h1 | h1
   ·exact aT n (i + 1) (by omega) h0 j h1 h
   ·subst h1; exact he
  ·rw [if_neg he] at h0; exact absurd h0 he
theorem L9 {l:List XA} {i:Nat} {t:XA} (h:IC l i t=0):OD t=true/\t.usesL.any (aC l.length)=false:=by
 unfold IC at h;by_cases h1:OD t=false
 ·rw [if_pos h1] at h; cases h
 ·rw [if_neg h1] at h;refine ⟨by simpa using h1,?_⟩;by_cases h2:t.named=true/\t.name∈(l.take i).map XA.name
  ·rw [if_pos h2] at h; cases h
  ·rw [if_neg h2] at h;by_cases h3:t.usesL.any (aC l.length)=true
   ·rw [if_pos h3] at h; cases h
   ·simpa using h3
theorem i8 {l:List XA} (h:tD l=0) (j:Nat) (hj:j<l.length):IC l j l[j]=0:=by
 unfold tD at h;by_cases ep:32<l.length
 ·rw [if_pos ep] at h; cases h
 ·rw [if_neg ep] at h;exact aT l.length 0 (by omega) h j (by omega) hj

end Go.Proofs.YtbhbeakhognieaaGreatDoor
