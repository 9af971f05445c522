/- A part of the proof. -/
import Derived.Test.YtpmklcpajcfpjaaGreatDoorWh
set_option linter.all false
set_option maxRecDepth 100000
set_option maxHeartbeats 8000000
open List renaming getElem?_eq_getElem → yf
namespace Go.Proofs.YtpmklcpajcfpjaaGreatDoor
open Go






theorem nY {l:List BC}:∀n i,i+n=l.length->bE l n i=0->∀j,i<=j->(h:j<l.length)->ZE l j l[j]=0
 |0,i,hi,_,j,hj,h=>by omega
 |n+1,i,hi,h0,j,hj,h=>by
  have ba:i<l.length:=by omega
  rw[bE,yf ba]at h0;simp only at h0;by_cases he:ZE l i l[i]=0
  ·rw [if_pos he] at h0;rcases Nat.lt_or_eq_of_le hj with h1 | h1
   ·exact nY n (i+1) (by omega) h0 j h1 h
   ·subst h1;exact he
  ·rw[if_neg he]at h0;exact absurd h0 he
theorem QZ {l:List BC}{i:Nat}{t:BC}(h:ZE l i t=0):bD t=true/\t.dA.any (IF l.length)=false:=by
 unfold ZE at h;by_cases h1:bD t=false
 ·rw[if_pos h1]at h;cases h
 ·rw [if_neg h1] at h;refine ⟨by simpa using h1,?_⟩;by_cases h2:t.named=true/\t.name∈(l.take i).map BC.name
  ·rw[if_pos h2]at h;cases h
  ·rw [if_neg h2] at h;by_cases h3:t.dA.any (IF l.length)=true
   ·rw[if_pos h3]at h;cases h
   ·simpa using h3
theorem GX {l:List BC}(h:valid l=0)(j:Nat)(hj:j<l.length):ZE l j l[j]=0:=by
 unfold valid at h;by_cases ry:32<l.length
 ·rw[if_pos ry]at h;cases h
 ·rw[if_neg ry]at h;exact nY l.length 0 (by omega) h j (by omega) hj
def BC.d64 (t:BC):Prop:=∀m∈t.qA,m.dflt.i64
def CT.d64 (s:CT):Prop:=∀t∈s.types,t.d64

end Go.Proofs.YtpmklcpajcfpjaaGreatDoor
