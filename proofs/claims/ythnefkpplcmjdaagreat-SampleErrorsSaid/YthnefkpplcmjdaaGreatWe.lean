/- A part of the proof. -/
import Derived.Test.YthnefkpplcmjdaaGreatWd
set_option linter.all false
set_option maxRecDepth 100000
set_option maxHeartbeats 8000000
open Option renaming bind_some → J
open List renaming range_succ → y0, map_map → y3
open Int renaming toNat_lt → y4
namespace Go.Proofs.YthnefkpplcmjdaaGreat
open Go
section
variable (t:BC)
include t
theorem Ug (h:t.kind=1){T:Bool}(hs:IC 205 [.agg (QC t.left),.agg (QC fG)] (.bool T)):IC 136 [.agg (QC t)] (.bool (T)):=by
 refine mC (c:=FC) rfl rfl ?_;simp[IC,QC,fG,BC.left,h]at hs;simp[FC,-J,-y4,-y3,y0,QC,h,hs]
theorem Ig (h:t.kind=2){T:Bool}(hs:IC 205 [.agg (QC t.left),.agg (QC fG)] (.bool T)):IC 136 [.agg (QC t)] (.bool (decide (t.low<=t.high)&&T)):=by
 refine mC (c:=FC) rfl rfl ?_;simp[IC,QC,fG,BC.left,h]at hs;by_cases h1:t.low<=t.high
 ·simp[FC,-J,-y4,-y3,y0,QC,h,hs,h1]
 ·simp[FC,-J,-y4,-y3,y0,QC,h,hs,h1]
theorem Og (h:t.kind=3){T:Bool}(hs:IC 205 [.agg (QC t.left),.agg (QC fG)] (.bool T)):IC 136 [.agg (QC t)] (.bool ((decide (0<=t.max)&&decide (t.max<=200))&&T)):=by
 refine mC (c:=FC) rfl rfl ?_;simp[IC,QC,fG,BC.left,h]at hs;by_cases h1:0<=t.max
 ·by_cases h2:t.max<=200
  ·simp[FC,-J,-y4,-y3,y0,QC,h,hs,h1,h2]
  ·simp[FC,-J,-y4,-y3,y0,QC,h,hs,h1,h2]
 ·simp[FC,-J,-y4,-y3,y0,QC,h,hs,h1]
theorem Dg (h:t.kind=7){T:Bool}(hs:IC 205 [.agg (QC t.left),.agg (QC fG)] (.bool T)):IC 136 [.agg (QC t)] (.bool ((decide (0<=t.max)&&decide (t.max<=50))&&T)):=by
 refine mC (c:=FC) rfl rfl ?_;simp[IC,QC,fG,BC.left,h]at hs;by_cases h1:0<=t.max
 ·by_cases h2:t.max<=50
  ·simp[FC,-J,-y4,-y3,y0,QC,h,hs,h1,h2]
  ·simp[FC,-J,-y4,-y3,y0,QC,h,hs,h1,h2]
 ·simp[FC,-J,-y4,-y3,y0,QC,h,hs,h1]
theorem Fg (h:t.kind=8){T:Bool}(hs:IC 205 [.agg (QC t.left),.agg (QC fG)] (.bool T)):IC 136 [.agg (QC t)] (.bool ((decide (0<=t.max)&&decide (t.max<=50))&&T)):=by
 refine mC (c:=FC) rfl rfl ?_;simp[IC,QC,fG,BC.left,h]at hs;by_cases h1:0<=t.max
 ·by_cases h2:t.max<=50
  ·simp[FC,-J,-y4,-y3,y0,QC,h,hs,h1,h2]
  ·simp[FC,-J,-y4,-y3,y0,QC,h,hs,h1,h2]
 ·simp[FC,-J,-y4,-y3,y0,QC,h,hs,h1]
theorem Gg (h:t.kind=9){T:Bool}(hs:IC 205 [.agg (QC t.left),.agg (QC fG)] (.bool T)):IC 136 [.agg (QC t)] (.bool (T)):=by
 refine mC (c:=FC) rfl rfl ?_;simp[IC,QC,fG,BC.left,h]at hs;simp[FC,-J,-y4,-y3,y0,QC,h,hs]
theorem Pg (h:t.kind=4){T:Bool}(hs:IC 205 [.agg (QC t.left),.agg (QC fG)] (.bool T)){a b:Bool}(hn:IC 202 [.str t.name] (.bool a))(hy:IC 203 [.sl t.sn (t.tA.map TG)] (.bool b)):IC 136 [.agg (QC t)] (.bool ((a&&b)&&T)):=by
 refine mC (c:=FC) rfl rfl ?_;simp[IC,QC,fG,BC.left,h]at hs;simp only[IC]at hn hy;cases a with
 |false=>simp[FC,-J,-y4,-y3,y0,QC,h,hs,hn]
 |true=>cases b with
  |false=>simp[FC,-J,-y4,-y3,y0,QC,h,hs,hn,hy]
  |true=>simp[FC,-J,-y4,-y3,y0,QC,h,hs,hn,hy]
theorem Ag (h:t.kind=5){T:Bool}(hs:IC 205 [.agg (QC t.left),.agg (QC fG)] (.bool T)){a b:Bool}(hn:IC 202 [.str t.name] (.bool a))(hy:IC 204 [.agg (QC t)] (.bool b)):IC 136 [.agg (QC t)] (.bool ((a&&b)&&T)):=by
 refine mC (c:=FC) rfl rfl ?_;simp[IC,QC,fG,BC.left,h]at hs;simp only[IC,QC,h]at hn hy;cases ho:t.opn<;>simp only[ho]at hs hy<;>cases a with
 |false=>simp[FC,-J,-y4,-y3,y0,QC,h,hs,hn,ho]
 |true=>cases b with
  |false=>simp[FC,-J,-y4,-y3,y0,QC,h,hs,hn,hy,ho]
  |true=>simp[FC,-J,-y4,-y3,y0,QC,h,hs,hn,hy,ho]
theorem Sg (h:t.kind=6){T:Bool}(hs:IC 205 [.agg (QC t.left),.agg (QC fG)] (.bool T)){a b:Bool}(hn:IC 202 [.str t.name] (.bool a))(hy:IC 204 [.agg (QC t)] (.bool b)):IC 136 [.agg (QC t)] (.bool ((a&&b)&&T)):=by
 refine mC (c:=FC) rfl rfl ?_;simp[IC,QC,fG,BC.left,h]at hs;simp only[IC,QC,h]at hn hy;cases ho:t.opn<;>simp only[ho]at hs hy<;>cases a with
 |false=>simp[FC,-J,-y4,-y3,y0,QC,h,hs,hn,ho]
 |true=>cases b with
  |false=>simp[FC,-J,-y4,-y3,y0,QC,h,hs,hn,hy,ho]
  |true=>simp[FC,-J,-y4,-y3,y0,QC,h,hs,hn,hy,ho]
theorem Tg (h:¬(1<=t.kind/\t.kind<=9)):IC 136 [.agg (QC t)] (.bool false):=by
 refine mC (c:=FC) rfl rfl ?_;have q:∀n:Int,1<=n->n<=9->¬t.kind=n:=fun n h1 h2 e=>h ⟨by omega,by omega⟩
 simp[FC,-J,-y4,-y3,y0,QC,q 1,q 2,q 3,q 4,q 5,q 6,q 7,q 8,q 9]
theorem Qv (ht:t.fine):IC 136 [.agg (QC t)] (.bool (IE t)):=by
 obtain⟨la,je,zl⟩:=ht;have hs:=Al t.left fG (Ob la);have hn:=Br t.name;have ut:=Tw t.tA je t.sn;have ki:=Aq t la zl;unfold IE wN;rcases kinds t.kind with h|h|h|h|h|h|h|h|h|h
 ·have r:=Ug t h hs;simpa [h]using r
 ·have r:=Ig t h hs;simpa [h]using r
 ·have r:=Og t h hs;simpa [h]using r
 ·have r:=Pg t h hs hn ut;simpa [h]using r
 ·have r:=Ag t h hs hn (ki (.inl h));simpa [h]using r
 ·have r:=Sg t h hs hn (ki (.inr h));simpa [h]using r
 ·have r:=Dg t h hs;simpa [h]using r
 ·have r:=Fg t h hs;simpa [h]using r
 ·have r:=Gg t h hs;simpa [h]using r
 ·have r:=Tg t h;rw[decide_eq_false h];exact r
end
end Go.Proofs.YthnefkpplcmjdaaGreat
