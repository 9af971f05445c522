/- A part of the proof. -/
import Derived.Test.YtjoaiabjebpbjaaGreatSe
set_option linter.all false
set_option maxRecDepth 100000
set_option maxHeartbeats 8000000
open Option renaming bind_some → V
open List renaming range_succ → J, map_map → y0
open Int renaming toNat_lt → y3
namespace Go.Proofs.YtjoaiabjebpbjaaGreat
open Go
section
variable (t:gA)
include t
theorem form_ev1 (h:t.kind=1) {T:Bool} (hs:sA 187 [.agg (eA t.left),.agg (eA sC)] (.bool T)):sA 149 [.agg (eA t)] (.bool (T)):=by
 refine wA (c:=mA) rfl rfl ?_;simp [sA,eA,sC,gA.left,h] at hs;simp [mA,-V,-y3,-y0,J,eA,h,hs]
theorem form_ev2 (h:t.kind=2) {T:Bool} (hs:sA 187 [.agg (eA t.left),.agg (eA sC)] (.bool T)):sA 149 [.agg (eA t)] (.bool (decide (t.low<=t.high)&&T)):=by
 refine wA (c:=mA) rfl rfl ?_;simp [sA,eA,sC,gA.left,h] at hs;by_cases h1:t.low<=t.high
 ·simp [mA,-V,-y3,-y0,J,eA,h,hs,h1]
 ·simp [mA,-V,-y3,-y0,J,eA,h,hs,h1]
theorem form_ev3 (h:t.kind=3) {T:Bool} (hs:sA 187 [.agg (eA t.left),.agg (eA sC)] (.bool T)):sA 149 [.agg (eA t)] (.bool ((decide (0<=t.max)&&decide (t.max<=200))&&T)):=by
 refine wA (c:=mA) rfl rfl ?_;simp [sA,eA,sC,gA.left,h] at hs;by_cases h1:0<=t.max
 ·by_cases h2:t.max<=200
  ·simp [mA,-V,-y3,-y0,J,eA,h,hs,h1,h2]
  ·simp [mA,-V,-y3,-y0,J,eA,h,hs,h1,h2]
 ·simp [mA,-V,-y3,-y0,J,eA,h,hs,h1]
theorem form_ev7 (h:t.kind=7) {T:Bool} (hs:sA 187 [.agg (eA t.left),.agg (eA sC)] (.bool T)):sA 149 [.agg (eA t)] (.bool ((decide (0<=t.max)&&decide (t.max<=50))&&T)):=by
 refine wA (c:=mA) rfl rfl ?_;simp [sA,eA,sC,gA.left,h] at hs;by_cases h1:0<=t.max
 ·by_cases h2:t.max<=50
  ·simp [mA,-V,-y3,-y0,J,eA,h,hs,h1,h2]
  ·simp [mA,-V,-y3,-y0,J,eA,h,hs,h1,h2]
 ·simp [mA,-V,-y3,-y0,J,eA,h,hs,h1]
theorem form_ev8 (h:t.kind=8) {T:Bool} (hs:sA 187 [.agg (eA t.left),.agg (eA sC)] (.bool T)):sA 149 [.agg (eA t)] (.bool ((decide (0<=t.max)&&decide (t.max<=50))&&T)):=by
 refine wA (c:=mA) rfl rfl ?_;simp [sA,eA,sC,gA.left,h] at hs;by_cases h1:0<=t.max
 ·by_cases h2:t.max<=50
  ·simp [mA,-V,-y3,-y0,J,eA,h,hs,h1,h2]
  ·simp [mA,-V,-y3,-y0,J,eA,h,hs,h1,h2]
 ·simp [mA,-V,-y3,-y0,J,eA,h,hs,h1]
theorem form_ev9 (h:t.kind=9) {T:Bool} (hs:sA 187 [.agg (eA t.left),.agg (eA sC)] (.bool T)):sA 149 [.agg (eA t)] (.bool (T)):=by
 refine wA (c:=mA) rfl rfl ?_;simp [sA,eA,sC,gA.left,h] at hs;simp [mA,-V,-y3,-y0,J,eA,h,hs]
theorem form_ev4 (h:t.kind=4) {T:Bool} (hs:sA 187 [.agg (eA t.left),.agg (eA sC)] (.bool T)) {a b:Bool} (hn:sA 184 [.str t.name] (.bool a)) (hy:sA 185 [.sl t.sn (t.syms.map MD)] (.bool b)):sA 149 [.agg (eA t)] (.bool ((a&&b)&&T)):=by
 refine wA (c:=mA) rfl rfl ?_;simp [sA,eA,sC,gA.left,h] at hs;simp only [sA] at hn hy;cases a with
 | false=>simp [mA,-V,-y3,-y0,J,eA,h,hs,hn]
 | true=>cases b with
  | false=>simp [mA,-V,-y3,-y0,J,eA,h,hs,hn,hy]
  | true=>simp [mA,-V,-y3,-y0,J,eA,h,hs,hn,hy]
theorem form_ev5 (h:t.kind=5) {T:Bool} (hs:sA 187 [.agg (eA t.left),.agg (eA sC)] (.bool T)) {a b:Bool} (hn:sA 184 [.str t.name] (.bool a)) (hy:sA 186 [.agg (eA t)] (.bool b)):sA 149 [.agg (eA t)] (.bool ((a&&b)&&T)):=by
 refine wA (c:=mA) rfl rfl ?_;simp [sA,eA,sC,gA.left,h] at hs;simp only [sA,eA,h] at hn hy;cases ho:t.opn <;> simp only [ho] at hs hy <;> cases a with
 | false=>simp [mA,-V,-y3,-y0,J,eA,h,hs,hn,ho]
 | true=>cases b with
  | false=>simp [mA,-V,-y3,-y0,J,eA,h,hs,hn,hy,ho]
  | true=>simp [mA,-V,-y3,-y0,J,eA,h,hs,hn,hy,ho]
theorem form_ev6 (h:t.kind=6) {T:Bool} (hs:sA 187 [.agg (eA t.left),.agg (eA sC)] (.bool T)) {a b:Bool} (hn:sA 184 [.str t.name] (.bool a)) (hy:sA 186 [.agg (eA t)] (.bool b)):sA 149 [.agg (eA t)] (.bool ((a&&b)&&T)):=by
 refine wA (c:=mA) rfl rfl ?_;simp [sA,eA,sC,gA.left,h] at hs;simp only [sA,eA,h] at hn hy;cases ho:t.opn <;> simp only [ho] at hs hy <;> cases a with
 | false=>simp [mA,-V,-y3,-y0,J,eA,h,hs,hn,ho]
 | true=>cases b with
  | false=>simp [mA,-V,-y3,-y0,J,eA,h,hs,hn,hy,ho]
  | true=>simp [mA,-V,-y3,-y0,J,eA,h,hs,hn,hy,ho]
theorem form_ev0 (h:¬ (1<=t.kind/\t.kind<=9)):sA 149 [.agg (eA t)] (.bool false):=by
 refine wA (c:=mA) rfl rfl ?_;have q:∀ n:Int,1<=n->n<=9->¬ t.kind=n:=fun n h1 h2 e=>h ⟨by omega,by omega⟩
 simp [mA,-V,-y3,-y0,J,eA,q 1,q 2,q 3,q 4,q 5,q 6,q 7,q 8,q 9]
theorem form_ev (ht:t.fine):sA 149 [.agg (eA t)] (.bool (aB t)):=by
 obtain ⟨na,te,ik⟩:=ht;have hs:=tsame_ev t.left sC (left_ok na);have hn:=name_ev t.name;have tn:=symbols_ev t.syms te t.sn;have xj:=members_ev t na ik;unfold aB kF;rcases kinds t.kind with h | h | h | h | h | h | h | h | h | h
 ·have r:=form_ev1 t h hs; simpa [h] using r
 ·have r:=form_ev2 t h hs; simpa [h] using r
 ·have r:=form_ev3 t h hs; simpa [h] using r
 ·have r:=form_ev4 t h hs hn tn; simpa [h] using r
 ·have r:=form_ev5 t h hs hn (xj (.inl h)); simpa [h] using r
 ·have r:=form_ev6 t h hs hn (xj (.inr h)); simpa [h] using r
 ·have r:=form_ev7 t h hs; simpa [h] using r
 ·have r:=form_ev8 t h hs; simpa [h] using r
 ·have r:=form_ev9 t h hs; simpa [h] using r
 ·have r:=form_ev0 t h; rw [decide_eq_false h]; exact r
end
end Go.Proofs.YtjoaiabjebpbjaaGreat
