/- A part of the proof. -/
import Derived.Test.YtbnlmgncbgaepaaGreatUd
set_option linter.all false
set_option maxRecDepth 100000
set_option maxHeartbeats 8000000
open Option renaming bind_some → y0
open List renaming range_succ → y3, map_map → y4
open Int renaming toNat_lt → y5
namespace Go.Proofs.YtbnlmgncbgaepaaGreat
open Go
section
variable (t:Typ)
include t
theorem form_ev1 (h:t.kind=1) {T:Bool} (hs:evA 237 [.agg (typC t.left),.agg (typC q1R)] (.bool T)):evA 221 [.agg (typC t)] (.bool (T)):=by
 refine q00 (c:=q09) rfl rfl ?_;simp [evA,typC,q1R,Typ.left,h] at hs;simp [q09,-y0,-y5,-y4,y3,typC,h,hs]
theorem form_ev2 (h:t.kind=2) {T:Bool} (hs:evA 237 [.agg (typC t.left),.agg (typC q1R)] (.bool T)):evA 221 [.agg (typC t)] (.bool (decide (t.low<=t.high)&&T)):=by
 refine q00 (c:=q09) rfl rfl ?_;simp [evA,typC,q1R,Typ.left,h] at hs;by_cases h1:t.low<=t.high
 ·simp [q09,-y0,-y5,-y4,y3,typC,h,hs,h1]
 ·simp [q09,-y0,-y5,-y4,y3,typC,h,hs,h1]
theorem form_ev3 (h:t.kind=3) {T:Bool} (hs:evA 237 [.agg (typC t.left),.agg (typC q1R)] (.bool T)):evA 221 [.agg (typC t)] (.bool ((decide (0<=t.max)&&decide (t.max<=200))&&T)):=by
 refine q00 (c:=q09) rfl rfl ?_;simp [evA,typC,q1R,Typ.left,h] at hs;by_cases h1:0<=t.max
 ·by_cases h2:t.max<=200
  ·simp [q09,-y0,-y5,-y4,y3,typC,h,hs,h1,h2]
  ·simp [q09,-y0,-y5,-y4,y3,typC,h,hs,h1,h2]
 ·simp [q09,-y0,-y5,-y4,y3,typC,h,hs,h1]
theorem form_ev7 (h:t.kind=7) {T:Bool} (hs:evA 237 [.agg (typC t.left),.agg (typC q1R)] (.bool T)):evA 221 [.agg (typC t)] (.bool ((decide (0<=t.max)&&decide (t.max<=50))&&T)):=by
 refine q00 (c:=q09) rfl rfl ?_;simp [evA,typC,q1R,Typ.left,h] at hs;by_cases h1:0<=t.max
 ·by_cases h2:t.max<=50
  ·simp [q09,-y0,-y5,-y4,y3,typC,h,hs,h1,h2]
  ·simp [q09,-y0,-y5,-y4,y3,typC,h,hs,h1,h2]
 ·simp [q09,-y0,-y5,-y4,y3,typC,h,hs,h1]
theorem form_ev8 (h:t.kind=8) {T:Bool} (hs:evA 237 [.agg (typC t.left),.agg (typC q1R)] (.bool T)):evA 221 [.agg (typC t)] (.bool ((decide (0<=t.max)&&decide (t.max<=50))&&T)):=by
 refine q00 (c:=q09) rfl rfl ?_;simp [evA,typC,q1R,Typ.left,h] at hs;by_cases h1:0<=t.max
 ·by_cases h2:t.max<=50
  ·simp [q09,-y0,-y5,-y4,y3,typC,h,hs,h1,h2]
  ·simp [q09,-y0,-y5,-y4,y3,typC,h,hs,h1,h2]
 ·simp [q09,-y0,-y5,-y4,y3,typC,h,hs,h1]
theorem form_ev9 (h:t.kind=9) {T:Bool} (hs:evA 237 [.agg (typC t.left),.agg (typC q1R)] (.bool T)):evA 221 [.agg (typC t)] (.bool (T)):=by
 refine q00 (c:=q09) rfl rfl ?_;simp [evA,typC,q1R,Typ.left,h] at hs;simp [q09,-y0,-y5,-y4,y3,typC,h,hs]
theorem form_ev4 (h:t.kind=4) {T:Bool} (hs:evA 237 [.agg (typC t.left),.agg (typC q1R)] (.bool T)) {a b:Bool} (hn:evA 234 [.str t.name] (.bool a)) (hy:evA 235 [.sl t.sn (t.syms.map symC)] (.bool b)):evA 221 [.agg (typC t)] (.bool ((a&&b)&&T)):=by
 refine q00 (c:=q09) rfl rfl ?_;simp [evA,typC,q1R,Typ.left,h] at hs;simp only [evA] at hn hy;cases a with
 | false=>simp [q09,-y0,-y5,-y4,y3,typC,h,hs,hn]
 | true=>cases b with
  | false=>simp [q09,-y0,-y5,-y4,y3,typC,h,hs,hn,hy]
  | true=>simp [q09,-y0,-y5,-y4,y3,typC,h,hs,hn,hy]
theorem form_ev5 (h:t.kind=5) {T:Bool} (hs:evA 237 [.agg (typC t.left),.agg (typC q1R)] (.bool T)) {a b:Bool} (hn:evA 234 [.str t.name] (.bool a)) (hy:evA 236 [.agg (typC t)] (.bool b)):evA 221 [.agg (typC t)] (.bool ((a&&b)&&T)):=by
 refine q00 (c:=q09) rfl rfl ?_;simp [evA,typC,q1R,Typ.left,h] at hs;simp only [evA,typC,h] at hn hy;cases ho:t.opn <;> simp only [ho] at hs hy <;> cases a with
 | false=>simp [q09,-y0,-y5,-y4,y3,typC,h,hs,hn,ho]
 | true=>cases b with
  | false=>simp [q09,-y0,-y5,-y4,y3,typC,h,hs,hn,hy,ho]
  | true=>simp [q09,-y0,-y5,-y4,y3,typC,h,hs,hn,hy,ho]
theorem form_ev6 (h:t.kind=6) {T:Bool} (hs:evA 237 [.agg (typC t.left),.agg (typC q1R)] (.bool T)) {a b:Bool} (hn:evA 234 [.str t.name] (.bool a)) (hy:evA 236 [.agg (typC t)] (.bool b)):evA 221 [.agg (typC t)] (.bool ((a&&b)&&T)):=by
 refine q00 (c:=q09) rfl rfl ?_;simp [evA,typC,q1R,Typ.left,h] at hs;simp only [evA,typC,h] at hn hy;cases ho:t.opn <;> simp only [ho] at hs hy <;> cases a with
 | false=>simp [q09,-y0,-y5,-y4,y3,typC,h,hs,hn,ho]
 | true=>cases b with
  | false=>simp [q09,-y0,-y5,-y4,y3,typC,h,hs,hn,hy,ho]
  | true=>simp [q09,-y0,-y5,-y4,y3,typC,h,hs,hn,hy,ho]
theorem form_ev0 (h:¬ (1<=t.kind/\t.kind<=9)):evA 221 [.agg (typC t)] (.bool false):=by
 refine q00 (c:=q09) rfl rfl ?_;have q:∀ n:Int,1<=n->n<=9->¬ t.kind=n:=fun n h1 h2 e=>h ⟨by omega,by omega⟩
 simp [q09,-y0,-y5,-y4,y3,typC,q 1,q 2,q 3,q 4,q 5,q 6,q 7,q 8,q 9]
theorem form_ev (ht:t.fine):evA 221 [.agg (typC t)] (.bool (q0W t)):=by
 obtain ⟨sa,me,cw⟩:=ht;have hs:=tsame_ev t.left q1R (left_ok sa);have hn:=name_ev t.name;have db:=symbols_ev t.syms me t.sn;have ux:=members_ev t sa cw;unfold q0W q7b;rcases kinds t.kind with h | h | h | h | h | h | h | h | h | h
 ·have r:=form_ev1 t h hs; simpa [h] using r
 ·have r:=form_ev2 t h hs; simpa [h] using r
 ·have r:=form_ev3 t h hs; simpa [h] using r
 ·have r:=form_ev4 t h hs hn db; simpa [h] using r
 ·have r:=form_ev5 t h hs hn (ux (.inl h)); simpa [h] using r
 ·have r:=form_ev6 t h hs hn (ux (.inr h)); simpa [h] using r
 ·have r:=form_ev7 t h hs; simpa [h] using r
 ·have r:=form_ev8 t h hs; simpa [h] using r
 ·have r:=form_ev9 t h hs; simpa [h] using r
 ·have r:=form_ev0 t h; rw [decide_eq_false h]; exact r
end
end Go.Proofs.YtbnlmgncbgaepaaGreat
