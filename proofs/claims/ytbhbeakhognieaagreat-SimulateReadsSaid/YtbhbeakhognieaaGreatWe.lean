/- A part of the proof. -/
import Derived.Test.YtbhbeakhognieaaGreatWd
set_option linter.all false
set_option maxRecDepth 100000
set_option maxHeartbeats 8000000
open Option renaming bind_some → J
open List renaming range_succ → y0, map_map → y3
open Int renaming toNat_lt → y4
namespace Go.Proofs.YtbhbeakhognieaaGreat
open Go
section
variable (t:pA)
include t
theorem form_ev1 (h:t.kind=1) {T:Bool} (hs:gA 164 [.agg (eA t.left),.agg (eA tC)] (.bool T)):gA 119 [.agg (eA t)] (.bool (T)):=by
 refine rA (c:=bA) rfl rfl ?_;simp [gA,eA,tC,pA.left,h] at hs;simp [bA,-J,-y4,-y3,y0,eA,h,hs]
theorem form_ev2 (h:t.kind=2) {T:Bool} (hs:gA 164 [.agg (eA t.left),.agg (eA tC)] (.bool T)):gA 119 [.agg (eA t)] (.bool (decide (t.low<=t.high)&&T)):=by
 refine rA (c:=bA) rfl rfl ?_;simp [gA,eA,tC,pA.left,h] at hs;by_cases h1:t.low<=t.high
 ·simp [bA,-J,-y4,-y3,y0,eA,h,hs,h1]
 ·simp [bA,-J,-y4,-y3,y0,eA,h,hs,h1]
theorem form_ev3 (h:t.kind=3) {T:Bool} (hs:gA 164 [.agg (eA t.left),.agg (eA tC)] (.bool T)):gA 119 [.agg (eA t)] (.bool ((decide (0<=t.max)&&decide (t.max<=200))&&T)):=by
 refine rA (c:=bA) rfl rfl ?_;simp [gA,eA,tC,pA.left,h] at hs;by_cases h1:0<=t.max
 ·by_cases h2:t.max<=200
  ·simp [bA,-J,-y4,-y3,y0,eA,h,hs,h1,h2]
  ·simp [bA,-J,-y4,-y3,y0,eA,h,hs,h1,h2]
 ·simp [bA,-J,-y4,-y3,y0,eA,h,hs,h1]
theorem form_ev7 (h:t.kind=7) {T:Bool} (hs:gA 164 [.agg (eA t.left),.agg (eA tC)] (.bool T)):gA 119 [.agg (eA t)] (.bool ((decide (0<=t.max)&&decide (t.max<=50))&&T)):=by
 refine rA (c:=bA) rfl rfl ?_;simp [gA,eA,tC,pA.left,h] at hs;by_cases h1:0<=t.max
 ·by_cases h2:t.max<=50
  ·simp [bA,-J,-y4,-y3,y0,eA,h,hs,h1,h2]
  ·simp [bA,-J,-y4,-y3,y0,eA,h,hs,h1,h2]
 ·simp [bA,-J,-y4,-y3,y0,eA,h,hs,h1]
theorem form_ev8 (h:t.kind=8) {T:Bool} (hs:gA 164 [.agg (eA t.left),.agg (eA tC)] (.bool T)):gA 119 [.agg (eA t)] (.bool ((decide (0<=t.max)&&decide (t.max<=50))&&T)):=by
 refine rA (c:=bA) rfl rfl ?_;simp [gA,eA,tC,pA.left,h] at hs;by_cases h1:0<=t.max
 ·by_cases h2:t.max<=50
  ·simp [bA,-J,-y4,-y3,y0,eA,h,hs,h1,h2]
  ·simp [bA,-J,-y4,-y3,y0,eA,h,hs,h1,h2]
 ·simp [bA,-J,-y4,-y3,y0,eA,h,hs,h1]
theorem form_ev9 (h:t.kind=9) {T:Bool} (hs:gA 164 [.agg (eA t.left),.agg (eA tC)] (.bool T)):gA 119 [.agg (eA t)] (.bool (T)):=by
 refine rA (c:=bA) rfl rfl ?_;simp [gA,eA,tC,pA.left,h] at hs;simp [bA,-J,-y4,-y3,y0,eA,h,hs]
theorem form_ev4 (h:t.kind=4) {T:Bool} (hs:gA 164 [.agg (eA t.left),.agg (eA tC)] (.bool T)) {a b:Bool} (hn:gA 161 [.str t.name] (.bool a)) (hy:gA 162 [.sl t.sn (t.syms.map WD)] (.bool b)):gA 119 [.agg (eA t)] (.bool ((a&&b)&&T)):=by
 refine rA (c:=bA) rfl rfl ?_;simp [gA,eA,tC,pA.left,h] at hs;simp only [gA] at hn hy;cases a with
 | false=>simp [bA,-J,-y4,-y3,y0,eA,h,hs,hn]
 | true=>cases b with
  | false=>simp [bA,-J,-y4,-y3,y0,eA,h,hs,hn,hy]
  | true=>simp [bA,-J,-y4,-y3,y0,eA,h,hs,hn,hy]
theorem form_ev5 (h:t.kind=5) {T:Bool} (hs:gA 164 [.agg (eA t.left),.agg (eA tC)] (.bool T)) {a b:Bool} (hn:gA 161 [.str t.name] (.bool a)) (hy:gA 163 [.agg (eA t)] (.bool b)):gA 119 [.agg (eA t)] (.bool ((a&&b)&&T)):=by
 refine rA (c:=bA) rfl rfl ?_;simp [gA,eA,tC,pA.left,h] at hs;simp only [gA,eA,h] at hn hy;cases ho:t.opn <;> simp only [ho] at hs hy <;> cases a with
 | false=>simp [bA,-J,-y4,-y3,y0,eA,h,hs,hn,ho]
 | true=>cases b with
  | false=>simp [bA,-J,-y4,-y3,y0,eA,h,hs,hn,hy,ho]
  | true=>simp [bA,-J,-y4,-y3,y0,eA,h,hs,hn,hy,ho]
theorem form_ev6 (h:t.kind=6) {T:Bool} (hs:gA 164 [.agg (eA t.left),.agg (eA tC)] (.bool T)) {a b:Bool} (hn:gA 161 [.str t.name] (.bool a)) (hy:gA 163 [.agg (eA t)] (.bool b)):gA 119 [.agg (eA t)] (.bool ((a&&b)&&T)):=by
 refine rA (c:=bA) rfl rfl ?_;simp [gA,eA,tC,pA.left,h] at hs;simp only [gA,eA,h] at hn hy;cases ho:t.opn <;> simp only [ho] at hs hy <;> cases a with
 | false=>simp [bA,-J,-y4,-y3,y0,eA,h,hs,hn,ho]
 | true=>cases b with
  | false=>simp [bA,-J,-y4,-y3,y0,eA,h,hs,hn,hy,ho]
  | true=>simp [bA,-J,-y4,-y3,y0,eA,h,hs,hn,hy,ho]
theorem form_ev0 (h:¬ (1<=t.kind/\t.kind<=9)):gA 119 [.agg (eA t)] (.bool false):=by
 refine rA (c:=bA) rfl rfl ?_;have q:∀ n:Int,1<=n->n<=9->¬ t.kind=n:=fun n h1 h2 e=>h ⟨by omega,by omega⟩
 simp [bA,-J,-y4,-y3,y0,eA,q 1,q 2,q 3,q 4,q 5,q 6,q 7,q 8,q 9]
theorem form_ev (ht:t.fine):gA 119 [.agg (eA t)] (.bool (dB t)):=by
 obtain ⟨sa,mf,rj⟩:=ht;have hs:=tsame_ev t.left tC (left_ok sa);have hn:=name_ev t.name;have ad:=symbols_ev t.syms mf t.sn;have wk:=members_ev t sa rj;unfold dB LG;rcases kinds t.kind with h | h | h | h | h | h | h | h | h | h
 ·have r:=form_ev1 t h hs; simpa [h] using r
 ·have r:=form_ev2 t h hs; simpa [h] using r
 ·have r:=form_ev3 t h hs; simpa [h] using r
 ·have r:=form_ev4 t h hs hn ad; simpa [h] using r
 ·have r:=form_ev5 t h hs hn (wk (.inl h)); simpa [h] using r
 ·have r:=form_ev6 t h hs hn (wk (.inr h)); simpa [h] using r
 ·have r:=form_ev7 t h hs; simpa [h] using r
 ·have r:=form_ev8 t h hs; simpa [h] using r
 ·have r:=form_ev9 t h hs; simpa [h] using r
 ·have r:=form_ev0 t h; rw [decide_eq_false h]; exact r
end
end Go.Proofs.YtbhbeakhognieaaGreat
