/- A part of the proof. -/
import Derived.Test.YtbhbeakhognieaaGreatDoorWd
set_option linter.all false
set_option maxRecDepth 100000
set_option maxHeartbeats 8000000
open Option renaming bind_some → J
open List renaming range_succ → y0, map_map → y5
open Int renaming toNat_lt → y6
namespace Go.Proofs.YtbhbeakhognieaaGreatDoor
open Go
section
variable (t:QA)
include t
theorem form_ev1 (h:t.kind=1) {T:Bool} (hs:wB 104 [.agg (iA t.left),.agg (iA xD)] (.bool T)):wB 57 [.agg (iA t)] (.bool (T)):=by
 refine EA (c:=nA) rfl rfl ?_;simp [wB,iA,xD,QA.left,h] at hs;simp [nA,-J,-y6,-y5,y0,iA,h,hs]
theorem form_ev2 (h:t.kind=2) {T:Bool} (hs:wB 104 [.agg (iA t.left),.agg (iA xD)] (.bool T)):wB 57 [.agg (iA t)] (.bool (decide (t.low<=t.high)&&T)):=by
 refine EA (c:=nA) rfl rfl ?_;simp [wB,iA,xD,QA.left,h] at hs;by_cases h1:t.low<=t.high
 ·simp [nA,-J,-y6,-y5,y0,iA,h,hs,h1]
 ·simp [nA,-J,-y6,-y5,y0,iA,h,hs,h1]
theorem form_ev3 (h:t.kind=3) {T:Bool} (hs:wB 104 [.agg (iA t.left),.agg (iA xD)] (.bool T)):wB 57 [.agg (iA t)] (.bool ((decide (0<=t.max)&&decide (t.max<=200))&&T)):=by
 refine EA (c:=nA) rfl rfl ?_;simp [wB,iA,xD,QA.left,h] at hs;by_cases h1:0<=t.max
 ·by_cases h2:t.max<=200
  ·simp [nA,-J,-y6,-y5,y0,iA,h,hs,h1,h2]
  ·simp [nA,-J,-y6,-y5,y0,iA,h,hs,h1,h2]
 ·simp [nA,-J,-y6,-y5,y0,iA,h,hs,h1]
theorem form_ev7 (h:t.kind=7) {T:Bool} (hs:wB 104 [.agg (iA t.left),.agg (iA xD)] (.bool T)):wB 57 [.agg (iA t)] (.bool ((decide (0<=t.max)&&decide (t.max<=50))&&T)):=by
 refine EA (c:=nA) rfl rfl ?_;simp [wB,iA,xD,QA.left,h] at hs;by_cases h1:0<=t.max
 ·by_cases h2:t.max<=50
  ·simp [nA,-J,-y6,-y5,y0,iA,h,hs,h1,h2]
  ·simp [nA,-J,-y6,-y5,y0,iA,h,hs,h1,h2]
 ·simp [nA,-J,-y6,-y5,y0,iA,h,hs,h1]
theorem form_ev8 (h:t.kind=8) {T:Bool} (hs:wB 104 [.agg (iA t.left),.agg (iA xD)] (.bool T)):wB 57 [.agg (iA t)] (.bool ((decide (0<=t.max)&&decide (t.max<=50))&&T)):=by
 refine EA (c:=nA) rfl rfl ?_;simp [wB,iA,xD,QA.left,h] at hs;by_cases h1:0<=t.max
 ·by_cases h2:t.max<=50
  ·simp [nA,-J,-y6,-y5,y0,iA,h,hs,h1,h2]
  ·simp [nA,-J,-y6,-y5,y0,iA,h,hs,h1,h2]
 ·simp [nA,-J,-y6,-y5,y0,iA,h,hs,h1]
theorem form_ev9 (h:t.kind=9) {T:Bool} (hs:wB 104 [.agg (iA t.left),.agg (iA xD)] (.bool T)):wB 57 [.agg (iA t)] (.bool (T)):=by
 refine EA (c:=nA) rfl rfl ?_;simp [wB,iA,xD,QA.left,h] at hs;simp [nA,-J,-y6,-y5,y0,iA,h,hs]
theorem form_ev4 (h:t.kind=4) {T:Bool} (hs:wB 104 [.agg (iA t.left),.agg (iA xD)] (.bool T)) {a b:Bool} (hn:wB 101 [.str t.name] (.bool a)) (hy:wB 102 [.sl t.sn (t.syms.map jA)] (.bool b)):wB 57 [.agg (iA t)] (.bool ((a&&b)&&T)):=by
 refine EA (c:=nA) rfl rfl ?_;simp [wB,iA,xD,QA.left,h] at hs;simp only [wB] at hn hy;cases a with
 | false=>simp [nA,-J,-y6,-y5,y0,iA,h,hs,hn]
 | true=>cases b with
  | false=>simp [nA,-J,-y6,-y5,y0,iA,h,hs,hn,hy]
  | true=>simp [nA,-J,-y6,-y5,y0,iA,h,hs,hn,hy]
theorem form_ev5 (h:t.kind=5) {T:Bool} (hs:wB 104 [.agg (iA t.left),.agg (iA xD)] (.bool T)) {a b:Bool} (hn:wB 101 [.str t.name] (.bool a)) (hy:wB 103 [.agg (iA t)] (.bool b)):wB 57 [.agg (iA t)] (.bool ((a&&b)&&T)):=by
 refine EA (c:=nA) rfl rfl ?_;simp [wB,iA,xD,QA.left,h] at hs;simp only [wB,iA,h] at hn hy;cases ho:t.opn <;> simp only [ho] at hs hy <;> cases a with
 | false=>simp [nA,-J,-y6,-y5,y0,iA,h,hs,hn,ho]
 | true=>cases b with
  | false=>simp [nA,-J,-y6,-y5,y0,iA,h,hs,hn,hy,ho]
  | true=>simp [nA,-J,-y6,-y5,y0,iA,h,hs,hn,hy,ho]
theorem form_ev6 (h:t.kind=6) {T:Bool} (hs:wB 104 [.agg (iA t.left),.agg (iA xD)] (.bool T)) {a b:Bool} (hn:wB 101 [.str t.name] (.bool a)) (hy:wB 103 [.agg (iA t)] (.bool b)):wB 57 [.agg (iA t)] (.bool ((a&&b)&&T)):=by
 refine EA (c:=nA) rfl rfl ?_;simp [wB,iA,xD,QA.left,h] at hs;simp only [wB,iA,h] at hn hy;cases ho:t.opn <;> simp only [ho] at hs hy <;> cases a with
 | false=>simp [nA,-J,-y6,-y5,y0,iA,h,hs,hn,ho]
 | true=>cases b with
  | false=>simp [nA,-J,-y6,-y5,y0,iA,h,hs,hn,hy,ho]
  | true=>simp [nA,-J,-y6,-y5,y0,iA,h,hs,hn,hy,ho]
theorem form_ev0 (h:¬ (1<=t.kind/\t.kind<=9)):wB 57 [.agg (iA t)] (.bool false):=by
 refine EA (c:=nA) rfl rfl ?_;have q:∀ n:Int,1<=n->n<=9->¬ t.kind=n:=fun n h1 h2 e=>h ⟨by omega,by omega⟩
 simp [nA,-J,-y6,-y5,y0,iA,q 1,q 2,q 3,q 4,q 5,q 6,q 7,q 8,q 9]
theorem form_ev (ht:t.fine):wB 57 [.agg (iA t)] (.bool (zD t)):=by
 obtain ⟨sa,xf,kb⟩:=ht;have hs:=tsame_ev t.left xD (left_ok sa);have hn:=name_ev t.name;have hsy:=o9 t.syms xf t.sn;have fc:=T8 t sa kb;unfold zD GO;rcases kinds t.kind with h | h | h | h | h | h | h | h | h | h
 ·have r:=form_ev1 t h hs; simpa [h] using r
 ·have r:=form_ev2 t h hs; simpa [h] using r
 ·have r:=form_ev3 t h hs; simpa [h] using r
 ·have r:=form_ev4 t h hs hn hsy; simpa [h] using r
 ·have r:=form_ev5 t h hs hn (fc (.inl h)); simpa [h] using r
 ·have r:=form_ev6 t h hs hn (fc (.inr h)); simpa [h] using r
 ·have r:=form_ev7 t h hs; simpa [h] using r
 ·have r:=form_ev8 t h hs; simpa [h] using r
 ·have r:=form_ev9 t h hs; simpa [h] using r
 ·have r:=form_ev0 t h; rw [decide_eq_false h]; exact r
end
end Go.Proofs.YtbhbeakhognieaaGreatDoor
