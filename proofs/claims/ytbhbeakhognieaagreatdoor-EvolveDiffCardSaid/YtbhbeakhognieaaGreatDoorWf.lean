/- A part of the proof. -/
import Derived.Test.YtbhbeakhognieaaGreatDoorWd
set_option linter.all false
set_option maxRecDepth 100000
set_option maxHeartbeats 8000000
open Option renaming bind_some → J
open List renaming range_succ → y0, map_map → y5, all_eq_true → y8
open Int renaming toNat_lt → y6
namespace Go.Proofs.YtbhbeakhognieaaGreatDoor
open Go
def XA.plain (t:XA):XA :=
 if t.kind=1 then { HC with kind:=t.kind }
 else if t.kind=2 then { HC with kind:=t.kind,low:=t.low,high:=t.high }
 else if t.kind=3 then { HC with kind:=t.kind,max:=t.max }
 else if t.kind=4 then { HC with kind:=t.kind,name:=t.name,sn:=t.sn,syms:=t.syms,opn:=t.opn }
 else if t.kind=5 then { HC with kind:=t.kind,name:=t.name,mn:=t.mn,mems:=t.mems }
 else if t.kind=6 then { HC with kind:=t.kind,name:=t.name,mn:=t.mn,mems:=t.mems,opn:=t.opn }
 else if t.kind=7 then { HC with kind:=t.kind,max:=t.max,elem:=t.elem }
 else if t.kind=8 then { HC with kind:=t.kind,max:=t.max,elem:=t.elem,key:=t.key }
 else { HC with kind:=t.kind,elem:=t.elem }
theorem I1 (t:XA):t.same t.plain=t.left.same HC:=by
 unfold XA.plain XA.left
 repeat' split
 all_goals simp [XA.same,HC,JO,LB, *]
theorem AG (t:XA):wB 113 [.agg (qA t)] (.agg (qA t.plain)):=by
 refine cA (c:=TF) rfl rfl ?_;unfold XA.plain;rcases kinds t.kind with h | h | h | h | h | h | h | h | h | h
 case inr.inr.inr.inr.inr.inr.inr.inr.inr =>
  have q:∀ n:Int,1<=n->n<=9->¬ t.kind=n:=fun n h1 h2 e=>h ⟨by omega,by omega⟩
  simp [TF,-J,-y6,-y5,y0,qA,q,HC]
 all_goals simp [TF,-J,-y6,-y5,y0,qA,h,HC]
def XA.named (t:XA):Bool:=decide (t.kind=4)||decide (t.kind=5)||decide (t.kind=6)
theorem PF (k:Int):wB 75 [.int .i64 k] (.bool (decide (k=4)||decide (k=5)||decide (k=6))):=by
 refine cA (c:=xH) rfl rfl ?_;by_cases h1:k=4 <;> by_cases h2:k=5 <;> by_cases h3:k=6 <;> simp [xH,-J,-y6,-y5,y0,h1,h2,h3]
theorem X0 (k:Int):wB 77 [.int .i64 k] (.bool (decide (1<=k/\k<=4))):=by
 refine cA (c:=GF) rfl rfl ?_;by_cases h1:1<=k <;> by_cases h2:k<=4 <;> simp [GF,-J,-y6,-y5,y0,h1,h2]
section
variable (t:XA)
include t
theorem own_ev1 (h:t.kind=1) {T:Bool} (hs:wB 40 [.agg (qA t),.agg (qA t.plain)] (.bool T)):wB 74 [.agg (qA t)] (.bool (T)):=by
 have hp:=AG t;obtain ⟨pc,mg⟩:∃ pc,qA t.plain=pc:=⟨_,rfl⟩;have ue:pc.all AV.free0=true:=by rw [<- mg]; rfl
 rw [mg] at hp hs;have uc:=PF t.kind;refine cA (c:=xA) rfl rfl ?_;simp [wB,qA,h] at hs hp uc;cases T with
 | false=>simp [xA,-J,-y6,-y5,y0,qA,h,hp,hs,uc,ue,-y8]
 | true =>
  simp [xA,-J,-y6,-y5,y0,qA,h,hp,hs,uc,ue,-y8]
theorem own_ev2 (h:t.kind=2) {T:Bool} (hs:wB 40 [.agg (qA t),.agg (qA t.plain)] (.bool T)):wB 74 [.agg (qA t)] (.bool (T&&decide (t.low<=t.high))):=by
 have hp:=AG t;obtain ⟨pc,mg⟩:∃ pc,qA t.plain=pc:=⟨_,rfl⟩;have ue:pc.all AV.free0=true:=by rw [<- mg]; rfl
 rw [mg] at hp hs;have uc:=PF t.kind;refine cA (c:=xA) rfl rfl ?_;simp [wB,qA,h] at hs hp uc;cases T with
 | false=>simp [xA,-J,-y6,-y5,y0,qA,h,hp,hs,uc,ue,-y8]
 | true =>
  simp [xA,-J,-y6,-y5,y0,qA,h,hp,hs,uc,ue,-y8]
theorem own_ev3 (h:t.kind=3) {T:Bool} (hs:wB 40 [.agg (qA t),.agg (qA t.plain)] (.bool T)):wB 74 [.agg (qA t)] (.bool (T&&(decide (0<=t.max)&&decide (t.max<=200)))):=by
 have hp:=AG t;obtain ⟨pc,mg⟩:∃ pc,qA t.plain=pc:=⟨_,rfl⟩;have ue:pc.all AV.free0=true:=by rw [<- mg]; rfl
 rw [mg] at hp hs;have uc:=PF t.kind;refine cA (c:=xA) rfl rfl ?_;simp [wB,qA,h] at hs hp uc;cases T with
 | false=>simp [xA,-J,-y6,-y5,y0,qA,h,hp,hs,uc,ue,-y8]
 | true =>
  by_cases h1:0<=t.max
  ·simp [xA,-J,-y6,-y5,y0,qA,h,hp,hs,uc,ue,-y8,h1]
  ·simp [xA,-J,-y6,-y5,y0,qA,h,hp,hs,uc,ue,-y8,h1]
theorem own_ev7 (h:t.kind=7) {T:Bool} (hs:wB 40 [.agg (qA t),.agg (qA t.plain)] (.bool T)):wB 74 [.agg (qA t)] (.bool (T&&(decide (0<=t.max)&&decide (t.max<=50)))):=by
 have hp:=AG t;obtain ⟨pc,mg⟩:∃ pc,qA t.plain=pc:=⟨_,rfl⟩;have ue:pc.all AV.free0=true:=by rw [<- mg]; rfl
 rw [mg] at hp hs;have uc:=PF t.kind;refine cA (c:=xA) rfl rfl ?_;simp [wB,qA,h] at hs hp uc;cases T with
 | false=>simp [xA,-J,-y6,-y5,y0,qA,h,hp,hs,uc,ue,-y8]
 | true =>
  by_cases h1:0<=t.max
  ·simp [xA,-J,-y6,-y5,y0,qA,h,hp,hs,uc,ue,-y8,h1]
  ·simp [xA,-J,-y6,-y5,y0,qA,h,hp,hs,uc,ue,-y8,h1]
theorem own_ev8 (h:t.kind=8) {T:Bool} (hs:wB 40 [.agg (qA t),.agg (qA t.plain)] (.bool T)):wB 74 [.agg (qA t)] (.bool (T&&(decide (0<=t.max)&&decide (t.max<=50)))):=by
 have hp:=AG t;obtain ⟨pc,mg⟩:∃ pc,qA t.plain=pc:=⟨_,rfl⟩;have ue:pc.all AV.free0=true:=by rw [<- mg]; rfl
 rw [mg] at hp hs;have uc:=PF t.kind;refine cA (c:=xA) rfl rfl ?_;simp [wB,qA,h] at hs hp uc;cases T with
 | false=>simp [xA,-J,-y6,-y5,y0,qA,h,hp,hs,uc,ue,-y8]
 | true =>
  by_cases h1:0<=t.max
  ·simp [xA,-J,-y6,-y5,y0,qA,h,hp,hs,uc,ue,-y8,h1]
  ·simp [xA,-J,-y6,-y5,y0,qA,h,hp,hs,uc,ue,-y8,h1]
theorem own_ev9 (h:t.kind=9) {T:Bool} (hs:wB 40 [.agg (qA t),.agg (qA t.plain)] (.bool T)):wB 74 [.agg (qA t)] (.bool (T)):=by
 have hp:=AG t;obtain ⟨pc,mg⟩:∃ pc,qA t.plain=pc:=⟨_,rfl⟩;have ue:pc.all AV.free0=true:=by rw [<- mg]; rfl
 rw [mg] at hp hs;have uc:=PF t.kind;refine cA (c:=xA) rfl rfl ?_;simp [wB,qA,h] at hs hp uc;cases T with
 | false=>simp [xA,-J,-y6,-y5,y0,qA,h,hp,hs,uc,ue,-y8]
 | true =>
  simp [xA,-J,-y6,-y5,y0,qA,h,hp,hs,uc,ue,-y8]
theorem own_ev4 (h:t.kind=4) {T:Bool} (hs:wB 40 [.agg (qA t),.agg (qA t.plain)] (.bool T)) {a b:Bool} (hn:wB 114 [.str t.name] (.bool a)) (hy:wB 115 [.sl t.sn (t.syms.map FA)] (.bool b)):wB 74 [.agg (qA t)] (.bool (T&&(a&&b))):=by
 have hp:=AG t;obtain ⟨pc,mg⟩:∃ pc,qA t.plain=pc:=⟨_,rfl⟩;have ue:pc.all AV.free0=true:=by rw [<- mg]; rfl
 rw [mg] at hp hs;have uc:=PF t.kind;refine cA (c:=xA) rfl rfl ?_;simp [wB,qA,h] at hs hp uc;simp only [wB] at hn hy;cases T with
 | false=>simp [xA,-J,-y6,-y5,y0,qA,h,hp,hs,uc,ue,-y8]
 | true =>
  cases a with
  | false=>simp [xA,-J,-y6,-y5,y0,qA,h,hp,hs,uc,ue,-y8,hn]
  | true=>simp [xA,-J,-y6,-y5,y0,qA,h,hp,hs,uc,ue,-y8,hn,hy]
theorem own_ev5 (h:t.kind=5) {T:Bool} (hs:wB 40 [.agg (qA t),.agg (qA t.plain)] (.bool T)) {a b:Bool} (hn:wB 114 [.str t.name] (.bool a)) (hy:wB 116 [.sl t.mn (t.mems.map WA),.bool true] (.bool b)):wB 74 [.agg (qA t)] (.bool (T&&(a&&b))):=by
 have hp:=AG t;obtain ⟨pc,mg⟩:∃ pc,qA t.plain=pc:=⟨_,rfl⟩;have ue:pc.all AV.free0=true:=by rw [<- mg]; rfl
 rw [mg] at hp hs;have uc:=PF t.kind;refine cA (c:=xA) rfl rfl ?_;simp [wB,qA,h] at hs hp uc;simp only [wB] at hn hy;cases T with
 | false=>simp [xA,-J,-y6,-y5,y0,qA,h,hp,hs,uc,ue,-y8]
 | true =>
  cases a with
  | false=>simp [xA,-J,-y6,-y5,y0,qA,h,hp,hs,uc,ue,-y8,hn]
  | true=>simp [xA,-J,-y6,-y5,y0,qA,h,hp,hs,uc,ue,-y8,hn,hy]
theorem own_ev6 (h:t.kind=6) {T:Bool} (hs:wB 40 [.agg (qA t),.agg (qA t.plain)] (.bool T)) {a b:Bool} (hn:wB 114 [.str t.name] (.bool a)) (hy:wB 116 [.sl t.mn (t.mems.map WA),.bool false] (.bool b)):wB 74 [.agg (qA t)] (.bool (T&&(a&&b))):=by
 have hp:=AG t;obtain ⟨pc,mg⟩:∃ pc,qA t.plain=pc:=⟨_,rfl⟩;have ue:pc.all AV.free0=true:=by rw [<- mg]; rfl
 rw [mg] at hp hs;have uc:=PF t.kind;refine cA (c:=xA) rfl rfl ?_;simp [wB,qA,h] at hs hp uc;simp only [wB] at hn hy;cases T with
 | false=>simp [xA,-J,-y6,-y5,y0,qA,h,hp,hs,uc,ue,-y8]
 | true =>
  cases a with
  | false=>simp [xA,-J,-y6,-y5,y0,qA,h,hp,hs,uc,ue,-y8,hn]
  | true=>simp [xA,-J,-y6,-y5,y0,qA,h,hp,hs,uc,ue,-y8,hn,hy]
theorem own_ev0 (h:¬ (1<=t.kind/\t.kind<=9)):wB 74 [.agg (qA t)] (.bool false):=by
 refine cA (c:=xA) rfl rfl ?_;by_cases h1:t.kind<1
 ·simp [xA,-J,-y6,-y5,y0,qA,h1]
 ·have h2:9<t.kind:=by omega
  simp [xA,-J,-y6,-y5,y0,qA,h1,h2]
theorem own_ev (ht:t.fine):wB 74 [.agg (qA t)] (.bool (OD t)):=by
 obtain ⟨sa,le,gc⟩:=ht;have hs:=fX t t.plain sa;rw [I1] at hs;have hn:=WV t.name;have hsy:=IZ t.syms le t.sn;have bc:=fun r=>RZ t.mems gc sa.2.2 t.mn r
 unfold OD kX;rcases kinds t.kind with h | h | h | h | h | h | h | h | h | h
 ·have r:=own_ev1 t h hs; simpa [h] using r
 ·have r:=own_ev2 t h hs; rw [Bool.and_comm] at r; simpa [h] using r
 ·have r:=own_ev3 t h hs; rw [Bool.and_comm] at r; simpa [h] using r
 ·have r:=own_ev4 t h hs hn hsy; rw [Bool.and_comm] at r; simpa [h] using r
 ·have r:=own_ev5 t h hs hn (bc true); rw [Bool.and_comm] at r; simpa [h] using r
 ·have r:=own_ev6 t h hs hn (bc false); rw [Bool.and_comm] at r; simpa [h] using r
 ·have r:=own_ev7 t h hs; rw [Bool.and_comm] at r; simpa [h] using r
 ·have r:=own_ev8 t h hs; rw [Bool.and_comm] at r; simpa [h] using r
 ·have r:=own_ev9 t h hs; simpa [h] using r
 ·have r:=own_ev0 t h; rw [decide_eq_false h]; exact r
end
end Go.Proofs.YtbhbeakhognieaaGreatDoor
