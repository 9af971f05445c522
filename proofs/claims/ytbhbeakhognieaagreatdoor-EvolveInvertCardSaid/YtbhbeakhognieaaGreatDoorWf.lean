/- A part of the proof. -/
import Derived.Test.YtbhbeakhognieaaGreatDoorWd
set_option linter.all false
set_option maxRecDepth 100000
set_option maxHeartbeats 8000000
open Option renaming bind_some → J
open List renaming range_succ → y0, map_map → y5, all_eq_true → y8
open Int renaming toNat_lt → y6
namespace Go.Proofs.YtbhbeakhognieaaGreatDoor
open Go
def QA.plain (t:QA):QA :=
 if t.kind=1 then { xD with kind:=t.kind }
 else if t.kind=2 then { xD with kind:=t.kind,low:=t.low,high:=t.high }
 else if t.kind=3 then { xD with kind:=t.kind,max:=t.max }
 else if t.kind=4 then { xD with kind:=t.kind,name:=t.name,sn:=t.sn,syms:=t.syms,opn:=t.opn }
 else if t.kind=5 then { xD with kind:=t.kind,name:=t.name,mn:=t.mn,mems:=t.mems }
 else if t.kind=6 then { xD with kind:=t.kind,name:=t.name,mn:=t.mn,mems:=t.mems,opn:=t.opn }
 else if t.kind=7 then { xD with kind:=t.kind,max:=t.max,elem:=t.elem }
 else if t.kind=8 then { xD with kind:=t.kind,max:=t.max,elem:=t.elem,key:=t.key }
 else { xD with kind:=t.kind,elem:=t.elem }
theorem D8 (t:QA):t.same t.plain=t.left.same xD:=by
 unfold QA.plain QA.left
 repeat' split
 all_goals simp [QA.same,xD,sM,MB, *]
theorem kI (t:QA):wB 113 [.agg (iA t)] (.agg (iA t.plain)):=by
 refine EA (c:=iH) rfl rfl ?_;unfold QA.plain;rcases kinds t.kind with h | h | h | h | h | h | h | h | h | h
 case inr.inr.inr.inr.inr.inr.inr.inr.inr =>
  have q:∀ n:Int,1<=n->n<=9->¬ t.kind=n:=fun n h1 h2 e=>h ⟨by omega,by omega⟩
  simp [iH,-J,-y6,-y5,y0,iA,q,xD]
 all_goals simp [iH,-J,-y6,-y5,y0,iA,h,xD]
def QA.named (t:QA):Bool:=decide (t.kind=4)||decide (t.kind=5)||decide (t.kind=6)
theorem WG (k:Int):wB 75 [.int .i64 k] (.bool (decide (k=4)||decide (k=5)||decide (k=6))):=by
 refine EA (c:=dJ) rfl rfl ?_;by_cases h1:k=4 <;> by_cases h2:k=5 <;> by_cases h3:k=6 <;> simp [dJ,-J,-y6,-y5,y0,h1,h2,h3]
theorem j8 (k:Int):wB 77 [.int .i64 k] (.bool (decide (1<=k/\k<=4))):=by
 refine EA (c:=kH) rfl rfl ?_;by_cases h1:1<=k <;> by_cases h2:k<=4 <;> simp [kH,-J,-y6,-y5,y0,h1,h2]
section
variable (t:QA)
include t
theorem own_ev1 (h:t.kind=1) {T:Bool} (hs:wB 40 [.agg (iA t),.agg (iA t.plain)] (.bool T)):wB 74 [.agg (iA t)] (.bool (T)):=by
 have hp:=kI t;obtain ⟨pc,oi⟩:∃ pc,iA t.plain=pc:=⟨_,rfl⟩;have tg:pc.all AV.free0=true:=by rw [<- oi]; rfl
 rw [oi] at hp hs;have gd:=WG t.kind;refine EA (c:=TA) rfl rfl ?_;simp [wB,iA,h] at hs hp gd;cases T with
 | false=>simp [TA,-J,-y6,-y5,y0,iA,h,hp,hs,gd,tg,-y8]
 | true =>
  simp [TA,-J,-y6,-y5,y0,iA,h,hp,hs,gd,tg,-y8]
theorem own_ev2 (h:t.kind=2) {T:Bool} (hs:wB 40 [.agg (iA t),.agg (iA t.plain)] (.bool T)):wB 74 [.agg (iA t)] (.bool (T&&decide (t.low<=t.high))):=by
 have hp:=kI t;obtain ⟨pc,oi⟩:∃ pc,iA t.plain=pc:=⟨_,rfl⟩;have tg:pc.all AV.free0=true:=by rw [<- oi]; rfl
 rw [oi] at hp hs;have gd:=WG t.kind;refine EA (c:=TA) rfl rfl ?_;simp [wB,iA,h] at hs hp gd;cases T with
 | false=>simp [TA,-J,-y6,-y5,y0,iA,h,hp,hs,gd,tg,-y8]
 | true =>
  simp [TA,-J,-y6,-y5,y0,iA,h,hp,hs,gd,tg,-y8]
theorem own_ev3 (h:t.kind=3) {T:Bool} (hs:wB 40 [.agg (iA t),.agg (iA t.plain)] (.bool T)):wB 74 [.agg (iA t)] (.bool (T&&(decide (0<=t.max)&&decide (t.max<=200)))):=by
 have hp:=kI t;obtain ⟨pc,oi⟩:∃ pc,iA t.plain=pc:=⟨_,rfl⟩;have tg:pc.all AV.free0=true:=by rw [<- oi]; rfl
 rw [oi] at hp hs;have gd:=WG t.kind;refine EA (c:=TA) rfl rfl ?_;simp [wB,iA,h] at hs hp gd;cases T with
 | false=>simp [TA,-J,-y6,-y5,y0,iA,h,hp,hs,gd,tg,-y8]
 | true =>
  by_cases h1:0<=t.max
  ·simp [TA,-J,-y6,-y5,y0,iA,h,hp,hs,gd,tg,-y8,h1]
  ·simp [TA,-J,-y6,-y5,y0,iA,h,hp,hs,gd,tg,-y8,h1]
theorem own_ev7 (h:t.kind=7) {T:Bool} (hs:wB 40 [.agg (iA t),.agg (iA t.plain)] (.bool T)):wB 74 [.agg (iA t)] (.bool (T&&(decide (0<=t.max)&&decide (t.max<=50)))):=by
 have hp:=kI t;obtain ⟨pc,oi⟩:∃ pc,iA t.plain=pc:=⟨_,rfl⟩;have tg:pc.all AV.free0=true:=by rw [<- oi]; rfl
 rw [oi] at hp hs;have gd:=WG t.kind;refine EA (c:=TA) rfl rfl ?_;simp [wB,iA,h] at hs hp gd;cases T with
 | false=>simp [TA,-J,-y6,-y5,y0,iA,h,hp,hs,gd,tg,-y8]
 | true =>
  by_cases h1:0<=t.max
  ·simp [TA,-J,-y6,-y5,y0,iA,h,hp,hs,gd,tg,-y8,h1]
  ·simp [TA,-J,-y6,-y5,y0,iA,h,hp,hs,gd,tg,-y8,h1]
theorem own_ev8 (h:t.kind=8) {T:Bool} (hs:wB 40 [.agg (iA t),.agg (iA t.plain)] (.bool T)):wB 74 [.agg (iA t)] (.bool (T&&(decide (0<=t.max)&&decide (t.max<=50)))):=by
 have hp:=kI t;obtain ⟨pc,oi⟩:∃ pc,iA t.plain=pc:=⟨_,rfl⟩;have tg:pc.all AV.free0=true:=by rw [<- oi]; rfl
 rw [oi] at hp hs;have gd:=WG t.kind;refine EA (c:=TA) rfl rfl ?_;simp [wB,iA,h] at hs hp gd;cases T with
 | false=>simp [TA,-J,-y6,-y5,y0,iA,h,hp,hs,gd,tg,-y8]
 | true =>
  by_cases h1:0<=t.max
  ·simp [TA,-J,-y6,-y5,y0,iA,h,hp,hs,gd,tg,-y8,h1]
  ·simp [TA,-J,-y6,-y5,y0,iA,h,hp,hs,gd,tg,-y8,h1]
theorem own_ev9 (h:t.kind=9) {T:Bool} (hs:wB 40 [.agg (iA t),.agg (iA t.plain)] (.bool T)):wB 74 [.agg (iA t)] (.bool (T)):=by
 have hp:=kI t;obtain ⟨pc,oi⟩:∃ pc,iA t.plain=pc:=⟨_,rfl⟩;have tg:pc.all AV.free0=true:=by rw [<- oi]; rfl
 rw [oi] at hp hs;have gd:=WG t.kind;refine EA (c:=TA) rfl rfl ?_;simp [wB,iA,h] at hs hp gd;cases T with
 | false=>simp [TA,-J,-y6,-y5,y0,iA,h,hp,hs,gd,tg,-y8]
 | true =>
  simp [TA,-J,-y6,-y5,y0,iA,h,hp,hs,gd,tg,-y8]
theorem own_ev4 (h:t.kind=4) {T:Bool} (hs:wB 40 [.agg (iA t),.agg (iA t.plain)] (.bool T)) {a b:Bool} (hn:wB 114 [.str t.name] (.bool a)) (hy:wB 115 [.sl t.sn (t.syms.map jA)] (.bool b)):wB 74 [.agg (iA t)] (.bool (T&&(a&&b))):=by
 have hp:=kI t;obtain ⟨pc,oi⟩:∃ pc,iA t.plain=pc:=⟨_,rfl⟩;have tg:pc.all AV.free0=true:=by rw [<- oi]; rfl
 rw [oi] at hp hs;have gd:=WG t.kind;refine EA (c:=TA) rfl rfl ?_;simp [wB,iA,h] at hs hp gd;simp only [wB] at hn hy;cases T with
 | false=>simp [TA,-J,-y6,-y5,y0,iA,h,hp,hs,gd,tg,-y8]
 | true =>
  cases a with
  | false=>simp [TA,-J,-y6,-y5,y0,iA,h,hp,hs,gd,tg,-y8,hn]
  | true=>simp [TA,-J,-y6,-y5,y0,iA,h,hp,hs,gd,tg,-y8,hn,hy]
theorem own_ev5 (h:t.kind=5) {T:Bool} (hs:wB 40 [.agg (iA t),.agg (iA t.plain)] (.bool T)) {a b:Bool} (hn:wB 114 [.str t.name] (.bool a)) (hy:wB 116 [.sl t.mn (t.mems.map fA),.bool true] (.bool b)):wB 74 [.agg (iA t)] (.bool (T&&(a&&b))):=by
 have hp:=kI t;obtain ⟨pc,oi⟩:∃ pc,iA t.plain=pc:=⟨_,rfl⟩;have tg:pc.all AV.free0=true:=by rw [<- oi]; rfl
 rw [oi] at hp hs;have gd:=WG t.kind;refine EA (c:=TA) rfl rfl ?_;simp [wB,iA,h] at hs hp gd;simp only [wB] at hn hy;cases T with
 | false=>simp [TA,-J,-y6,-y5,y0,iA,h,hp,hs,gd,tg,-y8]
 | true =>
  cases a with
  | false=>simp [TA,-J,-y6,-y5,y0,iA,h,hp,hs,gd,tg,-y8,hn]
  | true=>simp [TA,-J,-y6,-y5,y0,iA,h,hp,hs,gd,tg,-y8,hn,hy]
theorem own_ev6 (h:t.kind=6) {T:Bool} (hs:wB 40 [.agg (iA t),.agg (iA t.plain)] (.bool T)) {a b:Bool} (hn:wB 114 [.str t.name] (.bool a)) (hy:wB 116 [.sl t.mn (t.mems.map fA),.bool false] (.bool b)):wB 74 [.agg (iA t)] (.bool (T&&(a&&b))):=by
 have hp:=kI t;obtain ⟨pc,oi⟩:∃ pc,iA t.plain=pc:=⟨_,rfl⟩;have tg:pc.all AV.free0=true:=by rw [<- oi]; rfl
 rw [oi] at hp hs;have gd:=WG t.kind;refine EA (c:=TA) rfl rfl ?_;simp [wB,iA,h] at hs hp gd;simp only [wB] at hn hy;cases T with
 | false=>simp [TA,-J,-y6,-y5,y0,iA,h,hp,hs,gd,tg,-y8]
 | true =>
  cases a with
  | false=>simp [TA,-J,-y6,-y5,y0,iA,h,hp,hs,gd,tg,-y8,hn]
  | true=>simp [TA,-J,-y6,-y5,y0,iA,h,hp,hs,gd,tg,-y8,hn,hy]
theorem own_ev0 (h:¬ (1<=t.kind/\t.kind<=9)):wB 74 [.agg (iA t)] (.bool false):=by
 refine EA (c:=TA) rfl rfl ?_;by_cases h1:t.kind<1
 ·simp [TA,-J,-y6,-y5,y0,iA,h1]
 ·have h2:9<t.kind:=by omega
  simp [TA,-J,-y6,-y5,y0,iA,h1,h2]
theorem own_ev (ht:t.fine):wB 74 [.agg (iA t)] (.bool (zD t)):=by
 obtain ⟨sa,xf,kb⟩:=ht;have hs:=lV t t.plain sa;rw [D8] at hs;have hn:=nZ t.name;have hsy:=o7 t.syms xf t.sn;have fc:=fun r=>u7 t.mems kb sa.2.2 t.mn r
 unfold zD GO;rcases kinds t.kind with h | h | h | h | h | h | h | h | h | h
 ·have r:=own_ev1 t h hs; simpa [h] using r
 ·have r:=own_ev2 t h hs; rw [Bool.and_comm] at r; simpa [h] using r
 ·have r:=own_ev3 t h hs; rw [Bool.and_comm] at r; simpa [h] using r
 ·have r:=own_ev4 t h hs hn hsy; rw [Bool.and_comm] at r; simpa [h] using r
 ·have r:=own_ev5 t h hs hn (fc true); rw [Bool.and_comm] at r; simpa [h] using r
 ·have r:=own_ev6 t h hs hn (fc false); rw [Bool.and_comm] at r; simpa [h] using r
 ·have r:=own_ev7 t h hs; rw [Bool.and_comm] at r; simpa [h] using r
 ·have r:=own_ev8 t h hs; rw [Bool.and_comm] at r; simpa [h] using r
 ·have r:=own_ev9 t h hs; simpa [h] using r
 ·have r:=own_ev0 t h; rw [decide_eq_false h]; exact r
end
end Go.Proofs.YtbhbeakhognieaaGreatDoor
