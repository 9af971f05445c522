/- A part of the proof. -/
import Derived.Test.YtbhbeakhognieaaGreatWd
set_option linter.all false
set_option maxRecDepth 100000
set_option maxHeartbeats 8000000
open Option renaming bind_some → J
open List renaming range_succ → y0, map_map → y3, all_eq_true → y6
open Int renaming toNat_lt → y4
namespace Go.Proofs.YtbhbeakhognieaaGreat
open Go
def pA.plain (t:pA):pA :=
 if t.kind=1 then { tC with kind:=t.kind }
 else if t.kind=2 then { tC with kind:=t.kind,low:=t.low,high:=t.high }
 else if t.kind=3 then { tC with kind:=t.kind,max:=t.max }
 else if t.kind=4 then { tC with kind:=t.kind,name:=t.name,sn:=t.sn,syms:=t.syms,opn:=t.opn }
 else if t.kind=5 then { tC with kind:=t.kind,name:=t.name,mn:=t.mn,mems:=t.mems }
 else if t.kind=6 then { tC with kind:=t.kind,name:=t.name,mn:=t.mn,mems:=t.mems,opn:=t.opn }
 else if t.kind=7 then { tC with kind:=t.kind,max:=t.max,elem:=t.elem }
 else if t.kind=8 then { tC with kind:=t.kind,max:=t.max,elem:=t.elem,key:=t.key }
 else { tC with kind:=t.kind,elem:=t.elem }
theorem plain_same (t:pA):t.same t.plain=t.left.same tC:=by
 unfold pA.plain pA.left
 repeat' split
 all_goals simp [pA.same,tC,wR,jB, *]
theorem xJ (t:pA):gA 157 [.agg (eA t)] (.agg (eA t.plain)):=by
 refine rA (c:=SH) rfl rfl ?_;unfold pA.plain;rcases kinds t.kind with h | h | h | h | h | h | h | h | h | h
 case inr.inr.inr.inr.inr.inr.inr.inr.inr =>
  have q:∀ n:Int,1<=n->n<=9->¬ t.kind=n:=fun n h1 h2 e=>h ⟨by omega,by omega⟩
  simp [SH,-J,-y4,-y3,y0,eA,q,tC]
 all_goals simp [SH,-J,-y4,-y3,y0,eA,h,tC]
def pA.named (t:pA):Bool:=decide (t.kind=4)||decide (t.kind=5)||decide (t.kind=6)
theorem kD (k:Int):gA 82 [.int .i64 k] (.bool (decide (k=4)||decide (k=5)||decide (k=6))):=by
 refine rA (c:=dK) rfl rfl ?_;by_cases h1:k=4 <;> by_cases h2:k=5 <;> by_cases h3:k=6 <;> simp [dK,-J,-y4,-y3,y0,h1,h2,h3]
theorem bX (k:Int):gA 118 [.int .i64 k] (.bool (decide (1<=k/\k<=4))):=by
 refine rA (c:=eI) rfl rfl ?_;by_cases h1:1<=k <;> by_cases h2:k<=4 <;> simp [eI,-J,-y4,-y3,y0,h1,h2]
section
variable (t:pA)
include t
theorem own_ev1 (h:t.kind=1) {T:Bool} (hs:gA 156 [.agg (eA t),.agg (eA t.plain)] (.bool T)):gA 116 [.agg (eA t)] (.bool (T)):=by
 have hp:=xJ t;obtain ⟨pc,mg⟩:∃ pc,eA t.plain=pc:=⟨_,rfl⟩;have eg:pc.all AV.free0=true:=by rw [<- mg]; rfl
 rw [mg] at hp hs;have ab:=kD t.kind;refine rA (c:=EA) rfl rfl ?_;simp [gA,eA,h] at hs hp ab;cases T with
 | false=>simp [EA,-J,-y4,-y3,y0,eA,h,hp,hs,ab,eg,-y6]
 | true =>
  simp [EA,-J,-y4,-y3,y0,eA,h,hp,hs,ab,eg,-y6]
theorem own_ev2 (h:t.kind=2) {T:Bool} (hs:gA 156 [.agg (eA t),.agg (eA t.plain)] (.bool T)):gA 116 [.agg (eA t)] (.bool (T&&decide (t.low<=t.high))):=by
 have hp:=xJ t;obtain ⟨pc,mg⟩:∃ pc,eA t.plain=pc:=⟨_,rfl⟩;have eg:pc.all AV.free0=true:=by rw [<- mg]; rfl
 rw [mg] at hp hs;have ab:=kD t.kind;refine rA (c:=EA) rfl rfl ?_;simp [gA,eA,h] at hs hp ab;cases T with
 | false=>simp [EA,-J,-y4,-y3,y0,eA,h,hp,hs,ab,eg,-y6]
 | true =>
  simp [EA,-J,-y4,-y3,y0,eA,h,hp,hs,ab,eg,-y6]
theorem own_ev3 (h:t.kind=3) {T:Bool} (hs:gA 156 [.agg (eA t),.agg (eA t.plain)] (.bool T)):gA 116 [.agg (eA t)] (.bool (T&&(decide (0<=t.max)&&decide (t.max<=200)))):=by
 have hp:=xJ t;obtain ⟨pc,mg⟩:∃ pc,eA t.plain=pc:=⟨_,rfl⟩;have eg:pc.all AV.free0=true:=by rw [<- mg]; rfl
 rw [mg] at hp hs;have ab:=kD t.kind;refine rA (c:=EA) rfl rfl ?_;simp [gA,eA,h] at hs hp ab;cases T with
 | false=>simp [EA,-J,-y4,-y3,y0,eA,h,hp,hs,ab,eg,-y6]
 | true =>
  by_cases h1:0<=t.max
  ·simp [EA,-J,-y4,-y3,y0,eA,h,hp,hs,ab,eg,-y6,h1]
  ·simp [EA,-J,-y4,-y3,y0,eA,h,hp,hs,ab,eg,-y6,h1]
theorem own_ev7 (h:t.kind=7) {T:Bool} (hs:gA 156 [.agg (eA t),.agg (eA t.plain)] (.bool T)):gA 116 [.agg (eA t)] (.bool (T&&(decide (0<=t.max)&&decide (t.max<=50)))):=by
 have hp:=xJ t;obtain ⟨pc,mg⟩:∃ pc,eA t.plain=pc:=⟨_,rfl⟩;have eg:pc.all AV.free0=true:=by rw [<- mg]; rfl
 rw [mg] at hp hs;have ab:=kD t.kind;refine rA (c:=EA) rfl rfl ?_;simp [gA,eA,h] at hs hp ab;cases T with
 | false=>simp [EA,-J,-y4,-y3,y0,eA,h,hp,hs,ab,eg,-y6]
 | true =>
  by_cases h1:0<=t.max
  ·simp [EA,-J,-y4,-y3,y0,eA,h,hp,hs,ab,eg,-y6,h1]
  ·simp [EA,-J,-y4,-y3,y0,eA,h,hp,hs,ab,eg,-y6,h1]
theorem own_ev8 (h:t.kind=8) {T:Bool} (hs:gA 156 [.agg (eA t),.agg (eA t.plain)] (.bool T)):gA 116 [.agg (eA t)] (.bool (T&&(decide (0<=t.max)&&decide (t.max<=50)))):=by
 have hp:=xJ t;obtain ⟨pc,mg⟩:∃ pc,eA t.plain=pc:=⟨_,rfl⟩;have eg:pc.all AV.free0=true:=by rw [<- mg]; rfl
 rw [mg] at hp hs;have ab:=kD t.kind;refine rA (c:=EA) rfl rfl ?_;simp [gA,eA,h] at hs hp ab;cases T with
 | false=>simp [EA,-J,-y4,-y3,y0,eA,h,hp,hs,ab,eg,-y6]
 | true =>
  by_cases h1:0<=t.max
  ·simp [EA,-J,-y4,-y3,y0,eA,h,hp,hs,ab,eg,-y6,h1]
  ·simp [EA,-J,-y4,-y3,y0,eA,h,hp,hs,ab,eg,-y6,h1]
theorem own_ev9 (h:t.kind=9) {T:Bool} (hs:gA 156 [.agg (eA t),.agg (eA t.plain)] (.bool T)):gA 116 [.agg (eA t)] (.bool (T)):=by
 have hp:=xJ t;obtain ⟨pc,mg⟩:∃ pc,eA t.plain=pc:=⟨_,rfl⟩;have eg:pc.all AV.free0=true:=by rw [<- mg]; rfl
 rw [mg] at hp hs;have ab:=kD t.kind;refine rA (c:=EA) rfl rfl ?_;simp [gA,eA,h] at hs hp ab;cases T with
 | false=>simp [EA,-J,-y4,-y3,y0,eA,h,hp,hs,ab,eg,-y6]
 | true =>
  simp [EA,-J,-y4,-y3,y0,eA,h,hp,hs,ab,eg,-y6]
theorem own_ev4 (h:t.kind=4) {T:Bool} (hs:gA 156 [.agg (eA t),.agg (eA t.plain)] (.bool T)) {a b:Bool} (hn:gA 158 [.str t.name] (.bool a)) (hy:gA 159 [.sl t.sn (t.syms.map WD)] (.bool b)):gA 116 [.agg (eA t)] (.bool (T&&(a&&b))):=by
 have hp:=xJ t;obtain ⟨pc,mg⟩:∃ pc,eA t.plain=pc:=⟨_,rfl⟩;have eg:pc.all AV.free0=true:=by rw [<- mg]; rfl
 rw [mg] at hp hs;have ab:=kD t.kind;refine rA (c:=EA) rfl rfl ?_;simp [gA,eA,h] at hs hp ab;simp only [gA] at hn hy;cases T with
 | false=>simp [EA,-J,-y4,-y3,y0,eA,h,hp,hs,ab,eg,-y6]
 | true =>
  cases a with
  | false=>simp [EA,-J,-y4,-y3,y0,eA,h,hp,hs,ab,eg,-y6,hn]
  | true=>simp [EA,-J,-y4,-y3,y0,eA,h,hp,hs,ab,eg,-y6,hn,hy]
theorem own_ev5 (h:t.kind=5) {T:Bool} (hs:gA 156 [.agg (eA t),.agg (eA t.plain)] (.bool T)) {a b:Bool} (hn:gA 158 [.str t.name] (.bool a)) (hy:gA 160 [.sl t.mn (t.mems.map nA),.bool true] (.bool b)):gA 116 [.agg (eA t)] (.bool (T&&(a&&b))):=by
 have hp:=xJ t;obtain ⟨pc,mg⟩:∃ pc,eA t.plain=pc:=⟨_,rfl⟩;have eg:pc.all AV.free0=true:=by rw [<- mg]; rfl
 rw [mg] at hp hs;have ab:=kD t.kind;refine rA (c:=EA) rfl rfl ?_;simp [gA,eA,h] at hs hp ab;simp only [gA] at hn hy;cases T with
 | false=>simp [EA,-J,-y4,-y3,y0,eA,h,hp,hs,ab,eg,-y6]
 | true =>
  cases a with
  | false=>simp [EA,-J,-y4,-y3,y0,eA,h,hp,hs,ab,eg,-y6,hn]
  | true=>simp [EA,-J,-y4,-y3,y0,eA,h,hp,hs,ab,eg,-y6,hn,hy]
theorem own_ev6 (h:t.kind=6) {T:Bool} (hs:gA 156 [.agg (eA t),.agg (eA t.plain)] (.bool T)) {a b:Bool} (hn:gA 158 [.str t.name] (.bool a)) (hy:gA 160 [.sl t.mn (t.mems.map nA),.bool false] (.bool b)):gA 116 [.agg (eA t)] (.bool (T&&(a&&b))):=by
 have hp:=xJ t;obtain ⟨pc,mg⟩:∃ pc,eA t.plain=pc:=⟨_,rfl⟩;have eg:pc.all AV.free0=true:=by rw [<- mg]; rfl
 rw [mg] at hp hs;have ab:=kD t.kind;refine rA (c:=EA) rfl rfl ?_;simp [gA,eA,h] at hs hp ab;simp only [gA] at hn hy;cases T with
 | false=>simp [EA,-J,-y4,-y3,y0,eA,h,hp,hs,ab,eg,-y6]
 | true =>
  cases a with
  | false=>simp [EA,-J,-y4,-y3,y0,eA,h,hp,hs,ab,eg,-y6,hn]
  | true=>simp [EA,-J,-y4,-y3,y0,eA,h,hp,hs,ab,eg,-y6,hn,hy]
theorem own_ev0 (h:¬ (1<=t.kind/\t.kind<=9)):gA 116 [.agg (eA t)] (.bool false):=by
 refine rA (c:=EA) rfl rfl ?_;by_cases h1:t.kind<1
 ·simp [EA,-J,-y4,-y3,y0,eA,h1]
 ·have h2:9<t.kind:=by omega
  simp [EA,-J,-y4,-y3,y0,eA,h1,h2]
theorem own_ev (ht:t.fine):gA 116 [.agg (eA t)] (.bool (dB t)):=by
 obtain ⟨sa,mf,rj⟩:=ht;have hs:=rtsame_ev t t.plain sa;rw [plain_same] at hs;have hn:=UY t.name;have ad:=E8 t.syms mf t.sn;have wk:=fun r=>z8 t.mems rj sa.2.2 t.mn r
 unfold dB LG;rcases kinds t.kind with h | h | h | h | h | h | h | h | h | h
 ·have r:=own_ev1 t h hs; simpa [h] using r
 ·have r:=own_ev2 t h hs; rw [Bool.and_comm] at r; simpa [h] using r
 ·have r:=own_ev3 t h hs; rw [Bool.and_comm] at r; simpa [h] using r
 ·have r:=own_ev4 t h hs hn ad; rw [Bool.and_comm] at r; simpa [h] using r
 ·have r:=own_ev5 t h hs hn (wk true); rw [Bool.and_comm] at r; simpa [h] using r
 ·have r:=own_ev6 t h hs hn (wk false); rw [Bool.and_comm] at r; simpa [h] using r
 ·have r:=own_ev7 t h hs; rw [Bool.and_comm] at r; simpa [h] using r
 ·have r:=own_ev8 t h hs; rw [Bool.and_comm] at r; simpa [h] using r
 ·have r:=own_ev9 t h hs; simpa [h] using r
 ·have r:=own_ev0 t h; rw [decide_eq_false h]; exact r
end
end Go.Proofs.YtbhbeakhognieaaGreat
