/- A part of the proof. -/
import Derived.Test.YtbnlmgncbgaepaaGreatTd
set_option linter.all false
set_option maxRecDepth 100000
set_option maxHeartbeats 8000000
open Option renaming bind_some → V
open List renaming range_succ → y0, map_map → y3, all_eq_true → y6
open Int renaming toNat_lt → y4
namespace Go.Proofs.YtbnlmgncbgaepaaGreat
open Go
def sA.plain (t:sA):sA :=
 if t.kind=1 then { LB with kind:=t.kind }
 else if t.kind=2 then { LB with kind:=t.kind,low:=t.low,high:=t.high }
 else if t.kind=3 then { LB with kind:=t.kind,max:=t.max }
 else if t.kind=4 then { LB with kind:=t.kind,name:=t.name,sn:=t.sn,syms:=t.syms,opn:=t.opn }
 else if t.kind=5 then { LB with kind:=t.kind,name:=t.name,mn:=t.mn,mems:=t.mems }
 else if t.kind=6 then { LB with kind:=t.kind,name:=t.name,mn:=t.mn,mems:=t.mems,opn:=t.opn }
 else if t.kind=7 then { LB with kind:=t.kind,max:=t.max,elem:=t.elem }
 else if t.kind=8 then { LB with kind:=t.kind,max:=t.max,elem:=t.elem,key:=t.key }
 else { LB with kind:=t.kind,elem:=t.elem }
theorem plain_same (t:sA):t.same t.plain=t.left.same LB:=by
 unfold sA.plain sA.left
 repeat' split
 all_goals simp [sA.same,LB,bR,tB, *]
theorem OJ (t:sA):fA 209 [.agg (qA t)] (.agg (qA t.plain)):=by
 refine rA (c:=JH) rfl rfl ?_;unfold sA.plain;rcases kinds t.kind with h | h | h | h | h | h | h | h | h | h
 case inr.inr.inr.inr.inr.inr.inr.inr.inr =>
  have q:∀ n:Int,1<=n->n<=9->¬ t.kind=n:=fun n h1 h2 e=>h ⟨by omega,by omega⟩
  simp [JH,-V,-y4,-y3,y0,qA,q,LB]
 all_goals simp [JH,-V,-y4,-y3,y0,qA,h,LB]
def sA.named (t:sA):Bool:=decide (t.kind=4)||decide (t.kind=5)||decide (t.kind=6)
theorem rD (k:Int):fA 88 [.int .i64 k] (.bool (decide (k=4)||decide (k=5)||decide (k=6))):=by
 refine rA (c:=RK) rfl rfl ?_;by_cases h1:k=4 <;> by_cases h2:k=5 <;> by_cases h3:k=6 <;> simp [RK,-V,-y4,-y3,y0,h1,h2,h3]
theorem RX (k:Int):fA 143 [.int .i64 k] (.bool (decide (1<=k/\k<=4))):=by
 refine rA (c:=aI) rfl rfl ?_;by_cases h1:1<=k <;> by_cases h2:k<=4 <;> simp [aI,-V,-y4,-y3,y0,h1,h2]
section
variable (t:sA)
include t
theorem own_ev1 (h:t.kind=1) {T:Bool} (hs:fA 208 [.agg (qA t),.agg (qA t.plain)] (.bool T)):fA 180 [.agg (qA t)] (.bool (T)):=by
 have hp:=OJ t;obtain ⟨pc,jf⟩:∃ pc,qA t.plain=pc:=⟨_,rfl⟩;have ue:pc.all AV.free0=true:=by rw [<- jf]; rfl
 rw [jf] at hp hs;have eb:=rD t.kind;refine rA (c:=QA) rfl rfl ?_;simp [fA,qA,h] at hs hp eb;cases T with
 | false=>simp [QA,-V,-y4,-y3,y0,qA,h,hp,hs,eb,ue,-y6]
 | true =>
  simp [QA,-V,-y4,-y3,y0,qA,h,hp,hs,eb,ue,-y6]
theorem own_ev2 (h:t.kind=2) {T:Bool} (hs:fA 208 [.agg (qA t),.agg (qA t.plain)] (.bool T)):fA 180 [.agg (qA t)] (.bool (T&&decide (t.low<=t.high))):=by
 have hp:=OJ t;obtain ⟨pc,jf⟩:∃ pc,qA t.plain=pc:=⟨_,rfl⟩;have ue:pc.all AV.free0=true:=by rw [<- jf]; rfl
 rw [jf] at hp hs;have eb:=rD t.kind;refine rA (c:=QA) rfl rfl ?_;simp [fA,qA,h] at hs hp eb;cases T with
 | false=>simp [QA,-V,-y4,-y3,y0,qA,h,hp,hs,eb,ue,-y6]
 | true =>
  simp [QA,-V,-y4,-y3,y0,qA,h,hp,hs,eb,ue,-y6]
theorem own_ev3 (h:t.kind=3) {T:Bool} (hs:fA 208 [.agg (qA t),.agg (qA t.plain)] (.bool T)):fA 180 [.agg (qA t)] (.bool (T&&(decide (0<=t.max)&&decide (t.max<=200)))):=by
 have hp:=OJ t;obtain ⟨pc,jf⟩:∃ pc,qA t.plain=pc:=⟨_,rfl⟩;have ue:pc.all AV.free0=true:=by rw [<- jf]; rfl
 rw [jf] at hp hs;have eb:=rD t.kind;refine rA (c:=QA) rfl rfl ?_;simp [fA,qA,h] at hs hp eb;cases T with
 | false=>simp [QA,-V,-y4,-y3,y0,qA,h,hp,hs,eb,ue,-y6]
 | true =>
  by_cases h1:0<=t.max
  ·simp [QA,-V,-y4,-y3,y0,qA,h,hp,hs,eb,ue,-y6,h1]
  ·simp [QA,-V,-y4,-y3,y0,qA,h,hp,hs,eb,ue,-y6,h1]
theorem own_ev7 (h:t.kind=7) {T:Bool} (hs:fA 208 [.agg (qA t),.agg (qA t.plain)] (.bool T)):fA 180 [.agg (qA t)] (.bool (T&&(decide (0<=t.max)&&decide (t.max<=50)))):=by
 have hp:=OJ t;obtain ⟨pc,jf⟩:∃ pc,qA t.plain=pc:=⟨_,rfl⟩;have ue:pc.all AV.free0=true:=by rw [<- jf]; rfl
 rw [jf] at hp hs;have eb:=rD t.kind;refine rA (c:=QA) rfl rfl ?_;simp [fA,qA,h] at hs hp eb;cases T with
 | false=>simp [QA,-V,-y4,-y3,y0,qA,h,hp,hs,eb,ue,-y6]
 | true =>
  by_cases h1:0<=t.max
  ·simp [QA,-V,-y4,-y3,y0,qA,h,hp,hs,eb,ue,-y6,h1]
  ·simp [QA,-V,-y4,-y3,y0,qA,h,hp,hs,eb,ue,-y6,h1]
theorem own_ev8 (h:t.kind=8) {T:Bool} (hs:fA 208 [.agg (qA t),.agg (qA t.plain)] (.bool T)):fA 180 [.agg (qA t)] (.bool (T&&(decide (0<=t.max)&&decide (t.max<=50)))):=by
 have hp:=OJ t;obtain ⟨pc,jf⟩:∃ pc,qA t.plain=pc:=⟨_,rfl⟩;have ue:pc.all AV.free0=true:=by rw [<- jf]; rfl
 rw [jf] at hp hs;have eb:=rD t.kind;refine rA (c:=QA) rfl rfl ?_;simp [fA,qA,h] at hs hp eb;cases T with
 | false=>simp [QA,-V,-y4,-y3,y0,qA,h,hp,hs,eb,ue,-y6]
 | true =>
  by_cases h1:0<=t.max
  ·simp [QA,-V,-y4,-y3,y0,qA,h,hp,hs,eb,ue,-y6,h1]
  ·simp [QA,-V,-y4,-y3,y0,qA,h,hp,hs,eb,ue,-y6,h1]
theorem own_ev9 (h:t.kind=9) {T:Bool} (hs:fA 208 [.agg (qA t),.agg (qA t.plain)] (.bool T)):fA 180 [.agg (qA t)] (.bool (T)):=by
 have hp:=OJ t;obtain ⟨pc,jf⟩:∃ pc,qA t.plain=pc:=⟨_,rfl⟩;have ue:pc.all AV.free0=true:=by rw [<- jf]; rfl
 rw [jf] at hp hs;have eb:=rD t.kind;refine rA (c:=QA) rfl rfl ?_;simp [fA,qA,h] at hs hp eb;cases T with
 | false=>simp [QA,-V,-y4,-y3,y0,qA,h,hp,hs,eb,ue,-y6]
 | true =>
  simp [QA,-V,-y4,-y3,y0,qA,h,hp,hs,eb,ue,-y6]
theorem own_ev4 (h:t.kind=4) {T:Bool} (hs:fA 208 [.agg (qA t),.agg (qA t.plain)] (.bool T)) {a b:Bool} (hn:fA 210 [.str t.name] (.bool a)) (hy:fA 211 [.sl t.sn (t.syms.map DC)] (.bool b)):fA 180 [.agg (qA t)] (.bool (T&&(a&&b))):=by
 have hp:=OJ t;obtain ⟨pc,jf⟩:∃ pc,qA t.plain=pc:=⟨_,rfl⟩;have ue:pc.all AV.free0=true:=by rw [<- jf]; rfl
 rw [jf] at hp hs;have eb:=rD t.kind;refine rA (c:=QA) rfl rfl ?_;simp [fA,qA,h] at hs hp eb;simp only [fA] at hn hy;cases T with
 | false=>simp [QA,-V,-y4,-y3,y0,qA,h,hp,hs,eb,ue,-y6]
 | true =>
  cases a with
  | false=>simp [QA,-V,-y4,-y3,y0,qA,h,hp,hs,eb,ue,-y6,hn]
  | true=>simp [QA,-V,-y4,-y3,y0,qA,h,hp,hs,eb,ue,-y6,hn,hy]
theorem own_ev5 (h:t.kind=5) {T:Bool} (hs:fA 208 [.agg (qA t),.agg (qA t.plain)] (.bool T)) {a b:Bool} (hn:fA 210 [.str t.name] (.bool a)) (hy:fA 212 [.sl t.mn (t.mems.map zA),.bool true] (.bool b)):fA 180 [.agg (qA t)] (.bool (T&&(a&&b))):=by
 have hp:=OJ t;obtain ⟨pc,jf⟩:∃ pc,qA t.plain=pc:=⟨_,rfl⟩;have ue:pc.all AV.free0=true:=by rw [<- jf]; rfl
 rw [jf] at hp hs;have eb:=rD t.kind;refine rA (c:=QA) rfl rfl ?_;simp [fA,qA,h] at hs hp eb;simp only [fA] at hn hy;cases T with
 | false=>simp [QA,-V,-y4,-y3,y0,qA,h,hp,hs,eb,ue,-y6]
 | true =>
  cases a with
  | false=>simp [QA,-V,-y4,-y3,y0,qA,h,hp,hs,eb,ue,-y6,hn]
  | true=>simp [QA,-V,-y4,-y3,y0,qA,h,hp,hs,eb,ue,-y6,hn,hy]
theorem own_ev6 (h:t.kind=6) {T:Bool} (hs:fA 208 [.agg (qA t),.agg (qA t.plain)] (.bool T)) {a b:Bool} (hn:fA 210 [.str t.name] (.bool a)) (hy:fA 212 [.sl t.mn (t.mems.map zA),.bool false] (.bool b)):fA 180 [.agg (qA t)] (.bool (T&&(a&&b))):=by
 have hp:=OJ t;obtain ⟨pc,jf⟩:∃ pc,qA t.plain=pc:=⟨_,rfl⟩;have ue:pc.all AV.free0=true:=by rw [<- jf]; rfl
 rw [jf] at hp hs;have eb:=rD t.kind;refine rA (c:=QA) rfl rfl ?_;simp [fA,qA,h] at hs hp eb;simp only [fA] at hn hy;cases T with
 | false=>simp [QA,-V,-y4,-y3,y0,qA,h,hp,hs,eb,ue,-y6]
 | true =>
  cases a with
  | false=>simp [QA,-V,-y4,-y3,y0,qA,h,hp,hs,eb,ue,-y6,hn]
  | true=>simp [QA,-V,-y4,-y3,y0,qA,h,hp,hs,eb,ue,-y6,hn,hy]
theorem own_ev0 (h:¬ (1<=t.kind/\t.kind<=9)):fA 180 [.agg (qA t)] (.bool false):=by
 refine rA (c:=QA) rfl rfl ?_;by_cases h1:t.kind<1
 ·simp [QA,-V,-y4,-y3,y0,qA,h1]
 ·have h2:9<t.kind:=by omega
  simp [QA,-V,-y4,-y3,y0,qA,h1,h2]
theorem own_ev (ht:t.fine):fA 180 [.agg (qA t)] (.bool (gB t)):=by
 obtain ⟨na,sd,su⟩:=ht;have hs:=rtsame_ev t t.plain na;rw [plain_same] at hs;have hn:=PY t.name;have gb:=O9 t.syms sd t.sn;have bw:=fun r=>z9 t.mems su na.2.2 t.mn r
 unfold gB tI;rcases kinds t.kind with h | h | h | h | h | h | h | h | h | h
 ·have r:=own_ev1 t h hs; simpa [h] using r
 ·have r:=own_ev2 t h hs; rw [Bool.and_comm] at r; simpa [h] using r
 ·have r:=own_ev3 t h hs; rw [Bool.and_comm] at r; simpa [h] using r
 ·have r:=own_ev4 t h hs hn gb; rw [Bool.and_comm] at r; simpa [h] using r
 ·have r:=own_ev5 t h hs hn (bw true); rw [Bool.and_comm] at r; simpa [h] using r
 ·have r:=own_ev6 t h hs hn (bw false); rw [Bool.and_comm] at r; simpa [h] using r
 ·have r:=own_ev7 t h hs; rw [Bool.and_comm] at r; simpa [h] using r
 ·have r:=own_ev8 t h hs; rw [Bool.and_comm] at r; simpa [h] using r
 ·have r:=own_ev9 t h hs; simpa [h] using r
 ·have r:=own_ev0 t h; rw [decide_eq_false h]; exact r
end
end Go.Proofs.YtbnlmgncbgaepaaGreat
