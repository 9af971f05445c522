/- A part of the proof. -/
import Derived.Test.YtjoaiabjebpbjaaGreatSe
set_option linter.all false
set_option maxRecDepth 100000
set_option maxHeartbeats 8000000
open Option renaming bind_some → V
open List renaming range_succ → J, map_map → y0, all_eq_true → y6
open Int renaming toNat_lt → y3
namespace Go.Proofs.YtjoaiabjebpbjaaGreat
open Go
def gA.plain (t:gA):gA :=
 if t.kind=1 then { sC with kind:=t.kind }
 else if t.kind=2 then { sC with kind:=t.kind,low:=t.low,high:=t.high }
 else if t.kind=3 then { sC with kind:=t.kind,max:=t.max }
 else if t.kind=4 then { sC with kind:=t.kind,name:=t.name,sn:=t.sn,syms:=t.syms,opn:=t.opn }
 else if t.kind=5 then { sC with kind:=t.kind,name:=t.name,mn:=t.mn,mems:=t.mems }
 else if t.kind=6 then { sC with kind:=t.kind,name:=t.name,mn:=t.mn,mems:=t.mems,opn:=t.opn }
 else if t.kind=7 then { sC with kind:=t.kind,max:=t.max,elem:=t.elem }
 else if t.kind=8 then { sC with kind:=t.kind,max:=t.max,elem:=t.elem,key:=t.key }
 else { sC with kind:=t.kind,elem:=t.elem }
theorem plain_same (t:gA):t.same t.plain=t.left.same sC:=by
 unfold gA.plain gA.left
 repeat' split
 all_goals simp [gA.same,sC,bR,pB, *]
theorem wK (t:gA):sA 180 [.agg (eA t)] (.agg (eA t.plain)):=by
 refine wA (c:=pI) rfl rfl ?_;unfold gA.plain;rcases kinds t.kind with h | h | h | h | h | h | h | h | h | h
 case inr.inr.inr.inr.inr.inr.inr.inr.inr =>
  have q:∀ n:Int,1<=n->n<=9->¬ t.kind=n:=fun n h1 h2 e=>h ⟨by omega,by omega⟩
  simp [pI,-V,-y3,-y0,J,eA,q,sC]
 all_goals simp [pI,-V,-y3,-y0,J,eA,h,sC]
def gA.named (t:gA):Bool:=decide (t.kind=4)||decide (t.kind=5)||decide (t.kind=6)
theorem UD (k:Int):sA 73 [.int .i64 k] (.bool (decide (k=4)||decide (k=5)||decide (k=6))):=by
 refine wA (c:=NK) rfl rfl ?_;by_cases h1:k=4 <;> by_cases h2:k=5 <;> by_cases h3:k=6 <;> simp [NK,-V,-y3,-y0,J,h1,h2,h3]
theorem dY (k:Int):sA 118 [.int .i64 k] (.bool (decide (1<=k/\k<=4))):=by
 refine wA (c:=QI) rfl rfl ?_;by_cases h1:1<=k <;> by_cases h2:k<=4 <;> simp [QI,-V,-y3,-y0,J,h1,h2]
section
variable (t:gA)
include t
theorem own_ev1 (h:t.kind=1) {T:Bool} (hs:sA 179 [.agg (eA t),.agg (eA t.plain)] (.bool T)):sA 147 [.agg (eA t)] (.bool (T)):=by
 have hp:=wK t;obtain ⟨pc,jh⟩:∃ pc,eA t.plain=pc:=⟨_,rfl⟩;have pf:pc.all AV.free0=true:=by rw [<- jh]; rfl
 rw [jh] at hp hs;have sb:=UD t.kind;refine wA (c:=IA) rfl rfl ?_;simp [sA,eA,h] at hs hp sb;cases T with
 | false=>simp [IA,-V,-y3,-y0,J,eA,h,hp,hs,sb,pf,-y6]
 | true =>
  simp [IA,-V,-y3,-y0,J,eA,h,hp,hs,sb,pf,-y6]
theorem own_ev2 (h:t.kind=2) {T:Bool} (hs:sA 179 [.agg (eA t),.agg (eA t.plain)] (.bool T)):sA 147 [.agg (eA t)] (.bool (T&&decide (t.low<=t.high))):=by
 have hp:=wK t;obtain ⟨pc,jh⟩:∃ pc,eA t.plain=pc:=⟨_,rfl⟩;have pf:pc.all AV.free0=true:=by rw [<- jh]; rfl
 rw [jh] at hp hs;have sb:=UD t.kind;refine wA (c:=IA) rfl rfl ?_;simp [sA,eA,h] at hs hp sb;cases T with
 | false=>simp [IA,-V,-y3,-y0,J,eA,h,hp,hs,sb,pf,-y6]
 | true =>
  simp [IA,-V,-y3,-y0,J,eA,h,hp,hs,sb,pf,-y6]
theorem own_ev3 (h:t.kind=3) {T:Bool} (hs:sA 179 [.agg (eA t),.agg (eA t.plain)] (.bool T)):sA 147 [.agg (eA t)] (.bool (T&&(decide (0<=t.max)&&decide (t.max<=200)))):=by
 have hp:=wK t;obtain ⟨pc,jh⟩:∃ pc,eA t.plain=pc:=⟨_,rfl⟩;have pf:pc.all AV.free0=true:=by rw [<- jh]; rfl
 rw [jh] at hp hs;have sb:=UD t.kind;refine wA (c:=IA) rfl rfl ?_;simp [sA,eA,h] at hs hp sb;cases T with
 | false=>simp [IA,-V,-y3,-y0,J,eA,h,hp,hs,sb,pf,-y6]
 | true =>
  by_cases h1:0<=t.max
  ·simp [IA,-V,-y3,-y0,J,eA,h,hp,hs,sb,pf,-y6,h1]
  ·simp [IA,-V,-y3,-y0,J,eA,h,hp,hs,sb,pf,-y6,h1]
theorem own_ev7 (h:t.kind=7) {T:Bool} (hs:sA 179 [.agg (eA t),.agg (eA t.plain)] (.bool T)):sA 147 [.agg (eA t)] (.bool (T&&(decide (0<=t.max)&&decide (t.max<=50)))):=by
 have hp:=wK t;obtain ⟨pc,jh⟩:∃ pc,eA t.plain=pc:=⟨_,rfl⟩;have pf:pc.all AV.free0=true:=by rw [<- jh]; rfl
 rw [jh] at hp hs;have sb:=UD t.kind;refine wA (c:=IA) rfl rfl ?_;simp [sA,eA,h] at hs hp sb;cases T with
 | false=>simp [IA,-V,-y3,-y0,J,eA,h,hp,hs,sb,pf,-y6]
 | true =>
  by_cases h1:0<=t.max
  ·simp [IA,-V,-y3,-y0,J,eA,h,hp,hs,sb,pf,-y6,h1]
  ·simp [IA,-V,-y3,-y0,J,eA,h,hp,hs,sb,pf,-y6,h1]
theorem own_ev8 (h:t.kind=8) {T:Bool} (hs:sA 179 [.agg (eA t),.agg (eA t.plain)] (.bool T)):sA 147 [.agg (eA t)] (.bool (T&&(decide (0<=t.max)&&decide (t.max<=50)))):=by
 have hp:=wK t;obtain ⟨pc,jh⟩:∃ pc,eA t.plain=pc:=⟨_,rfl⟩;have pf:pc.all AV.free0=true:=by rw [<- jh]; rfl
 rw [jh] at hp hs;have sb:=UD t.kind;refine wA (c:=IA) rfl rfl ?_;simp [sA,eA,h] at hs hp sb;cases T with
 | false=>simp [IA,-V,-y3,-y0,J,eA,h,hp,hs,sb,pf,-y6]
 | true =>
  by_cases h1:0<=t.max
  ·simp [IA,-V,-y3,-y0,J,eA,h,hp,hs,sb,pf,-y6,h1]
  ·simp [IA,-V,-y3,-y0,J,eA,h,hp,hs,sb,pf,-y6,h1]
theorem own_ev9 (h:t.kind=9) {T:Bool} (hs:sA 179 [.agg (eA t),.agg (eA t.plain)] (.bool T)):sA 147 [.agg (eA t)] (.bool (T)):=by
 have hp:=wK t;obtain ⟨pc,jh⟩:∃ pc,eA t.plain=pc:=⟨_,rfl⟩;have pf:pc.all AV.free0=true:=by rw [<- jh]; rfl
 rw [jh] at hp hs;have sb:=UD t.kind;refine wA (c:=IA) rfl rfl ?_;simp [sA,eA,h] at hs hp sb;cases T with
 | false=>simp [IA,-V,-y3,-y0,J,eA,h,hp,hs,sb,pf,-y6]
 | true =>
  simp [IA,-V,-y3,-y0,J,eA,h,hp,hs,sb,pf,-y6]
theorem own_ev4 (h:t.kind=4) {T:Bool} (hs:sA 179 [.agg (eA t),.agg (eA t.plain)] (.bool T)) {a b:Bool} (hn:sA 181 [.str t.name] (.bool a)) (hy:sA 182 [.sl t.sn (t.syms.map MD)] (.bool b)):sA 147 [.agg (eA t)] (.bool (T&&(a&&b))):=by
 have hp:=wK t;obtain ⟨pc,jh⟩:∃ pc,eA t.plain=pc:=⟨_,rfl⟩;have pf:pc.all AV.free0=true:=by rw [<- jh]; rfl
 rw [jh] at hp hs;have sb:=UD t.kind;refine wA (c:=IA) rfl rfl ?_;simp [sA,eA,h] at hs hp sb;simp only [sA] at hn hy;cases T with
 | false=>simp [IA,-V,-y3,-y0,J,eA,h,hp,hs,sb,pf,-y6]
 | true =>
  cases a with
  | false=>simp [IA,-V,-y3,-y0,J,eA,h,hp,hs,sb,pf,-y6,hn]
  | true=>simp [IA,-V,-y3,-y0,J,eA,h,hp,hs,sb,pf,-y6,hn,hy]
theorem own_ev5 (h:t.kind=5) {T:Bool} (hs:sA 179 [.agg (eA t),.agg (eA t.plain)] (.bool T)) {a b:Bool} (hn:sA 181 [.str t.name] (.bool a)) (hy:sA 183 [.sl t.mn (t.mems.map nA),.bool true] (.bool b)):sA 147 [.agg (eA t)] (.bool (T&&(a&&b))):=by
 have hp:=wK t;obtain ⟨pc,jh⟩:∃ pc,eA t.plain=pc:=⟨_,rfl⟩;have pf:pc.all AV.free0=true:=by rw [<- jh]; rfl
 rw [jh] at hp hs;have sb:=UD t.kind;refine wA (c:=IA) rfl rfl ?_;simp [sA,eA,h] at hs hp sb;simp only [sA] at hn hy;cases T with
 | false=>simp [IA,-V,-y3,-y0,J,eA,h,hp,hs,sb,pf,-y6]
 | true =>
  cases a with
  | false=>simp [IA,-V,-y3,-y0,J,eA,h,hp,hs,sb,pf,-y6,hn]
  | true=>simp [IA,-V,-y3,-y0,J,eA,h,hp,hs,sb,pf,-y6,hn,hy]
theorem own_ev6 (h:t.kind=6) {T:Bool} (hs:sA 179 [.agg (eA t),.agg (eA t.plain)] (.bool T)) {a b:Bool} (hn:sA 181 [.str t.name] (.bool a)) (hy:sA 183 [.sl t.mn (t.mems.map nA),.bool false] (.bool b)):sA 147 [.agg (eA t)] (.bool (T&&(a&&b))):=by
 have hp:=wK t;obtain ⟨pc,jh⟩:∃ pc,eA t.plain=pc:=⟨_,rfl⟩;have pf:pc.all AV.free0=true:=by rw [<- jh]; rfl
 rw [jh] at hp hs;have sb:=UD t.kind;refine wA (c:=IA) rfl rfl ?_;simp [sA,eA,h] at hs hp sb;simp only [sA] at hn hy;cases T with
 | false=>simp [IA,-V,-y3,-y0,J,eA,h,hp,hs,sb,pf,-y6]
 | true =>
  cases a with
  | false=>simp [IA,-V,-y3,-y0,J,eA,h,hp,hs,sb,pf,-y6,hn]
  | true=>simp [IA,-V,-y3,-y0,J,eA,h,hp,hs,sb,pf,-y6,hn,hy]
theorem own_ev0 (h:¬ (1<=t.kind/\t.kind<=9)):sA 147 [.agg (eA t)] (.bool false):=by
 refine wA (c:=IA) rfl rfl ?_;by_cases h1:t.kind<1
 ·simp [IA,-V,-y3,-y0,J,eA,h1]
 ·have h2:9<t.kind:=by omega
  simp [IA,-V,-y3,-y0,J,eA,h1,h2]
theorem own_ev (ht:t.fine):sA 147 [.agg (eA t)] (.bool (aB t)):=by
 obtain ⟨na,te,ik⟩:=ht;have hs:=rtsame_ev t t.plain na;rw [plain_same] at hs;have hn:=bZ t.name;have tn:=s9 t.syms te t.sn;have xj:=fun r=>r9 t.mems ik na.2.2 t.mn r
 unfold aB kF;rcases kinds t.kind with h | h | h | h | h | h | h | h | h | h
 ·have r:=own_ev1 t h hs; simpa [h] using r
 ·have r:=own_ev2 t h hs; rw [Bool.and_comm] at r; simpa [h] using r
 ·have r:=own_ev3 t h hs; rw [Bool.and_comm] at r; simpa [h] using r
 ·have r:=own_ev4 t h hs hn tn; rw [Bool.and_comm] at r; simpa [h] using r
 ·have r:=own_ev5 t h hs hn (xj true); rw [Bool.and_comm] at r; simpa [h] using r
 ·have r:=own_ev6 t h hs hn (xj false); rw [Bool.and_comm] at r; simpa [h] using r
 ·have r:=own_ev7 t h hs; rw [Bool.and_comm] at r; simpa [h] using r
 ·have r:=own_ev8 t h hs; rw [Bool.and_comm] at r; simpa [h] using r
 ·have r:=own_ev9 t h hs; simpa [h] using r
 ·have r:=own_ev0 t h; rw [decide_eq_false h]; exact r
end
end Go.Proofs.YtjoaiabjebpbjaaGreat
