/- A part of the proof. -/
import Derived.Test.YtbnlmgncbgaepaaGreatYd
set_option linter.all false
set_option maxRecDepth 100000
set_option maxHeartbeats 8000000
open Option renaming bind_some → V
open List renaming range_succ → J, map_map → y0, all_eq_true → y5
open Int renaming toNat_lt → y3
namespace Go.Proofs.YtbnlmgncbgaepaaGreat
open Go
def dA.plain (t:dA):dA :=
 if t.kind=1 then { LB with kind:=t.kind }
 else if t.kind=2 then { LB with kind:=t.kind,low:=t.low,high:=t.high }
 else if t.kind=3 then { LB with kind:=t.kind,max:=t.max }
 else if t.kind=4 then { LB with kind:=t.kind,name:=t.name,sn:=t.sn,syms:=t.syms,opn:=t.opn }
 else if t.kind=5 then { LB with kind:=t.kind,name:=t.name,mn:=t.mn,mems:=t.mems }
 else if t.kind=6 then { LB with kind:=t.kind,name:=t.name,mn:=t.mn,mems:=t.mems,opn:=t.opn }
 else if t.kind=7 then { LB with kind:=t.kind,max:=t.max,elem:=t.elem }
 else if t.kind=8 then { LB with kind:=t.kind,max:=t.max,elem:=t.elem,key:=t.key }
 else { LB with kind:=t.kind,elem:=t.elem }
theorem plain_same (t:dA):t.same t.plain=t.left.same LB:=by
 unfold dA.plain dA.left
 repeat' split
 all_goals simp [dA.same,LB,wR,lB, *]
theorem WJ (t:dA):fA 209 [.agg (rA t)] (.agg (rA t.plain)):=by
 refine wA (c:=SH) rfl rfl ?_;unfold dA.plain;rcases kinds t.kind with h | h | h | h | h | h | h | h | h | h
 case inr.inr.inr.inr.inr.inr.inr.inr.inr =>
  have q:∀ n:Int,1<=n->n<=9->¬ t.kind=n:=fun n h1 h2 e=>h ⟨by omega,by omega⟩
  simp [SH,-V,-y3,-y0,J,rA,q,LB]
 all_goals simp [SH,-V,-y3,-y0,J,rA,h,LB]
def dA.named (t:dA):Bool:=decide (t.kind=4)||decide (t.kind=5)||decide (t.kind=6)
theorem pD (k:Int):fA 88 [.int .i64 k] (.bool (decide (k=4)||decide (k=5)||decide (k=6))):=by
 refine wA (c:=xK) rfl rfl ?_;by_cases h1:k=4 <;> by_cases h2:k=5 <;> by_cases h3:k=6 <;> simp [xK,-V,-y3,-y0,J,h1,h2,h3]
theorem tX (k:Int):fA 143 [.int .i64 k] (.bool (decide (1<=k/\k<=4))):=by
 refine wA (c:=iI) rfl rfl ?_;by_cases h1:1<=k <;> by_cases h2:k<=4 <;> simp [iI,-V,-y3,-y0,J,h1,h2]
section
variable (t:dA)
include t
theorem own_ev1 (h:t.kind=1) {T:Bool} (hs:fA 208 [.agg (rA t),.agg (rA t.plain)] (.bool T)):fA 180 [.agg (rA t)] (.bool (T)):=by
 have hp:=WJ t;obtain ⟨pc,af⟩:∃ pc,rA t.plain=pc:=⟨_,rfl⟩;have ue:pc.all AV.free0=true:=by rw [<- af]; rfl
 rw [af] at hp hs;have ab:=pD t.kind;refine wA (c:=WA) rfl rfl ?_;simp [fA,rA,h] at hs hp ab;cases T with
 | false=>simp [WA,-V,-y3,-y0,J,rA,h,hp,hs,ab,ue,-y5]
 | true =>
  simp [WA,-V,-y3,-y0,J,rA,h,hp,hs,ab,ue,-y5]
theorem own_ev2 (h:t.kind=2) {T:Bool} (hs:fA 208 [.agg (rA t),.agg (rA t.plain)] (.bool T)):fA 180 [.agg (rA t)] (.bool (T&&decide (t.low<=t.high))):=by
 have hp:=WJ t;obtain ⟨pc,af⟩:∃ pc,rA t.plain=pc:=⟨_,rfl⟩;have ue:pc.all AV.free0=true:=by rw [<- af]; rfl
 rw [af] at hp hs;have ab:=pD t.kind;refine wA (c:=WA) rfl rfl ?_;simp [fA,rA,h] at hs hp ab;cases T with
 | false=>simp [WA,-V,-y3,-y0,J,rA,h,hp,hs,ab,ue,-y5]
 | true =>
  simp [WA,-V,-y3,-y0,J,rA,h,hp,hs,ab,ue,-y5]
theorem own_ev3 (h:t.kind=3) {T:Bool} (hs:fA 208 [.agg (rA t),.agg (rA t.plain)] (.bool T)):fA 180 [.agg (rA t)] (.bool (T&&(decide (0<=t.max)&&decide (t.max<=200)))):=by
 have hp:=WJ t;obtain ⟨pc,af⟩:∃ pc,rA t.plain=pc:=⟨_,rfl⟩;have ue:pc.all AV.free0=true:=by rw [<- af]; rfl
 rw [af] at hp hs;have ab:=pD t.kind;refine wA (c:=WA) rfl rfl ?_;simp [fA,rA,h] at hs hp ab;cases T with
 | false=>simp [WA,-V,-y3,-y0,J,rA,h,hp,hs,ab,ue,-y5]
 | true =>
  by_cases h1:0<=t.max
  ·simp [WA,-V,-y3,-y0,J,rA,h,hp,hs,ab,ue,-y5,h1]
  ·simp [WA,-V,-y3,-y0,J,rA,h,hp,hs,ab,ue,-y5,h1]
theorem own_ev7 (h:t.kind=7) {T:Bool} (hs:fA 208 [.agg (rA t),.agg (rA t.plain)] (.bool T)):fA 180 [.agg (rA t)] (.bool (T&&(decide (0<=t.max)&&decide (t.max<=50)))):=by
 have hp:=WJ t;obtain ⟨pc,af⟩:∃ pc,rA t.plain=pc:=⟨_,rfl⟩;have ue:pc.all AV.free0=true:=by rw [<- af]; rfl
 rw [af] at hp hs;have ab:=pD t.kind;refine wA (c:=WA) rfl rfl ?_;simp [fA,rA,h] at hs hp ab;cases T with
 | false=>simp [WA,-V,-y3,-y0,J,rA,h,hp,hs,ab,ue,-y5]
 | true =>
  by_cases h1:0<=t.max
  ·simp [WA,-V,-y3,-y0,J,rA,h,hp,hs,ab,ue,-y5,h1]
  ·simp [WA,-V,-y3,-y0,J,rA,h,hp,hs,ab,ue,-y5,h1]
theorem own_ev8 (h:t.kind=8) {T:Bool} (hs:fA 208 [.agg (rA t),.agg (rA t.plain)] (.bool T)):fA 180 [.agg (rA t)] (.bool (T&&(decide (0<=t.max)&&decide (t.max<=50)))):=by
 have hp:=WJ t;obtain ⟨pc,af⟩:∃ pc,rA t.plain=pc:=⟨_,rfl⟩;have ue:pc.all AV.free0=true:=by rw [<- af]; rfl
 rw [af] at hp hs;have ab:=pD t.kind;refine wA (c:=WA) rfl rfl ?_;simp [fA,rA,h] at hs hp ab;cases T with
 | false=>simp [WA,-V,-y3,-y0,J,rA,h,hp,hs,ab,ue,-y5]
 | true =>
  by_cases h1:0<=t.max
  ·simp [WA,-V,-y3,-y0,J,rA,h,hp,hs,ab,ue,-y5,h1]
  ·simp [WA,-V,-y3,-y0,J,rA,h,hp,hs,ab,ue,-y5,h1]
theorem own_ev9 (h:t.kind=9) {T:Bool} (hs:fA 208 [.agg (rA t),.agg (rA t.plain)] (.bool T)):fA 180 [.agg (rA t)] (.bool (T)):=by
 have hp:=WJ t;obtain ⟨pc,af⟩:∃ pc,rA t.plain=pc:=⟨_,rfl⟩;have ue:pc.all AV.free0=true:=by rw [<- af]; rfl
 rw [af] at hp hs;have ab:=pD t.kind;refine wA (c:=WA) rfl rfl ?_;simp [fA,rA,h] at hs hp ab;cases T with
 | false=>simp [WA,-V,-y3,-y0,J,rA,h,hp,hs,ab,ue,-y5]
 | true =>
  simp [WA,-V,-y3,-y0,J,rA,h,hp,hs,ab,ue,-y5]
theorem own_ev4 (h:t.kind=4) {T:Bool} (hs:fA 208 [.agg (rA t),.agg (rA t.plain)] (.bool T)) {a b:Bool} (hn:fA 210 [.str t.name] (.bool a)) (hy:fA 211 [.sl t.sn (t.syms.map lD)] (.bool b)):fA 180 [.agg (rA t)] (.bool (T&&(a&&b))):=by
 have hp:=WJ t;obtain ⟨pc,af⟩:∃ pc,rA t.plain=pc:=⟨_,rfl⟩;have ue:pc.all AV.free0=true:=by rw [<- af]; rfl
 rw [af] at hp hs;have ab:=pD t.kind;refine wA (c:=WA) rfl rfl ?_;simp [fA,rA,h] at hs hp ab;simp only [fA] at hn hy;cases T with
 | false=>simp [WA,-V,-y3,-y0,J,rA,h,hp,hs,ab,ue,-y5]
 | true =>
  cases a with
  | false=>simp [WA,-V,-y3,-y0,J,rA,h,hp,hs,ab,ue,-y5,hn]
  | true=>simp [WA,-V,-y3,-y0,J,rA,h,hp,hs,ab,ue,-y5,hn,hy]
theorem own_ev5 (h:t.kind=5) {T:Bool} (hs:fA 208 [.agg (rA t),.agg (rA t.plain)] (.bool T)) {a b:Bool} (hn:fA 210 [.str t.name] (.bool a)) (hy:fA 212 [.sl t.mn (t.mems.map bA),.bool true] (.bool b)):fA 180 [.agg (rA t)] (.bool (T&&(a&&b))):=by
 have hp:=WJ t;obtain ⟨pc,af⟩:∃ pc,rA t.plain=pc:=⟨_,rfl⟩;have ue:pc.all AV.free0=true:=by rw [<- af]; rfl
 rw [af] at hp hs;have ab:=pD t.kind;refine wA (c:=WA) rfl rfl ?_;simp [fA,rA,h] at hs hp ab;simp only [fA] at hn hy;cases T with
 | false=>simp [WA,-V,-y3,-y0,J,rA,h,hp,hs,ab,ue,-y5]
 | true =>
  cases a with
  | false=>simp [WA,-V,-y3,-y0,J,rA,h,hp,hs,ab,ue,-y5,hn]
  | true=>simp [WA,-V,-y3,-y0,J,rA,h,hp,hs,ab,ue,-y5,hn,hy]
theorem own_ev6 (h:t.kind=6) {T:Bool} (hs:fA 208 [.agg (rA t),.agg (rA t.plain)] (.bool T)) {a b:Bool} (hn:fA 210 [.str t.name] (.bool a)) (hy:fA 212 [.sl t.mn (t.mems.map bA),.bool false] (.bool b)):fA 180 [.agg (rA t)] (.bool (T&&(a&&b))):=by
 have hp:=WJ t;obtain ⟨pc,af⟩:∃ pc,rA t.plain=pc:=⟨_,rfl⟩;have ue:pc.all AV.free0=true:=by rw [<- af]; rfl
 rw [af] at hp hs;have ab:=pD t.kind;refine wA (c:=WA) rfl rfl ?_;simp [fA,rA,h] at hs hp ab;simp only [fA] at hn hy;cases T with
 | false=>simp [WA,-V,-y3,-y0,J,rA,h,hp,hs,ab,ue,-y5]
 | true =>
  cases a with
  | false=>simp [WA,-V,-y3,-y0,J,rA,h,hp,hs,ab,ue,-y5,hn]
  | true=>simp [WA,-V,-y3,-y0,J,rA,h,hp,hs,ab,ue,-y5,hn,hy]
theorem own_ev0 (h:¬ (1<=t.kind/\t.kind<=9)):fA 180 [.agg (rA t)] (.bool false):=by
 refine wA (c:=WA) rfl rfl ?_;by_cases h1:t.kind<1
 ·simp [WA,-V,-y3,-y0,J,rA,h1]
 ·have h2:9<t.kind:=by omega
  simp [WA,-V,-y3,-y0,J,rA,h1,h2]
theorem own_ev (ht:t.fine):fA 180 [.agg (rA t)] (.bool (mB t)):=by
 obtain ⟨la,be,uq⟩:=ht;have hs:=rtsame_ev t t.plain la;rw [plain_same] at hs;have hn:=pY t.name;have fb:=S8 t.syms be t.sn;have aw:=fun r=>Q8 t.mems uq la.2.2 t.mn r
 unfold mB JI;rcases kinds t.kind with h | h | h | h | h | h | h | h | h | h
 ·have r:=own_ev1 t h hs; simpa [h] using r
 ·have r:=own_ev2 t h hs; rw [Bool.and_comm] at r; simpa [h] using r
 ·have r:=own_ev3 t h hs; rw [Bool.and_comm] at r; simpa [h] using r
 ·have r:=own_ev4 t h hs hn fb; rw [Bool.and_comm] at r; simpa [h] using r
 ·have r:=own_ev5 t h hs hn (aw true); rw [Bool.and_comm] at r; simpa [h] using r
 ·have r:=own_ev6 t h hs hn (aw false); rw [Bool.and_comm] at r; simpa [h] using r
 ·have r:=own_ev7 t h hs; rw [Bool.and_comm] at r; simpa [h] using r
 ·have r:=own_ev8 t h hs; rw [Bool.and_comm] at r; simpa [h] using r
 ·have r:=own_ev9 t h hs; simpa [h] using r
 ·have r:=own_ev0 t h; rw [decide_eq_false h]; exact r
end
end Go.Proofs.YtbnlmgncbgaepaaGreat
