/- A part of the proof. -/
import Derived.Test.YtbnlmgncbgaepaaGreatXd
set_option linter.all false
set_option maxRecDepth 100000
set_option maxHeartbeats 8000000
open Option renaming bind_some → V
open List renaming range_succ → J, map_map → y0, all_eq_true → y5
open Int renaming toNat_lt → y3
namespace Go.Proofs.YtbnlmgncbgaepaaGreat
open Go
def fA.plain (t:fA):fA :=
 if t.kind=1 then { CB with kind:=t.kind }
 else if t.kind=2 then { CB with kind:=t.kind,low:=t.low,high:=t.high }
 else if t.kind=3 then { CB with kind:=t.kind,max:=t.max }
 else if t.kind=4 then { CB with kind:=t.kind,name:=t.name,sn:=t.sn,syms:=t.syms,opn:=t.opn }
 else if t.kind=5 then { CB with kind:=t.kind,name:=t.name,mn:=t.mn,mems:=t.mems }
 else if t.kind=6 then { CB with kind:=t.kind,name:=t.name,mn:=t.mn,mems:=t.mems,opn:=t.opn }
 else if t.kind=7 then { CB with kind:=t.kind,max:=t.max,elem:=t.elem }
 else if t.kind=8 then { CB with kind:=t.kind,max:=t.max,elem:=t.elem,key:=t.key }
 else { CB with kind:=t.kind,elem:=t.elem }
theorem Q7 (t:fA):t.same t.plain=t.left.same CB:=by
 unfold fA.plain fA.left
 repeat' split
 all_goals simp [fA.same,CB,EQ,aB, *]
theorem PJ (t:fA):gA 209 [.agg (eA t)] (.agg (eA t.plain)):=by
 refine wA (c:=CH) rfl rfl ?_;unfold fA.plain;rcases kinds t.kind with h | h | h | h | h | h | h | h | h | h
 case inr.inr.inr.inr.inr.inr.inr.inr.inr =>
  have q:∀ n:Int,1<=n->n<=9->¬ t.kind=n:=fun n h1 h2 e=>h ⟨by omega,by omega⟩
  simp [CH,-V,-y3,-y0,J,eA,q,CB]
 all_goals simp [CH,-V,-y3,-y0,J,eA,h,CB]
def fA.named (t:fA):Bool:=decide (t.kind=4)||decide (t.kind=5)||decide (t.kind=6)
theorem zD (k:Int):gA 88 [.int .i64 k] (.bool (decide (k=4)||decide (k=5)||decide (k=6))):=by
 refine wA (c:=QK) rfl rfl ?_;by_cases h1:k=4 <;> by_cases h2:k=5 <;> by_cases h3:k=6 <;> simp [QK,-V,-y3,-y0,J,h1,h2,h3]
theorem wW (k:Int):gA 143 [.int .i64 k] (.bool (decide (1<=k/\k<=4))):=by
 refine wA (c:=fI) rfl rfl ?_;by_cases h1:1<=k <;> by_cases h2:k<=4 <;> simp [fI,-V,-y3,-y0,J,h1,h2]
section
variable (t:fA)
include t
theorem own_ev1 (h:t.kind=1) {T:Bool} (hs:gA 208 [.agg (eA t),.agg (eA t.plain)] (.bool T)):gA 180 [.agg (eA t)] (.bool (T)):=by
 have hp:=PJ t;obtain ⟨pc,rf⟩:∃ pc,eA t.plain=pc:=⟨_,rfl⟩;have cf:pc.all AV.free0=true:=by rw [<- rf]; rfl
 rw [rf] at hp hs;have jb:=zD t.kind;refine wA (c:=RA) rfl rfl ?_;simp [gA,eA,h] at hs hp jb;cases T with
 | false=>simp [RA,-V,-y3,-y0,J,eA,h,hp,hs,jb,cf,-y5]
 | true =>
  simp [RA,-V,-y3,-y0,J,eA,h,hp,hs,jb,cf,-y5]
theorem own_ev2 (h:t.kind=2) {T:Bool} (hs:gA 208 [.agg (eA t),.agg (eA t.plain)] (.bool T)):gA 180 [.agg (eA t)] (.bool (T&&decide (t.low<=t.high))):=by
 have hp:=PJ t;obtain ⟨pc,rf⟩:∃ pc,eA t.plain=pc:=⟨_,rfl⟩;have cf:pc.all AV.free0=true:=by rw [<- rf]; rfl
 rw [rf] at hp hs;have jb:=zD t.kind;refine wA (c:=RA) rfl rfl ?_;simp [gA,eA,h] at hs hp jb;cases T with
 | false=>simp [RA,-V,-y3,-y0,J,eA,h,hp,hs,jb,cf,-y5]
 | true =>
  simp [RA,-V,-y3,-y0,J,eA,h,hp,hs,jb,cf,-y5]
theorem own_ev3 (h:t.kind=3) {T:Bool} (hs:gA 208 [.agg (eA t),.agg (eA t.plain)] (.bool T)):gA 180 [.agg (eA t)] (.bool (T&&(decide (0<=t.max)&&decide (t.max<=200)))):=by
 have hp:=PJ t;obtain ⟨pc,rf⟩:∃ pc,eA t.plain=pc:=⟨_,rfl⟩;have cf:pc.all AV.free0=true:=by rw [<- rf]; rfl
 rw [rf] at hp hs;have jb:=zD t.kind;refine wA (c:=RA) rfl rfl ?_;simp [gA,eA,h] at hs hp jb;cases T with
 | false=>simp [RA,-V,-y3,-y0,J,eA,h,hp,hs,jb,cf,-y5]
 | true =>
  by_cases h1:0<=t.max
  ·simp [RA,-V,-y3,-y0,J,eA,h,hp,hs,jb,cf,-y5,h1]
  ·simp [RA,-V,-y3,-y0,J,eA,h,hp,hs,jb,cf,-y5,h1]
theorem own_ev7 (h:t.kind=7) {T:Bool} (hs:gA 208 [.agg (eA t),.agg (eA t.plain)] (.bool T)):gA 180 [.agg (eA t)] (.bool (T&&(decide (0<=t.max)&&decide (t.max<=50)))):=by
 have hp:=PJ t;obtain ⟨pc,rf⟩:∃ pc,eA t.plain=pc:=⟨_,rfl⟩;have cf:pc.all AV.free0=true:=by rw [<- rf]; rfl
 rw [rf] at hp hs;have jb:=zD t.kind;refine wA (c:=RA) rfl rfl ?_;simp [gA,eA,h] at hs hp jb;cases T with
 | false=>simp [RA,-V,-y3,-y0,J,eA,h,hp,hs,jb,cf,-y5]
 | true =>
  by_cases h1:0<=t.max
  ·simp [RA,-V,-y3,-y0,J,eA,h,hp,hs,jb,cf,-y5,h1]
  ·simp [RA,-V,-y3,-y0,J,eA,h,hp,hs,jb,cf,-y5,h1]
theorem own_ev8 (h:t.kind=8) {T:Bool} (hs:gA 208 [.agg (eA t),.agg (eA t.plain)] (.bool T)):gA 180 [.agg (eA t)] (.bool (T&&(decide (0<=t.max)&&decide (t.max<=50)))):=by
 have hp:=PJ t;obtain ⟨pc,rf⟩:∃ pc,eA t.plain=pc:=⟨_,rfl⟩;have cf:pc.all AV.free0=true:=by rw [<- rf]; rfl
 rw [rf] at hp hs;have jb:=zD t.kind;refine wA (c:=RA) rfl rfl ?_;simp [gA,eA,h] at hs hp jb;cases T with
 | false=>simp [RA,-V,-y3,-y0,J,eA,h,hp,hs,jb,cf,-y5]
 | true =>
  by_cases h1:0<=t.max
  ·simp [RA,-V,-y3,-y0,J,eA,h,hp,hs,jb,cf,-y5,h1]
  ·simp [RA,-V,-y3,-y0,J,eA,h,hp,hs,jb,cf,-y5,h1]
theorem own_ev9 (h:t.kind=9) {T:Bool} (hs:gA 208 [.agg (eA t),.agg (eA t.plain)] (.bool T)):gA 180 [.agg (eA t)] (.bool (T)):=by
 have hp:=PJ t;obtain ⟨pc,rf⟩:∃ pc,eA t.plain=pc:=⟨_,rfl⟩;have cf:pc.all AV.free0=true:=by rw [<- rf]; rfl
 rw [rf] at hp hs;have jb:=zD t.kind;refine wA (c:=RA) rfl rfl ?_;simp [gA,eA,h] at hs hp jb;cases T with
 | false=>simp [RA,-V,-y3,-y0,J,eA,h,hp,hs,jb,cf,-y5]
 | true =>
  simp [RA,-V,-y3,-y0,J,eA,h,hp,hs,jb,cf,-y5]
theorem own_ev4 (h:t.kind=4) {T:Bool} (hs:gA 208 [.agg (eA t),.agg (eA t.plain)] (.bool T)) {a b:Bool} (hn:gA 210 [.str t.name] (.bool a)) (hy:gA 211 [.sl t.sn (t.syms.map RD)] (.bool b)):gA 180 [.agg (eA t)] (.bool (T&&(a&&b))):=by
 have hp:=PJ t;obtain ⟨pc,rf⟩:∃ pc,eA t.plain=pc:=⟨_,rfl⟩;have cf:pc.all AV.free0=true:=by rw [<- rf]; rfl
 rw [rf] at hp hs;have jb:=zD t.kind;refine wA (c:=RA) rfl rfl ?_;simp [gA,eA,h] at hs hp jb;simp only [gA] at hn hy;cases T with
 | false=>simp [RA,-V,-y3,-y0,J,eA,h,hp,hs,jb,cf,-y5]
 | true =>
  cases a with
  | false=>simp [RA,-V,-y3,-y0,J,eA,h,hp,hs,jb,cf,-y5,hn]
  | true=>simp [RA,-V,-y3,-y0,J,eA,h,hp,hs,jb,cf,-y5,hn,hy]
theorem own_ev5 (h:t.kind=5) {T:Bool} (hs:gA 208 [.agg (eA t),.agg (eA t.plain)] (.bool T)) {a b:Bool} (hn:gA 210 [.str t.name] (.bool a)) (hy:gA 212 [.sl t.mn (t.mems.map nA),.bool true] (.bool b)):gA 180 [.agg (eA t)] (.bool (T&&(a&&b))):=by
 have hp:=PJ t;obtain ⟨pc,rf⟩:∃ pc,eA t.plain=pc:=⟨_,rfl⟩;have cf:pc.all AV.free0=true:=by rw [<- rf]; rfl
 rw [rf] at hp hs;have jb:=zD t.kind;refine wA (c:=RA) rfl rfl ?_;simp [gA,eA,h] at hs hp jb;simp only [gA] at hn hy;cases T with
 | false=>simp [RA,-V,-y3,-y0,J,eA,h,hp,hs,jb,cf,-y5]
 | true =>
  cases a with
  | false=>simp [RA,-V,-y3,-y0,J,eA,h,hp,hs,jb,cf,-y5,hn]
  | true=>simp [RA,-V,-y3,-y0,J,eA,h,hp,hs,jb,cf,-y5,hn,hy]
theorem own_ev6 (h:t.kind=6) {T:Bool} (hs:gA 208 [.agg (eA t),.agg (eA t.plain)] (.bool T)) {a b:Bool} (hn:gA 210 [.str t.name] (.bool a)) (hy:gA 212 [.sl t.mn (t.mems.map nA),.bool false] (.bool b)):gA 180 [.agg (eA t)] (.bool (T&&(a&&b))):=by
 have hp:=PJ t;obtain ⟨pc,rf⟩:∃ pc,eA t.plain=pc:=⟨_,rfl⟩;have cf:pc.all AV.free0=true:=by rw [<- rf]; rfl
 rw [rf] at hp hs;have jb:=zD t.kind;refine wA (c:=RA) rfl rfl ?_;simp [gA,eA,h] at hs hp jb;simp only [gA] at hn hy;cases T with
 | false=>simp [RA,-V,-y3,-y0,J,eA,h,hp,hs,jb,cf,-y5]
 | true =>
  cases a with
  | false=>simp [RA,-V,-y3,-y0,J,eA,h,hp,hs,jb,cf,-y5,hn]
  | true=>simp [RA,-V,-y3,-y0,J,eA,h,hp,hs,jb,cf,-y5,hn,hy]
theorem own_ev0 (h:¬ (1<=t.kind/\t.kind<=9)):gA 180 [.agg (eA t)] (.bool false):=by
 refine wA (c:=RA) rfl rfl ?_;by_cases h1:t.kind<1
 ·simp [RA,-V,-y3,-y0,J,eA,h1]
 ·have h2:9<t.kind:=by omega
  simp [RA,-V,-y3,-y0,J,eA,h1,h2]
theorem own_ev (ht:t.fine):gA 180 [.agg (eA t)] (.bool (bB t)):=by
 obtain ⟨ra,ae,wo⟩:=ht;have hs:=rtsame_ev t t.plain ra;rw [Q7] at hs;have hn:=rX t.name;have eb:=A5 t.syms ae t.sn;have dx:=fun r=>W5 t.mems wo ra.2.2 t.mn r
 unfold bB PH;rcases kinds t.kind with h | h | h | h | h | h | h | h | h | h
 ·have r:=own_ev1 t h hs; simpa [h] using r
 ·have r:=own_ev2 t h hs; rw [Bool.and_comm] at r; simpa [h] using r
 ·have r:=own_ev3 t h hs; rw [Bool.and_comm] at r; simpa [h] using r
 ·have r:=own_ev4 t h hs hn eb; rw [Bool.and_comm] at r; simpa [h] using r
 ·have r:=own_ev5 t h hs hn (dx true); rw [Bool.and_comm] at r; simpa [h] using r
 ·have r:=own_ev6 t h hs hn (dx false); rw [Bool.and_comm] at r; simpa [h] using r
 ·have r:=own_ev7 t h hs; rw [Bool.and_comm] at r; simpa [h] using r
 ·have r:=own_ev8 t h hs; rw [Bool.and_comm] at r; simpa [h] using r
 ·have r:=own_ev9 t h hs; simpa [h] using r
 ·have r:=own_ev0 t h; rw [decide_eq_false h]; exact r
end
end Go.Proofs.YtbnlmgncbgaepaaGreat
