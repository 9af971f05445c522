/- A part of the proof. -/
import Derived.Test.YtbnlmgncbgaepaaGreatWd
set_option linter.all false
set_option maxRecDepth 100000
set_option maxHeartbeats 8000000
open Option renaming bind_some → V
open List renaming range_succ → J, map_map → y0, all_eq_true → y4
open Int renaming toNat_lt → y3
namespace Go.Proofs.YtbnlmgncbgaepaaGreat
open Go
def Typ.plain (t:Typ):Typ :=
 if t.kind=1 then { q1S with kind:=t.kind }
 else if t.kind=2 then { q1S with kind:=t.kind,low:=t.low,high:=t.high }
 else if t.kind=3 then { q1S with kind:=t.kind,max:=t.max }
 else if t.kind=4 then { q1S with kind:=t.kind,name:=t.name,sn:=t.sn,syms:=t.syms,opn:=t.opn }
 else if t.kind=5 then { q1S with kind:=t.kind,name:=t.name,mn:=t.mn,mems:=t.mems }
 else if t.kind=6 then { q1S with kind:=t.kind,name:=t.name,mn:=t.mn,mems:=t.mems,opn:=t.opn }
 else if t.kind=7 then { q1S with kind:=t.kind,max:=t.max,elem:=t.elem }
 else if t.kind=8 then { q1S with kind:=t.kind,max:=t.max,elem:=t.elem,key:=t.key }
 else { q1S with kind:=t.kind,elem:=t.elem }
theorem plain_same (t:Typ):t.same t.plain=t.left.same q1S:=by
 unfold Typ.plain Typ.left
 repeat' split
 all_goals simp [Typ.same,q1S,qa1,q0A, *]
theorem q6n (t:Typ):evA 209 [.agg (typC t)] (.agg (typC t.plain)):=by
 refine q00 (c:=q4D) rfl rfl ?_;unfold Typ.plain;rcases kinds t.kind with h | h | h | h | h | h | h | h | h | h
 case inr.inr.inr.inr.inr.inr.inr.inr.inr =>
  have q:∀ n:Int,1<=n->n<=9->¬ t.kind=n:=fun n h1 h2 e=>h ⟨by omega,by omega⟩
  simp [q4D,-V,-y3,-y0,J,typC,q,q1S]
 all_goals simp [q4D,-V,-y3,-y0,J,typC,h,q1S]
def Typ.named (t:Typ):Bool:=decide (t.kind=4)||decide (t.kind=5)||decide (t.kind=6)
theorem q1W (k:Int):evA 88 [.int .i64 k] (.bool (decide (k=4)||decide (k=5)||decide (k=6))):=by
 refine q00 (c:=q64) rfl rfl ?_;by_cases h1:k=4 <;> by_cases h2:k=5 <;> by_cases h3:k=6 <;> simp [q64,-V,-y3,-y0,J,h1,h2,h3]
theorem keykind_ev (k:Int):evA 143 [.int .i64 k] (.bool (decide (1<=k/\k<=4))):=by
 refine q00 (c:=q4A) rfl rfl ?_;by_cases h1:1<=k <;> by_cases h2:k<=4 <;> simp [q4A,-V,-y3,-y0,J,h1,h2]
section
variable (t:Typ)
include t
theorem own_ev1 (h:t.kind=1) {T:Bool} (hs:evA 208 [.agg (typC t),.agg (typC t.plain)] (.bool T)):evA 180 [.agg (typC t)] (.bool (T)):=by
 have hp:=q6n t;obtain ⟨pc,jf⟩:∃ pc,typC t.plain=pc:=⟨_,rfl⟩;have we:pc.all AV.free0=true:=by rw [<- jf]; rfl
 rw [jf] at hp hs;have jb:=q1W t.kind;refine q00 (c:=q0e) rfl rfl ?_;simp [evA,typC,h] at hs hp jb;cases T with
 | false=>simp [q0e,-V,-y3,-y0,J,typC,h,hp,hs,jb,we,-y4]
 | true =>
  simp [q0e,-V,-y3,-y0,J,typC,h,hp,hs,jb,we,-y4]
theorem own_ev2 (h:t.kind=2) {T:Bool} (hs:evA 208 [.agg (typC t),.agg (typC t.plain)] (.bool T)):evA 180 [.agg (typC t)] (.bool (T&&decide (t.low<=t.high))):=by
 have hp:=q6n t;obtain ⟨pc,jf⟩:∃ pc,typC t.plain=pc:=⟨_,rfl⟩;have we:pc.all AV.free0=true:=by rw [<- jf]; rfl
 rw [jf] at hp hs;have jb:=q1W t.kind;refine q00 (c:=q0e) rfl rfl ?_;simp [evA,typC,h] at hs hp jb;cases T with
 | false=>simp [q0e,-V,-y3,-y0,J,typC,h,hp,hs,jb,we,-y4]
 | true =>
  simp [q0e,-V,-y3,-y0,J,typC,h,hp,hs,jb,we,-y4]
theorem own_ev3 (h:t.kind=3) {T:Bool} (hs:evA 208 [.agg (typC t),.agg (typC t.plain)] (.bool T)):evA 180 [.agg (typC t)] (.bool (T&&(decide (0<=t.max)&&decide (t.max<=200)))):=by
 have hp:=q6n t;obtain ⟨pc,jf⟩:∃ pc,typC t.plain=pc:=⟨_,rfl⟩;have we:pc.all AV.free0=true:=by rw [<- jf]; rfl
 rw [jf] at hp hs;have jb:=q1W t.kind;refine q00 (c:=q0e) rfl rfl ?_;simp [evA,typC,h] at hs hp jb;cases T with
 | false=>simp [q0e,-V,-y3,-y0,J,typC,h,hp,hs,jb,we,-y4]
 | true =>
  by_cases h1:0<=t.max
  ·simp [q0e,-V,-y3,-y0,J,typC,h,hp,hs,jb,we,-y4,h1]
  ·simp [q0e,-V,-y3,-y0,J,typC,h,hp,hs,jb,we,-y4,h1]
theorem own_ev7 (h:t.kind=7) {T:Bool} (hs:evA 208 [.agg (typC t),.agg (typC t.plain)] (.bool T)):evA 180 [.agg (typC t)] (.bool (T&&(decide (0<=t.max)&&decide (t.max<=50)))):=by
 have hp:=q6n t;obtain ⟨pc,jf⟩:∃ pc,typC t.plain=pc:=⟨_,rfl⟩;have we:pc.all AV.free0=true:=by rw [<- jf]; rfl
 rw [jf] at hp hs;have jb:=q1W t.kind;refine q00 (c:=q0e) rfl rfl ?_;simp [evA,typC,h] at hs hp jb;cases T with
 | false=>simp [q0e,-V,-y3,-y0,J,typC,h,hp,hs,jb,we,-y4]
 | true =>
  by_cases h1:0<=t.max
  ·simp [q0e,-V,-y3,-y0,J,typC,h,hp,hs,jb,we,-y4,h1]
  ·simp [q0e,-V,-y3,-y0,J,typC,h,hp,hs,jb,we,-y4,h1]
theorem own_ev8 (h:t.kind=8) {T:Bool} (hs:evA 208 [.agg (typC t),.agg (typC t.plain)] (.bool T)):evA 180 [.agg (typC t)] (.bool (T&&(decide (0<=t.max)&&decide (t.max<=50)))):=by
 have hp:=q6n t;obtain ⟨pc,jf⟩:∃ pc,typC t.plain=pc:=⟨_,rfl⟩;have we:pc.all AV.free0=true:=by rw [<- jf]; rfl
 rw [jf] at hp hs;have jb:=q1W t.kind;refine q00 (c:=q0e) rfl rfl ?_;simp [evA,typC,h] at hs hp jb;cases T with
 | false=>simp [q0e,-V,-y3,-y0,J,typC,h,hp,hs,jb,we,-y4]
 | true =>
  by_cases h1:0<=t.max
  ·simp [q0e,-V,-y3,-y0,J,typC,h,hp,hs,jb,we,-y4,h1]
  ·simp [q0e,-V,-y3,-y0,J,typC,h,hp,hs,jb,we,-y4,h1]
theorem own_ev9 (h:t.kind=9) {T:Bool} (hs:evA 208 [.agg (typC t),.agg (typC t.plain)] (.bool T)):evA 180 [.agg (typC t)] (.bool (T)):=by
 have hp:=q6n t;obtain ⟨pc,jf⟩:∃ pc,typC t.plain=pc:=⟨_,rfl⟩;have we:pc.all AV.free0=true:=by rw [<- jf]; rfl
 rw [jf] at hp hs;have jb:=q1W t.kind;refine q00 (c:=q0e) rfl rfl ?_;simp [evA,typC,h] at hs hp jb;cases T with
 | false=>simp [q0e,-V,-y3,-y0,J,typC,h,hp,hs,jb,we,-y4]
 | true =>
  simp [q0e,-V,-y3,-y0,J,typC,h,hp,hs,jb,we,-y4]
theorem own_ev4 (h:t.kind=4) {T:Bool} (hs:evA 208 [.agg (typC t),.agg (typC t.plain)] (.bool T)) {a b:Bool} (hn:evA 210 [.str t.name] (.bool a)) (hy:evA 211 [.sl t.sn (t.syms.map symC)] (.bool b)):evA 180 [.agg (typC t)] (.bool (T&&(a&&b))):=by
 have hp:=q6n t;obtain ⟨pc,jf⟩:∃ pc,typC t.plain=pc:=⟨_,rfl⟩;have we:pc.all AV.free0=true:=by rw [<- jf]; rfl
 rw [jf] at hp hs;have jb:=q1W t.kind;refine q00 (c:=q0e) rfl rfl ?_;simp [evA,typC,h] at hs hp jb;simp only [evA] at hn hy;cases T with
 | false=>simp [q0e,-V,-y3,-y0,J,typC,h,hp,hs,jb,we,-y4]
 | true =>
  cases a with
  | false=>simp [q0e,-V,-y3,-y0,J,typC,h,hp,hs,jb,we,-y4,hn]
  | true=>simp [q0e,-V,-y3,-y0,J,typC,h,hp,hs,jb,we,-y4,hn,hy]
theorem own_ev5 (h:t.kind=5) {T:Bool} (hs:evA 208 [.agg (typC t),.agg (typC t.plain)] (.bool T)) {a b:Bool} (hn:evA 210 [.str t.name] (.bool a)) (hy:evA 212 [.sl t.mn (t.mems.map memC),.bool true] (.bool b)):evA 180 [.agg (typC t)] (.bool (T&&(a&&b))):=by
 have hp:=q6n t;obtain ⟨pc,jf⟩:∃ pc,typC t.plain=pc:=⟨_,rfl⟩;have we:pc.all AV.free0=true:=by rw [<- jf]; rfl
 rw [jf] at hp hs;have jb:=q1W t.kind;refine q00 (c:=q0e) rfl rfl ?_;simp [evA,typC,h] at hs hp jb;simp only [evA] at hn hy;cases T with
 | false=>simp [q0e,-V,-y3,-y0,J,typC,h,hp,hs,jb,we,-y4]
 | true =>
  cases a with
  | false=>simp [q0e,-V,-y3,-y0,J,typC,h,hp,hs,jb,we,-y4,hn]
  | true=>simp [q0e,-V,-y3,-y0,J,typC,h,hp,hs,jb,we,-y4,hn,hy]
theorem own_ev6 (h:t.kind=6) {T:Bool} (hs:evA 208 [.agg (typC t),.agg (typC t.plain)] (.bool T)) {a b:Bool} (hn:evA 210 [.str t.name] (.bool a)) (hy:evA 212 [.sl t.mn (t.mems.map memC),.bool false] (.bool b)):evA 180 [.agg (typC t)] (.bool (T&&(a&&b))):=by
 have hp:=q6n t;obtain ⟨pc,jf⟩:∃ pc,typC t.plain=pc:=⟨_,rfl⟩;have we:pc.all AV.free0=true:=by rw [<- jf]; rfl
 rw [jf] at hp hs;have jb:=q1W t.kind;refine q00 (c:=q0e) rfl rfl ?_;simp [evA,typC,h] at hs hp jb;simp only [evA] at hn hy;cases T with
 | false=>simp [q0e,-V,-y3,-y0,J,typC,h,hp,hs,jb,we,-y4]
 | true =>
  cases a with
  | false=>simp [q0e,-V,-y3,-y0,J,typC,h,hp,hs,jb,we,-y4,hn]
  | true=>simp [q0e,-V,-y3,-y0,J,typC,h,hp,hs,jb,we,-y4,hn,hy]
theorem own_ev0 (h:¬ (1<=t.kind/\t.kind<=9)):evA 180 [.agg (typC t)] (.bool false):=by
 refine q00 (c:=q0e) rfl rfl ?_;by_cases h1:t.kind<1
 ·simp [q0e,-V,-y3,-y0,J,typC,h1]
 ·have h2:9<t.kind:=by omega
  simp [q0e,-V,-y3,-y0,J,typC,h1,h2]
theorem own_ev (ht:t.fine):evA 180 [.agg (typC t)] (.bool (q0L t)):=by
 obtain ⟨la,le,bm⟩:=ht;have hs:=rtsame_ev t t.plain la;rw [plain_same] at hs;have hn:=rname_ev t.name;have fb:=rsymbols_ev t.syms le t.sn;have aw:=fun r=>rmembers_ev t.mems bm la.2.2 t.mn r
 unfold q0L q6R;rcases kinds t.kind with h | h | h | h | h | h | h | h | h | h
 ·have r:=own_ev1 t h hs; simpa [h] using r
 ·have r:=own_ev2 t h hs; rw [Bool.and_comm] at r; simpa [h] using r
 ·have r:=own_ev3 t h hs; rw [Bool.and_comm] at r; simpa [h] using r
 ·have r:=own_ev4 t h hs hn fb; rw [Bool.and_comm] at r; simpa [h] using r
 ·have r:=own_ev5 t h hs hn (aw true); rw [Bool.and_comm] at r; simpa [h] using r
 ·have r:=own_ev6 t h hs hn (aw false); rw [Bool.and_comm] at r; simpa [h] using r
 ·have r:=own_ev7 t h hs; rw [Bool.and_comm] at r; simpa [h] using r
 ·have r:=own_ev8 t h hs; rw [Bool.and_comm] at r; simpa [h] using r
 ·have r:=own_ev9 t h hs; simpa [h] using r
 ·have r:=own_ev0 t h; rw [decide_eq_false h]; exact r
end
end Go.Proofs.YtbnlmgncbgaepaaGreat
