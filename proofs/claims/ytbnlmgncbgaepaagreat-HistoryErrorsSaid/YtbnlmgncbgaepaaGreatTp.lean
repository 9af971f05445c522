/- A part of the proof. -/
import Derived.Test.YtbnlmgncbgaepaaGreatTn
set_option linter.all false
set_option maxRecDepth 100000
set_option maxHeartbeats 8000000
open Option renaming bind_some → V
open List renaming range_succ → y0, map_map → y3, getElem?_map → ye
open Int renaming toNat_lt → y4
namespace Go.Proofs.YtbnlmgncbgaepaaGreat
open Go
theorem rreason_ev (w r:DH) {x y:sA} {i k:Int} (hi:0<=i) (gx:w.types[i.toNat]?=some x) (hk:0<=k) (gy:r.types[k.toNat]?=some y) (hx:TyGd w.types x) (hy:TyGd r.types y) {mns:SB->SB->Bool} (hR:FW w r mns x.mems y.mems):fA 78 [.agg (TA w),.int .i64 i,.agg (TA r),.int .i64 k] (.int .i64 (rsnP mns w.types x y)):=by
 have g1:(w.types.map qA)[i.toNat]?=some (qA x):=by rw [ye,gx]; rfl
 have g2:(r.types.map qA)[k.toNat]?=some (qA y):=by rw [ye,gy]; rfl
 have wc:=rall_ev x y hx.syms hx.mems hy.syms hy.mems;have ma:=rrecord_ev w r x y hx.mems hy.mems hR;simp only [fA,TA,qA] at wc ma g1 g2;refine rA (c:=rB) rfl rfl ?_;unfold rsnP;by_cases e:x.kind=y.kind
 case neg=>simp [rB,-V,-y4,-y3,y0,TA,g1,g2,hi,hk,e]
 rw [if_neg (by simpa using e),e];simp only [e] at wc ma;by_cases k2:y.kind=2
 ·by_cases c1:x.low<y.low
  ·simp [rB,-V,-y4,-y3,y0,TA,g1,g2,hi,hk,e,k2,c1]
  ·by_cases c2:y.high<x.high
   ·simp [rB,-V,-y4,-y3,y0,TA,g1,g2,hi,hk,e,k2,c1,c2]
   ·simp [rB,-V,-y4,-y3,y0,TA,g1,g2,hi,hk,e,k2,c1,c2]
 by_cases k3:y.kind=3
 ·by_cases c1:y.max<x.max
  ·simp [rB,-V,-y4,-y3,y0,TA,g1,g2,hi,hk,e,k3,c1]
  ·simp [rB,-V,-y4,-y3,y0,TA,g1,g2,hi,hk,e,k3,c1]
 by_cases k7:y.kind=7
 ·by_cases c1:y.max<x.max
  ·simp [rB,-V,-y4,-y3,y0,TA,g1,g2,hi,hk,e,k7,c1]
  ·simp [rB,-V,-y4,-y3,y0,TA,g1,g2,hi,hk,e,k7,c1]
 by_cases k8:y.kind=8
 ·obtain ⟨h0,h50,t,gt,t1,t4,tsm⟩:=hx.key (e.trans k8);have g3:(w.types.map qA)[x.key.toNat]?=some (qA t):=by rw [ye,gt]; rfl
  have rb:=rkeys_ev t tsm;simp only [fA,qA] at rb g3;have ew:keyN w.types x=NS t:=by unfold keyN; rw [gt]
  rw [ew];generalize NS t=q at *
  by_cases c1:y.max<min x.max q
  ·simp only [c1,if_true];simp [rB,-V,-y4,-y3,y0,TA,g1,g2,g3,h0,rb,hi,hk,e,k2,k3,k7,k8];rw [decide_eq_true c1];rfl
  ·simp only [c1,if_false];simp [rB,-V,-y4,-y3,y0,TA,g1,g2,g3,h0,rb,hi,hk,e,k2,k3,k7,k8];rw [decide_eq_false c1];rfl
 by_cases k4:y.kind=4
 ·rw [k4] at wc;cases c0:y.opn <;> rw [c0] at wc <;> cases c1:UM x y <;> rw [c1] at wc <;> simp [rB,-V,-y4,-y3,y0,TA,g1,g2,hi,hk,e,k4,wc,c0]
 by_cases k6:y.kind=6
 ·rw [k6] at wc;cases c0:y.opn <;> rw [c0] at wc <;> cases c1:UM x y <;> rw [c1] at wc <;> simp [rB,-V,-y4,-y3,y0,TA,g1,g2,hi,hk,e,k6,wc,c0]
 by_cases k5:y.kind=5
 ·rw [k5] at ma;simp [rB,-V,-y4,-y3,y0,TA,g1,g2,hi,hk,e,k5,ma]
 ·simp [rB,-V,-y4,-y3,y0,TA,g1,g2,hi,hk,e,k2,k3,k4,k5,k6,k7,k8]
end Go.Proofs.YtbnlmgncbgaepaaGreat
