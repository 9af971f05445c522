/- A part of the proof. -/
import Derived.Test.YtbnlmgncbgaepaaGreatXn
set_option linter.all false
set_option maxRecDepth 100000
set_option maxHeartbeats 8000000
open Option renaming bind_some → V
open List renaming range_succ → J, map_map → y0, getElem?_map → yc
open Int renaming toNat_lt → y3
namespace Go.Proofs.YtbnlmgncbgaepaaGreat
open Go
theorem S7 (w r:SG) {x y:fA} {i k:Int} (hi:0<=i) (gx:w.types[i.toNat]?=some x) (hk:0<=k) (gy:r.types[k.toNat]?=some y) (hx:TyGd w.types x) (hy:TyGd r.types y) {mns:BB->BB->Bool} (hR:aV w r mns x.mems y.mems):gA 78 [.agg (WA w),.int .i64 i,.agg (WA r),.int .i64 k] (.int .i64 (F7 mns w.types x y)):=by
 have g1:(w.types.map eA)[i.toNat]?=some (eA x):=by rw [yc,gx]; rfl
 have g2:(r.types.map eA)[k.toNat]?=some (eA y):=by rw [yc,gy]; rfl
 have wc:=rall_ev x y hx.syms hx.mems hy.syms hy.mems;have ma:=D7 w r x y hx.mems hy.mems hR;simp only [gA,WA,eA] at wc ma g1 g2;refine wA (c:=pB) rfl rfl ?_;unfold F7;by_cases e:x.kind=y.kind
 case neg=>simp [pB,-V,-y3,-y0,J,WA,g1,g2,hi,hk,e]
 rw [if_neg (by simpa using e),e];simp only [e] at wc ma;by_cases k2:y.kind=2
 ·by_cases c1:x.low<y.low
  ·simp [pB,-V,-y3,-y0,J,WA,g1,g2,hi,hk,e,k2,c1]
  ·by_cases c2:y.high<x.high
   ·simp [pB,-V,-y3,-y0,J,WA,g1,g2,hi,hk,e,k2,c1,c2]
   ·simp [pB,-V,-y3,-y0,J,WA,g1,g2,hi,hk,e,k2,c1,c2]
 by_cases k3:y.kind=3
 ·by_cases c1:y.max<x.max
  ·simp [pB,-V,-y3,-y0,J,WA,g1,g2,hi,hk,e,k3,c1]
  ·simp [pB,-V,-y3,-y0,J,WA,g1,g2,hi,hk,e,k3,c1]
 by_cases k7:y.kind=7
 ·by_cases c1:y.max<x.max
  ·simp [pB,-V,-y3,-y0,J,WA,g1,g2,hi,hk,e,k7,c1]
  ·simp [pB,-V,-y3,-y0,J,WA,g1,g2,hi,hk,e,k7,c1]
 by_cases k8:y.kind=8
 ·obtain ⟨h0,h50,t,gt,t1,t4,tsm⟩:=hx.key (e.trans k8);have g3:(w.types.map eA)[x.key.toNat]?=some (eA t):=by rw [yc,gt]; rfl
  have tb:=rkeys_ev t tsm;simp only [gA,eA] at tb g3;have zw:keyN w.types x=SR t:=by unfold keyN; rw [gt]
  rw [zw];generalize SR t=q at *
  by_cases c1:y.max<min x.max q
  ·simp only [c1,if_true];simp [pB,-V,-y3,-y0,J,WA,g1,g2,g3,h0,tb,hi,hk,e,k2,k3,k7,k8];rw [decide_eq_true c1];rfl
  ·simp only [c1,if_false];simp [pB,-V,-y3,-y0,J,WA,g1,g2,g3,h0,tb,hi,hk,e,k2,k3,k7,k8];rw [decide_eq_false c1];rfl
 by_cases k4:y.kind=4
 ·rw [k4] at wc;cases c0:y.opn <;> rw [c0] at wc <;> cases c1:QL x y <;> rw [c1] at wc <;> simp [pB,-V,-y3,-y0,J,WA,g1,g2,hi,hk,e,k4,wc,c0]
 by_cases k6:y.kind=6
 ·rw [k6] at wc;cases c0:y.opn <;> rw [c0] at wc <;> cases c1:QL x y <;> rw [c1] at wc <;> simp [pB,-V,-y3,-y0,J,WA,g1,g2,hi,hk,e,k6,wc,c0]
 by_cases k5:y.kind=5
 ·rw [k5] at ma;simp [pB,-V,-y3,-y0,J,WA,g1,g2,hi,hk,e,k5,ma]
 ·simp [pB,-V,-y3,-y0,J,WA,g1,g2,hi,hk,e,k2,k3,k4,k5,k6,k7,k8]
end Go.Proofs.YtbnlmgncbgaepaaGreat
