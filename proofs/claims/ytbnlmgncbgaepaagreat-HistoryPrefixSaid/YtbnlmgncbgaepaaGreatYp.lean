/- A part of the proof. -/
import Derived.Test.YtbnlmgncbgaepaaGreatYn
set_option linter.all false
set_option maxRecDepth 100000
set_option maxHeartbeats 8000000
open Option renaming bind_some → V
open List renaming range_succ → J, map_map → y0, getElem?_map → yc
open Int renaming toNat_lt → y3
namespace Go.Proofs.YtbnlmgncbgaepaaGreat
open Go
theorem rreason_ev (w r:wI) {x y:dA} {i k:Int} (hi:0<=i) (gx:w.types[i.toNat]?=some x) (hk:0<=k) (gy:r.types[k.toNat]?=some y) (hx:TyGd w.types x) (hy:TyGd r.types y) {mns:uC->uC->Bool} (hR:jW w r mns x.mems y.mems):fA 78 [.agg (UA w),.int .i64 i,.agg (UA r),.int .i64 k] (.int .i64 (rsnP mns w.types x y)):=by
 have g1:(w.types.map rA)[i.toNat]?=some (rA x):=by rw [yc,gx]; rfl
 have g2:(r.types.map rA)[k.toNat]?=some (rA y):=by rw [yc,gy]; rfl
 have ed:=rall_ev x y hx.syms hx.mems hy.syms hy.mems;have ra:=rrecord_ev w r x y hx.mems hy.mems hR;simp only [fA,UA,rA] at ed ra g1 g2;refine wA (c:=rB) rfl rfl ?_;unfold rsnP;by_cases e:x.kind=y.kind
 case neg=>simp [rB,-V,-y3,-y0,J,UA,g1,g2,hi,hk,e]
 rw [if_neg (by simpa using e),e];simp only [e] at ed ra;by_cases k2:y.kind=2
 ·by_cases c1:x.low<y.low
  ·simp [rB,-V,-y3,-y0,J,UA,g1,g2,hi,hk,e,k2,c1]
  ·by_cases c2:y.high<x.high
   ·simp [rB,-V,-y3,-y0,J,UA,g1,g2,hi,hk,e,k2,c1,c2]
   ·simp [rB,-V,-y3,-y0,J,UA,g1,g2,hi,hk,e,k2,c1,c2]
 by_cases k3:y.kind=3
 ·by_cases c1:y.max<x.max
  ·simp [rB,-V,-y3,-y0,J,UA,g1,g2,hi,hk,e,k3,c1]
  ·simp [rB,-V,-y3,-y0,J,UA,g1,g2,hi,hk,e,k3,c1]
 by_cases k7:y.kind=7
 ·by_cases c1:y.max<x.max
  ·simp [rB,-V,-y3,-y0,J,UA,g1,g2,hi,hk,e,k7,c1]
  ·simp [rB,-V,-y3,-y0,J,UA,g1,g2,hi,hk,e,k7,c1]
 by_cases k8:y.kind=8
 ·obtain ⟨h0,h50,t,gt,t1,t4,tsm⟩:=hx.key (e.trans k8);have g3:(w.types.map rA)[x.key.toNat]?=some (rA t):=by rw [yc,gt]; rfl
  have ub:=rkeys_ev t tsm;simp only [fA,rA] at ub g3;have zr:keyN w.types x=nS t:=by unfold keyN; rw [gt]
  rw [zr];generalize nS t=q at *
  by_cases c1:y.max<min x.max q
  ·simp only [c1,if_true];simp [rB,-V,-y3,-y0,J,UA,g1,g2,g3,h0,ub,hi,hk,e,k2,k3,k7,k8];rw [decide_eq_true c1];rfl
  ·simp only [c1,if_false];simp [rB,-V,-y3,-y0,J,UA,g1,g2,g3,h0,ub,hi,hk,e,k2,k3,k7,k8];rw [decide_eq_false c1];rfl
 by_cases k4:y.kind=4
 ·rw [k4] at ed;cases c0:y.opn <;> rw [c0] at ed <;> cases c1:xM x y <;> rw [c1] at ed <;> simp [rB,-V,-y3,-y0,J,UA,g1,g2,hi,hk,e,k4,ed,c0]
 by_cases k6:y.kind=6
 ·rw [k6] at ed;cases c0:y.opn <;> rw [c0] at ed <;> cases c1:xM x y <;> rw [c1] at ed <;> simp [rB,-V,-y3,-y0,J,UA,g1,g2,hi,hk,e,k6,ed,c0]
 by_cases k5:y.kind=5
 ·rw [k5] at ra;simp [rB,-V,-y3,-y0,J,UA,g1,g2,hi,hk,e,k5,ra]
 ·simp [rB,-V,-y3,-y0,J,UA,g1,g2,hi,hk,e,k2,k3,k4,k5,k6,k7,k8]
end Go.Proofs.YtbnlmgncbgaepaaGreat
