/- A part of the proof. -/
import Derived.Test.YtbnlmgncbgaepaaGreatWn
set_option linter.all false
set_option maxRecDepth 100000
set_option maxHeartbeats 8000000
open Option renaming bind_some → V
open List renaming range_succ → J, map_map → y0, getElem?_map → yc
open Int renaming toNat_lt → y3
namespace Go.Proofs.YtbnlmgncbgaepaaGreat
open Go
theorem rreason_ev (w r:Sch) {x y:Typ} {i k:Int} (hi:0<=i) (gx:w.types[i.toNat]?=some x) (hk:0<=k) (gy:r.types[k.toNat]?=some y) (hx:TyGd w.types x) (hy:TyGd r.types y) {mns:Mem->Mem->Bool} (hR:Means2 w r mns x.mems y.mems):evA 78 [.agg (schC w),.int .i64 i,.agg (schC r),.int .i64 k] (.int .i64 (rsnP mns w.types x y)):=by
 have g1:(w.types.map typC)[i.toNat]?=some (typC x):=by rw [yc,gx]; rfl
 have g2:(r.types.map typC)[k.toNat]?=some (typC y):=by rw [yc,gy]; rfl
 have ed:=rall_ev x y hx.syms hx.mems hy.syms hy.mems;have na:=rrecord_ev w r x y hx.mems hy.mems hR;simp only [evA,schC,typC] at ed na g1 g2;refine q00 (c:=q0t) rfl rfl ?_;unfold rsnP;by_cases e:x.kind=y.kind
 case neg=>simp [q0t,-V,-y3,-y0,J,schC,g1,g2,hi,hk,e]
 rw [if_neg (by simpa using e),e];simp only [e] at ed na;by_cases k2:y.kind=2
 ·by_cases c1:x.low<y.low
  ·simp [q0t,-V,-y3,-y0,J,schC,g1,g2,hi,hk,e,k2,c1]
  ·by_cases c2:y.high<x.high
   ·simp [q0t,-V,-y3,-y0,J,schC,g1,g2,hi,hk,e,k2,c1,c2]
   ·simp [q0t,-V,-y3,-y0,J,schC,g1,g2,hi,hk,e,k2,c1,c2]
 by_cases k3:y.kind=3
 ·by_cases c1:y.max<x.max
  ·simp [q0t,-V,-y3,-y0,J,schC,g1,g2,hi,hk,e,k3,c1]
  ·simp [q0t,-V,-y3,-y0,J,schC,g1,g2,hi,hk,e,k3,c1]
 by_cases k7:y.kind=7
 ·by_cases c1:y.max<x.max
  ·simp [q0t,-V,-y3,-y0,J,schC,g1,g2,hi,hk,e,k7,c1]
  ·simp [q0t,-V,-y3,-y0,J,schC,g1,g2,hi,hk,e,k7,c1]
 by_cases k8:y.kind=8
 ·obtain ⟨h0,bK,t,gt,t1,t4,tsm⟩:=hx.key (e.trans k8);have g3:(w.types.map typC)[x.key.toNat]?=some (typC t):=by rw [yc,gt]; rfl
  have sb:=rkeys_ev t tsm;simp only [evA,typC] at sb g3;have ji:keyN w.types x=keysR t:=by unfold keyN; rw [gt]
  rw [ji];generalize keysR t=q at *
  by_cases c1:y.max<min x.max q
  ·simp only [c1,if_true];simp [q0t,-V,-y3,-y0,J,schC,g1,g2,g3,h0,sb,hi,hk,e,k2,k3,k7,k8];rw [decide_eq_true c1];rfl
  ·simp only [c1,if_false];simp [q0t,-V,-y3,-y0,J,schC,g1,g2,g3,h0,sb,hi,hk,e,k2,k3,k7,k8];rw [decide_eq_false c1];rfl
 by_cases k4:y.kind=4
 ·rw [k4] at ed;cases c0:y.opn <;> rw [c0] at ed <;> cases c1:allP x y <;> rw [c1] at ed <;> simp [q0t,-V,-y3,-y0,J,schC,g1,g2,hi,hk,e,k4,ed,c0]
 by_cases k6:y.kind=6
 ·rw [k6] at ed;cases c0:y.opn <;> rw [c0] at ed <;> cases c1:allP x y <;> rw [c1] at ed <;> simp [q0t,-V,-y3,-y0,J,schC,g1,g2,hi,hk,e,k6,ed,c0]
 by_cases k5:y.kind=5
 ·rw [k5] at na;simp [q0t,-V,-y3,-y0,J,schC,g1,g2,hi,hk,e,k5,na]
 ·simp [q0t,-V,-y3,-y0,J,schC,g1,g2,hi,hk,e,k2,k3,k4,k5,k6,k7,k8]
end Go.Proofs.YtbnlmgncbgaepaaGreat
