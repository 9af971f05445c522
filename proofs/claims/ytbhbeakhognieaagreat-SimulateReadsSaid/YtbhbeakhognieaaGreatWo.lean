/- A part of the proof. -/
import Derived.Test.YtbhbeakhognieaaGreatWn
set_option linter.all false
set_option maxRecDepth 100000
set_option maxHeartbeats 8000000
open Option renaming bind_some → J
open List renaming range_succ → y0, map_map → y3, getElem?_map → yc
open Int renaming toNat_lt → y4
open Bool renaming or_eq_true → yT
namespace Go.Proofs.YtbhbeakhognieaaGreat
open Go
theorem reason_ev (w r:FI) {x y:pA} {i k:Int} (hi:0<=i) (gx:w.types[i.toNat]?=some x) (hk:0<=k) (gy:r.types[k.toNat]?=some y) (hx:TyGd w.types x) (hy:TyGd r.types y) {mns:zB->zB->Bool} (hR:t9 w r mns x.mems y.mems):gA 62 [.agg (GA w),.int .i64 i,.agg (GA r),.int .i64 k] (.int .i64 (rsnP mns w.types x y)):=by
 have g1:(w.types.map eA)[i.toNat]?=some (eA x):=by rw [yc,gx]; rfl
 have g2:(r.types.map eA)[k.toNat]?=some (eA y):=by rw [yc,gy]; rfl
 have pg:=I9 x y hx.syms hx.mems hy.syms hy.mems;have la:=D8 w r x y hx.mems hy.mems hR;simp only [gA,GA,eA] at pg la g1 g2;refine rA (c:=AA) rfl rfl ?_;unfold rsnP;by_cases e:x.kind=y.kind
 case neg=>simp [AA,-J,-y4,-y3,y0,GA,g1,g2,hi,hk,e]
 rw [if_neg (by simpa using e),e];simp only [e] at pg la;by_cases k2:y.kind=2
 ·by_cases c1:x.low<y.low
  ·simp [AA,-J,-y4,-y3,y0,GA,g1,g2,hi,hk,e,k2,c1]
  ·by_cases c2:y.high<x.high
   ·simp [AA,-J,-y4,-y3,y0,GA,g1,g2,hi,hk,e,k2,c1,c2]
   ·simp [AA,-J,-y4,-y3,y0,GA,g1,g2,hi,hk,e,k2,c1,c2]
 by_cases k3:y.kind=3
 ·by_cases c1:y.max<x.max
  ·simp [AA,-J,-y4,-y3,y0,GA,g1,g2,hi,hk,e,k3,c1]
  ·simp [AA,-J,-y4,-y3,y0,GA,g1,g2,hi,hk,e,k3,c1]
 by_cases k7:y.kind=7
 ·by_cases c1:y.max<x.max
  ·simp [AA,-J,-y4,-y3,y0,GA,g1,g2,hi,hk,e,k7,c1]
  ·simp [AA,-J,-y4,-y3,y0,GA,g1,g2,hi,hk,e,k7,c1]
 by_cases k8:y.kind=8
 ·obtain ⟨h0,h50,t,gt,t1,t4,tsm⟩:=hx.key (e.trans k8);have g3:(w.types.map eA)[x.key.toNat]?=some (eA t):=by rw [yc,gt]; rfl
  have jb:=keys_ev t tsm;have lx:=keys_min t ⟨t1,t4⟩ tsm (m:=x.max) (n:=y.max) h50;simp only [gA,eA] at jb g3;have dx:keyN w.types x=IV t:=by unfold keyN; rw [gt]
  rw [dx];by_cases c1:y.max<min x.max (nX t)
  ·have c2:=lx.1 c1;simp only [c2,if_true];generalize nX t=q at *
   simp [AA,-J,-y4,-y3,y0,GA,g1,g2,g3,h0,jb,hi,hk,e,k2,k3,k7,k8];rw [decide_eq_true c1];rfl
  ·have c2:¬ y.max<min x.max (IV t):=fun h=>c1 (lx.2 h)
   simp only [c2,if_false];generalize nX t=q at *
   simp [AA,-J,-y4,-y3,y0,GA,g1,g2,g3,h0,jb,hi,hk,e,k2,k3,k7,k8];rw [decide_eq_false c1];rfl
 by_cases k4:y.kind=4
 ·rw [k4] at pg;cases c1:(y.opn||aR x y) with
  | true =>
   rw [c1] at pg;rw [yT] at c1;simp [AA,-J,-y4,-y3,y0,GA,g1,g2,hi,hk,e,k4,pg,c1]
  | false =>
   rw [c1] at pg;rw [Bool.or_eq_false_iff] at c1;obtain ⟨c2,c3⟩:=c1;rw [c2] at pg;simp [AA,-J,-y4,-y3,y0,GA,g1,g2,hi,hk,e,k4,pg,c2,c3]
 by_cases k6:y.kind=6
 ·rw [k6] at pg;cases c1:(y.opn||aR x y) with
  | true =>
   rw [c1] at pg;rw [yT] at c1;simp [AA,-J,-y4,-y3,y0,GA,g1,g2,hi,hk,e,k6,pg,c1]
  | false =>
   rw [c1] at pg;rw [Bool.or_eq_false_iff] at c1;obtain ⟨c2,c3⟩:=c1;rw [c2] at pg;simp [AA,-J,-y4,-y3,y0,GA,g1,g2,hi,hk,e,k6,pg,c2,c3]
 by_cases k5:y.kind=5
 ·rw [k5] at la;simp [AA,-J,-y4,-y3,y0,GA,g1,g2,hi,hk,e,k5,la]
 ·simp [AA,-J,-y4,-y3,y0,GA,g1,g2,hi,hk,e,k2,k3,k4,k5,k6,k7,k8]

end Go.Proofs.YtbhbeakhognieaaGreat
