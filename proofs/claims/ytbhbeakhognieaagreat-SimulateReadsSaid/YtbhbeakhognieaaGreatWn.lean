/- A part of the proof. -/
import Derived.Test.YtbhbeakhognieaaGreatWk
import Derived.Test.YtbhbeakhognieaaGreatWl
set_option linter.all false
set_option maxRecDepth 100000
set_option maxHeartbeats 8000000
namespace Go.Proofs.YtbhbeakhognieaaGreat
open Go
def keyN (W:List pA) (x:pA):Int:=match W[x.key.toNat]? with
 | some t=>IV t
 | none=>0
def rsnP (mns:zB->zB->Bool) (W:List pA) (x y:pA):Int :=
 if x.kind≠y.kind then 9
 else if x.kind=2 then (if x.low<y.low\/y.high<x.high then 2 else 0)
 else if x.kind=3\/x.kind=7 then (if y.max<x.max then 3 else 0)
 else if x.kind=8 then (if y.max<min x.max (keyN W x) then 3 else 0)
 else if x.kind=4 then (if y.opn=true\/aR x y=true then 0 else 4)
 else if x.kind=6 then (if y.opn=true\/aR x y=true then 0 else 5)
 else if x.kind=5 then PV mns x.mems y.mems else 0
structure TyGd (W:List pA) (x:pA):Prop where
 syms:x.syms.length<=8796093022206
 mems:x.mems.length<=8796093022206
 key:x.kind=8->0<=x.key/\x.max<=50/\∃ t,W[x.key.toNat]?=some t/\1<=t.kind/\t.kind<=4/\t.sm
def X4 (x y:pA) (v:Vl):Bool:=decide (x.kind=y.kind)&&(if y.kind=2 then decide (y.low<=v.i)&&decide (v.i<=y.high) else if y.kind=3 then decide ((v.s.size:Int)<=y.max) else if y.kind=4 then decide (0<=ZF y.syms v.id)||y.opn else true)
def R5 (b:Bool) (v:Vl):Vl:=if b=true then v else .of 0 false 0 ⟨#[]⟩ 0
section
variable (k:Int) (b:Bool) (i:Int) (s:ByteArray) (d:Int)
include k b i s d
theorem of_i:(Vl.of k b i s d).i=i:=rfl
theorem of_s:(Vl.of k b i s d).s=s:=rfl
theorem of_id:(Vl.of k b i s d).id=d:=rfl
end
end Go.Proofs.YtbhbeakhognieaaGreat
