/- A part of the proof. -/
import Derived.Test.YtbhbeakhognieaaGreatDoorVd
set_option linter.all false
set_option maxRecDepth 100000
set_option maxHeartbeats 8000000
namespace Go.Proofs.YtbhbeakhognieaaGreatDoor
open Go
def ZE.plain (t:ZE):ZE :=
 if t.kind=1 then { NL with kind:=t.kind }
 else if t.kind=2 then { NL with kind:=t.kind,low:=t.low,high:=t.high }
 else if t.kind=3 then { NL with kind:=t.kind,max:=t.max }
 else if t.kind=4 then { NL with kind:=t.kind,name:=t.name,sn:=t.sn,syms:=t.syms,opn:=t.opn }
 else if t.kind=5 then { NL with kind:=t.kind,name:=t.name,mn:=t.mn,mems:=t.mems }
 else if t.kind=6 then { NL with kind:=t.kind,name:=t.name,mn:=t.mn,mems:=t.mems,opn:=t.opn }
 else if t.kind=7 then { NL with kind:=t.kind,max:=t.max,elem:=t.elem }
 else if t.kind=8 then { NL with kind:=t.kind,max:=t.max,elem:=t.elem,key:=t.key }
 else { NL with kind:=t.kind,elem:=t.elem }
def ZE.named (t:ZE):Bool:=decide (t.kind=4)||decide (t.kind=5)||decide (t.kind=6)
end Go.Proofs.YtbhbeakhognieaaGreatDoor
