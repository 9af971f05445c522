/- A part of the proof. -/
import Derived.Test.YtbhbeakhognieaaGreatDoorWf
set_option linter.all false
set_option maxRecDepth 100000
set_option maxHeartbeats 8000000
namespace Go.Proofs.YtbhbeakhognieaaGreatDoor
open Go
structure Prt where
 id:Int
 ty:Int
 flag:Int
structure Nde where
 k:Int
 a:Int
 b:Int
 c:Int
 pn:Bool
 parts:List Prt
def u8 (n:Int):Prop:=0<=n/\n<=255
def Prt.ok (x:Prt):Prop:=u8 x.id/\u8 x.ty/\u8 x.flag
def Nde.ok (x:Nde):Prop:=u8 x.k/\u8 x.a/\u8 x.b/\u8 x.c/\x.parts.length<=9223372036854775807/\∀ p∈x.parts,p.ok
def Nde.kind (x:Nde):Int:=1 + x.k % 9
def Nde.low (x:Nde):Int:=x.a % 7 - 3
def Nde.high (x:Nde):Int:=x.low + x.b % 6
def oks (l:List Nde):Prop:=1<=l.length/\l.length<=5/\∀ x∈l,x.ok
section
set_option maxHeartbeats 2000000
def Vl.of (k:Int) (b:Bool) (i:Int) (s:ByteArray) (d:Int):Vl:=.mk k b i s d true [] true [] true []
end
end Go.Proofs.YtbhbeakhognieaaGreatDoor
