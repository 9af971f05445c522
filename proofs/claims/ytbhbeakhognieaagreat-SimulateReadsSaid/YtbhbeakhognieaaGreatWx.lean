/- A part of the proof. -/
import Derived.Test.YtbhbeakhognieaaGreatWw
set_option linter.all false
set_option maxRecDepth 100000
set_option maxHeartbeats 8000000
open List renaming map_map → y3, take_of_length_le → yB
namespace Go.Proofs.YtbhbeakhognieaaGreat
open Go
section
theorem aN.fine {S:List pA} (h:aN S) (sn:Bool):(⟨sn,S⟩:FI).fine:=⟨by have:=h.len; show S.length<=_; omega,fun t ht=>(h.good t ht).2⟩
section
variable (sn:Bool) {S:List pA} (hS:aN S) (lj:∀ x∈S,x.mems.length<=12) {i:Nat} (hi:i<S.length) {v:Vl} (hp:QB S i v=true) (ho:v.ok) (de:v.i64)
include hS hi
include hp ho de
include lj
end
end
section
def zRow:List wA:=[⟨.bool false,.no⟩,⟨.bool false,.no⟩,⟨.str ⟨#[]⟩,.no⟩,⟨.int .i64 0,.no⟩,⟨.bool false,.no⟩,⟨.int .i64 0,.no⟩,⟨.str ⟨#[]⟩,.no⟩,⟨.int .i64 0,.no⟩,⟨.sl true [],.ex⟩,⟨.sl true [],.ex⟩,⟨.sl true [],.ex⟩]
section
variable (sn:Bool) {S:List pA} {i:Nat} {x:pA} {l:Tab}
end
end
section
def H5 (b:Lst) (r:List wA):Prop:=r.length=11/\r.map (·.v)=lstC b
theorem H5.load {b:Lst} {r:List wA} (h:H5 b r):RB true 11 0 r=some ⟨.agg (lstC b),.no⟩:=by
 obtain ⟨h1,h2⟩:=h;unfold RB;rw [if_pos rfl,if_pos (by omega),List.drop_zero,yB (by omega),h2]
theorem H5.store {b:Lst} {r:List wA} (h:H5 b r) (cs:List AV) (hc:cs.length=11) (a:An):UA true 11 0 r (.agg cs) a=some (cs.map (⟨·,.no⟩)):=by
 obtain ⟨h1,_⟩:=h;unfold UA;simp [hc,h1]
theorem H5.mk (b:Lst):H5 b ((lstC b).map (⟨·,.no⟩)):=⟨rfl,by rw [y3]; simp [Function.comp_def]⟩
theorem H5.zero:H5 .unk zRow:=⟨rfl,rfl⟩
section
variable (sn:Bool) {S:List pA} {i:Nat} {x:pA} {l:Tab}
end
end
section
section
variable (sn:Bool) {S:List pA} {i:Nat} {x:pA} {l:Tab} (hS:aN S) (lj:∀ x∈S,x.mems.length<=12) (g:S[i]?=some x) (hl:GoodTab S l) (hd:∀ u,u<S.length->(l u).d<=S.length)
include hS lj g hl hd
end
end
section
section
variable {S:List pA} {i:Nat} {x:pA} {l:Tab}
end
end
section
section
variable (sn:Bool) {S:List pA} {i:Nat} {x:pA} {l:Tab}
end
end
section
section
variable (sn:Bool) {S:List pA} (hS:aN S) (lj:∀ x∈S,x.mems.length<=12)
include hS
include lj
end
end
section
section
variable (sn:Bool) {S:List pA} (hS:aN S) (lj:∀ x∈S,x.mems.length<=12)
include hS lj
omit lj in
end
end
end Go.Proofs.YtbhbeakhognieaaGreat
