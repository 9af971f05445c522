/- A part of the proof. -/
import Derived.Calls
import Derived.Orders
import Derived.Below
import Derived.Scope
import Derived.Test.YtbhbeakhognieaaGreatDoorRows
import Derived.WalkKit
import Derived.WalkSpells
import Derived.WalkLawsBesides
import Derived.Handy
import Derived.Maps.AppendAt
import Derived.Lib.FrozenHead
import Derived.Laws.Cells
import Derived.ChangeKeysEq
import Derived.Laws.Tables
set_option linter.all false
set_option maxRecDepth 100000
set_option maxHeartbeats 8000000
open Option renaming bind_some → U, bind_eq_some_iff → y0, map_eq_some_iff → y8, map_some → yd
open List renaming map_map → J, range_succ → y3, all_eq_true → y5, length_append → y9, length_take → yc, replicate → ye, map_cons → yf, length_drop → yg, mem_cons_self → yh, flatten_cons → yi, getElem?_drop → yj, getElem?_eq_some_iff → yk, getElem?_map → yl, getElem?_take → ym, getElem?_eq_getElem → yn, map_congr_left → yo, mem_cons_of_mem → yr, size_toArray → yu, length_map → yv, getElem?_append_right → yy, length_cons → yz, append_assoc → yA, getElem?_append_left → yB, drop_eq_nil_of_le → yD, eq_nil_of_length_eq_zero → yF, drop_eq_getElem_cons → yI
open Nat renaming le_refl → y6, zero_add → yb, le_trans → yp, succ_mul → yt, eq_zero_or_pos → yx
open Bool renaming false_eq_true → yq
open Array renaming length_toList → yw, toArray_toList → yE, getD_eq_getD_getElem? → yG
namespace Go.Proofs.YtbhbeakhognieaaGreatDoor
open Go
inductive AV where
 | int (k:IntKind) (n:Int)
 | bool (b:Bool)
 | str (s:ByteArray)
 | nilP
 | ptr (t n off:Nat)
 | ip (cs:List AV)
 | bp (cs:List AV)
 | sl (nil:Bool) (l:List (List AV))
 | bl (l:List (List AV))
 | ref (t n sz off len cap:Nat)
 | mp (t n:Nat)
 | fn (f:Nat) (caps:List AV)
 | agg (cs:List AV)
 | tup (vs:List AV)
 | undef
 deriving Inhabited
inductive An where
 | no
 | ex
 | own (k:Nat) (e:TypeId)
structure qA where
 v:AV
 a:An
inductive GA where
 | t (n:Nat)
 | c (v:AV)
 deriving Inhabited
inductive Cl where
 | any
 | imm
 | root (t:Nat)
 /-- in no box of these slots -/
 | out (L:List Nat)
inductive GX where
 | none
 | some (k:IntKind)
 | agg (l:List (Option IntKind))
instance:Inhabited GX:=⟨.none⟩
inductive K where
 | mv (x:GA)
 | pick (c a b:GA)
 | alloc (zero:List AV)
 | box (size:Nat) (x:GA)
 | build (zero:List AV) (parts:List (Nat × Nat × GA))
 | bsl (zero:List AV) (n:Nat) (parts:List (Nat × GA))
 | load (cl:Cl) (agg:Bool) (size:Nat) (x:GA)
 | store (cl:Cl) (agg:Bool) (size:Nat) (x y:GA)
 | clr (cl:Cl) (zero:List AV) (x:GA)
 | bin (op:BinOp) (bl:Bool) (x y:GA)
 | mm (mx:Bool) (x y:GA)
 | eqa (neg:Bool) (ks:List Nat) (x y:GA)
 | eqn (neg ptr:Bool) (x y:GA)
 | un (op:UnOp) (x:GA)
 | conv (k:Option IntKind) (x:GA)
 | rstr (x:GA)
 | bstr (cl:Cl) (x:GA)
 | mks (size bytes:Nat) (zero:List AV) (len cap:GA)
 | slc (str:Bool) (size:Nat) (x:GA) (lo hi mx:Option GA)
 | aslc (cl:Cl) (len size:Nat) (x:GA) (lo hi:Option GA)
 | faddr (off:Nat) (x:GA)
 | field (agg:Bool) (off size:Nat) (x:GA)
 | iaddr (size:Nat) (x i:GA)
 | aaddr (len size:Nat) (x i:GA)
 | index (x i:GA)
 | ext (x:GA) (i:Nat)
 | call (cl:Cl) (f:Nat) (xs:List GA)
 | callf (cl:Cl) (f:Nat) (sz:Nat) (xs:List GA)
 /-- a call whose result is a slice of the caller's own; one that takes a row (in none of the boxes L) and gives one; one that gives numbers and letters only,by what the memory of its arguments uk -/
 | callo (cl:Cl) (f:Nat) (sz:Nat) (xs:List GA)
 | calln (cl:Cl) (f:Nat) (sz:Nat) (L:List Nat) (x:GA) (xs:List GA)
 | callq (cl:Cl) (f:Nat) (xs:List GA)
 | mkf (f:Nat) (xs:List GA)
 | callv (cl:Cl) (x:GA) (xs:List GA)
 | callr (cl:Cl) (f:Nat) (xs:List GA)
 | callh (nt:Nat) (x:GA) (xs:List GA)
 | len (str:Bool) (x:GA)
 | app (cl:Cl) (e:TypeId) (size bytes:Nat) (x y:GA)
 | appf (cl:Cl) (e:TypeId) (size bytes:Nat) (x y:GA)
 | appm (cl:Cl) (e:TypeId) (size bytes:Nat) (x y:GA)
 | appn (cl:Cl) (e:TypeId) (size bytes:Nat) (x y:GA)
 | bslr (size:Nat) (zero:List AV) (n:Nat) (parts:List (Nat × GA))
 | mkm
 | mkb (T e:TypeId)
 | mget (ok:Bool) (ty:GX) (zero:AV) (x k:GA)
 | mset (ty:GX) (x k v:GA)
 | mlen (x:GA)
 | rng (x:GA)
 | slz (x:GA)
 | ent (x:GA)
 | nxt (x:GA)
 | nilchk (x:GA)
 | bad
 deriving Inhabited
instance:Inhabited Cl:=⟨.any⟩
structure sA where
 dst:Option Nat
 op:K
 guard:Option (Nat × Bool)
inductive C where
 | skip
 | seq (a b:C)
 | reg (ops:List sA)
 | cond (c:GA) (t e:C)
 | block (id:Nat) (b:C)
 | loop (b:C)
 | exit (id:Nat)
 | ret
inductive Ex where
 | nrm
 | exit (id:Nat)
 | ret
structure tA where
 env:Nat->qA
 mem:Nat->Nat->Option (List qA)
 next:Nat
 obj:Nat->Nat->Option AV
 /-- the slots of the calls that wait -/
 gh:Nat->qA
def An.strip (k:Nat):An->An
 | .own j e=>if j=k then .no else .own j e
 | a=>a
def qA.strip (k:Nat) (x:qA):qA:=⟨x.v,x.a.strip k⟩
def tA.strip (s:tA) (k:Nat):tA:=⟨fun t=>(s.env t).strip k,fun t n=>(s.mem t n).map (·.map (qA.strip k)),s.next,s.obj,fun t=>(s.gh t).strip k⟩
def tA.stripA (s:tA):An->tA
 | .own k _=>s.strip k
 | _=>s
def tA.put (s:tA) (d:Option Nat) (x:qA):tA:=match d with
 | some d=>{ s with env:=fun t=>if t=d then x else s.env t }
 | none=>s
def tA.setRow (s:tA) (t n:Nat) (r:List qA):tA:={ s with mem:=fun t' n'=>if t'=t/\n'=n then some r else s.mem t' n' }
def tA.setObj (s:tA) (t n:Nat) (S:AV):tA:={ s with obj:=fun t' n'=>if t'=t/\n'=n then some S else s.obj t' n' }
def lA (l:List (List AV)):List qA:=l.flatten.map (⟨·,.no⟩)
def AV.kill0 (t n:Nat):AV->AV
 | .ptr t' n' o=>if t'=t/\n'=n then .undef else .ptr t' n' o
 | .ref t' n' z o l c=>if t'=t/\n'=n then .undef else .ref t' n' z o l c
 | .mp t' n'=>if t'=t/\n'=n then .undef else .mp t' n'
 | v=>v
def AV.kill1 (t n:Nat):AV->AV
 | .agg cs=>.agg (cs.map (AV.kill0 t n))
 | v=>v.kill0 t n
def AV.kill (t n:Nat):AV->AV
 | .agg cs=>.agg (cs.map (AV.kill0 t n))
 | .tup vs=>.tup (vs.map (AV.kill1 t n))
 | .fn f vs=>.fn f (vs.map (AV.kill0 t n))
 | v=>v.kill0 t n
def qA.kill (t n:Nat) (x:qA):qA:=⟨x.v.kill t n,x.a⟩
def tA.kill (s:tA) (t n:Nat):tA:=⟨fun j=>(s.env j).kill t n,fun t' n'=>if t'=t/\n'=n then none else (s.mem t' n').map (·.map (qA.kill t n)),s.next,s.obj,fun j=>(s.gh j).kill t n⟩
def tA.killO (s:tA):Option (Nat × Nat)->tA
 | none=>s
 | some p=>s.kill p.1 p.2
def GA.get (s:tA):GA->AV
 | .t n=>(s.env n).v
 | .c v=>v
def GA.an (s:tA):GA->An
 | .t n=>(s.env n).a
 | .c (.sl true _)=>.ex
 | .c _=>.no
def AV.cells:AV->List AV
 | .agg cs=>cs
 | v=>[v]
def AV.leaf:AV->Bool
 | .agg _ | .tup _ | .bp _ | .bl _ | .fn .. | .undef=>false
 | _=>true
def AV.whole:AV->Bool
 | .agg _=>true
 | v=>v.leaf
def AV.free0:AV->Bool
 | .ptr .. | .bp _ | .bl _ | .ref .. | .mp .. | .fn .. | .undef | .agg _ | .tup _=>false
 | _=>true
def AV.free:AV->Bool
 | .agg cs=>cs.all AV.free0
 | v=>v.free0
def bA (row:List qA) (sz off len:Nat):Option (List (List AV)) :=
 if off + len * sz<=row.length/\row.all (fun x=>x.v.free0) then some ((List.range len).map fun i=>((row.drop (off + i * sz)).take sz).map (·.v)) else none
def Cl.okMem:Cl->Bool
 | .any=>true
 | _=>false
def AV.elems (s:tA) (cl:Cl):AV->Option (List (List AV))
 | .sl _ l=>some l
 | .bl l=>some l
 | .ref t n sz off len _=>if cl.okMem then (s.mem t n).bind fun r=>bA r sz off len else none
 | _=>none
def SF (row:List qA) (sz off len:Nat):Option (List (List AV)) :=
 if off + len * sz<=row.length then some ((List.range len).map fun i=>((row.drop (off + i * sz)).take sz).map (·.v)) else none
def AV.raws (s:tA) (cl:Cl):AV->Option (List (List AV))
 | .sl _ l=>some l
 | .bl l=>some l
 | .ref t n sz off len _=>if cl.okMem then (s.mem t n).bind fun r=>SF r sz off len else none
 | _=>none
def AV.noName (t n:Nat):AV->Bool
 | .ptr t' n' _ | .ref t' n' _ _ _ _ | .mp t' n'=>!(decide (t'=t)&&decide (n'=n))
 | .agg _ | .tup _ | .fn ..=>false
 | _=>true
def nL:AV->Option Nat
 | .int _ n=>if 0<=n then some n.toNat else none
 | _=>none
def CD (s:tA) (d:Nat):Option GA->Option Nat
 | none=>some d
 | some o=>nL (o.get s)
def aL (cells:List AV):List (Nat × Nat × List AV)->Option (List AV)
 | []=>some cells
 | (off,size,v) :: r=>if v.length=size/\off + size<=cells.length then aL (cells.take off++v++cells.drop (off + size)) r else none
def jN (k:IntKind) (r:BitVec k.bits):AV:=.int k (k.wrap r.toNat)
def shN (k:IntKind) (b:Int):Nat:=min b.toNat k.bits
def fY (op:BinOp) (bl:Bool):AV->AV->Option AV
 | .int k a,.int k' b=>match op with
  | .shl=>if 0<=b then some (.int k (k.wrap (a * 2 ^ shN k b))) else none
  | .shr=>if 0<=b then some (.int k (a.fdiv (2 ^ shN k b))) else none
  | _=>if k=k' then (match op with
  | .and=>some (jN k (BitVec.ofInt k.bits a &&& BitVec.ofInt k.bits b))
  | .or=>some (jN k (BitVec.ofInt k.bits a ||| BitVec.ofInt k.bits b))
  | .xor=>some (jN k (BitVec.ofInt k.bits a ^^^ BitVec.ofInt k.bits b))
  | .andNot=>some (jN k (BitVec.ofInt k.bits a &&& ~~~ BitVec.ofInt k.bits b))
  | .add=>some (.int k (k.wrap (a + b)))
  | .sub=>some (.int k (k.wrap (a - b)))
  | .mul=>some (.int k (k.wrap (a * b)))
  | .quo=>if b=0 then none else some (.int k (k.wrap (a.tdiv b)))
  | .rem=>if b=0 then none else some (.int k (a.tmod b))
  | .eql=>some (.bool (decide (a=b)))
  | .neq=>some (.bool (!decide (a=b)))
  | .lss=>some (.bool (decide (a<b)))
  | .leq=>some (.bool (decide (a<=b)))
  | .gtr=>some (.bool (decide (b<a)))
  | .geq=>some (.bool (decide (b<=a)))
  | _=>none) else none
 | .str a,.str b=>match op with
  | .add=>if a.size + b.size<=9223372036854775807 then some (.str (a++b)) else none
  | .eql=>some (.bool (decide (a=b)))
  | .neq=>some (.bool (!decide (a=b)))
  | .lss=>some (.bool (Op.bytesLess a.toList b.toList))
  | .gtr=>some (.bool (!(Op.bytesLess a.toList b.toList||decide (a=b))))
  | .leq=>some (.bool (Op.bytesLess a.toList b.toList||decide (a=b)))
  | .geq=>some (.bool (!Op.bytesLess a.toList b.toList))
  | _=>none
 | .bool a,.bool b=>if bl then (match op with
  | .eql=>some (.bool (a == b))
  | .neq=>some (.bool (!(a == b)))
  | _=>none) else none
 | _,_=>none
def mmC (mx:Bool):AV->AV->Option AV
 | .int k a,.int k' b=>if k=k' then some (.int k (if mx then max a b else min a b)) else none
 | _,_=>none
def zH:List Nat->List AV->List AV->Option Bool
 | [],[],[]=>some true
 | 0 :: ks,.int k a :: r,.int k' b :: r'=>if k=k' then (if a=b then zH ks r r' else some false) else none
 | 1 :: ks,.str a :: r,.str b :: r'=>if a=b then zH ks r r' else some false
 | 2 :: ks,.bool a :: r,.bool b :: r'=>if a=b then zH ks r r' else some false
 | _,_,_=>none
def mN:Bool->AV->Option Bool
 | false,.sl true _=>some true
 | false,.sl false l=>if l.isEmpty then none else some false
 | false,.bl _=>some false
 | false,.ref ..=>some false
 | true,.nilP=>some true
 | true,.ptr ..=>some false
 | true,.ip _=>some false
 | true,.bp _=>some false
 | _,_=>none
inductive wB where
 | none
 | new (r:List qA)
 | set (t n:Nat) (r:List qA)
 | app (a:An) (k:Nat)
 | obj (t n:Nat) (S:AV)
 | mk (S:AV)
 | rn (k:Option (Nat × Nat)) (r:List qA)
 | ob2 (t n:Nat) (S:AV) (r:List qA)
def Cl.okPtr:Cl->Nat->Bool
 | .any,_=>true
 | .imm,_=>false
 | .root r,t=>r == t
 | .out L,t=>!L.contains t
def bC (agg:Bool) (size off:Nat) (row:List qA):Option qA :=
 if agg then (if off + size<=row.length then some ⟨.agg (((row.drop off).take size).map (·.v)),.no⟩ else none)
 else row[off]?
def pC (agg:Bool) (size:Nat) (cs:List AV):Option AV :=
 if agg then (if size<=cs.length then some (.agg (cs.take size)) else none) else cs[0]?
def zL (s:tA) (cl:Cl):AV->Option AV
 | .ref t n sz off len _=>if cl.okMem then ((s.mem t n).bind fun r=>bA r sz off len).map .bl else none
 | .bl l=>some (.bl l)
 | .bp l=>some (.bp l)
 | .ptr t n off=>if off=0/\cl.okMem/\(s.obj t n).isSome then some (.ptr 0 0 0) else none
 | v=>if v.free then some v else none
def rJ (s:tA) (cl:Cl):AV->Option AV
 | .ptr t n off=>if cl.okMem then match s.mem t n with
  | some r=>if (r.drop off).all (fun x=>x.v.free0) then some (.bp ((r.drop off).map (·.v))) else none
  | none=>none else none
 | .bp l=>some (.bp l)
 | .nilP=>some .nilP
 | _=>none
def NC (s:tA) (cl:Cl):List AV->Option (List AV)
 | []=>some []
 | x :: r=>match rJ s cl x,NC s cl r with
  | some v,some vs=>some (v :: vs)
  | _,_=>none
def eJ (s:tA) (cl:Cl):AV->Option AV
 | .fn f cs=>(NC s cl cs).map (.fn f)
 | v=>zL s cl v
def Q6:AV->Option (Nat × Nat)
 | .ptr t n _=>some (t,n)
 | .ref t n _ _ _ _=>some (t,n)
 | _=>none
def WN (s:tA) (cl:Cl) (t n:Nat):AV->Option AV
 | .ptr t' n' off=>if t'=t/\n'=n then some (.ptr 0 0 off) else none
 | .ref t' n' sz off len cap=>if t'=t/\n'=n then some (.ref 0 0 sz off len cap) else zL s cl (.ref t' n' sz off len cap)
 | .fn f cs=>if cs.isEmpty then some (.fn f []) else none
 | v=>zL s cl v
def BD (s:tA) (cl:Cl) (t n:Nat):List GA->Option (List AV)
 | []=>some []
 | x :: r=>match WN s cl t n (x.get s),BD s cl t n r with
  | some v,some vs=>some (v :: vs)
  | _,_=>none
def AF (s:tA):List GA->Option (Nat × Nat)
 | []=>none
 | x :: _=>Q6 (x.get s)
def AV.capOk:AV->Bool
 | .ptr .. | .bp _ | .nilP=>true
 | _=>false
def bytesOf:List (List AV)->Option (List UInt8)
 | []=>some []
 | c :: r=>match c,bytesOf r with
  | [.int .u8 n],some l=>some (UInt8.ofNat n.toNat :: l)
  | _,_=>none
def lC (s:tA) (xs:List GA):List (Nat × Nat):=xs.filterMap fun x=>match x.get s with
 | .ptr t n _=>some (t,n)
 | _=>none
def cB (s:tA) (cl:Cl):List GA->Option (List AV)
 | []=>some []
 | x :: r=>match eJ s cl (x.get s),cB s cl r with
  | some v,some vs=>some (v :: vs)
  | _,_=>none
def AV.isUn:AV->Bool
 | .undef=>true
 | _=>false
def AV.back:AV->Bool
 | .tup vs=>vs.all fun v=>v.free||v.isUn
 | v=>v.free
def AV.isObj:AV->Bool
 | .ptr 0 0 0=>true
 | _=>false
def AV.backN:AV->Bool
 | .tup vs=>vs.all fun v=>v.free||v.isObj
 | v=>v.isObj
def AV.named (d n:Nat):AV->AV
 | .tup vs=>.tup (vs.map fun v=>if v.isObj then .ptr d n 0 else v)
 | .mp _ _=>.mp d n
 | v=>if v.isObj then .ptr d n 0 else v
def UA (size:Nat) (l:List (List AV)):Bool:=l.all (·.length == size)
def TA (bytes n:Nat):Bool:=decide (n * bytes<=140737488355328)&&decide (n<=140737488355328)
theorem gP {b n:Nat}:TA b n=true ↔ n * b<=140737488355328/\n<=140737488355328:=by simp [TA]
theorem GW (z:Nat):UA z []=true:=rfl
theorem lB (z:Nat) (c:List AV) (l:List (List AV)):UA z (c :: l)=(decide (c.length=z)&&UA z l):=rfl
theorem nD (z:Nat) (l m:List (List AV)):UA z (l++m)=(UA z l&&UA z m):=by simp [UA]
theorem uM {α:Type} (z:Nat) (f:α->List AV) (l:List α) (h:∀ x,(f x).length=z):UA z (l.map f)=true:=by simp [UA,h]
theorem XD {z:Nat} {l:List (List AV)} (h:UA z l=true) (n:Nat):UA z (l.take n)=true:=by
 simp only [UA,y5] at h ⊢;exact fun x hx=>h x (List.mem_of_mem_take hx)
theorem xF {z:Nat} {l:List (List AV)} (h:UA z l=true) (n:Nat):UA z (l.drop n)=true:=by
 simp only [UA,y5] at h ⊢;exact fun x hx=>h x (List.mem_of_mem_drop hx)
def AV.scal:AV->Bool
 | .int .. | .bool _ | .str _=>true
 | _=>false
def AV.flat:AV->Bool
 | .agg cs=>cs.all AV.scal
 | v=>v.scal
def sG (L:List (List AV)):AV:=.tup [.undef,.sl false L]
def mD:AV->Option (List (List AV))
 | .tup [.undef,.sl false L]=>some L
 | _=>none
def UV (T e:TypeId) (s:ByteArray):AV:=.tup [.undef,.undef,.int .i64 (T:Nat),.int .i64 (e:Nat),.str s]
def q7:AV->Option (TypeId × TypeId × ByteArray)
 | .tup [.undef,.undef,.int _ T,.int _ e,.str s]=>some (T.toNat,e.toNat,s)
 | _=>none
def ZQ (tm nm N:Nat) (seen:List Nat):AV:=.tup [.undef,.undef,.undef,.mp tm nm,.int .i64 N,.sl false (seen.map fun i:Nat=>[.int .i64 i])]
def XQ:List (List AV)->List Nat
 | [.int _ i] :: r=>i.toNat :: XQ r
 | _=>[]
def AO:AV->Option (Nat × Nat × Nat × List Nat)
 | .tup [.undef,.undef,.undef,.mp tm nm,.int _ N,.sl false l]=>some (tm,nm,N.toNat,XQ l)
 | _=>none
theorem SO:∀ l:List Nat,XQ (l.map fun i:Nat=>[AV.int .i64 i])=l
 | []=>rfl
 | i :: r=>by simp [XQ,SO r]
theorem sO (tm nm N:Nat) (seen:List Nat):AO (ZQ tm nm N seen)=some (tm,nm,N,seen):=by simp [AO,ZQ,SO]
def aS (S:AV):Bool:=(AO S).isNone
def UZ:Option AV->Bool
 | none=>true
 | some S=>aS S
noncomputable def iR (f:Nat->Option (AV × Option AV)) (z:Option (AV × Option AV)):List Nat->Option (AV × Option AV)
 | []=>z
 | [i]=>f i
 | i :: j :: r=>open Classical in if ∀ x∈j :: r,f x=f i then f i else none
def qJ:List (Option IntKind)->List AV->Bool
 | [],[]=>true
 | .some k :: r,.int k' _ :: cs=>decide (k=k')&&qJ r cs
 | .none :: r,.str _ :: cs=>qJ r cs
 | _,_=>false
def jK:GX->AV->Bool
 | .some k,.int k' _=>decide (k=k')
 | .none,.str _=>true
 | .agg l,.agg cs=>qJ l cs
 | _,_=>false
def xK (ty:GX) (L:List (List AV)):Bool:=L.all fun e=>match e with
 | [k,v]=>jK ty k&&v.flat
 | _=>false
def FO:List AV->List AV->Bool
 | [],[]=>true
 | .int k a :: r,.int k' b :: r'=>(decide (k=k')&&decide (a=b))&&FO r r'
 | .str a :: r,.str b :: r'=>decide (a=b)&&FO r r'
 | _,_=>false
def aQ:AV->AV->Bool
 | .int k a,.int k' b=>decide (k=k')&&decide (a=b)
 | .str a,.str b=>decide (a=b)
 | .agg a,.agg b=>FO a b
 | _,_=>false
def kG:List (List AV)->AV->Option AV
 | [],_=>none
 | e :: r,k=>match e with
  | [k',v]=>if aQ k' k then some v else kG r k
  | _=>kG r k
def nH:List (List AV)->AV->AV->List (List AV)
 | [],k,v=>[[k,v]]
 | e :: r,k,v=>match e with
  | [k',_]=>if aQ k' k then [k,v] :: r else e :: nH r k v
  | _=>e :: nH r k v
abbrev RV:=AV × Option AV
abbrev OA:=Nat->List AV->Option AV->Option RV
abbrev B6:=C->tA->(Ex->tA->Option RV)->Option RV
abbrev E7:=Nat->List qA->tA->(qA->tA->Option RV)->Option RV
structure LH where
 l:B6
 h:E7
instance:CoeFun LH (fun _=>B6):=⟨LH.l⟩
def LE (agg:Bool) (size off:Nat) (row:List qA) (x:AV) (a:An):Option (List qA) :=
 if agg then match x with
  | .agg cs=>if cs.length=size/\off + size<=row.length then some (row.take off++cs.map (⟨·,.no⟩)++row.drop (off + size)) else none
  | _=>none
 else if x.leaf/\off<row.length then some (row.set off ⟨x,a⟩) else none
def AW (zero:List AV) (off ln:Nat) (r:List qA):Option (List qA) :=
 if off + ln * zero.length<=r.length then some (r.take off++lA (List.replicate ln zero)++r.drop (off + ln * zero.length)) else none
def SS:Bool->An->An
 | true,_=>.ex
 | false,a=>a
def w8 (b:Bool) (a:An):Bool:=match SS b a with
 | .ex=>true
 | _=>false
def SC:AV->An
 | .sl true _=>.ex
 | _=>.no
def AV.frz1 (s:tA):AV->AV
 | .ref t n sz off len c=>match (s.mem t n).bind fun r=>bA r sz off len with
  | some l=>.sl false l
  | none=>.ref t n sz off len c
 | v=>v
def gO (s:tA) (row:List qA) (sz off len:Nat):Option (List (List AV)):=(SF row sz off len).bind fun l =>
 if (l.map fun c=>c.map (AV.frz1 s)).flatten.all AV.free0=true then some (l.map fun c=>c.map (AV.frz1 s)) else none
def AV.frz0 (s:tA):AV->AV
 | .ref t n sz off len c=>match (s.mem t n).bind fun r=>bA r sz off len with
  | some l=>.sl false l
  | none=>match (s.mem t n).bind fun r=>gO s r sz off len with
   | some l=>.sl false l
   | none=>.ref t n sz off len c
 | v=>v
def AV.frz (s:tA):AV->AV
 | .agg cs=>.agg (cs.map (AV.frz0 s))
 | v=>v.frz0 s
def AV.plain:AV->Bool
 | .tup vs=>vs.all AV.scal
 | v=>v.scal
def K.run (call:OA) (s:tA):K->Option (qA × wB)
 | .mv x=>some (⟨x.get s,x.an s⟩,.none)
 | .pick c a b=>match c.get s with
  | .bool t=>some (if t then ⟨a.get s,a.an s⟩ else ⟨b.get s,b.an s⟩,.none)
  | _=>none
 | .alloc zero=>some (⟨.ptr 0 0 0,.no⟩,.new (zero.map fun v=>⟨v,SC v⟩))
 | .box size x=>match x.get s with
  | .agg cs=>if cs.length=size then some (⟨.ptr 0 0 0,.no⟩,.new (cs.map (⟨·,.no⟩))) else none
  | v=>if v.leaf then some (⟨.ptr 0 0 0,.no⟩,.new [⟨v,x.an s⟩]) else none
 | .build zero parts=>if parts.all (fun p=>(p.2.2.get s).whole) then
   (aL zero (parts.map fun p=>(p.1,p.2.1,(p.2.2.get s).cells))).map fun cs=>(⟨.agg cs,.no⟩,.none) else none
 | .bsl zero n parts=>if parts.map (·.1)=List.range n/\parts.all (fun p=>(p.2.get s).free&&decide ((p.2.get s).cells.length=zero.length)) then
   some (⟨.sl false (parts.map fun p=>(p.2.get s).cells),.ex⟩,.none) else none
 | .load cl agg size x=>match x.get s with
  | .ptr t n off=>if cl.okPtr t then ((s.mem t n).bind (bC agg size off)).map fun x=>(x,.none) else none
  | .ip cs=>match cl with
   | .root _=>none
   | _=>(pC agg size cs).map fun v=>(⟨v,.no⟩,.none)
  | .bp cs=>match cl with
   | .root _=>none
   | _=>(pC agg size cs).map fun v=>(⟨v,.no⟩,.none)
  | _=>none
 | .store cl agg size x y=>match x.get s with
  | .ptr t n off=>if cl.okPtr t then ((s.mem t n).bind fun r=>LE agg size off r (y.get s) (y.an s)).map fun r=>(⟨.undef,.no⟩,.set t n r) else none
  | _=>none
 | .clr cl zero x=>match x.get s with
  | .sl _ []=>some (⟨.undef,.no⟩,.none)
  | .ref t n sz off ln _=>if cl.okPtr t=true/\zero.length=sz/\0<ln then ((s.mem t n).bind fun r=>AW zero off ln r).map fun r=>(⟨.undef,.no⟩,.set t n r) else none
  | _=>none
 | .bin op t x y=>(fY op t (x.get s) (y.get s)).map fun v=>(⟨v,.no⟩,.none)
 | .mm mx x y=>(mmC mx (x.get s) (y.get s)).map fun v=>(⟨v,.no⟩,.none)
 | .eqa neg ks x y=>match x.get s,y.get s with
  | .agg a,.agg b=>(zH ks a b).map fun t=>(⟨.bool (t != neg),.no⟩,.none)
  | _,_=>none
 | .eqn neg ptr x y=>match ptr,y.get s with
  | false,.sl true _=>(mN false (x.get s)).map fun t=>(⟨.bool (t != neg),.no⟩,.none)
  | true,.nilP=>(mN true (x.get s)).map fun t=>(⟨.bool (t != neg),.no⟩,.none)
  | _,_=>none
 | .un op x=>match op,x.get s with
  | .not,.bool b=>some (⟨.bool (!b),.no⟩,.none)
  | .neg,.int k n=>some (⟨.int k (k.wrap (0 - n)),.no⟩,.none)
  | _,_=>none
 | .conv k x=>match k,x.get s with
  | some k,.int _ n=>some (⟨.int k (k.wrap n),.no⟩,.none)
  | none,.str b=>some (⟨.str b,.no⟩,.none)
  | _,_=>none
 | .rstr x=>match x.get s with
  | .int _ n=>some (⟨.str (Utf8.encode n),.no⟩,.none)
  | _=>none
 | .bstr cl x=>match (x.get s).elems s cl with
  | some l=>(bytesOf l).map fun bs=>(⟨.str ⟨bs.toArray⟩,.no⟩,.none)
  | none=>none
 | .aslc cl ln size x lo hi=>match x.get s with
  | .ptr t n o=>match CD s 0 lo,CD s ln hi,s.mem t n with
   | some l,some h,some r=>if l<=h/\h<=ln/\0<size/\o + ln * size<=r.length/\cl.okMem=true then
     (if h=l then some (⟨.sl false [],.no⟩,.none) else some (⟨.ref t n size (o + l * size) (h - l) (ln - l),.no⟩,.none)) else none
   | _,_,_=>none
  | _=>none
 | .mkf f xs=>if xs.all (fun x=>(x.get s).capOk) then some (⟨.fn f (xs.map (·.get s)),.no⟩,.none) else none
 | .callv cl x xs=>match x.get s with
  | .fn f cs=>match cB s cl xs,NC s cl cs,lC s xs with
   | some vs,some ws,[]=>(call f (vs++ws) none).bind fun r=>match r.2 with
    | none=>if r.1.back then some (⟨r.1,.no⟩,.none) else none
    | some _=>none
   | _,_,_=>none
  | _=>none
 | .callr cl f xs=>match AF s xs with
  | some (t,n)=>if cl.okPtr t then (match s.mem t n,BD s cl t n xs with
   | some r,some vs=>if r.all (fun x=>x.v.free0) then (call f (.undef :: .undef :: vs) (some (.agg (r.map (·.v))))).bind fun q=>match q.2 with
     | some (.agg cs)=>if q.1.back/\cs.length=r.length/\cs.all AV.free0=true then some (⟨q.1,.no⟩,.set t n (cs.map fun v=>⟨v,SC v⟩)) else none
     | _=>none else none
   | _,_=>none) else none
  | none=>none
 | .callh ..=>none
 | .bad=>none
 | .mks size bytes zero ln cap=>match nL (ln.get s),nL (cap.get s) with
  | some l,some c=>if l<=c/\c * bytes<=140737488355328/\c<=140737488355328/\zero.length=size then some (⟨.ref 0 0 size 0 l c,.no⟩,.new ((List.replicate c zero).flatten.map (⟨·,.no⟩))) else none
  | _,_=>none
 | .slc str size x lo hi mx=>match mx with
  | some _=>none
  | none =>
   match CD s 0 lo with
   | none=>none
   | some l=>match x.get s with
    | .sl b e=>match CD s e.length hi with
     | some h=>if l<=h/\h<=e.length/\UA size e=true/\str=false then some (⟨.sl b ((e.take h).drop l),.no⟩,.none) else none
     | _=>none
    | .bl e=>match CD s e.length hi with
     | some h=>if l<=h/\h<=e.length/\UA size e=true/\str=false then some (⟨.bl ((e.take h).drop l),.no⟩,.none) else none
     | _=>none
    | .ref t n sz off ln cap=>match CD s ln hi with
     | some h=>if l<=h/\h<=cap/\sz=size/\str=false then (if h=l/\¬ (l=0/\0<cap) then some (⟨.sl false [],.no⟩,.none) else some (⟨.ref t n sz (off + l * sz) (h - l) (cap - l),.no⟩,.none)) else none
     | _=>none
    | .str b=>match CD s b.size hi with
     | some h=>if l<=h/\h<=b.size/\str=true then some (⟨.str (b.extract l h),.no⟩,.none) else none
     | _=>none
    | _=>none
 | .faddr off x=>match x.get s with
  | .ptr t n o=>some (⟨.ptr t n (o + off),.no⟩,.none)
  | .ip cs=>some (⟨.ip (cs.drop off),.no⟩,.none)
  | .bp cs=>some (⟨.bp (cs.drop off),.no⟩,.none)
  | _=>none
 | .field agg off size x=>match x.get s with
  | .agg cs=>(pC agg size (cs.drop off)).map fun v=>(⟨v,.no⟩,.none)
  | _=>none
 | .aaddr ln size x i=>match nL (i.get s) with
  | some k=>if k<ln then (match x.get s with
   | .ptr t n o=>some (⟨.ptr t n (o + k * size),.no⟩,.none)
   | .ip cs=>some (⟨.ip (cs.drop (k * size)),.no⟩,.none)
   | .bp cs=>some (⟨.bp (cs.drop (k * size)),.no⟩,.none)
   | _=>none) else none
  | none=>none
 | .iaddr size x i=>match nL (i.get s) with
  | some k=>match x.get s with
   | .sl _ l=>l[k]?.bind fun cs=>if cs.length=size then some (⟨.ip cs,.no⟩,.none) else none
   | .bl l=>l[k]?.bind fun cs=>if cs.length=size then some (⟨.bp cs,.no⟩,.none) else none
   | .ref t n sz off ln _=>if k<ln/\sz=size then some (⟨.ptr t n (off + k * sz),.no⟩,.none) else none
   | _=>none
  | none=>none
 | .index x i=>match nL (i.get s),x.get s with
  | some k,.str b=>b[k]?.map fun u=>(⟨.int .u8 u.toNat,.no⟩,.none)
  | _,_=>none
 | .ext x i=>match x.get s with
  | .tup vs=>vs[i]?.map fun v=>(⟨v,.no⟩,.none)
  | _=>none
 | .call cl f xs=>(cB s cl xs).bind fun vs=>match lC s xs with
  | []=>(call f vs none).bind fun r=>match r.2 with
   | none=>if r.1.back then some (⟨r.1,.no⟩,.none) else none
   | some S=>if r.1.backN/\cl.okMem/\aS S=true then some (⟨r.1,.no⟩,.mk S) else none
  | [(t,n)]=>(call f vs (s.obj t n)).bind fun r=>match r.2 with
   | none=>none
   | some S=>if r.1.back/\(s.obj t n).isSome/\aS S=true then some (⟨r.1,.no⟩,.obj t n S) else none
  | _=>none
 | .callf cl f sz xs=>(cB s cl xs).bind fun vs=>match lC s xs with
  | [(t,n)]=>(call f (.undef :: vs) (s.obj t n)).bind fun r=>match r with
   | (.sl false l,some S)=>if (s.obj t n).isSome=true/\UA sz l=true/\l.all (fun c=>c.all AV.scal)=true/\aS S=true then
     (if l.isEmpty then some (⟨.sl false [],.no⟩,.obj t n S) else some (⟨.ref 0 0 sz 0 l.length l.length,.no⟩,.ob2 t n S (lA l))) else none
   | _=>none
  | _=>none
 | .callo cl f sz xs=>match cB s cl xs,lC s xs with
  | some vs,[]=>(call f (.undef :: vs) none).bind fun r=>match r with
   | (.sl b l,none)=>if UA sz l=true/\l.flatten.all AV.free0=true/\0<sz then
     (if l.isEmpty then some (⟨.sl b [],.ex⟩,.none) else if b then none else some (⟨.ref 0 0 sz 0 l.length l.length,.no⟩,.new (lA l))) else none
   | _=>none
  | _,_=>none
 | .calln cl f sz L x xs=>match cB s cl xs,lC s xs with
  | some vs,[]=>if vs.all AV.free=true then (match x.get s with
   | .ref t n z off ln _=>(match (AV.ref t n z off ln 0).elems s cl with
    | some l=>if off=0/\z=sz/\t≠0/\L.contains t=false then (call f (.undef :: .sl false l :: vs) (some (.int .i64 sz))).bind fun r=>match r with
      | (.sl false l',none)=>if UA sz l'=true/\l'.flatten.all AV.free0=true/\0<sz then some (⟨.ref 0 0 sz 0 l'.length l'.length,.no⟩,.rn (some (t,n)) (lA l')) else none
      | _=>none else none
    | none=>none)
   | .sl b []=>if w8 b (x.an s)=true then (call f (.undef :: .sl b [] :: vs) (some (.int .i64 sz))).bind fun r=>match r with
      | (.sl false l',none)=>if UA sz l'=true/\l'.flatten.all AV.free0=true/\0<sz then some (⟨.ref 0 0 sz 0 l'.length l'.length,.no⟩,.new (lA l')) else none
      | _=>none else none
   | _=>none) else none
  | _,_=>none
 | .callq cl f xs=>if cl.okMem=true/\(xs.map fun x=>(x.get s).frz s).all AV.free=true then
   (call f (xs.map fun x=>(x.get s).frz s) none).bind fun r=>match r with
    | (v,none)=>if v.plain then some (⟨v,.no⟩,.none) else none
    | _=>none else none
 | .len str x=>match x.get s with
  | .sl _ l=>if str then none else some (⟨.int .i64 l.length,.no⟩,.none)
  | .bl l=>if str then none else some (⟨.int .i64 l.length,.no⟩,.none)
  | .ref _ _ _ _ ln _=>if str then none else some (⟨.int .i64 ln,.no⟩,.none)
  | .str b=>if str then some (⟨.int .i64 b.size,.no⟩,.none) else none
  | _=>none
 | .app cl e size bytes x y=>match x.get s,(y.get s).elems s cl with
  | .sl b l,some m=>if TA bytes (l.length + m.length)=true/\UA size (l++m)=true then
    (match SS b (x.an s) with
    | .no=>none
    | .own k e'=>if e'=e then some (⟨.sl (b&&m.isEmpty) (l++m),.own 0 e⟩,.app (.own k e') 0) else none
    | .ex=>some (⟨.sl (b&&m.isEmpty) (l++m),.own 0 e⟩,.app .ex 0)) else none
  | _,_=>none
 | .appf cl e size bytes x y=>match x.get s,(y.get s).elems s cl with
  | .sl b l,some m=>if TA bytes (l.length + m.length)=true/\UA size (l++m)=true then
    (match SS b (x.an s) with
    | .ex=>if m.isEmpty then some (⟨.sl b l,.ex⟩,.none) else some (⟨.ref 0 0 size 0 (l.length + m.length) (l.length + m.length),.no⟩,.new (lA (l++m)))
    | _=>none) else none
  | _,_=>none
 | .appm cl e size bytes x y=>match x.get s,(y.get s).elems s cl with
  | .sl b l,some m=>if TA bytes (l.length + m.length)=true/\UA size (l++m)=true then
    (match SS b (x.an s) with
    | .ex=>if m.isEmpty then some (⟨.sl b l,.ex⟩,.none) else some (⟨.ref 0 0 size 0 (l.length + m.length) (l.length + m.length),.no⟩,.new (lA (l++m)))
    | _=>none) else none
  | .ref t n sz off ln _,some m=>match (AV.ref t n sz off ln 0).elems s cl with
   | some l=>if off=0/\sz=size/\TA bytes (ln + m.length)=true/\UA size m=true/\t≠0 then
     some (⟨.ref 0 0 size 0 (ln + m.length) (ln + m.length),.no⟩,.rn (some (t,n)) (lA (l++m))) else none
   | none=>none
  | _,_=>none
 | .appn cl e size bytes x y=>match x.get s,(y.get s).raws s cl with
  | .sl b l,some m=>if TA bytes (l.length + m.length)=true/\UA size (l++m)=true/\0<m.length then
    (match SS b (x.an s) with
    | .ex=>some (⟨.ref 0 0 size 0 (l.length + m.length) (l.length + m.length),.no⟩,.new (lA (l++m)))
    | _=>none) else none
  | .ref t n sz off ln _,some m=>match (AV.ref t n sz off ln 0).raws s cl with
   | some l=>if off=0/\sz=size/\TA bytes (ln + m.length)=true/\UA size m=true/\t≠0/\(l++m).flatten.all (AV.noName t n)=true then
     some (⟨.ref 0 0 size 0 (ln + m.length) (ln + m.length),.no⟩,.rn (some (t,n)) (lA (l++m))) else none
   | none=>none
  | _,_=>none
 | .bslr size zero n parts=>if parts.map (·.1)=List.range n/\parts.all (fun p=>(p.2.get s).whole&&decide ((p.2.get s).cells.length=zero.length))/\0<n/\zero.length=size then
   some (⟨.ref 0 0 size 0 n n,.no⟩,.new (lA (parts.map fun p=>(p.2.get s).cells))) else none
 | .mkm=>some (⟨.mp 0 0,.no⟩,.mk (sG []))
 | .mkb T e=>some (⟨.ptr 0 0 0,.no⟩,.mk (UV T e ⟨#[]⟩))
 | .mget ok ty zero x k=>match x.get s with
  | .mp t n=>match (s.obj t n).bind mD with
   | some L=>if xK ty L=true/\jK ty (k.get s)=true/\zero.flat=true then
     some (⟨if ok then .tup [(kG L (k.get s)).getD zero,.bool (kG L (k.get s)).isSome] else (kG L (k.get s)).getD zero,.no⟩,.none) else none
   | none=>none
  | _=>none
 | .mset ty x k v=>match x.get s with
  | .mp t n=>match (s.obj t n).bind mD with
   | some L=>if xK ty L=true/\jK ty (k.get s)=true/\(v.get s).flat=true then
     some (⟨.undef,.no⟩,.obj t n (sG (nH L (k.get s) (v.get s)))) else none
   | none=>none
  | _=>none
 | .mlen x=>match x.get s with
  | .mp t n=>match (s.obj t n).bind mD with
   | some L=>some (⟨.int .i64 L.length,.no⟩,.none)
   | none=>none
  | _=>none
 | .rng x=>match x.get s with
  | .mp t n=>match (s.obj t n).bind mD with
   | some L=>some (⟨.ptr 0 0 0,.no⟩,.mk (ZQ t n L.length []))
   | none=>none
  | _=>none
 | .nxt _=>none
 | .ent x=>match x.get s with
  | .ptr t n 0=>match (s.obj t n).bind AO with
   | some (tm,nm,N,seen)=>match (s.obj tm nm).bind mD,seen.getLast? with
    | some L,some i=>if L.length=N then (match L[i]? with
      | some [y,v]=>if y.flat&&v.flat then some (⟨.tup [y,v],.no⟩,.none) else none
      | _=>none) else none
    | _,_=>none
   | none=>none
  | _=>none
 | .slz x=>match x.get s with
  | .sl b _=>some (⟨.sl b [],.ex⟩,.none)
  | .bl _=>some (⟨.sl false [],.ex⟩,.none)
  | .ref ..=>some (⟨.sl false [],.ex⟩,.none)
  | _=>none
 | .nilchk x=>match x.get s with
  | .ptr t n o=>some (⟨.ptr t n o,.no⟩,.none)
  | .ip cs=>some (⟨.ip cs,.no⟩,.none)
  | .bp cs=>some (⟨.bp cs,.no⟩,.none)
  | _=>none
def sA.eff (o:sA) (s:tA):qA × wB->Option tA
 | (x,.none)=>some (s.put o.dst x)
 | (x,.new r)=>match o.dst with
  | none=>none
  | some d=>some ((s.setRow d s.next r).put (some d) ⟨match x.v with | .ref _ _ sz off l c=>.ref d s.next sz off l c | _=>.ptr d s.next 0,.no⟩)
 | (x,.set t n r)=>some ((s.setRow t n r).put o.dst x)
 | (x,.app a _)=>match o.dst with
  | none=>none
  | some d=>some (((s.stripA a).strip d).put (some d) ⟨x.v,match x.a with | .own _ e=>.own d e | a=>a⟩)
 | (x,.obj t n S)=>some ((s.setObj t n S).put o.dst x)
 | (x,.mk S)=>match o.dst with
  | none=>none
  | some d=>some ((s.setObj d s.next S).put (some d) ⟨x.v.named d s.next,.no⟩)
 | (x,.ob2 t n S r)=>match o.dst with
  | none=>none
  | some d=>some (((s.setObj t n S).setRow d s.next r).put (some d) ⟨match x.v with | .ref _ _ sz off l c=>.ref d s.next sz off l c | _=>.ptr d s.next 0,.no⟩)
 | (x,.rn k r)=>match o.dst with
  | none=>none
  | some d=>some (((s.killO k).setRow d s.next r).put (some d) ⟨match x.v with | .ref _ _ sz off l c=>.ref d s.next sz off l c | _=>.ptr d s.next 0,.no⟩)
def sA.step (call:OA) (o:sA) (s:tA):Option tA :=
 match o.guard with
 | none=>(o.op.run call s).bind (o.eff s)
 | some (t,want)=>match (s.env t).v with
  | .bool b=>if b=want then (o.op.run call s).bind (o.eff s) else some (s.put o.dst ⟨.tup [],.no⟩)
  | .tup []=>some (s.put o.dst ⟨.tup [],.no⟩)
  | _=>none
def tA.enter (s:tA) (nt:Nat):tA:={ s with next:=s.next + 1,gh:=fun t=>if t<nt then s.env t else s.gh (t - nt) }
def tA.leave (s:tA) (nt:Nat):tA:={ s with env:=fun t=>if t<nt then s.gh t else ⟨.undef,.no⟩,gh:=fun t=>s.gh (t + nt) }
def gE (s:tA) (xs:List GA):List qA:=xs.map fun x=>⟨x.get s,x.an s⟩
def gK (lh:LH) (d:Option Nat) (nt:Nat) (x:GA) (xs:List GA) (s:tA) (k:tA->Option RV):Option RV:=match x.get s with
 | .fn f cs=>lh.h f (gE s xs++cs.map (⟨·,.no⟩)) (s.enter nt) fun y s'=>k ((s'.leave nt).put d y)
 | _=>none
noncomputable def BO (d:Option Nat) (x:GA) (s:tA) (k:tA->Option RV):Option RV:=match x.get s with
 | .ptr t n 0=>match (s.obj t n).bind AO with
  | some (tm,nm,N,seen)=>match (s.obj tm nm).bind mD with
   | some L=>if L.length=N then iR (fun i=>match L[i]? with
     | some [y,v]=>if y.flat&&v.flat then k ((s.setObj t n (ZQ tm nm N (seen++[i]))).put d ⟨.tup [.bool true,y,v],.no⟩) else none
     | _=>none) (k (s.put d ⟨.tup [.bool false],.no⟩)) ((List.range N).filter fun i=>!seen.contains i) else none
   | none=>none
  | none=>none
 | _=>none
def QF (s:tA) (d:Option Nat) (g:Option (Nat × Bool)) (a:Option RV) (k:tA->Option RV):Option RV:=match g with
 | none=>a
 | some (t,want)=>match (s.env t).v with
  | .bool b=>if b=want then a else k (s.put d ⟨.tup [],.no⟩)
  | .tup []=>k (s.put d ⟨.tup [],.no⟩)
  | _=>none
noncomputable def sA.stepK (call:OA) (lh:LH) (o:sA) (s:tA) (k:tA->Option RV):Option RV:=match o.op with
 | .callh nt x xs=>QF s o.dst o.guard (gK lh o.dst nt x xs s k) k
 | .nxt x=>QF s o.dst o.guard (BO o.dst x s k) k
 | _=>(o.step call s).bind k
noncomputable def AC (call:OA) (lh:LH):List sA->tA->(tA->Option RV)->Option RV
 | [],s,k=>k s
 | o :: r,s,k=>o.stepK call lh s fun s=>AC call lh r s k
noncomputable def C.run (call:OA) (lp:LH):C->tA->(Ex->tA->Option RV)->Option RV
 | .skip,s,k=>k .nrm s
 | .seq a b,s,k=>a.run call lp s fun e s=>match e with
  | .nrm=>b.run call lp s k
  | e=>k e s
 | .reg ops,s,k=>AC call lp ops s fun s=>k .nrm { s with next:=s.next + 1 }
 | .cond c t e,s,k=>match c.get s with
  | .bool b=>if b then t.run call lp s k else e.run call lp s k
  | _=>none
 | .block id b,s,k=>b.run call lp s fun e s=>match e with
  | .exit j=>if j=id then k .nrm s else k (.exit j) s
  | e=>k e s
 | .loop b,s,k=>lp b s k
 | .exit id,s,k=>k (.exit id) s
 | .ret,s,k=>k .ret s
inductive QW where
 | tmp (t:Nat)
 | cell (t:Nat) (agg:Bool) (size:Nat)
structure PA where
 code:C
 res:List QW
 np:Nat
 mu:List Nat:=[]
def HP (s:tA):List QW->Option (List AV)
 | []=>some []
 | .tmp t :: r=>(HP s r).map ((s.env t).v :: ·)
 | .cell t agg size :: r=>match (s.env t).v with
  | .ptr t n off=>((s.mem t n).bind (bC agg size off)).bind fun x=>(HP s r).map (x.v :: ·)
  | _=>none
def xS:List AV->AV
 | [v]=>v
 | vs=>.tup vs
def IZ:List AV->Option (Nat × Nat)
 | []=>none
 | .ptr t n 0 :: _=>some (t,n)
 | _ :: r=>IZ r
def ID (t n:Nat):AV->AV
 | .ptr t' n' o=>if t'=t/\n'=n/\o=0 then .ptr 0 0 0 else .undef
 | v=>v
def qT (S0:Option AV) (s:tA) (vs:List AV):Option RV :=
 match S0 with
 | some _=>if vs.all AV.free then (s.obj 0 0).map fun S=>(xS vs,some S) else none
 | none=>if vs.all AV.free then some (xS vs,none) else match IZ vs with
  | some (t,n)=>match s.obj t n with
   | some S=>if (vs.map (ID t n)).all (fun v=>v.free||v.isObj) then some (xS (vs.map (ID t n)),some S) else none
   | none=>none
  | none=>none
def uQ (f:PA) (S0:Option AV):Ex->tA->Option RV
 | .exit _,_=>none
 | _,s=>(HP s f.res).bind fun vs=>qT S0 s (vs.map (AV.frz s))
def tA.init (args:List AV) (S0:Option AV):tA:=⟨fun t=>⟨args.getD t .undef,.no⟩,fun _ _=>none,1,fun t n=>if t=0/\n=0 then S0 else none,fun _=>⟨.undef,.no⟩⟩
def tA.initR (args:List AV) (cs:List AV):tA:=⟨fun t=>⟨args.getD t .undef,.no⟩,fun t n=>if t=0/\n=0 then some (cs.map fun v=>⟨v,SC v⟩) else none,1,fun _ _=>none,fun _=>⟨.undef,.no⟩⟩
def tA.drop0 (s:tA):tA:={ s with mem:=fun t n=>if t=0/\n=0 then none else s.mem t n }
def GY (n:Nat) (s:tA) (vs:List AV):Option RV :=
 if vs.all AV.free then (s.mem 0 0).bind fun r =>
  if (r.map fun x=>AV.frz0 s.drop0 x.v).all AV.free0=true/\r.length=n then some (xS vs,some (.agg (r.map fun x=>AV.frz0 s.drop0 x.v))) else none
 else none
def FY (f:PA) (n:Nat):Ex->tA->Option RV
 | .exit _,_=>none
 | _,s=>(HP s f.res).bind fun vs=>GY n s (vs.map (AV.frz s.drop0))
def bL:List AV->Option (List AV)
 | .undef :: .undef :: r=>some r
 | _=>none
def qK (lp:B6) (b:C) (k:Ex->tA->Option RV):Ex->tA->Option RV
 | .nrm,s=>lp b s k
 | e,s=>k e s
def IC:List AV->Bool
 | .undef :: _=>true
 | _=>false
def XB (s:tA):List QW->Option (List qA)
 | []=>some []
 | .tmp t :: r=>(XB s r).map (s.env t :: ·)
 | .cell t agg size :: r=>match (s.env t).v with
  | .ptr t n off=>((s.mem t n).bind (bC agg size off)).bind fun x=>(XB s r).map (⟨x.v,.no⟩ :: ·)
  | _=>none
def AV.tupOk:AV->Bool
 | .bp _ | .bl _ | .fn .. | .tup _=>false
 | _=>true
def QB:List qA->Option qA
 | [x]=>some x
 | l=>if l.all (fun x=>x.v.tupOk) then some ⟨.tup (l.map (·.v)),.no⟩ else none
def KB (f:PA) (k:qA->tA->Option RV):Ex->tA->Option RV
 | .exit _,_=>none
 | _,s=>((XB s f.res).bind QB).bind fun x=>k x s
def tA.initH (s:tA) (args:List qA):tA:={ s with env:=fun t=>args.getD t ⟨.undef,.no⟩ }
def JQ (f:PA):Ex->tA->Option RV
 | .exit _,_=>none
 | _,s=>match XB s f.res with
  | some [⟨.sl b [],a⟩]=>if w8 b a=true then some (.sl b [],none) else none
  | some [⟨.ref t n sz 0 (len + 1) _,_⟩]=>((s.mem t n).bind fun r=>bA r sz 0 (len + 1)).map fun l=>(.sl false l,none)
  | _=>none
mutual
noncomputable def RB (T:Nat->Option PA) (ext:OA):Nat->OA
 | 0,f,args,S0=>match T f with
  | none=>ext f args S0
  | some _=>none
 | n + 1,f,args,S0=>match T f with
  | none=>ext f args S0
  | some c=>match bL args,S0 with
   | some rest,some (.agg cs)=>if rest.length=c.np/\IC rest=false then c.code.run (RB T ext n) ⟨HF T ext n,mG T ext n⟩ (tA.initR rest cs) (FY c cs.length) else none
   | some _,_=>none
   | none,_=>if args.length=c.np/\IC args=false/\UZ S0=true then c.code.run (RB T ext n) ⟨HF T ext n,mG T ext n⟩ (tA.init args S0) (uQ c S0)
    else if args.length=c.np + 1/\IC args=true/\IC args.tail=false/\S0.isNone=true then c.code.run (RB T ext n) ⟨HF T ext n,mG T ext n⟩ (tA.init args.tail none) (JQ c) else none
noncomputable def HF (T:Nat->Option PA) (ext:OA):Nat->B6
 | 0,_,_,_=>none
 | n + 1,b,s,k=>b.run (RB T ext n) ⟨HF T ext n,mG T ext n⟩ s (qK (HF T ext n) b k)
noncomputable def mG (T:Nat->Option PA) (ext:OA):Nat->E7
 | 0,_,_,_,_=>none
 | n + 1,f,args,s,k=>match T f with
  | none=>none
  | some c=>if args.length=c.np then c.code.run (RB T ext n) ⟨HF T ext n,mG T ext n⟩ (s.initH args) (KB c k) else none
end
section
def mP:Value->Option AV
 | .int k n=>some (.int k n)
 | .bool b=>some (.bool b)
 | .string s=>some (.str s)
 | .pointer none=>some .nilP
 | .slice none 0 0=>some (.sl true [])
 | _=>none
def jE:List Value->Option (List AV)
 | []=>some []
 | v :: r=>match mP v,jE r with
  | some x,some l=>some (x :: l)
  | _,_=>none
def BX:Value->Option AV
 | .agg cs=>(jE cs.toList).map .agg
 | v=>mP v
def opd:Operand->Option GA
 | .tmp t=>some (.t t)
 | .const v=>(BX v).map .c
 | .func f=>some (.c (.fn f []))
 | _=>none
section
variable (P:Program)
def TD (t:TypeId):Option Bool:=(P.underlying t).map fun | .struct _=>true | .array ..=>true | _=>false
def LA (t:TypeId):Option Nat:=(P.info? t).map (·.size)
def UD (t:TypeId):Option (List AV):=((P.info? t).bind (·.zero)).bind fun z=>jE z.cells.toList
def b7 (t:TypeId):Bool:=match P.underlying t with | some (.int _)=>true | some .string=>true | some .bool=>true | _=>false
def opds:List (Nat × Operand)->Option (List (Nat × GA))
 | []=>some []
 | (i,x) :: r=>match opd x,opds r with
  | some x,some l=>some ((i,x) :: l)
  | _,_=>none
def ZB:List Operand->Option (List GA)
 | []=>some []
 | x :: r=>match opd x,ZB r with
  | some x,some l=>some (x :: l)
  | _,_=>none
def oO:Option Operand->Option (Option GA)
 | none=>some none
 | some x=>(opd x).map some
def fJ (pl:Nat->Option (Nat × Nat)):List (Nat × GA)->Option (List (Nat × Nat × GA))
 | []=>some []
 | (i,x) :: r=>match pl i,fJ pl r with
  | some (off,z),some l=>some ((off,z,x) :: l)
  | _,_=>none
def zP (t:TypeId):Option Nat:=match P.underlying t,LA P t with
 | some (.int _),some 1=>some 0
 | some .string,some 1=>some 1
 | some .bool,some 1=>some 2
 | _,_=>none
def WJ (r:TypeId->Option (List Nat)) (i:Nat):List Field->Option (List Nat)
 | []=>some []
 | f :: fs=>(r f.type).bind fun l=>if f.name≠"_"/\f.offset=i then (WJ r (i + l.length) fs).map (l++·) else none
def TC:Nat->TypeId->Option (List Nat)
 | 0,_=>none
 | n + 1,t=>match zP P t with
  | some k=>some [k]
  | none=>match P.underlying t with
   | some (.array m e)=>(TC n e).bind fun l=>if P.cellsOf e=l.length/\LA P e=some l.length/\LA P t=some (List.replicate m l).flatten.length then some (List.replicate m l).flatten else none
   | some (.struct fs)=>if P.stoodInHeld t then none else (WJ (TC n) 0 fs.toList).bind fun l=>if LA P t=some l.length then some l else none
   | _=>none
def lK (t:TypeId):Option (List Nat):=if P.eqGuardType P.depth t then none else match P.underlying t with
 | some (.array ..)=>TC P 8 t
 | some (.struct _)=>TC P 8 t
 | _=>none
def j7 (t:TypeId):Option (Option IntKind):=match P.underlying t with
 | some (.int k)=>some (some k)
 | some .string=>some none
 | _=>none
def keysT (t:TypeId):Option (List (Option IntKind)):=match P.underlying t with
 | some (.array n e)=>(j7 P e).map (List.replicate n)
 | some (.struct fs)=>fs.toList.mapM fun f=>j7 P f.type
 | _=>none
def iE:Option IntKind->Nat
 | some _=>0
 | none=>1
def GO (t:TypeId):Option GX:=match P.underlying t with
 | some (.int k)=>some (.some k)
 | some .string=>some .none
 | _=>(keysT P t).bind fun l=>if lK P t=some (l.map iE)/\l≠[] then some (.agg l) else none
def HV:List AV->Bool
 | [.nilP,.sl true []]=>true
 | _=>false
def gY (e:TypeId):Option TypeId:=if (UD P e).map HV=some true then (match P.underlying e with
  | some (.struct fs)=>(fs[1]?).bind fun f=>match P.underlying f.type with
   | some (.slice el)=>some el
   | _=>none
  | _=>none) else none
def N9:Option Operand->Bool
 | some (.const (.int .i64 n))=>decide (n=0)
 | _=>false
def BS (cl:Cl) (mu:Option Bool) (o:Go.Op) (nest:Bool:=false):Option K :=
 match o with
 | .move x | .assign x=>(opd x).map .mv
 | .pick c a b=>match opd c,opd a,opd b with
  | some c,some a,some b=>some (.pick c a b)
  | _,_,_=>none
 | .alloc e=>match mu with
  | none=>(UD P e).map .alloc
  | some _=>(gY P e).map (.mkb e)
 | .box e x=>match LA P e,opd x with
  | some z,some x=>some (.box z x)
  | _,_=>none
 | .build t ps=>match P.underlying t,UD P t,opds ps.toList with
  | some (.struct fs),some z,some ps=>(match fs.toList.mapM (fun f=>(P.info? f.type).map fun i=>(f.offset,i.size)) with
   | some pl=>(fJ (pl.toArray[·]?) ps).map (.build z)
   | none=>none)
  | some (.array _ e),some z,some ps=>(match P.info? e with
   | some ie=>(fJ (fun i=>some (i * ie.size,ie.size)) ps).map (.build z)
   | none=>none)
  | _,_,_=>none
 | .buildSlice t n ps=>match P.underlying t,opds ps.toList with
  | some (.slice e),some ps=>match UD P e,LA P e with
   | some z,some k=>if z.length=k/\0<k/\n * k<=16777216 then (match mu with | none=>some (.bsl z n ps) | some _=>some (.bslr k z n ps)) else none
   | _,_=>none
  | _,_=>none
 | .load t x=>match TD P t,LA P t,opd x with
  | some a,some z,some x=>some (.load cl a z x)
  | _,_,_=>none
 | .store t x y=>match TD P t,LA P t,opd x,opd y with
  | some a,some z,some x,some y=>if a||z == 1 then some (.store cl a z x y) else none
  | _,_,_,_=>none
 | .binOp op t x y _=>match opd x,opd y with
  | some x,some y=>if b7 P t then some (.bin op (match P.underlying t with | some .bool=>true | _=>false) x y) else
   match op with
   | .eql=>(match P.underlying t with
    | some (.slice _)=>some (.eqn false false x y)
    | some (.pointer _)=>some (.eqn false true x y)
    | _=>(lK P t).map fun ks=>.eqa false ks x y)
   | .neq=>(match P.underlying t with
    | some (.slice _)=>some (.eqn true false x y)
    | some (.pointer _)=>some (.eqn true true x y)
    | _=>(lK P t).map fun ks=>.eqa true ks x y)
   | _=>none
  | _,_=>none
 | .unOp op t x=>if b7 P t then (opd x).map (.un op) else none
 | .convert s d x=>match P.underlying s,P.underlying d,opd x with
  | some (.int _),some (.int k),some x=>some (.conv (some k) x)
  | some .string,some .string,some x=>some (.conv none x)
  | some (.int _),some .string,some x=>some (.rstr x)
  | some (.slice e),some .string,some x=>(match P.underlying e with
   | some (.int .u8)=>if LA P e=some 1 then some (.bstr cl x) else none
   | _=>none)
  | _,_,_=>none
 | .makeSlice t l c=>match P.underlying t,opd l,opd c with
  | some (.slice e),some l,some c=>match UD P e,P.info? e with
   | some z,some i=>if z.length=i.size/\0<i.size then some (.mks i.size i.bytes z l c) else none
   | _,_=>none
  | _,_,_=>none
 | .entry x=>(opd x).map .ent
 | .slice t x lo hi mx0=>match opd x,oO lo,oO hi,oO mx0 with
  | some x,some l,some h,some m=>match P.underlying t with
   | some .string=>some (.slc true 1 x l h m)
   | some (.slice e)=>(match lo,N9 hi&&N9 mx0 with
    | none,true=>(LA P e).map fun _=>.slz x
    | _,_=>(LA P e).map fun k=>.slc false k x l h m)
   | some (.array n e)=>(match m with
    | none=>(LA P e).map fun k=>.aslc cl n k x l h
    | some _=>none)
   | _=>none
  | _,_,_,_=>none
 | .fieldAddr t x i=>match P.underlying t,opd x with
  | some (.struct fs),some x=>match fs[i]? with
   | some f=>match LA P f.type with
    | some (_ + 1)=>some (.faddr f.offset x)
    | _=>none
   | none=>none
  | _,_=>none
 | .field t x i=>match P.underlying t,opd x with
  | some (.struct fs),some x=>match fs[i]? with
   | some f=>match TD P f.type,LA P f.type with
    | some a,some z=>some (.field a f.offset z x)
    | _,_=>none
   | none=>none
  | _,_=>none
 | .indexAddr t x i=>match P.underlying t,opd x,opd i with
  | some (.slice e),some x,some i=>(LA P e).map fun k=>.iaddr k x i
  | some (.array n e),some x,some i=>(LA P e).map fun k=>.aaddr n k x i
  | _,_,_=>none
 | .index t x i=>match P.underlying t,opd x,opd i with
  | some .string,some x,some i=>some (.index x i)
  | _,_,_=>none
 | .range t x=>match P.underlying t with
  | some (.map _ _)=>(opd x).map .rng
  | _=>none
 | .makeMap t r=>match r,P.underlying t with
  | none,some (.map kT _)=>(GO P kT).map fun _=>.mkm
  | _,_=>none
 | .lookup t x i ok=>match P.underlying t,opd x,opd i with
  | some (.map kT eT),some x,some i=>match GO P kT,((P.info? eT).bind (·.zero)).bind BX with
   | some ty,some z=>some (.mget ok ty z x i)
   | _,_=>none
  | _,_,_=>none
 | .mapUpdate t m k v=>match P.underlying t,opd m,opd k,opd v with
  | some (.map kT _),some m,some k,some v=>(GO P kT).map fun ty=>.mset ty m k v
  | _,_,_,_=>none
 | .insert t m k v=>match P.underlying t,opd m,opd k,opd v with
  | some (.map kT _),some m,some k,some v=>(GO P kT).map fun ty=>.mset ty m k v
  | _,_,_,_=>none
 | .extract x i=>(opd x).map fun x=>.ext x i
 | .nilCheck x=>(opd x).map .nilchk
 | .call { callee:=.value (.func f),args:=xs,.. }=>match mu with
  | some false=>(match P.funcs[f]? with
   | some fn=>(match fn.resultTypes.toList with
    | [t]=>(match P.underlying t with
     | some (.slice e)=>(match LA P e,ZB xs.toList with
      | some z,some xs=>if 0<z then some (.callf cl f z xs) else none
      | _,_=>none)
     | _=>none)
    | _=>none)
   | none=>none)
  | some true=>(ZB xs.toList).map (.callr cl f)
  | none=>(ZB xs.toList).map (.call cl f)
 | .makeFunc (.func f) fs xs=>if fs.size=0 then (ZB xs.toList).map (.mkf f) else none
 | .call { callee:=.value (.tmp t),args:=xs,.. }=>(ZB xs.toList).map (.callv cl (.t t))
 | .call { callee:=.builtin .len,args:=xs,argTypes:=ts }=>match ZB xs.toList,ts.toList with
  | some [x],[t]=>(match P.underlying t with
   | some .string=>some (.len true x)
   | some (.slice _)=>some (.len false x)
   | some (.map _ _)=>some (.mlen x)
   | _=>none)
  | _,_=>none
 | .call { callee:=.builtin .clear,args:=xs,argTypes:=ts }=>match ZB xs.toList,ts.toList with
  | some [x],[t]=>(match P.underlying t with
   | some (.slice e)=>(UD P e).map fun z=>.clr cl z x
   | _=>none)
  | _,_=>none
 | .call { callee:=.builtin .max,args:=xs,.. }=>match xs.toList with
  | [X,Y]=>(match opd X,opd Y with
   | some x,some y=>some (.mm true x y)
   | _,_=>none)
  | _=>none
 | .call { callee:=.builtin .min,args:=xs,.. }=>match xs.toList with
  | [X,Y]=>(match opd X,opd Y with
   | some x,some y=>some (.mm false x y)
   | _,_=>none)
  | _=>none
 | .call { callee:=.builtin .append,args:=xs,argTypes:=ts }=>match ZB xs.toList,ts.toList with
  | some [x,y],[t,t']=>if t=t' then match P.underlying t with
   | some (.slice e)=>match P.info? e,UD P e with
    | some i,some z=>if z.length=i.size/\0<i.size then some (match mu with | some true=>(if nest then .appn cl e i.size i.bytes x y else .appm cl e i.size i.bytes x y) | some false=>.appf cl e i.size i.bytes x y | none=>.app cl e i.size i.bytes x y) else none
    | _,_=>none
   | _=>none else none
  | _,_=>none
 | _=>none
def PR (cl:Cl) (mu:Option Bool) (bad nest:Bool) (o:Go.Op):Option K:=match BS P cl mu o nest with
 | some k=>some k
 | none=>if bad then some .bad else none
def lN (cl:Cl) (hs:Nat->Bool) (L:List Nat) (o:Go.Op):Option K:=match o with
 | .call { callee:=.value (.func f),args:=xs,.. } =>
  if hs (30000000 + f) then (ZB xs.toList).map (.callq cl f) else
  if hs (10000000 + f)||hs (20000000 + f) then (match P.funcs[f]? with
   | some fn=>(match fn.resultTypes.toList with
    | [t]=>(match P.underlying t with
     | some (.slice e)=>(match LA P e,ZB xs.toList with
      | some z,some ys=>if 0<z then (if hs (10000000 + f) then some (.callo cl f z ys) else match ys with
       | y :: r=>some (.calln cl f z L y r)
       | []=>none) else none
      | _,_=>none)
     | _=>none)
    | _=>none)
   | none=>none) else none
 | _=>none
def rQ (nt:Nat) (hs:Nat->Bool) (o:Go.Op):Option K:=match o with
 | .call { callee:=.value (.func f),args:=xs,.. }=>if hs (1000000 + f) then (ZB xs.toList).map (.callh nt (.c (.fn f []))) else none
 | .call { callee:=.value (.tmp t),args:=xs,.. }=>if hs (2000000 + t) then (ZB xs.toList).map (.callh nt (.t t)) else none
 | .next x false=>(opd x).map .nxt
 | _=>none
def gJ (boxes:List Nat) (ops:List Oper):Nat->Operand->Option Nat
 | 0,_=>none
 | n + 1,.tmp t=>if boxes.contains t then some t else
  match ops.find? (fun o=>o.dst == some t) with
  | some o=>match o.op with
   | .fieldAddr _ x _=>gJ boxes ops n x
   | .move x=>gJ boxes ops n x
   | .nilCheck x=>gJ boxes ops n x
   | _=>none
  | none=>none
 | _ + 1,_=>none
def isS:K->Bool
 | .store .. | .callr .. | .clr ..=>true
 | _=>false
def qX:K->Bool
 | .callh ..=>true
 | .nxt _=>true
 | _=>false
def DS:K->Bool
 | .alloc _ | .box .. | .mks .. | .appf .. | .appm .. | .appn .. | .bslr .. | .callf .. | .callo .. | .calln ..=>true
 | _=>false
def eZ:K->Bool
 | .appm ..=>true
 | .appn ..=>true
 | .calln ..=>true
 | .callh ..=>true
 | .nxt _=>true
 | _=>false
def ML:K->Bool
 | .call .. | .callf .. | .callo .. | .calln .. | .callq .. | .callv .. | .callr .. | .mkm | .mkb .. | .mget .. | .mset .. | .mlen _ | .rng _ | .ent _=>true
 | _=>false
def uZ:K->Bool
 | .mget .. | .mlen _ | .ent _=>true
 | _=>false
def AX:K->Bool
 | .app .. | .appm .. | .appn ..=>true
 | _=>false
def K.cl:K->Option Cl
 | .load cl ..=>some cl
 | .store cl ..=>some cl
 | .clr cl ..=>some cl
 | .call cl ..=>some cl
 | .callf cl ..=>some cl
 | .callv cl ..=>some cl
 | .callo cl ..=>some cl
 | .calln cl ..=>some cl
 | .callq cl ..=>some cl
 | .callr cl ..=>some cl
 | .bstr cl _=>some cl
 | .aslc cl ..=>some cl
 | .app cl ..=>some cl
 | .appf cl ..=>some cl
 | .appm cl ..=>some cl
 | .appn cl ..=>some cl
 | _=>none
def pD (a b:sA):Bool :=
 !eZ a.op&&!eZ b.op&&(!AX a.op||!AX b.op)&&(!ML a.op||!ML b.op||(uZ a.op&&uZ b.op)) &&
 (match a.op.cl,b.op.cl with
  | some c,some d=>!(isS a.op||isS b.op)||(match c,d with
   | .imm,_=>true
   | _,.imm=>true
   | .root r,.root r'=>r != r'
   | .root r,.out L=>L.contains r
   | .out L,.root r=>L.contains r
   | _,_=>false)
  | _,_=>true) &&
 (!DS a.op||(match b.op.cl with | none=>true | some .imm=>true | some (.root r)=>a.dst != some r | some (.out L)=>(match a.dst with | some d=>L.contains d | none=>false) | some .any=>false)) &&
 (!DS b.op||(match a.op.cl with | none=>true | some .imm=>true | some (.root r)=>b.dst != some r | some (.out L)=>(match b.dst with | some d=>L.contains d | none=>false) | some .any=>false)) &&
 (!DS a.op||!DS b.op||a.dst != b.dst)
def wX (o:sA):Bool:=match o.op,o.guard with
 | .mv (.t _),none=>true
 | _,_=>false
def rZ:K->Bool
 | .appm ..=>true
 | .calln ..=>true
 | .appn ..=>true
 | _=>false
def wZ (o b:sA):Bool:=match o.op,o.guard,b.op with
 | .load (.root r) .false _ (.t _),none,.calln _ _ _ L _ _=>L.contains r&&b.dst != some r
 | _,_,_=>false
def tZ (o:sA):Bool:=match o.op,o.guard with
 | .nilchk (.t _),none=>true
 | .faddr _ (.t _),none=>true
 | _,_=>false
def mH (a b:sA):Bool:=pD a b||((wX a&&rZ b.op)||(wX b&&rZ a.op)||(wZ a b&&rZ b.op)||(rZ a.op&&tZ b))
def bJ (ops:List Oper):List Nat :=
 (ops.foldl (fun acc o=>acc.push (o.after.foldl (fun s e=>if Region.binds .any e then s ||| 2 ^ e.on ||| acc.getD e.on 0 else s) 0)) (#[]:Array Nat)).toList
def K.opds:K->List GA
 | .mv x | .box _ x | .load _ _ _ x | .un _ x | .conv _ x | .rstr x | .bstr _ x | .faddr _ x | .field _ _ _ x | .ext x _ | .len _ x | .nilchk x | .rng x | .nxt x | .slz x | .ent x | .clr _ _ x=>[x]
 | .pick c a b=>[c,a,b]
 | .alloc _ | .mkm | .mkb .. | .bad=>[]
 | .mget _ _ _ x k=>[x,k]
 | .mset _ x k v=>[x,k,v]
 | .mlen x=>[x]
 | .build _ ps=>ps.map (·.2.2)
 | .bsl _ _ ps=>ps.map (·.2)
 | .bslr _ _ _ ps=>ps.map (·.2)
 | .store _ _ _ x y | .bin _ _ x y | .mm _ x y | .eqa _ _ x y | .eqn _ _ x y | .mks _ _ _ x y | .iaddr _ x y | .aaddr _ _ x y | .index x y | .app _ _ _ _ x y | .appf _ _ _ _ x y | .appm _ _ _ _ x y | .appn _ _ _ _ x y=>[x,y]
 | .slc _ _ x lo hi mx=>x :: (lo.toList++(hi.toList++mx.toList))
 | .aslc _ _ _ x lo hi=>x :: (lo.toList++hi.toList)
 | .mkf _ xs=>xs
 | .callv _ x xs=>x :: xs
 | .callr _ _ xs=>xs
 | .callh _ x xs=>x :: xs
 | .call _ _ xs=>xs
 | .callf _ _ _ xs=>xs
 | .callo _ _ _ xs=>xs
 | .calln _ _ _ _ x xs=>x :: xs
 | .callq _ _ xs=>xs
def sA.looks (o:sA):List Nat:=o.op.opds.filterMap (fun | .t n=>some n | _=>none)++(match o.guard with | some (t,_)=>[t] | none=>[])
def sA.clear (a b:sA):Bool:=match a.dst with
 | some d=>!b.looks.contains d&&b.dst != some d
 | none=>true
def DB (a b:sA):Bool:=a.clear b&&b.clear a
def uE (o:Oper):List Nat:=o.after.toList.filterMap fun e=>if Region.binds .any e then some e.on else none
def A4 (ops:List Oper) (bf:List Nat):Bool:=(List.range ops.length).all fun i=>match ops[i]? with
 | some o=>(uE o).all (fun e=>decide (e<i))&&(List.range i).all fun r=>!(bf.getD i 0).testBit r||(uE o).any fun e=>e == r||(decide (r<e)&&(bf.getD e 0).testBit r)
 | none=>false
def tM (ops:List Oper) (cs:List sA):Bool :=
 let bf:=bJ ops
 A4 ops bf&&(List.range ops.length).all fun j=>(List.range j).all fun i =>
  (bf.getD j 0).testBit i||(match cs[i]?,cs[j]? with
   | some x,some y=>DB x y&&mH x y
   | _,_=>false)
def jL (cs:List sA):Bool:=(List.range cs.length).all fun j=>match cs[j]? with
 | some y=>!((DS y.op||ML y.op)&&y.dst.isSome)||(List.range cs.length).all fun i=>i == j||(match cs[i]? with | some x=>x.dst != y.dst | none=>false)
 | none=>false
def TS (o:Oper):Bool:=match o.op with | .store ..=>true | .alloc _=>true | .box ..=>true | .makeSlice ..=>true | .call { callee:=.builtin .append,.. }=>true | .call { callee:=.builtin .clear,.. }=>true | _=>false
def HY (ops:List Oper) (o:Oper):Bool:=match o.dst with
 | none=>false
 | some d=>match ops.findIdx? (fun p=>p.dst == some d) with
  | none=>false
  | some i=>let bf:=bJ ops
   (List.range ops.length).all fun j=>i == j||!(match ops[j]? with | some p=>TS p | none=>false)||(bf.getD j 0).testBit i||(bf.getD i 0).testBit j
def e7 (boxes:List Nat) (adv lo:Bool) (out:Option (List Nat)) (ops:List Oper) (draw:Bool) (o:Oper):Cl :=
 if !draw then .any else
 if adv then (match o.op with
  | .load _ x=>(match gJ boxes ops 10 x with | some t=>.root t | none=>if HY ops o then .any else if lo then .out (out.getD []++ops.filterMap fun p=>if TS p then p.dst else none) else .imm)
  | .store _ x _=>(match gJ boxes ops 10 x,out with | some t,_=>.root t | none,some L=>.out (L++ops.filterMap fun p=>if TS p then p.dst else none) | none,none=>.any)
  | .call { callee:=.value (.func _),args:=xs,.. }=>(match (xs[0]?).bind (gJ (boxes.filter (· == 0)) ops 10) with | some t=>.root t | none=>if HY ops o||!(ops.any TS) then .any else .imm)
  | _=>if HY ops o||!(ops.any TS) then .any else .imm) else
 if ops.any (fun o=>match o.op with | .store ..=>true | .call { callee:=.builtin .clear,.. }=>true | .alloc _=>true | .box ..=>true | .makeSlice ..=>true | _=>false) then
  match o.op with
  | .load _ x=>(match gJ boxes ops 10 x with | some t=>.root t | none=>.imm)
  | .store _ x _=>(match gJ boxes ops 10 x with | some t=>.root t | none=>.any)
  | _=>.imm
 else .any
def t7 (nt:Nat):Option Nat->Bool
 | some d=>decide (d<nt)
 | none=>true
def iL (boxes:List Nat) (nt:Nat) (all:List Oper) (draw:Bool):List Oper->Option (List sA)
 | []=>some []
 | o :: r=>match (match rQ nt (fun c=>boxes.contains (nt + 1 + c)) o.op with | some k=>some k | none=>match lN P (e7 boxes (boxes.any (nt<·)) (boxes.contains (nt + 1 + 7000000)) (if boxes.contains (nt + 1 + 6000000) then some (boxes.filter (·<nt)) else none) all draw o) (fun c=>boxes.contains (nt + 1 + c)) (boxes.filter (·<nt)) o.op with | some k=>some k | none=>(PR P (e7 boxes (boxes.any (nt<·)) (boxes.contains (nt + 1 + 7000000)) (if boxes.contains (nt + 1 + 6000000) then some (boxes.filter (·<nt)) else none) all draw o) (match o.dst with | some d=>if boxes.contains (nt + 1 + (2 * d + 1)) then some true else if boxes.contains (nt + 1 + 2 * d) then some false else none | none=>none) (boxes.contains (nt + 1 + 4000000)) (boxes.contains (nt + 1 + 5000000)) o.op).filter (fun k=>!qX k)),iL boxes nt all draw r with
  | some k,some l =>
   if t7 nt o.dst then
    match o.guard with
    | none=>some (⟨o.dst,k,none⟩ :: l)
    | some (g,want)=>match (all[g]?).bind (·.dst) with
     | some t=>some (⟨o.dst,k,some (t,want)⟩ :: l)
     | none=>none
   else none
  | _,_=>none
def comp (boxes:List Nat) (nt:Nat):Code->Option C
 | .skip=>some .skip
 | .seq a b=>match comp boxes nt a,comp boxes nt b with
  | some a,some b=>some (.seq a b)
  | _,_=>none
 | .region _ ops draw=>match iL P boxes nt ops.toList draw ops.toList with
  | some cs=>if jL cs&&(!draw||tM ops.toList cs) then some (.reg cs) else none
  | none=>none
 | .cond c t e=>match opd c,comp boxes nt t,comp boxes nt e with
  | some c,some t,some e=>some (.cond c t e)
  | _,_,_=>none
 | .block id b=>(comp boxes nt b).map (.block id)
 | .loop b=>(comp boxes nt b).map .loop
 | .exit id=>some (.exit id)
 | .scope b=>comp boxes nt b
 | .ret=>some .ret
 | _=>none
def CF:Code->List Nat
 | .seq a b=>CF a++CF b
 | .region _ ops _=>ops.toList.filterMap fun o=>match o.op with | .alloc _=>o.dst | .box ..=>o.dst | _=>none
 | .cond _ t e=>CF t++CF e
 | .block _ b=>CF b
 | .loop b=>CF b
 | .scope b=>CF b
 | _=>[]
def FE:List ResultVar->Option (List QW)
 | []=>some []
 | .tmp t :: r=>(FE r).map (.tmp t :: ·)
 | .cell t ty :: r=>match TD P ty,LA P ty,FE r with
  | some a,some z,some l=>some (.cell t a z :: l)
  | _,_,_=>none
def fK (mu:List Nat) (fn:Func):Option PA:=match fn.body with
 | none=>none
 | some b=>match comp P (CF b++(if mu.contains 3000000 then [0] else [])++mu.map (fn.ntmps + 1 + ·)) fn.ntmps b,FE P fn.results.toList with
  | some c,some r=>if fn.params.size + fn.nfree<=fn.ntmps then some ⟨c,r,fn.params.size + fn.nfree,mu⟩ else none
  | _,_=>none
end
end
section
open Go.RowKit
structure WA (F:Nat->Prop) (w w':World):Prop where
 os:w'.os=w.os
 tape:w'.tape=w.tape
 output:w'.output=w.output
 size:w.heap.size<=w'.heap.size
 block:∀ k,k<w.heap.size->¬ F k->w'.heap[k]?=w.heap[k]?
section
variable {F G:Nat->Prop} {w w1 w2:World}
theorem WA.refl (F:Nat->Prop) (w:World):WA F w w:=⟨rfl,rfl,rfl,y6 _,fun _ _ _=>rfl⟩
theorem WA.trans (h:WA F w w1) (k:WA G w1 w2) (hG:∀ i,i<w.heap.size->G i->F i):WA F w w2 :=
 ⟨k.os.trans h.os,k.tape.trans h.tape,k.output.trans h.output,yp h.size k.size,fun i hi hF =>
  (k.block i (Nat.lt_of_lt_of_le hi h.size) (fun g=>hF (hG i hi g))).trans (h.block i hi hF)⟩
theorem WA.mono (h:WA F w w1) (hG:∀ i,i<w.heap.size->F i->G i):WA G w w1 :=
 ⟨h.os,h.tape,h.output,h.size,fun i hi hg=>h.block i hi fun hf=>hg (hG i hi hf)⟩
theorem WA.of_below (h:Below w.heap.size w w1) (F:Nat->Prop):WA F w w1:=⟨h.os,h.tape,h.output,h.size,fun k hk _=>h.block k hk⟩
theorem WA.below (h:WA (fun _=>False) w w1):Below w.heap.size w w1:=⟨h.os,h.tape,h.output,h.size,fun k hk=>h.block k hk id⟩
theorem WA.below_of {B:Nat} (h:WA F w w1) (hB:B<=w.heap.size) (hF:∀ i,F i->B<=i):Below B w w1 :=
 ⟨h.os,h.tape,h.output,h.size,fun k hk=>h.block k (by omega) fun hf=>by have:=hF k hf; omega⟩
theorem WA.alloc (h:WA F w w1) (o:Obj):WA F w (w1.alloc o) :=
 ⟨h.os,h.tape,h.output,by have:=h.size; simp; omega,fun k hk hF=>(Below.heap_alloc w1 o k (Nat.lt_of_lt_of_le hk h.size)).trans (h.block k hk hF)⟩
theorem WA.drew (h:WA F w w1):WA F w w1.drew:=⟨h.os,h.tape,h.output,h.size,h.block⟩
theorem WA.trans_below (h:WA F w w1) (k:Below w1.heap.size w1 w2):WA F w w2:=h.trans (WA.of_below k (fun _=>False)) (fun _ _ h=>h.elim)
theorem WA.grown (h:WA F w w1) {row:Option Nat} (hg:w1.grownBy w2 row) (hr:∀ k,k<w.heap.size->row=some k->F k):WA F w w2 :=
 ⟨hg.os.trans h.os,hg.tape.trans h.tape,hg.output.trans h.output,yp h.size hg.size,fun k hk hF =>
  (hg.block k (Nat.lt_of_lt_of_le hk h.size) (fun e=>hF (hr k hk e.symm))).trans (h.block k hk hF)⟩
theorem WA.cell (h:WA F w w1) {a:Addr} (ha:a.block<w.heap.size) (hF:¬ F a.block):w1.cell? a=w.cell? a:=World.cell?_of_block (w:=w) (h.block _ ha hF)
theorem WA.frozen (h:WA F w w1) {a:Addr} (ha:a.block<w.heap.size) (hF:¬ F a.block):w1.frozen? a=w.frozen? a:=World.frozen?_of_block (w:=w) (h.block _ ha hF)
end
theorem aO {p:Prop} (h:p):Hid p:=h
theorem uA {w:World} {k:Nat} {o:Obj} (h:w.heap[k]?=some o):k<w.heap.size:=by
 rcases Nat.lt_or_ge k w.heap.size with h' | h'
 ·exact h'
 ·rw [Array.getElem?_eq_none h'] at h; cases h
theorem WA.at_ {F:Nat->Prop} {w w1:World} (h:WA F w w1) {a:Addr} {v:Value} (hc:w.cell? a=some v) (hF:¬ F a.block):w1.cell? a=some v:=(h.cell (World.block_lt_of_cell? w a hc) hF).trans hc
theorem WA.fz {F:Nat->Prop} {w w1:World} (h:WA F w w1) {a:Addr} (hc:w.frozen? a=false) (hl:a.block<w.heap.size) (hF:¬ F a.block):w1.frozen? a=false:=(h.frozen hl hF).trans hc
theorem xJ {w w1:World} (h:Below w.drew.heap.size w.drew w1):Below w.heap.size w w1:=⟨h.os,h.tape,h.output,h.size,h.block⟩
theorem mK {w:World} {o:Obj} {n:Nat} (h:n=w.heap.size):(w.alloc o).heap[n]?=some o:=by rw [h]; exact heap_alloc_new w o
def Sl (av:Nat->Prop) (w:World) (sz:Nat) (v:Value) (n:Nat) (cs:List Value):Prop :=
 cs.length=n * sz/\∃ A c,v=.slice A n c/\n<=c ∧
  (0<n->∃ b off,A=some ⟨b,off,none⟩/\b<w.heap.size/\¬ av b/\∀ j u,cs[j]?=some u->w.cell? ⟨b,off + j,none⟩=some u)
section
variable {av wa:Nat->Prop} {w w':World} {sz n:Nat} {v:Value} {cs:List Value}
theorem Sl.nil (av:Nat->Prop) (w:World) (sz:Nat):Sl av w sz (.slice none 0 0) 0 []:=⟨by simp,none,0,rfl,y6 _,fun h=>absurd h (by omega)⟩
theorem Sl.keep {F:Nat->Prop} (h:Sl av w sz v n cs) (hk:WA F w w') (hF:∀ b,b<w.heap.size->F b->av b):Sl av w' sz v n cs:=by
 obtain ⟨hl,A,c,rfl,hc,hn⟩:=h;refine ⟨hl,A,c,rfl,hc,fun h0=>?_⟩;obtain ⟨b,off,rfl,hb,ub,ab⟩:=hn h0;exact ⟨b,off,rfl,Nat.lt_of_lt_of_le hb hk.size,ub,fun j u hu=>(hk.cell (a:=⟨b,off + j,none⟩) hb (fun f=>ub (hF b hb f))).trans (ab j u hu)⟩
theorem Sl.below (h:Sl av w sz v n cs) (hk:Below w.heap.size w w'):Sl av w' sz v n cs:=h.keep (WA.of_below hk (fun _=>False)) (fun _ _ h=>h.elim)
theorem Sl.len (h:Sl av w sz v n cs):cs.length=n * sz:=h.1
theorem Sl.zero (av:Nat->Prop) (w:World) (sz:Nat) (A:Option Addr) (c:Nat):Sl av w sz (.slice A 0 c) 0 []:=⟨by simp,A,c,rfl,Nat.zero_le _,fun h=>absurd h (by omega)⟩
end
theorem WY {P:Program} (w:World) (t e:TypeId) (i:TypeInfo) (ht:P.underlying t=some (.slice e)) (hi:P.info? e=some i) (A:Option Addr) (n c k:Nat) (hk:k<=c) :
  (Instr.slice t (.slice A n c) none (some (.int .i64 k)) none).run P w=.ok (.slice A k c) w:=by
 have h0:(0:Int)<=(k:Int):=by omega
 have h1:(k:Int)<=(c:Int):=by omega
 cases A <;> simp [Instr.slice,run_underlying ht,Instr.sliceBounds,run_sliceBound,sizeOf,typeInfo,hi,h0,h1,Addr.add]
theorem RY {P:Program} (w:World) (t e:TypeId) (i:TypeInfo) (size:Nat) (ht:P.underlying t=some (.slice e)) (hi:P.info? e=some i) (hs:i.size=size) (A:Option Addr) (n c k:Nat) (hk:k<=n) :
  (Instr.slice t (.slice A n c) (some (.int .i64 k)) none none).run P w=.ok (.slice (if c=k then A else A.map (·.add (k * size))) (n - k) (c - k)) w:=by
 have h0:(0:Int)<=(k:Int):=by omega
 have h1:(k:Int)<=(n:Int):=by omega
 simp [Instr.slice,run_underlying ht,Instr.sliceBounds,run_sliceBound,sizeOf,typeInfo,hi,hs,h0,h1]
theorem EY {P:Program} (w:World) (t e:TypeId) (i:TypeInfo) (size:Nat) (ht:P.underlying t=some (.slice e)) (hi:P.info? e=some i) (hs:i.size=size) (A:Option Addr) (n c k h:Nat) (hk:k<=h) (hh:h<=c) :
  (Instr.slice t (.slice A n c) (some (.int .i64 k)) (some (.int .i64 h)) none).run P w=.ok (.slice (if c=k then A else A.map (·.add (k * size))) (h - k) (c - k)) w:=by
 have h0:(0:Int)<=(k:Int):=by omega
 have h1:(k:Int)<=(h:Int):=by omega
 have h2:(0:Int)<=(h:Int):=by omega
 have h3:(h:Int)<=(c:Int):=by omega
 simp [Instr.slice,run_underlying ht,Instr.sliceBounds,run_sliceBound,sizeOf,typeInfo,hi,hs,h0,h1,h2,h3]
theorem WA.setRow {F:Nat->Prop} {w w1:World} (h:WA F w w1) {B:Nat} (hF:B<w.heap.size->F B) (cs:Array Value):WA F w (w1.setRow B cs) :=
 ⟨h.os,h.tape,h.output,by have:=h.size; simpa using this,fun k hk hn=>(setRow_other w1 B k cs (fun e=>hn (e ▸ hF (e ▸ hk)))).trans (h.block k hk hn)⟩
/-! maps -/
def EE {κ β:Type} [DecidableEq κ]:List (κ × β)->κ->Option β
 | [],_=>none
 | p :: l,k=>if k=p.1 then some p.2 else EE l k
def JP {κ β:Type} [DecidableEq κ]:List (κ × β)->κ->β->List (κ × β)
 | [],k,v=>[(k,v)]
 | p :: l,k,v=>if k=p.1 then (k,v) :: l else p :: JP l k v
section
variable {κ β:Type} [DecidableEq κ]
end
structure TI (P:Program) (T:TypeId) {κ:Type} [DecidableEq κ] (ke:κ->Value):Prop where
 check:∀ (empty:Bool) (k:κ) (w:World),(Instr.checkKey empty 10000 T (ke k)).run P w=.ok () w
 find:∀ (k:κ) (es:List MapEntry) (L:List (κ × Value)) (w:World),es.map (fun e=>(e.key,e.val))=L.map (fun p=>(ke p.1,p.2)) →
  (Instr.findKey T (ke k) es).run P w=.ok (((L.map (·.1)).idxOf? k).bind fun i=>(L[i]?).map fun p=>(i,p.2)) w
 same:∀ (k:κ),Instr.sameBits 10000 (ke k) (ke k)=true
def SH {κ:Type} (ke:κ->Value) (w:World) (m:Nat) (L:List (κ × Value)):Prop :=
 ∃ es clock,w.heap[m]?=some (.map es clock)/\es.toList.map (fun e=>(e.key,e.val))=L.map (fun p=>(ke p.1,p.2))
theorem GV {κ β:Type} [DecidableEq κ] (L:List (κ × β)) (k:κ):(((L.map (·.1)).idxOf? k).bind fun i=>(L[i]?).map fun p=>(i,p.2)).map (·.2)=EE L k:=by
 induction L with
 | nil=>simp [EE]
 | cons p l ih =>
  unfold EE;simp only [yf,List.idxOf?_cons];by_cases h:p.1=k
  ·subst h; simp
  ·have h':(p.1 == k)=false:=by simpa using h
   have h2:¬ k=p.1:=fun e=>h e.symm
   rw [h',if_neg h2,<- ih];cases hi:List.idxOf? k (List.map (fun x=>x.1) l) with
   | none=>simp
   | some i=>simp [Function.comp_def]
section
theorem SH.keep {κ:Type} {ke:κ->Value} {w:World} {m:Nat} {L:List (κ × Value)} {F:Nat->Prop} {w':World} (h:SH ke w m L) (hk:WA F w w') (hF:¬ F m):SH ke w' m L:=by
 obtain ⟨es,clock,h1,h2⟩:=h;exact ⟨es,clock,(hk.block m (uA h1) hF).trans h1,h2⟩
theorem SH.lt {κ:Type} {ke:κ->Value} {w:World} {m:Nat} {L:List (κ × Value)} (h:SH ke w m L):m<w.heap.size:=by
 obtain ⟨es,clock,h1,h2⟩:=h;exact uA h1
theorem j5 {κ β:Type} [DecidableEq κ] (L:List (κ × β)) (k:κ) (v:β):JP L k v=match (L.map (·.1)).idxOf? k with | some i=>L.set i (k,v) | none=>L++[(k,v)]:=by
 induction L with
 | nil=>simp [JP]
 | cons p l ih =>
  unfold JP;simp only [yf,List.idxOf?_cons];by_cases h:p.1=k
  ·subst h; simp
  ·have h':(p.1 == k)=false:=by simpa using h
   have h2:¬ k=p.1:=fun e=>h e.symm
   rw [h',if_neg h2,ih];cases hi:List.idxOf? k (List.map (fun x=>x.1) l) <;> simp
variable {κ:Type} [DecidableEq κ] {P:Program} {T kT eT:TypeId} {ke:κ->Value} {w:World} {m:Nat} {L:List (κ × Value)}
theorem SH.lookup (h:SH ke w m L) (K:TI P kT ke) (hT:P.underlying T=some (.map kT eT)) {z:Value} (hz:(zeroValue eT).run P w=.ok z w) (k:κ) :
  (Instr.lookup T (.map (some m)) (ke k) false).run P w=.ok ((EE L k).getD z) w:=by
 obtain ⟨es,clock,h1,h2⟩:=h;have hg:(getObj m).run P w=.ok (.map es clock) w:=by simp [getObj,Sem.run,h1]
 have hf:=K.find k es.toList L w h2;have hi:=GV L k;simp only [Instr.lookup,Sem.run_bind,run_underlying hT,Result.andThen_ok,hg,Sem.run_pure,K.check,hf];rw [<- hi];cases hq:((L.map (·.1)).idxOf? k).bind fun i=>(L[i]?).map fun p=>(i,p.2) with
 | none=>simp [hz]
 | some x=>obtain ⟨i,v⟩:=x; simp
theorem SH.lookup_ok (h:SH ke w m L) (K:TI P kT ke) (hT:P.underlying T=some (.map kT eT)) {z:Value} (hz:(zeroValue eT).run P w=.ok z w) (k:κ) :
  (Instr.lookup T (.map (some m)) (ke k) true).run P w=.ok (.tuple #[(EE L k).getD z,.bool (EE L k).isSome]) w:=by
 obtain ⟨es,clock,h1,h2⟩:=h;have hg:(getObj m).run P w=.ok (.map es clock) w:=by simp [getObj,Sem.run,h1]
 have hf:=K.find k es.toList L w h2;have hi:=GV L k;simp only [Instr.lookup,Sem.run_bind,run_underlying hT,Result.andThen_ok,hg,Sem.run_pure,K.check,hf];rw [<- hi];cases hq:((L.map (·.1)).idxOf? k).bind fun i=>(L[i]?).map fun p=>(i,p.2) with
 | none=>simp [hz]
 | some x=>obtain ⟨i,v⟩:=x; simp
theorem WA.setObj {F:Nat->Prop} {w w1:World} (h:WA F w w1) {m:Nat} (hF:F m) (o:Obj):WA F w { w1 with heap:=w1.heap.setIfInBounds m o } :=
 ⟨h.os,h.tape,h.output,by have:=h.size; simpa using this,fun k hk hn=>by
  have:m≠k:=fun e=>hn (e ▸ hF)
  show (w1.heap.setIfInBounds m o)[k]?=_;rw [Array.getElem?_setIfInBounds_ne this];exact h.block k hk hn⟩
end
end
section
open Go Go.RowKit
abbrev Av:=Nat->Nat->Prop
structure Ix where
 f:Nat->Nat->Option Nat
 ob:Nat->Nat->Option (Nat->Prop)
 z:Nat->Nat
instance:CoeFun Ix (fun _=>Nat->Nat->Option Nat):=⟨Ix.f⟩
def Ix.none:Ix:=⟨fun _ _=>.none,fun _ _=>.none,fun _=>0⟩
structure Ix.Le (ι ι':Ix):Prop where
 f:∀ t n b,ι t n=some b->ι' t n=some b
 z:∀ t n b,ι t n=some b->ι'.z b=ι.z b
theorem Ix.Le.refl (ι:Ix):Ix.Le ι ι:=⟨fun _ _ _ h=>h,fun _ _ _ _=>rfl⟩
def AV.scalV:AV->Value
 | .int k n=>.int k n
 | .bool b=>.bool b
 | .str s=>.string s
 | _=>Go.undef
def AV.flatV:AV->Value
 | .agg cs=>.agg (cs.map AV.scalV).toArray
 | v=>v.scalV
def IY:List AV->Value × Value
 | [k,v]=>(k.flatV,v.flatV)
 | _=>(Go.undef,Go.undef)
def FQ (es:Array MapEntry) (clock:Nat):Prop:=clock=es.size/\∀ i (h:i<es.size),es[i].born=i
theorem ZV {S:AV} (h:(AO S).isSome=true):mD S=none/\q7 S=none:=by
 unfold AO at h;split at h
 ·exact ⟨rfl,rfl⟩
 ·cases h
def MapO (L:List (List AV)) (H:Nat->Prop) (p:Nat) (w:World):Prop:=(∀ b,H b ↔ b=p)/\∃ es clock,w.heap[p]?=some (.map es clock)/\es.toList.map (fun e=>(e.key,e.val))=L.map IY/\FQ es clock
def FS (T e:TypeId) (s:ByteArray) (H:Nat->Prop) (p:Nat) (w:World):Prop :=
 ∃ v q,w.heap[p]?=some (.cells #[q,v] T (0,0))/\(q=.pointer none\/q=.pointer (some ⟨p,0,none⟩))/\w.ownsRowF 0 e 1 v s.size (Go.Lib.strCells s)/\v.ownBlock≠some p/\∀ b,H b ↔ b=p\/v.ownBlock=some b
theorem FS.keep {T e:TypeId} {s:ByteArray} {H:Nat->Prop} {p:Nat} {w w':World} (h:FS T e s H p w) (hb:∀ b,H b->w'.heap[b]?=w.heap[b]?):FS T e s H p w':=by
 obtain ⟨v,q,h1,h2,h3,h4,h5⟩:=h;refine ⟨v,q,(hb p ((h5 p).2 (.inl rfl))).trans h1,h2,⟨h3.1,?_⟩,h4,h5⟩;rcases h3.2 with hn | ⟨g,cap,cur,fz,rfl,iu,hg,rest⟩
 ·exact .inl hn
 ·exact .inr ⟨g,cap,cur,fz,rfl,iu,(hb g ((h5 g).2 (.inr rfl))).trans hg,rest⟩
theorem FS.lt {T e:TypeId} {s:ByteArray} {H:Nat->Prop} {p b:Nat} {w:World} (h:FS T e s H p w) (hb:H b):b<w.heap.size:=by
 obtain ⟨v,q,h1,h2,h3,h4,h5⟩:=h;rcases (h5 b).1 hb with rfl | hv
 ·exact uA h1
 ·exact (h3.lt b hv).2
structure UI where
 at_:AV->(Nat->Prop)->Nat->World->Prop
 keep:∀ {S H p w w'},at_ S H p w->(∀ b,H b->w'.heap[b]?=w.heap[b]?)->w.heap.size<=w'.heap.size->at_ S H p w'
 main:∀ {S H p w},at_ S H p w->H p
 lt:∀ {S H p w b},at_ S H p w->H b->b<w.heap.size
 /-- a fact of the world's eldest blocks -/
 lo:Nat:=0
 wd:World->Prop:=fun _=>True
 wdl:∀ {w},wd w->lo<=w.heap.size:=by intros; exact Nat.zero_le _
 wdk:∀ {H w w'},wd w->WA H w w'->(∀ b,H b->lo<=b)->wd w':=by intros; trivial
structure OB extends UI where
 maps:∀ L H p w,at_ (sG L) H p w ↔ MapO L H p w
 blds:∀ T e s H p w,at_ (UV T e s) H p w ↔ FS T e s H p w
 iters:∀ S H p w,(AO S).isSome=true->(at_ S H p w ↔ ((∀ b,H b ↔ b=p)/\p<w.heap.size))
def OB.low (O:OB) (H:Nat->Prop) (av:Av) (w:World):Prop:=(O.wd w/\∀ b,H b->O.lo<=b)/\∀ b o,av b o->b<w.heap.size
def UI.ofAt (O:UI) (A:AV) (H:Nat->Prop) (p:Nat) (w:World):Prop:=match mD A with
 | some L=>MapO L H p w
 | none=>match q7 A with
  | some (T,e,s)=>FS T e s H p w
  | none=>if (AO A).isSome=true then (∀ b,H b ↔ b=p)/\p<w.heap.size else O.at_ A H p w
def UI.of (O:UI):OB where
 at_:=O.ofAt
 keep:=fun {A H p w w'} h hb hs=>by
  unfold UI.ofAt at h ⊢
  split at h
  ·obtain ⟨h1,es,clock,h2,h3⟩:=h
   exact ⟨h1,es,clock,(hb p ((h1 p).2 rfl)).trans h2,h3⟩
  ·split at h
   ·exact h.keep hb
   ·split at h
    ·rename_i hi
     simp only [hi,if_true]
     exact ⟨h.1,Nat.lt_of_lt_of_le h.2 hs⟩
    ·rename_i hi
     simp only [hi,if_false]
     exact O.keep h hb hs
 main:=fun {A H p w} h=>by
  unfold UI.ofAt at h
  split at h
  ·exact (h.1 p).2 rfl
  ·split at h
   ·obtain ⟨v,q,h1,h2,h3,h4,h5⟩:=h
    exact (h5 p).2 (.inl rfl)
   ·split at h
    ·exact (h.1 p).2 rfl
    ·exact O.main h
 lt:=fun {A H p w b} h hb=>by
  unfold UI.ofAt at h
  split at h
  ·obtain ⟨h1,es,clock,h2,h3⟩:=h
   rw [(h1 b).1 hb]
   exact uA h2
  ·split at h
   ·exact h.lt hb
   ·split at h
    ·rw [(h.1 b).1 hb]; exact h.2
    ·exact O.lt h hb
 lo:=O.lo
 wd:=O.wd
 wdl:=O.wdl
 wdk:=O.wdk
 maps:=fun L H p w=>Iff.rfl
 blds:=fun T e s H p w=>Iff.rfl
 iters:=fun S H p w h=>by
  unfold UI.ofAt
  rw [(ZV h).1,(ZV h).2]
  simp only [h,if_true]
def L8:UI where
 at_:=fun _ _ _ _=>False
 keep:=fun h _ _=>h.elim
 main:=fun h=>h.elim
 lt:=fun h _=>h.elim
mutual
/-- v reads as x in w,and nothing that it reads lies in av -/
def xB (av:Av) (w:World):AV->Value->Prop
 | .int k n,v=>v=.int k n
 | .bool b,v=>v=.bool b
 | .str s,v=>v=.string s
 | .nilP,v=>v=.pointer none
 | .ip cs,v=>∃ b off,v=.pointer (some ⟨b,off,none⟩)/\WB av w cs b off
 | .sl nil l,v=>∃ A c,v=.slice A l.length c/\l.length<=c/\(∀ x∈l,∀ y∈l,x.length=y.length)/\(nil=true->A=none/\l.length=0/\c=0)/\(nil=false->(A=none->c=0)/\(0<l.length->∃ b off,A=some ⟨b,off,none⟩/\Rows av w l b off))
 | .agg cs,v=>∃ us,v=.agg us/\IA av w cs us.toList
 | .tup xs,v=>∃ us,v=.tuple us/\JF av w xs us.toList
 | .ptr ..,_=>False
 | .bp ..,_=>False
 | .bl ..,_=>False
 | .ref ..,_=>False
 | .mp ..,_=>False
 | .fn ..,_=>False
 | .undef,_=>True
def IA (av:Av) (w:World):List AV->List Value->Prop
 | [],us=>us=[]
 | x :: r,us=>∃ u na,us=u :: na/\xB av w x u/\u.oneCell'=true/\IA av w r na
def JF (av:Av) (w:World):List AV->List Value->Prop
 | [],us=>us=[]
 | x :: r,us=>∃ u na,us=u :: na/\xB av w x u/\JF av w r na
def WB (av:Av) (w:World):List AV->Nat->Nat->Prop
 | [],_,_=>True
 | x :: r,b,off=>(∃ u,w.cell? ⟨b,off,none⟩=some u/\xB av w x u/\u.oneCell'=true)/\¬ av b off/\WB av w r b (off + 1)
def Rows (av:Av) (w:World):List (List AV)->Nat->Nat->Prop
 | [],_,_=>True
 | cs :: r,b,off=>WB av w cs b off/\Rows av w r b (off + cs.length)
end
structure xA (av wa:Av) (w w':World):Prop where
 cell:∀ b o u,w.cell? ⟨b,o,none⟩=some u->¬ av b o->w'.cell? ⟨b,o,none⟩=some u/\¬ wa b o
mutual
theorem xB.held {av wa:Av} {w w':World} (h:xA av wa w w'):∀ (x:AV) (v:Value),xB av w x v->xB wa w' x v
 | .int _ _,_,hr=>by simpa [xB] using hr
 | .bool _,_,hr=>by simpa [xB] using hr
 | .str _,_,hr=>by simpa [xB] using hr
 | .nilP,_,hr=>by simpa [xB] using hr
 | .ip cs,_,hr=>by
  simp only [xB] at hr ⊢
  obtain ⟨b,off,rfl,hc⟩:=hr
  exact ⟨b,off,rfl,WB.held h cs b off hc⟩
 | .sl nil l,_,hr=>by
  simp only [xB] at hr ⊢
  obtain ⟨A,c,rfl,hc,hu,hn,hs⟩:=hr
  refine ⟨A,c,rfl,hc,hu,hn,fun hf=>⟨(hs hf).1,fun h0=>?_⟩⟩
  obtain ⟨b,off,rfl,ja⟩:=(hs hf).2 h0
  exact ⟨b,off,rfl,Rows.held h l b off ja⟩
 | .agg cs,_,hr=>by
  simp only [xB] at hr ⊢
  obtain ⟨us,rfl,hc⟩:=hr
  exact ⟨us,rfl,IA.held h cs _ hc⟩
 | .tup xs,_,hr=>by
  simp only [xB] at hr ⊢
  obtain ⟨us,rfl,hc⟩:=hr
  exact ⟨us,rfl,JF.held h xs _ hc⟩
 | .ptr ..,_,hr=>by simp [xB] at hr
 | .bp ..,_,hr=>by simp [xB] at hr
 | .bl ..,_,hr=>by simp [xB] at hr
 | .ref ..,_,hr=>by simp [xB] at hr
 | .mp ..,_,hr=>by simp [xB] at hr
 | .fn ..,_,hr=>by simp [xB] at hr
 | .undef,_,hr=>trivial
theorem IA.held {av wa:Av} {w w':World} (h:xA av wa w w'):∀ (xs:List AV) (us:List Value),IA av w xs us->IA wa w' xs us
 | [],_,hr=>by simpa [IA] using hr
 | x :: r,_,hr=>by
  simp only [IA] at hr ⊢
  obtain ⟨u,na,rfl,hx,h1,hr⟩:=hr
  exact ⟨u,na,rfl,xB.held h x u hx,h1,IA.held h r na hr⟩
theorem JF.held {av wa:Av} {w w':World} (h:xA av wa w w'):∀ (xs:List AV) (us:List Value),JF av w xs us->JF wa w' xs us
 | [],_,hr=>by simpa [JF] using hr
 | x :: r,_,hr=>by
  simp only [JF] at hr ⊢
  obtain ⟨u,na,rfl,hx,hr⟩:=hr
  exact ⟨u,na,rfl,xB.held h x u hx,JF.held h r na hr⟩
theorem WB.held {av wa:Av} {w w':World} (h:xA av wa w w'):∀ (cs:List AV) (b off:Nat),WB av w cs b off->WB wa w' cs b off
 | [],_,_,_=>by simp [WB]
 | x :: r,b,off,hr=>by
  simp only [WB] at hr ⊢
  obtain ⟨⟨u,hc,hx,h1⟩,ha,hr⟩:=hr
  obtain ⟨xf,bq⟩:=h.cell b off u hc ha
  exact ⟨⟨u,xf,xB.held h x u hx,h1⟩,bq,WB.held h r b (off + 1) hr⟩
theorem Rows.held {av wa:Av} {w w':World} (h:xA av wa w w'):∀ (l:List (List AV)) (b off:Nat),Rows av w l b off->Rows wa w' l b off
 | [],_,_,_=>by simp [Rows]
 | cs :: r,b,off,hr=>by
  simp only [Rows] at hr ⊢
  exact ⟨WB.held h cs b off hr.1,Rows.held h r b (off + cs.length) hr.2⟩
end
theorem xA.refl (av:Av) (w:World):xA av av w w:=⟨fun _ _ _ hc ha=>⟨hc,ha⟩⟩
theorem xA.less {av wa:Av} {w:World} (h:∀ b o,wa b o->av b o):xA av wa w w:=⟨fun _ _ _ hc ha=>⟨hc,fun hx=>ha (h _ _ hx)⟩⟩
def XA (av ZA:Av) (w:World):List AV->Nat->Nat->Prop
 | [],_,_=>True
 | x :: r,b,off=>(∃ u,w.cell? ⟨b,off,none⟩=some u/\xB av w x u/\u.oneCell'=true)/\¬ ZA b off/\XA av ZA w r b (off + 1)
def NE (av ZA:Av) (w:World):List (List AV)->Nat->Nat->Prop
 | [],_,_=>True
 | cs :: r,b,off=>XA av ZA w cs b off/\NE av ZA w r b (off + cs.length)
theorem XA.held {av wa ZA avB':Av} {w w':World} (h:xA av wa w w') (hB:xA ZA avB' w w'):∀ (cs:List AV) (b off:Nat),XA av ZA w cs b off->XA wa avB' w' cs b off
 | [],_,_,_=>by simp [XA]
 | x :: r,b,off,hr=>by
  simp only [XA] at hr ⊢;obtain ⟨⟨u,hc,hx,h1⟩,ha,hr⟩:=hr;obtain ⟨xf,bq⟩:=hB.cell b off u hc ha;exact ⟨⟨u,xf,xB.held h x u hx,h1⟩,bq,XA.held h hB r b (off + 1) hr⟩
theorem NE.held {av wa ZA avB':Av} {w w':World} (h:xA av wa w w') (hB:xA ZA avB' w w'):∀ (l:List (List AV)) (b off:Nat),NE av ZA w l b off->NE wa avB' w' l b off
 | [],_,_,_=>by simp [NE]
 | cs :: r,b,off,hr=>by
  simp only [NE] at hr ⊢;exact ⟨XA.held h hB cs b off hr.1,NE.held h hB r b (off + cs.length) hr.2⟩
def QA (ι:Ix) (av:Av) (w:World):AV->Value->Prop
 | .ptr t n off,v=>∃ b,ι t n=some b/\v=.pointer (some ⟨b,off,none⟩)
 | .ref t n sz off len cap,v=>∃ b,ι t n=some b/\len<=cap/\∃ c,cap<=c/\off + c * sz<=ι.z b/\v=.slice (some ⟨b,off,none⟩) len c
 | .mp t n,v=>∃ b,ι t n=some b/\v=.map (some b)
 | .undef,_=>True
 | x,v=>xB av w x v
def zA (ι:Ix) (av:Av) (w:World):List AV->List Value->Prop
 | [],us=>us=[]
 | x :: r,us=>∃ u na,us=u :: na/\QA ι av w x u/\u.oneCell'=true/\zA ι av w r na
def OI (ι:Ix) (av:Av) (w:World):AV->Value->Prop
 | .agg cs,v=>∃ us,v=.agg us/\zA ι av w cs us.toList
 | x,v=>QA ι av w x v
def zC (ι:Ix) (av:Av) (w:World):List AV->List Value->Prop
 | [],us=>us=[]
 | x :: r,us=>∃ u na,us=u :: na/\OI ι av w x u/\zC ι av w r na
def IN (ι:Ix) (av ZA:Av) (w:World):AV->Value->Prop
 | .bp cs,v=>∃ b off,v=.pointer (some ⟨b,off,none⟩)/\XA av ZA w cs b off
 | x,v=>QA ι av w x v
def mC (ι:Ix) (av ZA:Av) (w:World):List AV->List Value->Prop
 | [],us=>us=[]
 | x :: r,us=>∃ u na,us=u :: na/\IN ι av ZA w x u/\mC ι av ZA w r na
def nA (ι:Ix) (av ZA:Av) (w:World):AV->Value->Prop
 | .bp cs,v=>∃ b off,v=.pointer (some ⟨b,off,none⟩)/\XA av ZA w cs b off
 | .bl l,v=>∃ a c,v=.slice (some a) l.length c/\l.length<=c/\(∀ x∈l,∀ y∈l,x.length=y.length)/\(0<l.length->∃ b off,a=⟨b,off,none⟩/\NE av ZA w l b off)
 | .agg cs,v=>∃ us,v=.agg us/\zA ι av w cs us.toList
 | .tup xs,v=>∃ us,v=.tuple us/\zC ι av w xs us.toList
 | .fn f cs,v=>∃ us,v=.func (.func f) #[] us/\mC ι av ZA w cs us.toList
 | .undef,_=>True
 | x,v=>QA ι av w x v
theorem QA.held {ι ι':Ix} {av wa:Av} {w w':World} (hι:Ix.Le ι ι') (h:xA av wa w w') (x:AV) (v:Value) (hr:QA ι av w x v):QA ι' wa w' x v:=by
 cases x <;> first
  | exact xB.held h _ v hr
  | (obtain ⟨b,hb,h1,c,h2,h3,hv⟩:=hr; exact ⟨b,hι.f _ _ _ hb,h1,c,h2,by rw [hι.z _ _ _ hb]; exact h3,hv⟩)
  | (obtain ⟨b,hb,hv⟩:=hr; exact ⟨b,hι.f _ _ _ hb,hv⟩)
  | trivial
theorem zA.held {ι ι':Ix} {av wa:Av} {w w':World} (hι:Ix.Le ι ι') (h:xA av wa w w'):∀ (xs:List AV) (us:List Value),zA ι av w xs us->zA ι' wa w' xs us
 | [],_,hr=>by simpa [zA] using hr
 | x :: r,_,hr=>by
  simp only [zA] at hr ⊢;obtain ⟨u,na,rfl,hx,h1,hr⟩:=hr;exact ⟨u,na,rfl,QA.held hι h x u hx,h1,zA.held hι h r na hr⟩
theorem OI.held {ι ι':Ix} {av wa:Av} {w w':World} (hι:Ix.Le ι ι') (h:xA av wa w w') (x:AV) (v:Value) (hr:OI ι av w x v):OI ι' wa w' x v:=by
 cases x with
 | agg cs=>obtain ⟨us,hv,hc⟩:=hr; exact ⟨us,hv,zA.held hι h _ _ hc⟩
 | int=>exact QA.held hι h (.int _ _) v hr
 | bool=>exact QA.held hι h (.bool _) v hr
 | str=>exact QA.held hι h (.str _) v hr
 | nilP=>exact QA.held hι h .nilP v hr
 | ptr t n o=>exact QA.held hι h (.ptr t n o) v hr
 | ip cs=>exact QA.held hι h (.ip cs) v hr
 | bp cs=>exact QA.held hι h (.bp cs) v hr
 | sl n l=>exact QA.held hι h (.sl n l) v hr
 | bl l=>exact QA.held hι h (.bl l) v hr
 | ref a b c d e f=>exact QA.held hι h (.ref a b c d e f) v hr
 | mp t n=>exact QA.held hι h (.mp t n) v hr
 | fn f cs=>exact QA.held hι h (.fn f cs) v hr
 | tup cs=>exact QA.held hι h (.tup cs) v hr
 | undef=>trivial
theorem zC.held {ι ι':Ix} {av wa:Av} {w w':World} (hι:Ix.Le ι ι') (h:xA av wa w w'):∀ (xs:List AV) (us:List Value),zC ι av w xs us->zC ι' wa w' xs us
 | [],_,hr=>by simpa [zC] using hr
 | x :: r,_,hr=>by
  simp only [zC] at hr ⊢;obtain ⟨u,na,rfl,hx,hr⟩:=hr;exact ⟨u,na,rfl,OI.held hι h x u hx,zC.held hι h r na hr⟩
theorem IN.held {ι ι':Ix} {av wa ZA avB':Av} {w w':World} (hι:Ix.Le ι ι') (h:xA av wa w w') (hB:xA ZA avB' w w') (x:AV) (v:Value) (hr:IN ι av ZA w x v):IN ι' wa avB' w' x v:=by
 match x,hr with
 | .bp cs,⟨b,off,hv,hc⟩=>exact ⟨b,off,hv,XA.held h hB _ b off hc⟩
 | .int k n,hr=>exact QA.held hι h (.int k n) v hr
 | .bool b,hr=>exact QA.held hι h (.bool b) v hr
 | .str s,hr=>exact QA.held hι h (.str s) v hr
 | .nilP,hr=>exact QA.held hι h .nilP v hr
 | .ptr t n off,hr=>exact QA.held hι h (.ptr t n off) v hr
 | .ip cs,hr=>exact QA.held hι h (.ip cs) v hr
 | .sl n l,hr=>exact QA.held hι h (.sl n l) v hr
 | .mp t n,hr=>exact QA.held hι h (.mp t n) v hr
 | .ref t n sz off len cap,hr=>exact QA.held hι h (.ref t n sz off len cap) v hr
 | .undef,hr=>trivial
 | .agg cs,hr=>exact QA.held hι h (.agg cs) v hr
 | .tup cs,hr=>exact QA.held hι h (.tup cs) v hr
theorem mC.held {ι ι':Ix} {av wa ZA avB':Av} {w w':World} (hι:Ix.Le ι ι') (h:xA av wa w w') (hB:xA ZA avB' w w'):∀ (xs:List AV) (us:List Value),mC ι av ZA w xs us->mC ι' wa avB' w' xs us
 | [],_,hr=>by simpa [mC] using hr
 | x :: r,_,hr=>by
  simp only [mC] at hr ⊢;obtain ⟨u,na,rfl,hx,hr⟩:=hr;exact ⟨u,na,rfl,IN.held hι h hB x u hx,mC.held hι h hB r na hr⟩
theorem nA.held {ι ι':Ix} {av wa ZA avB':Av} {w w':World} (hι:Ix.Le ι ι') (h:xA av wa w w') (hB:xA ZA avB' w w') (x:AV) (v:Value) (hr:nA ι av ZA w x v):nA ι' wa avB' w' x v:=by
 match x,hr with
 | .bp cs,⟨b,off,hv,hc⟩=>exact ⟨b,off,hv,XA.held h hB _ b off hc⟩
 | .bl l,⟨a,c,hv,hl,hu,hc⟩ =>
  refine ⟨a,c,hv,hl,hu,fun h0=>?_⟩;obtain ⟨b,off,ha,hr⟩:=hc h0;exact ⟨b,off,ha,NE.held h hB _ b off hr⟩
 | .agg cs,⟨us,hv,hc⟩=>exact ⟨us,hv,zA.held hι h _ _ hc⟩
 | .undef,_=>trivial
 | .int k n,hr=>exact QA.held hι h (.int k n) v hr
 | .bool b,hr=>exact QA.held hι h (.bool b) v hr
 | .str s,hr=>exact QA.held hι h (.str s) v hr
 | .nilP,hr=>exact QA.held hι h .nilP v hr
 | .ptr t n off,hr=>exact QA.held hι h (.ptr t n off) v hr
 | .ip cs,hr=>exact QA.held hι h (.ip cs) v hr
 | .sl n l,hr=>exact QA.held hι h (.sl n l) v hr
 | .mp t n,hr=>exact QA.held hι h (.mp t n) v hr
 | .ref t n sz off len cap,hr=>exact QA.held hι h (.ref t n sz off len cap) v hr
 | .tup vs,⟨us,hv,hc⟩=>exact ⟨us,hv,zC.held hι h _ _ hc⟩
 | .fn f cs,⟨us,hv,hc⟩=>exact ⟨us,hv,mC.held hι h hB _ _ hc⟩
end
section
open Go Go.RowKit
structure DH where
 b:Nat->Prop
 p:Option Nat
 r:Nat->Prop
 z:Nat
 /-- what the slots of the calls that wait zc -/
 g:Nat->Value
instance:CoeFun DH (fun _=>Nat->Prop):=⟨DH.b⟩
structure Ow where
 g:Nat
 n:Nat
 c:Nat
 sz:Nat
 e:TypeId
abbrev tE:=Nat->Option Ow
def Ix.has (ι:Ix) (b:Nat):Prop:=(∃ t n,ι t n=some b)\/∃ t n H,ι.ob t n=some H/\H b
def ZA (ι:Ix) (Θ:tE):Av:=fun b o=>ι.has b\/(∃ k ow,Θ k=some ow/\ow.g=b/\ow.n * ow.sz<=o)
def JA (ga:Av) (ι:Ix) (Θ:tE):Av:=fun b o=>ga b o\/ZA ι Θ b o
def exV (v:Value):Prop:=∃ A n,v=.slice A n n
def pE (Θ:tE):An->Value->Prop
 | .no,_=>True
 | .ex,v=>exV v
 | .own k e,v=>exV v\/∃ ow,Θ k=some ow/\ow.e=e/\v=.slice (some ⟨ow.g,0,none⟩) ow.n ow.c
def uB (ι:Ix) (Θ:tE) (av:Av) (w:World) (r:List qA) (cur:Array Value):Prop :=
 r.length<=cur.size/\∀ (j:Nat) (x:qA),r[j]?=some x->∃ u,cur[j]?=some u/\u.oneCell'=true/\QA ι av w x.v u/\pE Θ x.a u
def Q1 (B:Nat) (F0:DH) (D:Nat->Prop) (next:Nat) (w:World) (ι:Ix) (Θ:tE) (t n:Nat) (H:Nat->Prop):Prop :=
 (∀ b,H b->(B<=b\/F0 b)/\b<w.heap.size/\(∀ t' n',ι t' n'=some b->t'=t/\n'=n)/\(∀ k o,Θ k=some o->o.g≠b)/\∀ t' n' H',ι.ob t' n'=some H'->H' b->t'=t/\n'=n)/\(n<next\/n=next/\D t)
def xR (ι:Ix) (S:AV) (p:Nat) (w:World):Prop:=∀ tm nm N seen,AO S=some (tm,nm,N,seen)->∃ m H,ι tm nm=some m/\ι.ob tm nm=some H/\w.heap[p]?=some (.mapIter (some m) N seen.toArray N)
theorem xR.no {ι:Ix} {S:AV} {p:Nat} {w:World} (h:aS S=true):xR ι S p w:=fun tm nm N seen e=>by
 unfold aS at h;rw [e] at h;cases h
theorem xR.keep {ι ι':Ix} {S:AV} {p:Nat} {w w':World} (h:xR ι S p w) (hι:∀ t n b H,ι t n=some b->ι.ob t n=some H->ι' t n=some b/\∃ H',ι'.ob t n=some H') (hp:∀ x,w.heap[p]?=some x->w'.heap[p]?=some x):xR ι' S p w':=fun tm nm N seen e=>by
 obtain ⟨m,H,h1,h2,h3⟩:=h tm nm N seen e;obtain ⟨g1,H',g2⟩:=hι _ _ _ _ h1 h2;exact ⟨m,H',g1,g2,hp _ h3⟩
structure DA (P:Program) (O:OB) (nt B:Nat) (F0:DH) (ga:Av) (w0:World) (D:Nat->Prop) (s:tA) (a:Act) (w:World) (ι:Ix) (Θ:tE):Prop where
 defers:a.defers=[]
 size:a.tmps.size=nt
 env:∀ t,nA ι (JA ga ι Θ) (ZA ι Θ) w (s.env t).v (a.tmps.getD t undef)
 ann:∀ t,pE Θ (s.env t).a (a.tmps.getD t undef)
 rows:∀ t n r,s.mem t n=some r->ι.ob t n=none/\∃ b cur ty,ι t n=some b/\w.heap[b]?=some (.cells cur ty (0,0))/\uB ι Θ (JA ga ι Θ) w r cur/\(B<=b\/F0.r b)/\cur.size=ι.z b
 mine:∀ t n b,ι t n=some b->(B<=b\/F0 b)/\b<w.heap.size/\(n<s.next\/n=s.next/\D t)
 inj:∀ t n t' n' b,ι t n=some b->ι t' n'=some b->t=t'/\n=n'
 tok:∀ k o,Θ k=some o->B<=o.g/\0<o.sz/\o.n<=o.c/\o.c<=maxLen/\∃ cur,w.heap[o.g]?=some (.cells cur o.e (0,0))/\(cur.size=o.c * o.sz/\LA P o.e=some o.sz)
 tinj:∀ k k' o o',Θ k=some o->Θ k'=some o'->o.g=o'.g->k=k'
 apart:∀ k o t n,Θ k=some o->ι t n≠some o.g
 out:∀ b o,ga b o->b<B
 pin:∀ p,F0.p=some p->ι 0 0=some p/\((F0.r p/\ι.z p=F0.z)\/∃ H,ι.ob 0 0=some H)
 kept:WA F0.b w0 w
 base:B=w0.heap.size/\O.wd w0/\∀ b,F0.b b->O.lo<=b
 objs:∀ t n S,s.obj t n=some S->∃ p H,ι t n=some p/\ι.ob t n=some H/\O.at_ S H p w/\xR ι S p w
 obs:∀ t n H,ι.ob t n=some H->Q1 B F0 D s.next w ι Θ t n H
 gen:∀ t,nA ι (JA ga ι Θ) (ZA ι Θ) w (s.gh t).v (F0.g t)
 gann:∀ t,pE Θ (s.gh t).a (F0.g t)
section
variable {P:Program} {O:OB} {nt B:Nat} {F0:DH} {ga:Av} {w0:World} {D:Nat->Prop} {s:tA} {a:Act} {w w':World} {ι:Ix} {Θ:tE}
theorem IB {w:World} {b o:Nat} {u:Value} (h:w.cell? ⟨b,o,none⟩=some u):b<w.heap.size:=World.block_lt_of_cell? w ⟨b,o,none⟩ (by exact h)
theorem xA.grown {av wa:Av} (hb:∀ b,b<w.heap.size->w'.heap[b]?=w.heap[b]?) (ha:∀ b o,b<w.heap.size->wa b o->av b o):xA av wa w w' :=
 ⟨fun b o _ hc hn=>⟨(World.cell?_of_block (w:=w) (a:=⟨b,o,none⟩) (hb b (IB hc))).trans hc,fun h=>hn (ha b o (IB hc) h)⟩⟩
theorem uB.held {ι ι':Ix} {Θ Θ':tE} {av wa:Av} {r:List qA} {cur:Array Value} (h:uB ι Θ av w r cur) (hι:Ix.Le ι ι') (hh:xA av wa w w') (hΘ:∀ k o,Θ k=some o->Θ' k=some o):uB ι' Θ' wa w' r cur:=by
 refine ⟨h.1,fun j x hx=>?_⟩;obtain ⟨u,hu,h1,hr,ha⟩:=h.2 j x hx;refine ⟨u,hu,h1,QA.held hι hh _ _ hr,?_⟩;cases hxa:x.a with
 | no=>trivial
 | ex=>rw [hxa] at ha; exact ha
 | own k e =>
  rw [hxa] at ha;rcases ha with ha | ⟨ow,h1,h2⟩
  ·exact .inl ha
  ·exact .inr ⟨ow,hΘ _ _ h1,h2⟩
theorem Q1.grow {t n:Nat} {H:Nat->Prop} {next:Nat} (h:Q1 B F0 D next w ι Θ t n H) (hs:w.heap.size<=w'.heap.size):Q1 B F0 D next w' ι Θ t n H :=
 ⟨fun b hb=>let ⟨h1,h2,h3⟩:=h.1 b hb; ⟨h1,Nat.lt_of_lt_of_le h2 hs,h3⟩,h.2⟩
theorem DA.grow (R:DA P O nt B F0 ga w0 D s a w ι Θ) (hb:∀ b,b<w.heap.size->w'.heap[b]?=w.heap[b]?) (hs:w.heap.size<=w'.heap.size) (hw:WA F0.b w0 w'):DA P O nt B F0 ga w0 D s a w' ι Θ:=by
 have hA:xA (JA ga ι Θ) (JA ga ι Θ) w w':=xA.grown hb fun _ _ _ h=>h
 have hB:xA (ZA ι Θ) (ZA ι Θ) w w':=xA.grown hb fun _ _ _ h=>h
 refine ⟨R.defers,R.size,fun t=>nA.held (Ix.Le.refl _) hA hB _ _ (R.env t),R.ann,fun t n r hr=>?_,fun t n b h=>?_,R.inj,fun k o h=>?_,R.tinj,R.apart,R.out,R.pin,hw,R.base,fun t n S h=>?_,fun t n H h=>(R.obs t n H h).grow hs,fun t=>nA.held (Ix.Le.refl _) hA hB _ _ (R.gen t),R.gann⟩
 ·obtain ⟨h0,b,cur,ty,h1,h2,h3,h4⟩:=R.rows t n r hr;exact ⟨h0,b,cur,ty,h1,(hb b (uA h2)).trans h2,h3.held (Ix.Le.refl _) hA (fun _ _ h=>h),h4⟩
 ·obtain ⟨h1,h2,h3⟩:=R.mine t n b h;exact ⟨h1,by omega,h3⟩
 ·obtain ⟨h1,h2,h3,h4,cur,h5,h6⟩:=R.tok k o h;exact ⟨h1,h2,h3,h4,cur,(hb _ (uA h5)).trans h5,h6⟩
 ·obtain ⟨p,H,h1,h2,h3,h4⟩:=R.objs t n S h;exact ⟨p,H,h1,h2,O.keep h3 (fun b hH=>hb b (O.lt h3 hH)) hs,h4.keep (fun t n b H h g=>⟨h,H,g⟩) fun x hx=>(hb _ (uA hx)).trans hx⟩
theorem XR {a:Act} {d t:Nat} {v:Value} (hd:d<a.tmps.size):(a.put (some d) v).tmps.getD t undef=if t=d then v else a.tmps.getD t undef:=by
 simp only [Act.put,yG,Array.getElem?_setIfInBounds];by_cases h:d=t
 ·subst h; simp [hd]
 ·have h':¬ t=d:=fun e=>h e.symm
  simp [h,h']
theorem DA.put (R:DA P O nt B F0 ga w0 D s a w ι Θ) {d:Nat} (hd:d<nt) {x:qA} {v:Value} (hx:nA ι (JA ga ι Θ) (ZA ι Θ) w x.v v) (ha:pE Θ x.a v):DA P O nt B F0 ga w0 D (s.put (some d) x) (a.put (some d) v) w ι Θ:=by
 have xh:d<a.tmps.size:=by rw [R.size]; exact hd
 refine ⟨R.defers,by simpa [Act.put] using R.size,fun t=>?_,fun t=>?_,R.rows,R.mine,R.inj,R.tok,R.tinj,R.apart,R.out,R.pin,R.kept,R.base,R.objs,R.obs,R.gen,R.gann⟩
 ·rw [XR xh];simp only [tA.put];by_cases h:t=d
  ·simp only [if_pos h]; exact hx
  ·simp only [if_neg h]; exact R.env t
 ·rw [XR xh];simp only [tA.put];by_cases h:t=d
  ·simp only [if_pos h]; exact ha
  ·simp only [if_neg h]; exact R.ann t
theorem DA.putN (R:DA P O nt B F0 ga w0 D s a w ι Θ) {d:Option Nat} (hd:∀ t,d=some t->t<nt) {x:qA} {v:Value} (hx:nA ι (JA ga ι Θ) (ZA ι Θ) w x.v v) (ha:pE Θ x.a v):DA P O nt B F0 ga w0 D (s.put d x) (a.put d v) w ι Θ:=by
 cases d with
 | none=>exact R
 | some d=>exact R.put (hd d rfl) hx ha
theorem DA.more (R:DA P O nt B F0 ga w0 D s a w ι Θ) {D':Nat->Prop} (h:∀ t,D t->D' t):DA P O nt B F0 ga w0 D' s a w ι Θ :=
 ⟨R.defers,R.size,R.env,R.ann,R.rows,fun t n b hb=>let ⟨h1,h2,h3⟩:=R.mine t n b hb; ⟨h1,h2,h3.imp id fun ⟨e,d⟩=>⟨e,h t d⟩⟩,R.inj,R.tok,R.tinj,R.apart,R.out,R.pin,R.kept,R.base,R.objs,fun t n H hb=>⟨(R.obs t n H hb).1,(R.obs t n H hb).2.imp id fun ⟨e,d⟩=>⟨e,h t d⟩⟩,R.gen,R.gann⟩
structure Ix.Lk (t n:Nat) (ι ι':Ix):Prop where
 f:∀ t' n' b,¬ (t'=t/\n'=n)->ι t' n'=some b->ι' t' n'=some b
 z:∀ t n b,ι t n=some b->ι'.z b=ι.z b
theorem QA.kill {t n:Nat} {ι ι':Ix} {av wa:Av} (hι:Ix.Lk t n ι ι') (h:xA av wa w w') (x:AV) (v:Value) (hr:QA ι av w x v):QA ι' wa w' (x.kill0 t n) v:=by
 cases x with
 | ptr t' n' o =>
  obtain ⟨b,hb,hv⟩:=hr;simp only [AV.kill0];split
  ·trivial
  ·rename_i db; exact ⟨b,hι.f _ _ _ db hb,hv⟩
 | ref t' n' sz o l c =>
  obtain ⟨b,hb,h1,c',h2,h3,hv⟩:=hr;simp only [AV.kill0];split
  ·trivial
  ·rename_i db; exact ⟨b,hι.f _ _ _ db hb,h1,c',h2,by rw [hι.z _ _ _ hb]; exact h3,hv⟩
 | mp t' n' =>
  obtain ⟨b,hb,hv⟩:=hr;simp only [AV.kill0];split
  ·trivial
  ·rename_i db; exact ⟨b,hι.f _ _ _ db hb,hv⟩
 | undef=>trivial
 | _=>exact xB.held h _ v hr
theorem zA.kill {t n:Nat} {ι ι':Ix} {av wa:Av} (hι:Ix.Lk t n ι ι') (h:xA av wa w w'):∀ (xs:List AV) (us:List Value),zA ι av w xs us->zA ι' wa w' (xs.map (AV.kill0 t n)) us
 | [],_,hr=>by simpa [zA] using hr
 | x :: r,_,hr=>by
  simp only [zA] at hr;obtain ⟨u,na,rfl,hx,h1,hr⟩:=hr;exact ⟨u,na,rfl,QA.kill hι h x u hx,h1,zA.kill hι h r na hr⟩
theorem OI.kill {t n:Nat} {ι ι':Ix} {av wa:Av} (hι:Ix.Lk t n ι ι') (h:xA av wa w w') (x:AV) (v:Value) (hr:OI ι av w x v):OI ι' wa w' (x.kill1 t n) v:=by
 cases x with
 | agg cs=>obtain ⟨us,hv,hc⟩:=hr; exact ⟨us,hv,zA.kill hι h _ _ hc⟩
 | ptr t' n' o =>
  have:=QA.kill hι h (.ptr t' n' o) v hr;show OI ι' wa w' (AV.kill0 t n (.ptr t' n' o)) v;simp only [AV.kill0] at this ⊢;split
  ·trivial
  ·rename_i db; rw [if_neg db] at this; exact this
 | ref t' n' sz o l c =>
  have:=QA.kill hι h (.ref t' n' sz o l c) v hr;show OI ι' wa w' (AV.kill0 t n (.ref t' n' sz o l c)) v;simp only [AV.kill0] at this ⊢;split
  ·trivial
  ·rename_i db; rw [if_neg db] at this; exact this
 | mp t' n' =>
  have:=QA.kill hι h (.mp t' n') v hr;show OI ι' wa w' (AV.kill0 t n (.mp t' n')) v;simp only [AV.kill0] at this ⊢;split
  ·trivial
  ·rename_i db; rw [if_neg db] at this; exact this
 | undef=>trivial
 | int=>exact QA.kill hι h (.int _ _) v hr
 | bool=>exact QA.kill hι h (.bool _) v hr
 | str=>exact QA.kill hι h (.str _) v hr
 | nilP=>exact QA.kill hι h .nilP v hr
 | ip=>exact QA.kill hι h (.ip _) v hr
 | sl n' l=>exact QA.kill hι h (.sl n' l) v hr
 | tup cs=>exact QA.kill hι h (.tup cs) v hr
 | bl cs=>exact QA.kill hι h (.bl cs) v hr
 | bp cs=>exact QA.kill hι h (.bp cs) v hr
 | fn f cs=>exact QA.kill hι h (.fn f cs) v hr
theorem zC.kill {t n:Nat} {ι ι':Ix} {av wa:Av} (hι:Ix.Lk t n ι ι') (h:xA av wa w w'):∀ (xs:List AV) (us:List Value),zC ι av w xs us->zC ι' wa w' (xs.map (AV.kill1 t n)) us
 | [],_,hr=>by simpa [zC] using hr
 | x :: r,_,hr=>by
  simp only [zC] at hr;obtain ⟨u,na,rfl,hx,hr⟩:=hr;exact ⟨u,na,rfl,OI.kill hι h x u hx,zC.kill hι h r na hr⟩
theorem IN.kill {t n:Nat} {ι ι':Ix} {av wa ZA avB':Av} (hι:Ix.Lk t n ι ι') (h:xA av wa w w') (hB:xA ZA avB' w w') (x:AV) (v:Value) (hr:IN ι av ZA w x v):IN ι' wa avB' w' (x.kill0 t n) v:=by
 cases x with
 | bp cs=>obtain ⟨b,off,hv,hc⟩:=hr; exact ⟨b,off,hv,XA.held h hB _ b off hc⟩
 | ptr t' n' o =>
  have:=QA.kill hι h (.ptr t' n' o) v hr;simp only [AV.kill0] at this ⊢;split
  ·trivial
  ·rename_i db; rw [if_neg db] at this; exact this
 | ref t' n' sz o l c =>
  have:=QA.kill hι h (.ref t' n' sz o l c) v hr;simp only [AV.kill0] at this ⊢;split
  ·trivial
  ·rename_i db; rw [if_neg db] at this; exact this
 | mp t' n' =>
  have:=QA.kill hι h (.mp t' n') v hr;simp only [AV.kill0] at this ⊢;split
  ·trivial
  ·rename_i db; rw [if_neg db] at this; exact this
 | undef=>trivial
 | int=>exact QA.kill hι h (.int _ _) v hr
 | bool=>exact QA.kill hι h (.bool _) v hr
 | str=>exact QA.kill hι h (.str _) v hr
 | nilP=>exact QA.kill hι h .nilP v hr
 | ip=>exact QA.kill hι h (.ip _) v hr
 | sl=>exact QA.kill hι h (.sl _ _) v hr
 | agg cs=>exact QA.kill hι h (.agg cs) v hr
 | tup cs=>exact QA.kill hι h (.tup cs) v hr
 | bl cs=>exact QA.kill hι h (.bl cs) v hr
 | fn f cs=>exact QA.kill hι h (.fn f cs) v hr
theorem mC.kill {t n:Nat} {ι ι':Ix} {av wa ZA avB':Av} (hι:Ix.Lk t n ι ι') (h:xA av wa w w') (hB:xA ZA avB' w w'):∀ (xs:List AV) (us:List Value),mC ι av ZA w xs us->mC ι' wa avB' w' (xs.map (AV.kill0 t n)) us
 | [],_,hr=>by simpa [mC] using hr
 | x :: r,_,hr=>by
  simp only [mC] at hr;obtain ⟨u,na,rfl,hx,hr⟩:=hr;exact ⟨u,na,rfl,IN.kill hι h hB x u hx,mC.kill hι h hB r na hr⟩
theorem nA.kill {t n:Nat} {ι ι':Ix} {av wa ZA avB':Av} (hι:Ix.Lk t n ι ι') (h:xA av wa w w') (hB:xA ZA avB' w w') (x:AV) (v:Value) (hr:nA ι av ZA w x v):nA ι' wa avB' w' (x.kill t n) v:=by
 cases x with
 | bp cs=>obtain ⟨b,off,hv,hc⟩:=hr; exact ⟨b,off,hv,XA.held h hB _ b off hc⟩
 | bl l =>
  obtain ⟨a,c,hv,hl,hu,hc⟩:=hr;refine ⟨a,c,hv,hl,hu,fun h0=>?_⟩;obtain ⟨b,off,ha,hr⟩:=hc h0;exact ⟨b,off,ha,NE.held h hB _ b off hr⟩
 | agg cs=>obtain ⟨us,hv,hc⟩:=hr; exact ⟨us,hv,zA.kill hι h _ _ hc⟩
 | tup cs=>obtain ⟨us,hv,hc⟩:=hr; exact ⟨us,hv,zC.kill hι h _ _ hc⟩
 | fn f cs=>obtain ⟨us,hv,hc⟩:=hr; exact ⟨us,hv,mC.kill hι h hB _ _ hc⟩
 | undef=>trivial
 | ptr t' n' o =>
  have:=QA.kill hι h (.ptr t' n' o) v hr;show nA ι' wa avB' w' (AV.kill0 t n (.ptr t' n' o)) v;simp only [AV.kill0] at this ⊢;split
  ·trivial
  ·rename_i db; rw [if_neg db] at this; exact this
 | ref t' n' sz o l c =>
  have:=QA.kill hι h (.ref t' n' sz o l c) v hr;show nA ι' wa avB' w' (AV.kill0 t n (.ref t' n' sz o l c)) v;simp only [AV.kill0] at this ⊢;split
  ·trivial
  ·rename_i db; rw [if_neg db] at this; exact this
 | mp t' n' =>
  have:=QA.kill hι h (.mp t' n') v hr;show nA ι' wa avB' w' (AV.kill0 t n (.mp t' n')) v;simp only [AV.kill0] at this ⊢;split
  ·trivial
  ·rename_i db; rw [if_neg db] at this; exact this
 | int=>exact QA.kill hι h (.int _ _) v hr
 | bool=>exact QA.kill hι h (.bool _) v hr
 | str=>exact QA.kill hι h (.str _) v hr
 | nilP=>exact QA.kill hι h .nilP v hr
 | ip=>exact QA.kill hι h (.ip _) v hr
 | sl=>exact QA.kill hι h (.sl _ _) v hr
theorem nO {v:Value} {x:AV} (h:mP v=some x) (av:Av) (w:World):xB av w x v/\v.oneCell'=true/\x.leaf=true/\(∀ n l,x=.sl n l->n=true/\v=.slice none 0 0):=by
 unfold mP at h;split at h <;> first
  | (injection h with h; subst h; simp [xB,Value.oneCell',AV.leaf]; done)
  | (cases h; done)
theorem aN {ι:Ix} {av ZA:Av} {w:World} {x:AV} {v:Value} (h:xB av w x v) (hx:x.leaf=true):nA ι av ZA w x v:=by
 cases x <;> first | exact h | (simp [AV.leaf] at hx; done) | (simp [xB] at h; done)
theorem dE {ι:Ix} {av:Av} {w:World} {x:AV} {v:Value} (h:xB av w x v):QA ι av w x v:=by
 cases x <;> first | exact h | simp [xB] at h
theorem dD {ι:Ix}:∀ {vs:List Value} {xs:List AV} (_:jE vs=some xs) (av:Av) (w:World),zA ι av w xs vs
 | [],_,h,_,_=>by injection h with h; subst h; rfl
 | v :: r,_,h,av,w=>by
  unfold jE at h;cases hv:mP v with
  | none=>rw [hv] at h; cases h
  | some x =>
   rw [hv] at h;cases hr:jE r with
   | none=>rw [hr] at h; cases h
   | some l =>
    rw [hr] at h;injection h with h;subst h;have h1:=nO hv av w;exact ⟨v,r,rfl,dE h1.1,h1.2.1,dD hr av w⟩
theorem ZT {v:Value} {x:AV} (h:BX v=some x) (ι:Ix) (av ZA:Av) (w:World):nA ι av ZA w x v:=by
 unfold BX at h;split at h
 ·rename_i cs;cases hc:jE cs.toList with
  | none=>rw [hc] at h; cases h
  | some l =>
   rw [hc] at h;injection h with h;subst h;exact ⟨cs,rfl,dD hc av w⟩
 ·have:=nO h av w;exact aN this.1 this.2.2.1
theorem I1 {v:Value} {b:Bool} {l:List (List AV)} (h:BX v=some (.sl b l)):b=true/\v=.slice none 0 0:=by
 unfold BX at h;split at h
 ·rename_i cs;cases hc:jE cs.toList with
  | none=>rw [hc] at h; cases h
  | some l=>rw [hc] at h; injection h with h; cases h
 ·exact (nO h (fun _ _=>False) default).2.2.2 _ _ rfl
theorem DA.opd (R:DA P O nt B F0 ga w0 D s a w ι Θ) {x:Operand} {y:GA} (h:opd x=some y):nA ι (JA ga ι Θ) (ZA ι Θ) w (y.get s) (a.eval x)/\pE Θ (y.an s) (a.eval x):=by
 unfold YtbhbeakhognieaaGreatDoor.opd at h;split at h
 ·injection h with h;subst h;exact ⟨R.env _,R.ann _⟩
 ·rename_i v;cases hc:BX v with
  | none=>rw [hc] at h; cases h
  | some x =>
   rw [hc] at h;injection h with h;subst h;refine ⟨ZT hc _ _ _ _,?_⟩;cases x with
   | sl b l =>
    obtain ⟨rfl,hv⟩:=I1 hc;exact ⟨none,0,hv⟩
   | _=>trivial
 ·injection h with h;subst h;exact ⟨⟨#[],rfl,rfl⟩,trivial⟩
 ·cases h
end
end
section
open Go Go.RowKit
section
variable {P:Program} {O:OB} {nt B:Nat} {F0:DH} {ga:Av} {w0:World} {D:Nat->Prop} {s:tA} {a:Act} {w w':World} {ι:Ix} {Θ:tE}
theorem lJ {t:TypeId} {b:Bool} (h:TD P t=some b) (w:World):(isAgg t).run P w=.ok b w:=by
 unfold TD at h;cases hu:P.underlying t with
 | none=>rw [hu] at h; cases h
 | some d =>
  rw [hu] at h;injection h with h;subst h;cases d <;> simp [isAgg,run_underlying hu]
theorem CA {t:TypeId} {z:Nat} (h:LA P t=some z) (w:World):(sizeOf t).run P w=.ok z w:=by
 unfold LA at h;cases hu:P.info? t with
 | none=>rw [hu] at h; cases h
 | some d =>
  rw [hu] at h;injection h with h;subst h;simp [sizeOf,typeInfo,hu]
theorem gC {t:TypeId} {l:List AV} (h:UD P t=some l) (w:World):∃ z i,P.info? t=some i/\i.zero=some z/\(zeroValue t).run P w=.ok z w/\jE z.cells.toList=some l:=by
 unfold UD at h;cases hu:P.info? t with
 | none=>rw [hu] at h; cases h
 | some d =>
  rw [hu] at h;cases hz:d.zero with
  | none=>simp [hz] at h
  | some z =>
   simp only [U,hz] at h;exact ⟨z,d,rfl,hz,by simp [zeroValue,typeInfo,hu,hz],h⟩
theorem wC:∀ {vs:List Value} {xs:List AV},jE vs=some xs->xs.length=vs.length
 | [],_,h=>by injection h with h; subst h; rfl
 | v :: r,_,h=>by
  unfold jE at h;cases hv:mP v with
  | none=>rw [hv] at h; cases h
  | some x =>
   rw [hv] at h;cases hr:jE r with
   | none=>rw [hr] at h; cases h
   | some l=>rw [hr] at h; injection h with h; subst h; simp [wC hr]
def LK (P:Program) (ga:Av) (a:Act) (w:World) (ι:Ix) (Θ:tE) (o:Oper) (x:qA):Prop :=
 ∃ v,(execOp a.eval o).run P w=.ok (.value v) w/\nA ι (JA ga ι Θ) (ZA ι Θ) w x.v v/\pE Θ x.a v
section
variable {av avb:Av}
include av avb
theorem cA {k:IntKind} {n:Int} {v:Value}:nA ι av avb w (.int k n) v ↔ v=.int k n:=by simp [nA,QA,xB]
theorem AA {b:Bool} {v:Value}:nA ι av avb w (.bool b) v ↔ v=.bool b:=by simp [nA,QA,xB]
theorem sC {b:ByteArray} {v:Value}:nA ι av avb w (.str b) v ↔ v=.string b:=by simp [nA,QA,xB]
theorem bQ {v:Value}:nA ι av avb w .nilP v ↔ v=.pointer none:=by simp [nA,QA,xB]
theorem aC {t n off:Nat} {v:Value}:nA ι av avb w (.ptr t n off) v ↔ ∃ b,ι t n=some b/\v=.pointer (some ⟨b,off,none⟩):=Iff.rfl
theorem OC {t n sz off len cap:Nat} {v:Value}:nA ι av avb w (.ref t n sz off len cap) v ↔ ∃ b,ι t n=some b/\len<=cap/\∃ c,cap<=c/\off + c * sz<=ι.z b/\v=.slice (some ⟨b,off,none⟩) len c:=Iff.rfl
theorem KE {cs:List AV} {v:Value}:nA ι av avb w (.ip cs) v ↔ ∃ b off,v=.pointer (some ⟨b,off,none⟩)/\WB av w cs b off:=by simp [nA,QA,xB]
theorem rB {nil:Bool} {l:List (List AV)} {v:Value}:nA ι av avb w (.sl nil l) v ↔ xB av w (.sl nil l) v:=Iff.rfl
theorem fP {cs:List AV} {v:Value}:nA ι av avb w (.agg cs) v ↔ ∃ us,v=.agg us/\zA ι av w cs us.toList:=Iff.rfl
theorem ZZ {cs:List AV} {v:Value}:nA ι av avb w (.tup cs) v ↔ ∃ us,v=.tuple us/\zC ι av w cs us.toList:=Iff.rfl
end
theorem NA {av:Av}:∀ {xs:List AV} {us:List Value},zA ι av w xs us->us.length=xs.length
 | [],_,h=>by simp only [zA] at h; subst h; rfl
 | x :: r,_,h=>by
  simp only [zA] at h;obtain ⟨u,na,rfl,_,_,h⟩:=h;simp [NA h]
theorem AB {av:Av}:∀ {xs:List AV} {us:List Value} (n:Nat),zA ι av w xs us->zA ι av w (xs.drop n) (us.drop n)
 | [],_,n,h=>by simp only [zA] at h; subst h; simp [zA]
 | x :: r,_,n,h=>by
  cases n with
  | zero=>exact h
  | succ n =>
   simp only [zA] at h;obtain ⟨u,na,rfl,_,_,h⟩:=h;exact AB n h
theorem qC {av:Av}:∀ {xs:List AV} {us:List Value} (n:Nat),zA ι av w xs us->zA ι av w (xs.take n) (us.take n)
 | [],_,n,h=>by simp only [zA] at h; subst h; simp [zA]
 | x :: r,_,n,h=>by
  cases n with
  | zero=>simp [zA]
  | succ n =>
   simp only [zA] at h;obtain ⟨u,na,rfl,h0,h1,h⟩:=h;exact ⟨u,na.take n,rfl,h0,h1,qC n h⟩
theorem LD {av:Av}:∀ {xs:List AV} {us:List Value} (_:zA ι av w xs us) {j:Nat} {x:AV},xs[j]?=some x->∃ u,us[j]?=some u/\u.oneCell'=true/\QA ι av w x u
 | [],_,_,_,_,hx=>by simp at hx
 | y :: r,_,h,j,x,hx=>by
  simp only [zA] at h;obtain ⟨u,na,rfl,h0,h1,h⟩:=h;cases j with
  | zero=>simp at hx; subst hx; exact ⟨u,rfl,h1,h0⟩
  | succ j=>exact LD h (j:=j) (by simpa using hx)
theorem GC {av:Av}:∀ {xs ys:List AV} {us vs:List Value},zA ι av w xs us->zA ι av w ys vs->zA ι av w (xs++ys) (us++vs)
 | [],_,_,_,h,h'=>by simp only [zA] at h; subst h; exact h'
 | x :: r,_,_,_,h,h'=>by
  simp only [zA] at h;obtain ⟨u,na,rfl,h0,h1,h⟩:=h;exact ⟨u,na++_,rfl,h0,h1,GC h h'⟩
theorem aB {av:Av}:∀ {xs:List AV} {us:List Value},IA av w xs us->zA ι av w xs us
 | [],_,h=>by simpa [IA,zA] using h
 | x :: r,_,h=>by
  simp only [IA] at h;obtain ⟨u,na,rfl,h0,h1,h⟩:=h;exact ⟨u,na,rfl,dE h0,h1,aB h⟩
theorem KD {av:Av}:∀ {cs:List AV} {b off:Nat},WB av w cs b off->∃ us,IA av w cs us/\∀ (j:Nat) (u:Value),us[j]?=some u->w.cell? ⟨b,off + j,none⟩=some u/\¬ av b (off + j)
 | [],_,_,_=>⟨[],rfl,fun j u h=>by simp at h⟩
 | x :: r,b,off,h=>by
  simp only [WB] at h;obtain ⟨⟨u,hc,hx,h1⟩,ha,hr⟩:=h;obtain ⟨us,hl,hj⟩:=KD hr;refine ⟨u :: us,⟨u,us,rfl,hx,h1,hl⟩,fun j v hv=>?_⟩;cases j with
  | zero=>simp at hv; subst hv; exact ⟨hc,ha⟩
  | succ j =>
   have:=hj j v (by simpa using hv);rw [show off + (j + 1)=off + 1 + j from by omega];exact this
theorem EI {av avb:Av}:∀ {cs:List AV} {b off:Nat},XA av avb w cs b off->∃ us,IA av w cs us/\∀ (j:Nat) (u:Value),us[j]?=some u->w.cell? ⟨b,off + j,none⟩=some u/\¬ avb b (off + j)
 | [],_,_,_=>⟨[],rfl,fun j u h=>by simp at h⟩
 | x :: r,b,off,h=>by
  simp only [XA] at h;obtain ⟨⟨u,hc,hx,h1⟩,ha,hr⟩:=h;obtain ⟨us,hl,hj⟩:=EI hr;refine ⟨u :: us,⟨u,us,rfl,hx,h1,hl⟩,fun j v hv=>?_⟩;cases j with
  | zero=>simp at hv; subst hv; exact ⟨hc,ha⟩
  | succ j =>
   have:=hj j v (by simpa using hv);rw [show off + (j + 1)=off + 1 + j from by omega];exact this
theorem sE {av:Av}:∀ {cs:List AV} {us:List Value} {b off:Nat},IA av w cs us->(∀ (j:Nat) (u:Value),us[j]?=some u->w.cell? ⟨b,off + j,none⟩=some u/\¬ av b (off + j))->WB av w cs b off
 | [],_,_,_,_,_=>by simp [WB]
 | x :: r,_,b,off,h,hj=>by
  simp only [IA] at h;obtain ⟨u,na,rfl,h0,h1,h⟩:=h;simp only [WB];have h2:=hj 0 u rfl;refine ⟨⟨u,h2.1,h0,h1⟩,h2.2,sE h fun j v hv=>?_⟩;have:=hj (j + 1) v (by simpa using hv);rw [show off + 1 + j=off + (j + 1) from by omega];exact this
theorem AE {av:Av}:∀ {cs ds:List AV} {b off:Nat},WB av w (cs++ds) b off ↔ WB av w cs b off/\WB av w ds b (off + cs.length)
 | [],ds,b,off=>by simp [WB]
 | x :: r,ds,b,off=>by
  simp only [List.cons_append,WB,AE (cs:=r),yz];rw [show off + (r.length + 1)=off + 1 + r.length from by omega];exact ⟨fun ⟨h1,h2,h3,h4⟩=>⟨⟨h1,h2,h3⟩,h4⟩,fun ⟨⟨h1,h2,h3⟩,h4⟩=>⟨h1,h2,h3,h4⟩⟩
theorem bB {av:Av}:∀ {l:List (List AV)} {b off:Nat},Rows av w l b off ↔ WB av w l.flatten b off
 | [],b,off=>by simp [Rows,WB]
 | cs :: r,b,off=>by
  simp only [Rows,yi,AE,bB (l:=r)]
theorem rE {av avb:Av}:∀ {cs ds:List AV} {b off:Nat},XA av avb w (cs++ds) b off ↔ XA av avb w cs b off/\XA av avb w ds b (off + cs.length)
 | [],ds,b,off=>by simp [XA]
 | x :: r,ds,b,off=>by
  simp only [List.cons_append,XA,rE (cs:=r),yz];rw [show off + (r.length + 1)=off + 1 + r.length from by omega];exact ⟨fun ⟨h1,h2,h3,h4⟩=>⟨⟨h1,h2,h3⟩,h4⟩,fun ⟨⟨h1,h2,h3⟩,h4⟩=>⟨h1,h2,h3,h4⟩⟩
theorem ZD {av avb:Av}:∀ {l:List (List AV)} {b off:Nat},NE av avb w l b off ↔ XA av avb w l.flatten b off
 | [],b,off=>by simp [NE,XA]
 | cs :: r,b,off=>by
  simp only [NE,yi,rE,ZD (l:=r)]
theorem EJ {sz:Nat}:∀ {l:List (List AV)} (_:∀ c∈l,c.length=sz) (k:Nat),l.flatten.drop (k * sz)=(l.drop k).flatten
 | [],_,k=>by simp
 | c :: r,h,k=>by
  cases k with
  | zero=>simp
  | succ k =>
   have hc:c.length=sz:=h c (by simp);rw [yi,List.drop_succ_cons,List.drop_append,hc,show (k + 1) * sz - sz=k * sz from by rw [yt]; omega,
    yD (by rw [hc,yt]; omega),List.nil_append]
   exact EJ (fun c hc=>h c (by simp [hc])) k
theorem KZ {t:TypeId} {agg:Bool} {z:Nat} (hA:TD P t=some agg) (hz:LA P t=some z) {av:Av} {cs:List AV} {us:Array Value} (h:zA ι av w cs us.toList) {off:Nat} {x:AV} {avb:Av}
  (hx:pC agg z (cs.drop off)=some x):∃ v,(part t us off).run P w=.ok v w/\nA ι av avb w x v:=by
 cases agg with
 | true =>
  simp only [pC,if_true] at hx;split at hx
  ·rename_i jb;injection hx with hx;subst hx;refine ⟨.agg (us.extract off (off + z)),by simp [part,lJ hA,CA hz],_,rfl,?_⟩;have:=qC z (AB off h);have he:(us.extract off (off + z)).toList=(us.toList.drop off).take z:=by
    rw [Array.toList_extract,List.extract_eq_take_drop,Nat.add_sub_cancel_left]
   rw [he];exact this
  ·cases hx
 | false =>
  simp only [pC,yq,if_false,yj,Nat.add_zero] at hx;obtain ⟨u,hu,h1,hr⟩:=LD h hx;have jj:us[off]?=some u:=by simpa using hu
  refine ⟨u,by simp [part,lJ hA,jj],?_⟩;cases x <;> first | exact hr | (simp [QA,xB] at hr; obtain ⟨na,rfl,_⟩:=hr; simp [Value.oneCell'] at h1) | (simp [QA,xB] at hr)
end
end
section
open Go Go.RowKit
section
variable {P:Program} {O:OB} {nt B:Nat} {F0:DH} {ga:Av} {w0:World} {D:Nat->Prop} {s:tA} {a:Act} {w w':World} {ι:Ix} {Θ:tE} {o:Oper}
theorem nW {av avb:Av} {x:AV} {u:Value} (h:QA ι av w x u) (h1:u.oneCell'=true):nA ι av avb w x u:=by
 cases x <;> first | exact h | (simp [QA,xB] at h; obtain ⟨na,rfl,_⟩:=h; simp [Value.oneCell'] at h1; done) | (simp [QA,xB] at h; done)
theorem Z0 (R:DA P O nt B F0 ga w0 D s a w ι Θ) {X:Operand} {y:GA} (h:opd X=some y) (ho:o.op=.move X\/o.op=.assign X):LK P ga a w ι Θ o ⟨y.get s,y.an s⟩ :=
 ⟨a.eval X,by rcases ho with ho | ho <;> simp [execOp,ho],(R.opd h).1,(R.opd h).2⟩
theorem X0 (R:DA P O nt B F0 ga w0 D s a w ι Θ) {C X Y:Operand} {c x y:GA} (hc:opd C=some c) (hx:opd X=some x) (hy:opd Y=some y) (ho:o.op=.pick C X Y) {t:Bool} (ht:c.get s=.bool t) :
  LK P ga a w ι Θ o (if t then ⟨x.get s,x.an s⟩ else ⟨y.get s,y.an s⟩):=by
 have h:=(R.opd hc).1;rw [ht,AA] at h;cases t with
 | true=>exact ⟨a.eval X,by simp [execOp,ho,h,asBool],(R.opd hx).1,(R.opd hx).2⟩
 | false=>exact ⟨a.eval Y,by simp [execOp,ho,h,asBool],(R.opd hy).1,(R.opd hy).2⟩
theorem uB.rep {av:Av} {r:List qA} {cur:Array Value} (h:uB ι Θ av w r cur):zA ι av w (r.map (·.v)) (cur.toList.take r.length):=by
 obtain ⟨hl,hj⟩:=h;obtain ⟨l⟩:=cur;simp only [yu] at hl;simp only [List.getElem?_toArray] at hj;simp only
 induction r generalizing l with
 | nil=>rfl
 | cons x r ih =>
  cases l with
  | nil=>simp at hl
  | cons u us =>
   obtain ⟨u',hu,h1,hr,_⟩:=hj 0 x rfl;simp at hu;subst hu;exact ⟨_,us.take r.length,rfl,hr,h1,ih us (by simpa using hl) fun j y hy=>hj (j + 1) y hy⟩
theorem tJ {t:TypeId} {agg:Bool} {z:Nat} (hA:TD P t=some agg) (hz:LA P t=some z) {av avb:Av} {cs:List AV} {us:List Value} (h:zA ι av w cs us) {b off:Nat} (oc:∀ (j:Nat) (u:Value),us[j]?=some u->w.cell? ⟨b,off + j,none⟩=some u)
  {x:AV} (hx:pC agg z cs=some x):∃ v,(loadVar t ⟨b,off,none⟩).run P w=.ok v w/\nA ι av avb w x v/\(agg=false->w.cell? ⟨b,off,none⟩=some v):=by
 cases agg with
 | true =>
  simp only [pC,if_true] at hx;split at hx
  ·rename_i jb;injection hx with hx;subst hx;have da:=NA h;have hl:(us.take z).length=z:=by rw [yc,da]; omega
   have hr:=run_loadCells_list (P:=P) w ⟨b,off,none⟩ (us.take z) (fun j v hv=>by
    rw [Addr.add_lit];refine oc j v ?_;rw [ym] at hv;split at hv
    ·exact hv
    ·cases hv)
   rw [hl] at hr;exact ⟨.agg (us.take z).toArray,by simp [loadVar,lJ hA,CA hz,hr],⟨_,rfl,qC z h⟩,fun h=>by cases h⟩
  ·cases hx
 | false =>
  simp only [pC,yq,if_false] at hx;obtain ⟨u,hu,h1,hr⟩:=LD h hx;have hc:=oc 0 u hu;rw [Nat.add_zero] at hc;refine ⟨u,by simp [loadVar,lJ hA,hc],nW hr h1,fun _=>hc⟩
theorem J0 (R:DA P O nt B F0 ga w0 D s a w ι Θ) {t:TypeId} {agg:Bool} {z:Nat} (hA:TD P t=some agg) (hz:LA P t=some z) {X:Operand} {y:GA} (h:opd X=some y) (ho:o.op=.load t X) {cl:Cl} {call} {x:qA} {e:wB}
  (hr:(K.load cl agg z y).run call s=some (x,e)):e=.none/\LK P ga a w ι Θ o x:=by
 have hX:=(R.opd h).1;simp only [K.run] at hr;split at hr
 ·rename_i t' n off hy;rw [hy,aC] at hX;obtain ⟨b,hb,hv⟩:=hX;split at hr
  ·cases hm:s.mem t' n with
   | none=>rw [hm] at hr; cases hr
   | some r =>
    rw [hm,U] at hr;obtain ⟨de,b',cur,ty,ra,ba,ja,_⟩:=R.rows t' n r hm;rw [hb] at ra;injection ra with ra;subst ra;have ab:∀ (j:Nat) (u:Value),((cur.toList.take r.length).drop off)[j]?=some u->w.cell? ⟨b,off + j,none⟩=some u:=fun j u hu=>by
     rw [cell_of_row w b (off + j) cur ty (0,0) ba];rw [yj,ym] at hu;split at hu
     ·simpa using hu
     ·cases hu
    cases hl:bC agg z off r with
    | none=>rw [hl] at hr; cases hr
    | some y' =>
     rw [hl] at hr;injection hr with hr;injection hr with h1 h2;subst h1; subst h2;refine ⟨rfl,?_⟩;have mb:=AB off ja.rep;have hi:pC agg z ((r.map (·.v)).drop off)=some y'.v:=by
      cases agg with
      | true =>
       simp only [bC,if_true] at hl;split at hl
       ·rename_i jb;injection hl with hl;subst hl;simp only [pC,if_true,yg,yv];rw [if_pos (by omega)];simp [List.map_take,List.map_drop]
       ·cases hl
      | false =>
       simp only [bC,yq,if_false] at hl;simp [pC,yj,hl]
     obtain ⟨v,aa,hS,hc⟩:=tJ (avb:=ZA ι Θ) hA hz mb ab hi;refine ⟨v,by simp [execOp,ho,Instr.loadAt,Instr.sureAddr,hv,aa],hS,?_⟩;cases agg with
     | true =>
      simp only [bC,if_true] at hl;split at hl
      ·injection hl with hl; subst hl; trivial
      ·cases hl
     | false =>
      simp only [bC,yq,if_false] at hl;obtain ⟨u,hu,_,_,ha⟩:=ja.2 off y' hl;have h3:=hc rfl;rw [cell_of_row w b off cur ty (0,0) ba,hu] at h3;injection h3 with h3;subst h3;exact ha
  ·cases hr
 ·rename_i cs hy;rw [hy,KE] at hX;obtain ⟨b,off,hv,ig⟩:=hX;obtain ⟨us,hl,oc⟩:=KD ig;split at hr
  ·cases hr
  ·cases hi:pC agg z cs with
   | none=>rw [hi] at hr; cases hr
   | some x' =>
    rw [hi] at hr;injection hr with hr;injection hr with h1 h2;subst h1; subst h2;obtain ⟨v,aa,hS,_⟩:=tJ (avb:=ZA ι Θ) hA hz (aB (ι:=ι) hl) (fun j u hu=>(oc j u hu).1) hi;exact ⟨rfl,v,by simp [execOp,ho,Instr.loadAt,Instr.sureAddr,hv,aa],hS,trivial⟩
 ·rename_i cs hy;rw [hy] at hX;obtain ⟨b,off,hv,ig⟩:=hX;obtain ⟨us,hl,oc⟩:=EI ig;split at hr
  ·cases hr
  ·cases hi:pC agg z cs with
   | none=>rw [hi] at hr; cases hr
   | some x' =>
    rw [hi] at hr;injection hr with hr;injection hr with h1 h2;subst h1; subst h2;obtain ⟨v,aa,hS,_⟩:=tJ (avb:=ZA ι Θ) hA hz (aB (ι:=ι) hl) (fun j u hu=>(oc j u hu).1) hi;exact ⟨rfl,v,by simp [execOp,ho,Instr.loadAt,Instr.sureAddr,hv,aa],hS,trivial⟩
 ·cases hr
theorem UG (a b:ByteArray):(a.toList == b.toList)=decide (a=b):=by
 rw [ByteArray.toList_eq,ByteArray.toList_eq];obtain ⟨⟨x⟩⟩:=a;obtain ⟨⟨y⟩⟩:=b;rw [Bool.eq_iff_iff];simp
theorem FA {op:BinOp} {t t':TypeId} {X Y:Operand} {u v r:Value} (ho:o.op=.binOp op t X Y t') (hX:a.eval X=u) (hY:a.eval Y=v) (hu:u.oneCell'=true) (hn:u≠.nilIface) (hv:(Go.binOp op t u v).run P w=.ok r w):(execOp a.eval o).run P w=.ok (.value r) w:=by
 have hg:(eqGuard op t X Y u v).run P w=.ok () w:=by
  unfold eqGuard;cases u <;> first | exact absurd rfl hn | (simp [Value.oneCell'] at hu; done) | (simp; done) | (split <;> simp; done)
 simp [execOp,ho,hX,hY,hg,hv]
theorem K0 (R:DA P O nt B F0 ga w0 D s a w ι Θ) {mx:Bool} {ts:Array TypeId} {X Y:Operand} {x y:GA} (hx:opd X=some x) (hy:opd Y=some y) (ho:o.op=.call { callee:=.builtin (if mx then .max else .min),args:=#[X,Y],argTypes:=ts }) {v:AV} (hr:mmC mx (x.get s) (y.get s)=some v) :
  LK P ga a w ι Θ o ⟨v,.no⟩:=by
 have hX:=(R.opd hx).1;have hY:=(R.opd hy).1;unfold mmC at hr;split at hr
 ·rename_i k n k' n' e1 e2;rw [e1,cA] at hX;rw [e2,cA] at hY;split at hr
  ·rename_i hk;subst hk;injection hr with hr;subst hr;cases mx with
   | true =>
    have e:(if n' > n then n' else n)=max n n':=by rw [Int.max_def]; split <;> split <;> omega
    exact ⟨.int k (max n n'),by simp [execOp,ho,resolve,invoke,builtin,Builtin.max_,Builtin.max2,hX,hY,e],by simp [cA],trivial⟩
   | false =>
    have e:(if n'<n then n' else n)=min n n':=by rw [Int.min_def]; split <;> split <;> omega
    exact ⟨.int k (min n n'),by simp [execOp,ho,resolve,invoke,builtin,Builtin.min_,Builtin.min2,hX,hY,e],by simp [cA],trivial⟩
  ·cases hr
 ·cases hr
theorem K6 (R:DA P O nt B F0 ga w0 D s a w ι Θ) {op:BinOp} {t t':TypeId} {bl:Bool} (ht:bl=true->P.underlying t=some .bool) {X Y:Operand} {x y:GA} (hx:opd X=some x) (hy:opd Y=some y) (ho:o.op=.binOp op t X Y t') {v:AV} (hr:fY op bl (x.get s) (y.get s)=some v) :
  LK P ga a w ι Θ o ⟨v,.no⟩:=by
 have hX:=(R.opd hx).1;have hY:=(R.opd hy).1;unfold fY at hr;split at hr
 ·rename_i k n k' n' e1 e2;rw [e1,cA] at hX;rw [e2,cA] at hY;by_cases ud:op=.shl
  ·subst ud;simp only at hr;split at hr
   ·rename_i h0;injection hr with hr;subst hr;exact ⟨.int k (k.wrap (n * 2 ^ shN k n')),FA ho hX hY rfl (by simp) (by simp [Go.binOp,Op.shift,shN,Int.not_lt.2 h0]),by rw [cA],trivial⟩
   ·cases hr
  by_cases hsr:op=.shr
  ·subst hsr;simp only at hr;split at hr
   ·rename_i h0;injection hr with hr;subst hr;exact ⟨.int k (n.fdiv (2 ^ shN k n')),FA ho hX hY rfl (by simp) (by simp [Go.binOp,Op.shift,shN,Int.not_lt.2 h0]),by rw [cA],trivial⟩
   ·cases hr
  split at hr
  ·exact absurd rfl ud
  ·exact absurd rfl hsr
  split at hr
  ·rename_i hk;subst hk;cases op <;> simp only at hr
   case and=>injection hr with hr; subst hr; exact ⟨_,FA ho hX hY rfl (by simp) (by simp only [Go.binOp,ne_eq,not_true_eq_false,if_false]; rfl),by rw [jN,cA],trivial⟩
   case or=>injection hr with hr; subst hr; exact ⟨_,FA ho hX hY rfl (by simp) (by simp only [Go.binOp,ne_eq,not_true_eq_false,if_false]; rfl),by rw [jN,cA],trivial⟩
   case xor=>injection hr with hr; subst hr; exact ⟨_,FA ho hX hY rfl (by simp) (by simp only [Go.binOp,ne_eq,not_true_eq_false,if_false]; rfl),by rw [jN,cA],trivial⟩
   case andNot=>injection hr with hr; subst hr; exact ⟨_,FA ho hX hY rfl (by simp) (by simp only [Go.binOp,ne_eq,not_true_eq_false,if_false]; rfl),by rw [jN,cA],trivial⟩
   case add=>injection hr with hr; subst hr; exact ⟨.int k (k.wrap (n + n')),FA ho hX hY rfl (by simp) (by simp [Go.binOp,Op.intArith]),by rw [cA],trivial⟩
   case sub=>injection hr with hr; subst hr; exact ⟨.int k (k.wrap (n - n')),FA ho hX hY rfl (by simp) (by simp [Go.binOp,Op.intArith]),by rw [cA],trivial⟩
   case mul=>injection hr with hr; subst hr; exact ⟨.int k (k.wrap (n * n')),FA ho hX hY rfl (by simp) (by simp [Go.binOp,Op.intArith]),by rw [cA],trivial⟩
   case quo =>
    split at hr
    ·cases hr
    ·rename_i h0;injection hr with hr;subst hr;exact ⟨.int k (k.wrap (n.tdiv n')),FA ho hX hY rfl (by simp) (by simp [Go.binOp,Op.intDiv,h0]),by rw [cA],trivial⟩
   case rem =>
    split at hr
    ·cases hr
    ·rename_i h0;injection hr with hr;subst hr;exact ⟨.int k (n.tmod n'),FA ho hX hY rfl (by simp) (by simp [Go.binOp,Op.intDiv,h0]),by rw [cA],trivial⟩
   case eql=>injection hr with hr; subst hr; exact ⟨.bool (n == n'),FA ho hX hY rfl (by simp) (by simp [Go.binOp,Op.intCmp]),AA.2 (congrArg Value.bool (by first | rfl | (rw [Bool.eq_iff_iff]; simp))),trivial⟩
   case neq=>injection hr with hr; subst hr; exact ⟨.bool (n != n'),FA ho hX hY rfl (by simp) (by simp [Go.binOp,Op.intCmp]),AA.2 (congrArg Value.bool (by first | rfl | (rw [Bool.eq_iff_iff]; simp))),trivial⟩
   case lss=>injection hr with hr; subst hr; exact ⟨.bool (decide (n<n')),FA ho hX hY rfl (by simp) (by simp [Go.binOp,Op.intCmp]),AA.2 (congrArg Value.bool (by first | rfl | (rw [Bool.eq_iff_iff]; simp))),trivial⟩
   case leq=>injection hr with hr; subst hr; exact ⟨.bool (decide (n<=n')),FA ho hX hY rfl (by simp) (by simp [Go.binOp,Op.intCmp]),AA.2 (congrArg Value.bool (by first | rfl | (rw [Bool.eq_iff_iff]; simp))),trivial⟩
   case gtr=>injection hr with hr; subst hr; exact ⟨.bool (decide (n > n')),FA ho hX hY rfl (by simp) (by simp [Go.binOp,Op.intCmp]),AA.2 (congrArg Value.bool (by first | rfl | (rw [Bool.eq_iff_iff]; simp))),trivial⟩
   case geq=>injection hr with hr; subst hr; exact ⟨.bool (decide (n>=n')),FA ho hX hY rfl (by simp) (by simp [Go.binOp,Op.intCmp]),AA.2 (congrArg Value.bool (by first | rfl | (rw [Bool.eq_iff_iff]; simp))),trivial⟩
   all_goals cases hr
  ·cases hr
 ·rename_i n n' e1 e2;rw [e1,sC] at hX;rw [e2,sC] at hY;cases op <;> simp only at hr
  case add =>
   split at hr
   ·rename_i jb;injection hr with hr;subst hr;have hm:IntKind.i64.max=9223372036854775807:=by decide
    have:¬ ((n.size + n'.size:Nat):Int) > IntKind.i64.max:=by rw [hm]; omega
    exact ⟨.string (n++n'),FA ho hX hY rfl (by simp) (by simp only [Go.binOp,Op.stringOp,if_neg this]; simp),by rw [sC],trivial⟩
   ·cases hr
  case eql=>injection hr with hr; subst hr; exact ⟨.bool (n.toList == n'.toList),FA ho hX hY rfl (by simp) (by simp [Go.binOp,Op.stringOp]),AA.2 (congrArg Value.bool (by first | rfl | (rw [UG]))),trivial⟩
  case neq=>injection hr with hr; subst hr; exact ⟨.bool (!(n.toList == n'.toList)),FA ho hX hY rfl (by simp) (by simp [Go.binOp,Op.stringOp]),AA.2 (congrArg Value.bool (by first | rfl | (rw [UG]))),trivial⟩
  case lss=>injection hr with hr; subst hr; exact ⟨.bool (Op.bytesLess n.toList n'.toList),FA ho hX hY rfl (by simp) (by simp [Go.binOp,Op.stringOp]),AA.2 (congrArg Value.bool (by first | rfl | (rw [UG]))),trivial⟩
  case gtr=>injection hr with hr; subst hr; exact ⟨.bool (!(Op.bytesLess n.toList n'.toList||n.toList == n'.toList)),FA ho hX hY rfl (by simp) (by simp [Go.binOp,Op.stringOp]),by rw [AA,UG],trivial⟩
  case leq=>injection hr with hr; subst hr; exact ⟨.bool (Op.bytesLess n.toList n'.toList||n.toList == n'.toList),FA ho hX hY rfl (by simp) (by simp [Go.binOp,Op.stringOp]),by rw [AA,UG],trivial⟩
  case geq=>injection hr with hr; subst hr; exact ⟨.bool (!Op.bytesLess n.toList n'.toList),FA ho hX hY rfl (by simp) (by simp [Go.binOp,Op.stringOp]),by rw [AA],trivial⟩
  all_goals cases hr
 ·rename_i n n' e1 e2;rw [e1,AA] at hX;rw [e2,AA] at hY;split at hr
  case isFalse=>cases hr
  rename_i hb;have hq:(Op.equal t (.bool n) (.bool n')).run P w=.ok (n == n') w:=run_equalIn_bool' w 9999 t n n' (ht hb);cases op <;> simp only at hr
  case eql=>injection hr with hr; subst hr; exact ⟨.bool (n == n'),FA ho hX hY rfl (by simp) (by simp [Go.binOp,hq]),by rw [AA],trivial⟩
  case neq=>injection hr with hr; subst hr; exact ⟨.bool (!(n == n')),FA ho hX hY rfl (by simp) (by simp [Go.binOp,hq]),by rw [AA],trivial⟩
  all_goals cases hr
 ·cases hr
end
end
section
open Go Go.RowKit
section
variable {P:Program} {O:OB} {nt B:Nat} {F0:DH} {ga:Av} {w0:World} {D:Nat->Prop} {s:tA} {a:Act} {w w':World} {ι:Ix} {Θ:tE} {o:Oper}
theorem CE {av:Av}:∀ {cs:List AV} {b off:Nat} (k:Nat),WB av w cs b off->WB av w (cs.drop k) b (off + k)
 | [],_,_,k,_=>by simp [WB]
 | x :: r,b,off,0,h=>h
 | x :: r,b,off,k + 1,h=>by
  simp only [WB] at h;rw [List.drop_succ_cons,show off + (k + 1)=off + 1 + k from by omega];exact CE k h.2.2
theorem aE {av avb:Av}:∀ {cs:List AV} {b off:Nat} (k:Nat),XA av avb w cs b off->XA av avb w (cs.drop k) b (off + k)
 | [],_,_,k,_=>by simp [XA]
 | x :: r,b,off,0,h=>h
 | x :: r,b,off,k + 1,h=>by
  simp only [XA] at h;rw [List.drop_succ_cons,show off + (k + 1)=off + 1 + k from by omega];exact aE k h.2.2
section
variable (R:DA P O nt B F0 ga w0 D s a w ι Θ) {t:TypeId} {fs:Array Field} {f:Field} {i z:Nat}
include R t fs f i z
theorem TX (ht:P.underlying t=some (.struct fs)) (hf:fs[i]?=some f) (hz:LA P f.type=some (z + 1)) {X:Operand} {y:GA} (h:opd X=some y) (ho:o.op=.fieldAddr t X i)
  {call} {x:qA} {e:wB} (hr:(K.faddr f.offset y).run call s=some (x,e)):e=.none/\LK P ga a w ι Θ o x:=by
 have hX:=(R.opd h).1;have aa:∀ b off,a.eval X=.pointer (some ⟨b,off,none⟩)->(execOp a.eval o).run P w=.ok (.value (.pointer (some ⟨b,off + f.offset,none⟩))) w:=fun b off hv=>by
  simp [execOp,ho,Instr.fieldAt,run_underlying ht,hf,hv,Instr.sureAddr,fieldPlace,CA hz,Addr.add_lit]
 simp only [K.run] at hr;split at hr
 ·rename_i t' n off hy;injection hr with hr; injection hr with h1 h2; subst h1; subst h2;rw [hy,aC] at hX;obtain ⟨b,hb,hv⟩:=hX;exact ⟨rfl,_,aa _ _ hv,⟨b,hb,rfl⟩,trivial⟩
 ·rename_i cs hy;injection hr with hr; injection hr with h1 h2; subst h1; subst h2;rw [hy,KE] at hX;obtain ⟨b,off,hv,hc⟩:=hX;exact ⟨rfl,_,aa _ _ hv,by rw [KE]; exact ⟨b,_,rfl,CE _ hc⟩,trivial⟩
 ·rename_i cs hy;injection hr with hr; injection hr with h1 h2; subst h1; subst h2;rw [hy] at hX;obtain ⟨b,off,hv,hc⟩:=hX;exact ⟨rfl,_,aa _ _ hv,⟨b,_,rfl,aE _ hc⟩,trivial⟩
 ·cases hr
theorem UX {agg:Bool} (ht:P.underlying t=some (.struct fs)) (hf:fs[i]?=some f) (hA:TD P f.type=some agg) (hz:LA P f.type=some z) {X:Operand} {y:GA} (h:opd X=some y) (ho:o.op=.field t X i)
  {call} {x:qA} {e:wB} (hr:(K.field agg f.offset z y).run call s=some (x,e)):e=.none/\LK P ga a w ι Θ o x:=by
 have hX:=(R.opd h).1;simp only [K.run] at hr;split at hr
 ·rename_i cs hy;rw [hy,fP] at hX;obtain ⟨us,hv,hc⟩:=hX;cases hl:pC agg z (cs.drop f.offset) with
  | none=>rw [hl] at hr; cases hr
  | some v =>
   rw [hl] at hr;injection hr with hr; injection hr with h1 h2; subst h1; subst h2;obtain ⟨u,hu,hS⟩:=KZ (avb:=ZA ι Θ) hA hz hc hl;exact ⟨rfl,u,by simp [execOp,ho,Instr.field,run_underlying ht,hf,hv,asAgg,hu],hS,trivial⟩
 ·cases hr
end
theorem XE {v:AV} {n:Nat} (h:nL v=some n):∃ k i,v=.int k i/\0<=i/\i.toNat=n:=by
 unfold nL at h;split at h
 ·rename_i k i;split at h
  ·injection h with h; exact ⟨k,i,rfl,by assumption,h⟩
  ·cases h
 ·cases h
theorem ZX {av:Av} {l:List (List AV)} {b off sz k:Nat} {cs:List AV} (h:Rows av w l b off) (hu:∀ c∈l,c.length=sz) (hk:l[k]?=some cs):WB av w cs b (off + k * sz):=by
 have h1:=CE (k * sz) (bB.1 h);rw [EJ hu] at h1;have eb:k<l.length:=(yk.1 hk).1;have ci:l[k]=cs:=(yk.1 hk).2;rw [yI eb,yi,AE,ci] at h1;exact h1.1
theorem WW {av avb:Av} {l:List (List AV)} {b off sz k:Nat} {cs:List AV} (h:NE av avb w l b off) (hu:∀ c∈l,c.length=sz) (hk:l[k]?=some cs):XA av avb w cs b (off + k * sz):=by
 have h1:=aE (k * sz) (ZD.1 h);rw [EJ hu] at h1;have eb:k<l.length:=(yk.1 hk).1;have ci:l[k]=cs:=(yk.1 hk).2;rw [yI eb,yi,rE,ci] at h1;exact h1.1
section
variable (R:DA P O nt B F0 ga w0 D s a w ι Θ)
include R
theorem IX {t e':TypeId} {z:Nat} (ht:P.underlying t=some (.slice e')) (hz:LA P e'=some z) {X I:Operand} {y i:GA} (h:opd X=some y) (hi:opd I=some i) (ho:o.op=.indexAddr t X I)
  {call} {x:qA} {e:wB} (hr:(K.iaddr z y i).run call s=some (x,e)):e=.none/\LK P ga a w ι Θ o x:=by
 have hX:=(R.opd h).1;have hI:=(R.opd hi).1;simp only [K.run] at hr;split at hr
 ·rename_i k hk;obtain ⟨kk,n,bc,h0,hn⟩:=XE hk;rw [bc,cA] at hI;have aa:∀ b off len cap,a.eval X=.slice (some ⟨b,off,none⟩) len cap->k<len->(execOp a.eval o).run P w=.ok (.value (.pointer (some ⟨b,off + k * z,none⟩))) w:=fun b off len cap hv eb=>by
   have hc:0<=n/\n<(len:Int):=⟨h0,by omega⟩;simp [execOp,ho,Instr.indexAt,run_underlying ht,hv,hI,asIntOf,hc,CA hz,Addr.add_lit,hn]
  split at hr
  ·rename_i nl l hy;rw [hy,rB] at hX;simp only [xB] at hX;obtain ⟨A,c,hv,hc,hu,ik,hs⟩:=hX;cases hl:l[k]? with
   | none=>rw [hl] at hr; cases hr
   | some cs =>
    rw [hl,U] at hr;split at hr
    ·rename_i ig;injection hr with hr; injection hr with h1 h2; subst h1; subst h2;have eb:k<l.length:=(yk.1 hl).1;have ee:cs∈l:=List.mem_of_getElem? hl;have hnf:nl=false:=by
      cases nl with
      | false=>rfl
      | true=>have:=(ik rfl).2.1; omega
     obtain ⟨b,off,rfl,ja⟩:=(hs hnf).2 (by omega);exact ⟨rfl,_,aa _ _ _ _ hv eb,by rw [KE]; exact ⟨b,_,rfl,ZX ja (fun c hc=>(hu c hc cs ee).trans ig) hl⟩,trivial⟩
    ·cases hr
  ·rename_i l hy;rw [hy] at hX;obtain ⟨a',c,hv,hc,hu,hs⟩:=hX;cases hl:l[k]? with
   | none=>rw [hl] at hr; cases hr
   | some cs =>
    rw [hl,U] at hr;split at hr
    ·rename_i ig;injection hr with hr; injection hr with h1 h2; subst h1; subst h2;have eb:k<l.length:=(yk.1 hl).1;have ee:cs∈l:=List.mem_of_getElem? hl;obtain ⟨b,off,rfl,ja⟩:=hs (by omega);exact ⟨rfl,_,aa _ _ _ _ hv eb,⟨b,_,rfl,WW ja (fun c hc=>(hu c hc cs ee).trans ig) hl⟩,trivial⟩
    ·cases hr
  ·rename_i t' n' sz off ln cap hy;rw [hy,OC] at hX;obtain ⟨b,hb,jb,_,_,_,hv⟩:=hX;split at hr
   ·rename_i eb;injection hr with hr; injection hr with h1 h2; subst h1; subst h2;obtain ⟨eb,rfl⟩:=eb;exact ⟨rfl,_,aa _ _ _ _ hv eb,⟨b,hb,rfl⟩,trivial⟩
   ·cases hr
  ·cases hr
 ·cases hr
theorem RX {t e':TypeId} {n z:Nat} (ht:P.underlying t=some (.array n e')) (hz:LA P e'=some z) {X I:Operand} {y i:GA} (h:opd X=some y) (hi:opd I=some i) (ho:o.op=.indexAddr t X I)
  {call} {x:qA} {e:wB} (hr:(K.aaddr n z y i).run call s=some (x,e)):e=.none/\LK P ga a w ι Θ o x:=by
 have hX:=(R.opd h).1;have hI:=(R.opd hi).1;simp only [K.run] at hr;split at hr
 ·rename_i k hk;obtain ⟨kk,m,bc,h0,hn⟩:=XE hk;rw [bc,cA] at hI;split at hr
  ·rename_i eb;have aa:∀ b off,a.eval X=.pointer (some ⟨b,off,none⟩)->(execOp a.eval o).run P w=.ok (.value (.pointer (some ⟨b,off + k * z,none⟩))) w:=fun b off hv=>by
    have hc:0<=m/\m<(n:Int):=⟨h0,by omega⟩;simp [execOp,ho,Instr.indexAt,run_underlying ht,hv,hI,asIntOf,hc,Instr.sureAddr,CA hz,Addr.add_lit,hn]
   split at hr
   ·rename_i t' n' off hy;injection hr with hr; injection hr with h1 h2; subst h1; subst h2;rw [hy,aC] at hX;obtain ⟨b,hb,hv⟩:=hX;exact ⟨rfl,_,aa _ _ hv,⟨b,hb,rfl⟩,trivial⟩
   ·rename_i cs hy;injection hr with hr; injection hr with h1 h2; subst h1; subst h2;rw [hy,KE] at hX;obtain ⟨b,off,hv,hc⟩:=hX;exact ⟨rfl,_,aa _ _ hv,by rw [KE]; exact ⟨b,_,rfl,CE _ hc⟩,trivial⟩
   ·rename_i cs hy;injection hr with hr; injection hr with h1 h2; subst h1; subst h2;rw [hy] at hX;obtain ⟨b,off,hv,hc⟩:=hX;exact ⟨rfl,_,aa _ _ hv,⟨b,_,rfl,aE _ hc⟩,trivial⟩
   ·cases hr
  ·cases hr
 ·cases hr
theorem OX {t:TypeId} (ht:P.underlying t=some .string) {X I:Operand} {y i:GA} (h:opd X=some y) (hi:opd I=some i) (ho:o.op=.index t X I)
  {call} {x:qA} {e:wB} (hr:(K.index y i).run call s=some (x,e)):e=.none/\LK P ga a w ι Θ o x:=by
 have hX:=(R.opd h).1;have hI:=(R.opd hi).1;simp only [K.run] at hr;split at hr
 ·rename_i k b hk hy;obtain ⟨kk,n,bc,h0,hn⟩:=XE hk;rw [bc,cA] at hI;rw [hy,sC] at hX;cases hb:b[k]? with
  | none=>rw [hb] at hr; cases hr
  | some u =>
   rw [hb] at hr;injection hr with hr; injection hr with h1 h2; subst h1; subst h2;exact ⟨rfl,.int .u8 u.toNat,by simp [execOp,ho,Instr.index,run_underlying ht,hX,hI,asIntOf,h0,hn,hb],by rw [cA],trivial⟩
 ·cases hr
end
theorem XP {av:Av}:∀ {xs:List AV} {us:List Value} (_:zC ι av w xs us) {j:Nat} {x:AV},xs[j]?=some x->∃ u,us[j]?=some u/\OI ι av w x u
 | [],_,_,_,_,hx=>by simp at hx
 | y :: r,_,h,j,x,hx=>by
  simp only [zC] at h;obtain ⟨u,na,rfl,h0,h⟩:=h;cases j with
  | zero=>simp at hx; subst hx; exact ⟨u,rfl,h0⟩
  | succ j=>exact XP h (j:=j) (by simpa using hx)
theorem QC {av:Av} {x:AV} {u:Value} (h:xB av w x u):OI ι av w x u:=by
 cases x <;> first
  | (simp only [xB] at h; obtain ⟨us,hv,hc⟩:=h; exact ⟨us,hv,aB hc⟩)
  | exact dE (ι:=ι) h
theorem CP {av:Av}:∀ {xs:List AV} {us:List Value},JF av w xs us->zC ι av w xs us
 | [],_,h=>by simpa [JF,zC] using h
 | x :: r,_,h=>by
  simp only [JF] at h;obtain ⟨u,na,rfl,h0,h⟩:=h;exact ⟨u,na,rfl,QC h0,CP h⟩
theorem fE {av avb:Av} {x:AV} {u:Value} (h:xB av w x u):nA ι av avb w x u:=by
 cases x <;> first
  | exact h
  | (simp only [xB] at h; obtain ⟨us,hv,hc⟩:=h; exact ⟨us,hv,aB hc⟩)
  | (simp only [xB] at h; obtain ⟨us,hv,hc⟩:=h; exact ⟨us,hv,CP hc⟩)
  | (simp [xB] at h; done)
theorem mW {av avb:Av} {x:AV} {u:Value} (h:OI ι av w x u):nA ι av avb w x u:=by
 cases x <;> first
  | exact h
  | exact fE h
theorem kB {av avb:Av} {x:AV} {u:Value} (h:QA ι av w x u):nA ι av avb w x u:=by
 cases x <;> first | exact h | exact fE h
section
variable (R:DA P O nt B F0 ga w0 D s a w ι Θ)
include R
theorem Z6 {i:Nat} {X:Operand} {y:GA} (h:opd X=some y) (ho:o.op=.extract X i)
  {call} {x:qA} {e:wB} (hr:(K.ext y i).run call s=some (x,e)):e=.none/\LK P ga a w ι Θ o x:=by
 have hX:=(R.opd h).1;simp only [K.run] at hr;split at hr
 ·rename_i vs hy;rw [hy,ZZ] at hX;obtain ⟨us,hv,hc⟩:=hX;cases hb:vs[i]? with
  | none=>rw [hb] at hr; cases hr
  | some u =>
   rw [hb] at hr;injection hr with hr; injection hr with h1 h2; subst h1; subst h2;obtain ⟨u',hu,mb⟩:=XP hc hb;have jj:us[i]?=some u':=by simpa using hu
   exact ⟨rfl,u',by simp [execOp,ho,Instr.extract,hv,jj],mW mb,trivial⟩
 ·cases hr
theorem GT {X:Operand} {y:GA} (h:opd X=some y) (ho:o.op=.nilCheck X)
  {call} {x:qA} {e:wB} (hr:(K.nilchk y).run call s=some (x,e)):e=.none/\LK P ga a w ι Θ o x:=by
 have hX:=(R.opd h).1;simp only [K.run] at hr;split at hr
 ·rename_i t n off hy;injection hr with hr; injection hr with h1 h2; subst h1; subst h2;rw [hy] at hX;obtain ⟨b,hb,hv⟩:=aC.1 hX;exact ⟨rfl,.pointer (some ⟨b,off,none⟩),by simp [execOp,ho,hv],by rw [aC]; exact ⟨b,hb,rfl⟩,trivial⟩
 ·rename_i cs hy;injection hr with hr; injection hr with h1 h2; subst h1; subst h2;rw [hy] at hX;obtain ⟨b,off,hv,hc⟩:=KE.1 hX;exact ⟨rfl,.pointer (some ⟨b,off,none⟩),by simp [execOp,ho,hv],by rw [KE]; exact ⟨b,off,rfl,hc⟩,trivial⟩
 ·rename_i cs hy;injection hr with hr; injection hr with h1 h2; subst h1; subst h2;rw [hy] at hX;obtain ⟨b,off,hv,hc⟩:=hX;exact ⟨rfl,.pointer (some ⟨b,off,none⟩),by simp [execOp,ho,hv],⟨b,off,rfl,hc⟩,trivial⟩
 ·cases hr
theorem zW {t:TypeId} {str:Bool} (ht:if str then P.underlying t=some .string else ∃ e,P.underlying t=some (.slice e)) {X:Operand} {y:GA} (h:opd X=some y) (ho:o.op=.call { callee:=.builtin .len,args:=#[X],argTypes:=#[t] })
  {call} {x:qA} {e:wB} (hr:(K.len str y).run call s=some (x,e)):e=.none/\LK P ga a w ι Θ o x:=by
 have hX:=(R.opd h).1;have ud:∀ A n c,str=false->a.eval X=.slice A n c->(execOp a.eval o).run P w=.ok (.value (.int .i64 n)) w:=fun A n c hs hv=>by
  subst hs;obtain ⟨e',ht⟩:=ht;simp [execOp,ho,resolve,invoke,builtin,Builtin.len_,run_underlying ht,hv,goInt]
 simp only [K.run] at hr;split at hr
 ·rename_i nl l hy;rw [hy,rB] at hX;simp only [xB] at hX;obtain ⟨A,c,hv,_⟩:=hX;cases str with
  | true=>simp at hr
  | false =>
   simp only [yq,if_false] at hr;injection hr with hr; injection hr with h1 h2; subst h1; subst h2;exact ⟨rfl,_,ud _ _ _ rfl hv,by rw [cA],trivial⟩
 ·rename_i l hy;rw [hy] at hX;obtain ⟨A,c,hv,_⟩:=hX;cases str with
  | true=>simp at hr
  | false =>
   simp only [yq,if_false] at hr;injection hr with hr; injection hr with h1 h2; subst h1; subst h2;exact ⟨rfl,_,ud _ _ _ rfl hv,by rw [cA],trivial⟩
 ·rename_i t' n sz off ln cap hy;rw [hy,OC] at hX;obtain ⟨b,_,_,_,_,_,hv⟩:=hX;cases str with
  | true=>simp at hr
  | false =>
   simp only [yq,if_false] at hr;injection hr with hr; injection hr with h1 h2; subst h1; subst h2;exact ⟨rfl,_,ud _ _ _ rfl hv,by rw [cA],trivial⟩
 ·rename_i b hy;rw [hy,sC] at hX;cases str with
  | false=>simp at hr
  | true =>
   simp only [if_true] at hr ht;injection hr with hr; injection hr with h1 h2; subst h1; subst h2;exact ⟨rfl,.int .i64 b.size,by simp [execOp,ho,resolve,invoke,builtin,Builtin.len_,run_underlying ht,hX,goInt],by rw [cA],trivial⟩
 ·cases hr
theorem X9 {op:UnOp} {t:TypeId} {X:Operand} {y:GA} (h:opd X=some y) (ho:o.op=.unOp op t X)
  {call} {x:qA} {e:wB} (hr:(K.un op y).run call s=some (x,e)):e=.none/\LK P ga a w ι Θ o x:=by
 have hX:=(R.opd h).1;simp only [K.run] at hr;split at hr
 ·rename_i b hy;injection hr with hr; injection hr with h1 h2; subst h1; subst h2;rw [hy,AA] at hX;exact ⟨rfl,.bool (!b),by simp [execOp,ho,Op.unary,hX],by rw [AA],trivial⟩
 ·rename_i k n hy;injection hr with hr; injection hr with h1 h2; subst h1; subst h2;rw [hy,cA] at hX;exact ⟨rfl,.int k (k.wrap (0 - n)),by simp [execOp,ho,Op.unary,Op.intArith,hX],by rw [cA],trivial⟩
 ·cases hr
theorem OS {k:Option IntKind} {t t':TypeId} (hk:match k with | some k=>(∃ j,P.underlying t=some (.int j))/\P.underlying t'=some (.int k) | none=>P.underlying t=some .string/\P.underlying t'=some .string)
  {X:Operand} {y:GA} (h:opd X=some y) (ho:o.op=.convert t t' X) {call} {x:qA} {e:wB} (hr:(K.conv k y).run call s=some (x,e)):e=.none/\LK P ga a w ι Θ o x:=by
 have hX:=(R.opd h).1;simp only [K.run] at hr;split at hr
 ·rename_i k' j n hy;injection hr with hr; injection hr with h1 h2; subst h1; subst h2;rw [hy,cA] at hX;obtain ⟨⟨i,h1⟩,h2⟩:=hk;exact ⟨rfl,.int k' (k'.wrap n),by simp [execOp,ho,Go.convert,run_underlying h1,run_underlying h2,Conv.intToInt,hX],by rw [cA],trivial⟩
 ·rename_i b hy;injection hr with hr; injection hr with h1 h2; subst h1; subst h2;rw [hy,sC] at hX;exact ⟨rfl,.string b,by simp [execOp,ho,Go.convert,run_underlying hk.1,run_underlying hk.2,hX],by rw [sC],trivial⟩
 ·cases hr
end
end
end
section
open Go Go.RowKit
section
variable {P:Program} {O:OB} {nt B:Nat} {F0:DH} {ga:Av} {w0:World} {D:Nat->Prop} {s:tA} {a:Act} {w w':World} {ι:Ix} {Θ:tE} {o:Oper}
def WO (a:Act) (d:Nat):Option Operand->Option Value × Nat->Prop
 | none,(v,n)=>v=none/\n=d
 | some x,(v,n)=>v=some (a.eval x)/\∃ k i,a.eval x=.int k i/\0<=i/\i.toNat=n
theorem bG {t e:TypeId} {z:Nat} (ht:P.underlying t=some (.slice e)) (hz:LA P e=some z) {A:Option Addr} {n c:Nat} {L H:Option Operand} {l h:Nat} (hl:WO a 0 L (L.map a.eval,l)) (hh:WO a n H (H.map a.eval,h)) (h1:l<=h) (h2:h<=c) :
  (Instr.sliceAt t (.slice A n c) (L.map a.eval) (H.map a.eval) none).run P w=.ok (.slice (if c=l then A else A.map (·.add (l * z))) (h - l) (c - l)) w:=by
 cases L with
 | none =>
  obtain ⟨_,rfl⟩:=hl;cases H with
  | none =>
   obtain ⟨_,rfl⟩:=hh;simp [Instr.sliceAt,Instr.slice,Instr.sliceBounds,run_underlying ht,CA hz]
  | some x =>
   obtain ⟨_,k,i,hx,h0,rfl⟩:=hh;have:0<=i/\i<=(c:Int):=⟨h0,by omega⟩;simp [Instr.sliceAt,Instr.slice,Instr.sliceBounds,Instr.sliceBound,run_underlying ht,CA hz,hx,asIntOf,this]
 | some y =>
  obtain ⟨_,k',i',hy,oi,rfl⟩:=hl;cases H with
  | none =>
   obtain ⟨_,rfl⟩:=hh;have:0<=i'/\i'<=(h:Int):=⟨oi,by omega⟩;simp [Instr.sliceAt,Instr.slice,Instr.sliceBounds,Instr.sliceBound,run_underlying ht,CA hz,hy,asIntOf,this]
  | some x =>
   obtain ⟨_,k,i,hx,h0,rfl⟩:=hh;have h3:0<=i/\i<=(c:Int):=⟨h0,by omega⟩;have h4:0<=i'/\i'<=(i.toNat:Int):=⟨oi,by omega⟩;have h5:i'<=max i 0:=by omega
   simp [Instr.sliceAt,Instr.slice,Instr.sliceBounds,Instr.sliceBound,run_underlying ht,CA hz,hx,hy,asIntOf,h3,h4,h5]
theorem lP {t:TypeId} (ht:P.underlying t=some .string) {b:ByteArray} {L H:Option Operand} {l h:Nat} (hl:WO a 0 L (L.map a.eval,l)) (hh:WO a b.size H (H.map a.eval,h)) (h1:l<=h) (h2:h<=b.size) :
  (Instr.sliceAt t (.string b) (L.map a.eval) (H.map a.eval) none).run P w=.ok (.string (b.extract l h)) w:=by
 cases L with
 | none =>
  obtain ⟨_,rfl⟩:=hl;cases H with
  | none =>
   obtain ⟨_,rfl⟩:=hh;simp [Instr.sliceAt,Instr.slice,Instr.sliceBounds,run_underlying ht]
  | some x =>
   obtain ⟨_,k,i,hx,h0,rfl⟩:=hh;have:0<=i/\i<=(b.size:Int):=⟨h0,by omega⟩;simp [Instr.sliceAt,Instr.slice,Instr.sliceBounds,Instr.sliceBound,run_underlying ht,hx,asIntOf,this]
 | some y =>
  obtain ⟨_,k',i',hy,oi,rfl⟩:=hl;cases H with
  | none =>
   obtain ⟨_,rfl⟩:=hh;have:0<=i'/\i'<=(b.size:Int):=⟨oi,by omega⟩;simp [Instr.sliceAt,Instr.slice,Instr.sliceBounds,Instr.sliceBound,run_underlying ht,hy,asIntOf,this]
  | some x =>
   obtain ⟨_,k,i,hx,h0,rfl⟩:=hh;have h3:0<=i/\i<=(b.size:Int):=⟨h0,by omega⟩;have h4:0<=i'/\i'<=(i.toNat:Int):=⟨oi,by omega⟩;have h5:i'<=max i 0:=by omega
   simp [Instr.sliceAt,Instr.slice,Instr.sliceBounds,Instr.sliceBound,run_underlying ht,hx,hy,asIntOf,h3,h4,h5]
theorem wE (R:DA P O nt B F0 ga w0 D s a w ι Θ) {L:Option Operand} {l:Option GA} (h:oO L=some l) {d n:Nat} (hn:CD s d l=some n):WO a d L (L.map a.eval,n):=by
 cases L with
 | none =>
  injection h with h;subst h;injection hn with hn;exact ⟨rfl,hn.symm⟩
 | some X =>
  simp only [oO] at h;cases hx:opd X with
  | none=>rw [hx] at h; cases h
  | some x =>
   rw [hx] at h;injection h with h;subst h;obtain ⟨k,i,hi,h0,hn⟩:=XE hn;have:=(R.opd hx).1;rw [hi,cA] at this;exact ⟨rfl,k,i,this,h0,hn⟩
theorem ES {sz:Nat} {e:List (List AV)} (hu:∀ c∈e,c.length=sz) (l h:Nat):((e.take h).drop l).flatten=(e.flatten.take (h * sz)).drop (l * sz):=by
 rw [<- EJ (fun c hc=>hu c (List.mem_of_mem_take hc)) l];congr 1;clear l
 induction e generalizing h with
 | nil=>simp
 | cons c r ih =>
  cases h with
  | zero=>simp
  | succ h =>
   have hc:c.length=sz:=hu c (by simp);rw [List.take_succ_cons,yi,yi,List.take_append,hc,ih (fun c hc=>hu c (by simp [hc])),
    List.take_of_length_le (l:=c) (by rw [hc,yt]; omega),show (h + 1) * sz - sz=h * sz from by rw [yt]; omega]
theorem GS {av:Av} {cs:List AV} {b off:Nat} (k:Nat) (h:WB av w cs b off):WB av w (cs.take k) b off:=by
 rw [<- List.take_append_drop k cs,AE] at h;exact h.1
theorem bR {av avb:Av} {cs:List AV} {b off:Nat} (k:Nat) (h:XA av avb w cs b off):XA av avb w (cs.take k) b off:=by
 rw [<- List.take_append_drop k cs,rE] at h;exact h.1
theorem xW (R:DA P O nt B F0 ga w0 D s a w ι Θ) {t:TypeId} {str:Bool} {z:Nat} (ht:if str then P.underlying t=some .string else ∃ e,P.underlying t=some (.slice e)/\LA P e=some z) {X:Operand} {L H:Option Operand} {x:GA} {l h:Option GA} (hx:opd X=some x) (hl:oO L=some l) (hh:oO H=some h)
  (ho:o.op=.slice t X L H none) {call} {y:qA} {e:wB} (hr:(K.slc str z x l h none).run call s=some (y,e)):e=.none/\LK P ga a w ι Θ o y:=by
 have hX:=(R.opd hx).1;simp only [K.run] at hr;split at hr
 ·cases hr
 ·rename_i lo zn;have hL:=wE R hl zn;split at hr
  ·rename_i b e' hy;rw [hy,rB] at hX;simp only [xB] at hX;obtain ⟨A,c,hv,hc,hu,hn,hs⟩:=hX;split at hr
   ·rename_i hi rm;have hH:=wE R hh rm;split at hr
    ·rename_i ea;obtain ⟨h1,h2,h3,rfl⟩:=ea;injection hr with hr; injection hr with e1 e2; subst e1; subst e2;obtain ⟨el,ft,dt⟩:=ht;have rb:∀ c∈e',c.length=z:=fun c hc=>by simpa using y5.1 h3 c hc
     have aa:=bG (w:=w) (A:=A) ft dt hL hH h1 (yp h2 hc);refine ⟨rfl,.slice (if c=lo then A else A.map (·.add (lo * z))) (hi - lo) (c - lo),by simp only [execOp,ho,hv,Option.map_none,Sem.run_bind,aa,Result.andThen_ok,Sem.run_pure],?_,trivial⟩;simp only [rB,xB];have da:((e'.take hi).drop lo).length=hi - lo:=by rw [yg,yc]; omega
     refine ⟨_,_,by rw [da],by rw [da]; omega,fun x hx y hy=>(rb x (List.mem_of_mem_take (List.mem_of_mem_drop hx))).trans (rb y (List.mem_of_mem_take (List.mem_of_mem_drop hy))).symm,fun hb=>?_,fun hb=>?_⟩
     ·obtain ⟨rfl,h0,rfl⟩:=hn hb;refine ⟨by simp,by omega,by omega⟩
     ·obtain ⟨jf,ki⟩:=hs hb;by_cases uc:c=lo
      ·exact ⟨fun _=>by omega,fun h0=>by omega⟩
      ·refine ⟨fun hA=>?_,fun h0=>?_⟩
       ·rw [if_neg uc] at hA;cases pg:A with
        | none=>have:=jf pg; omega
        | some a=>rw [pg] at hA; cases hA
       obtain ⟨bb,off,rfl,ja⟩:=ki (by omega);refine ⟨bb,off + lo * z,by rw [if_neg uc]; simp only [yd,Addr.add_lit],?_⟩;rw [bB,ES rb];exact CE _ (GS _ (bB.1 ja))
    ·cases hr
   ·cases hr
  ·rename_i e' hy;rw [hy] at hX;obtain ⟨a',c,hv,hc,hu,hs⟩:=hX;split at hr
   ·rename_i hi rm;have hH:=wE R hh rm;split at hr
    ·rename_i ea;obtain ⟨h1,h2,h3,rfl⟩:=ea;injection hr with hr; injection hr with e1 e2; subst e1; subst e2;obtain ⟨el,ft,dt⟩:=ht;have rb:∀ c∈e',c.length=z:=fun c hc=>by simpa using y5.1 h3 c hc
     have aa:=bG (w:=w) (A:=some a') ft dt hL hH h1 (yp h2 hc);refine ⟨rfl,.slice (if c=lo then some a' else (some a').map (·.add (lo * z))) (hi - lo) (c - lo),by simp only [execOp,ho,hv,Option.map_none,Sem.run_bind,aa,Result.andThen_ok,Sem.run_pure],?_,trivial⟩;have da:((e'.take hi).drop lo).length=hi - lo:=by rw [yg,yc]; omega
     refine ⟨if c=lo then a' else a'.add (lo * z),c - lo,by rw [da]; split <;> simp,by rw [da]; omega,fun x hx y hy=>(rb x (List.mem_of_mem_take (List.mem_of_mem_drop hx))).trans (rb y (List.mem_of_mem_take (List.mem_of_mem_drop hy))).symm,fun h0=>?_⟩;rw [if_neg (by omega)];obtain ⟨bb,off,rfl,ja⟩:=hs (by omega);refine ⟨bb,off + lo * z,by rw [Addr.add_lit],?_⟩;rw [ZD,ES rb];exact aE _ (bR _ (ZD.1 ja))
    ·cases hr
   ·cases hr
  ·rename_i t' n sz off ln cap hy;rw [hy,OC] at hX;obtain ⟨b,hb,jb,cc,sd,hz,hv⟩:=hX;split at hr
   ·rename_i hi rm;have hH:=wE R hh rm;split at hr
    ·rename_i ea;obtain ⟨h1,h2,rfl,rfl⟩:=ea;obtain ⟨el,ft,dt⟩:=ht;have aa:=bG (w:=w) (A:=some ⟨b,off,none⟩) ft dt hL hH h1 (yp h2 sd);have fg:(execOp a.eval o).run P w=.ok (.value (.slice (if cc=lo then some ⟨b,off,none⟩ else (some (⟨b,off,none⟩:Addr)).map (·.add (lo * sz))) (hi - lo) (cc - lo))) w:=by simp only [execOp,ho,hv,Option.map_none,Sem.run_bind,aa,Result.andThen_ok,Sem.run_pure]
     split at hr
     ·rename_i he;injection hr with hr; injection hr with e1 e2; subst e1; subst e2;refine ⟨rfl,_,fg,?_,trivial⟩;rw [rB];simp only [xB,List.length_nil];refine ⟨_,cc - lo,by rw [show hi - lo=0 from by omega],by omega,(fun x hx=>by cases hx),(fun h=>by cases h),fun _=>⟨fun h=>?_,fun h=>absurd h (Nat.lt_irrefl 0)⟩⟩;split at h <;> simp at h
     ·rename_i he;injection hr with hr; injection hr with e1 e2; subst e1; subst e2;refine ⟨rfl,_,fg,⟨b,hb,by omega,cc - lo,by omega,?_,?_⟩,trivial⟩
      ·have:off + lo * sz + (cc - lo) * sz=off + cc * sz:=by
        rw [Nat.add_assoc,<- Nat.add_mul];congr 2;omega
       rw [this];exact hz
      ·rw [if_neg (by omega)];simp [Addr.add_lit]
    ·cases hr
   ·cases hr
  ·rename_i b hy;rw [hy,sC] at hX;split at hr
   ·rename_i hi rm;have hH:=wE R hh rm;split at hr
    ·rename_i ea;obtain ⟨h1,h2,rfl⟩:=ea;injection hr with hr; injection hr with e1 e2; subst e1; subst e2;have aa:=lP (w:=w) ht hL hH h1 h2;exact ⟨rfl,.string (b.extract lo hi),by simp only [execOp,ho,hX,Option.map_none,Sem.run_bind,aa,Result.andThen_ok,Sem.run_pure],by rw [sC],trivial⟩
    ·cases hr
   ·cases hr
  ·cases hr
theorem iZ {H:Option Operand} (h:N9 H=true):H=some (.const (.int .i64 0)):=by
 unfold N9 at h;split at h
 ·rw [of_decide_eq_true h]
 ·cases h
theorem C6 (R:DA P O nt B F0 ga w0 D s a w ι Θ) {t e':TypeId} {z:Nat} (ht:P.underlying t=some (.slice e')) (hz:LA P e'=some z) {X:Operand} {H M:Option Operand} (hH:N9 H=true) (hM:N9 M=true) {x:GA} (hx:opd X=some x)
  (ho:o.op=.slice t X none H M) {call} {y:qA} {e:wB} (hr:(K.slz x).run call s=some (y,e)):e=.none/\LK P ga a w ι Θ o y:=by
 have hX:=(R.opd hx).1;rw [iZ hH,iZ hM] at ho;have aa:∀ (A:Option Addr) (n c:Nat),a.eval X=.slice A n c->(execOp a.eval o).run P w=.ok (.value (.slice A 0 0)) w:=fun A n c hv=>by
  have ud:(Instr.sliceAt t (.slice A n c) none (some (.int .i64 0)) (some (.int .i64 0))).run P w=.ok (.slice A 0 0) w:=by simp [Instr.sliceAt,Instr.slice,Instr.sliceBounds,Instr.sliceBound,run_underlying ht,CA hz,asIntOf]
  have he:a.eval (.const (.int .i64 0))=.int .i64 0:=rfl;simp only [execOp,ho,hv,he,Option.map_none,yd,ud,Sem.run_bind,Result.andThen_ok,Sem.run_pure]
 simp only [K.run] at hr;split at hr
 ·rename_i b l hy;injection hr with hr; injection hr with e1 e2; subst e1; subst e2;rw [hy,rB] at hX;simp only [xB] at hX;obtain ⟨A,c,hv,hc,hu,hn,hs⟩:=hX;refine ⟨rfl,_,aa _ _ _ hv,?_,⟨A,0,rfl⟩⟩;simp only [rB,xB,List.length_nil];exact ⟨A,0,rfl,y6 _,(fun x hx=>by cases hx),fun hb=>⟨(hn hb).1,trivial,rfl⟩,fun hb=>⟨fun _=>rfl,fun h0=>absurd h0 (Nat.lt_irrefl 0)⟩⟩
 ·rename_i l hy;injection hr with hr; injection hr with e1 e2; subst e1; subst e2;rw [hy] at hX;obtain ⟨a',c,hv,hc,hu,hs⟩:=hX;refine ⟨rfl,_,aa _ _ _ hv,?_,⟨_,0,rfl⟩⟩;simp only [rB,xB,List.length_nil];exact ⟨_,0,rfl,y6 _,(fun x hx=>by cases hx),(fun hb=>by cases hb),fun hb=>⟨fun _=>rfl,fun h0=>absurd h0 (Nat.lt_irrefl 0)⟩⟩
 ·rename_i t' n sz off ln cap hy;injection hr with hr; injection hr with e1 e2; subst e1; subst e2;rw [hy,OC] at hX;obtain ⟨b,hb,jb,cc,sd,hz',hv⟩:=hX;refine ⟨rfl,_,aa _ _ _ hv,?_,⟨_,0,rfl⟩⟩;simp only [rB,xB,List.length_nil];exact ⟨_,0,rfl,y6 _,(fun x hx=>by cases hx),(fun hb=>by cases hb),fun hb=>⟨fun _=>rfl,fun h0=>absurd h0 (Nat.lt_irrefl 0)⟩⟩
 ·cases hr
end
end
section
open Go Go.RowKit
section
variable {P:Program} {O:OB} {nt B:Nat} {F0:DH} {ga:Av} {w0:World} {D:Nat->Prop} {s:tA} {a:Act} {w w':World} {ι:Ix} {Θ:tE} {o:Oper}
theorem HW (d:Nat) {t e:TypeId} (ht:P.underlying t=some (.slice e)) (A:Option Addr) (n c:Nat):(Op.equalIn (d + 1) t (.slice A n c) (.slice none 0 0)).run P w=.ok A.isNone w:=by
 unfold Op.equalIn;simp only [Sem.run_bind,run_underlying ht,Result.andThen_ok];cases A <;> rfl
theorem B4 (d:Nat) {t e:TypeId} (ht:P.underlying t=some (.pointer e)) (A:Option Addr):(Op.equalIn (d + 1) t (.pointer A) (.pointer none)).run P w=.ok A.isNone w:=by
 unfold Op.equalIn;simp only [Sem.run_bind,run_underlying ht,Result.andThen_ok];cases A <;> rfl
theorem zO (R:DA P O nt B F0 ga w0 D s a w ι Θ) {t t':TypeId} {neg ptr:Bool} (ht:if ptr then ∃ e,P.underlying t=some (.pointer e) else ∃ e,P.underlying t=some (.slice e)) {X Y:Operand} {x y:GA} (hx:opd X=some x) (hy:opd Y=some y)
  (ho:o.op=.binOp (if neg then .neq else .eql) t X Y t') {call} {z:qA} {e:wB} (hr:(K.eqn neg ptr x y).run call s=some (z,e)):e=.none/\LK P ga a w ι Θ o z:=by
 have hX:=(R.opd hx).1;have hY:=(R.opd hy).1;have key:∀ (u v:Value) (r:Bool),a.eval X=u->a.eval Y=v->u.oneCell'=true->u≠.nilIface->(∀ op,(Go.binOp op t u v).run P w=(match op with | .eql=>(do pure (.bool (<- Op.equal t u v)):Sem Value) | .neq=>(do pure (.bool (!(<- Op.equal t u v))):Sem Value) | _=>Go.binOp op t u v).run P w)->(Op.equal t u v).run P w=.ok r w →
   (execOp a.eval o).run P w=.ok (.value (.bool (r != neg))) w:=fun u v r hu hv h1 hn hb he=>by
  cases neg with
  | false =>
   simp only [yq,if_false] at ho;have:=hb .eql;simp only [Sem.run_bind,he,Result.andThen_ok,Sem.run_pure] at this;rw [FA ho hu hv h1 hn this];simp
  | true =>
   simp only [if_true] at ho;have:=hb .neq;simp only [Sem.run_bind,he,Result.andThen_ok,Sem.run_pure] at this;rw [FA ho hu hv h1 hn this];simp
 have ud:∀ A n c,ptr=false->a.eval X=.slice A n c->a.eval Y=.slice none 0 0->(execOp a.eval o).run P w=.ok (.value (.bool (A.isNone != neg))) w:=fun A n c hp hu hv=>by
  subst hp;simp only [yq,if_false] at ht;obtain ⟨e,ht⟩:=ht;exact key _ _ _ hu hv rfl (by simp) (fun op=>by cases op <;> simp [Go.binOp]) (HW 9999 ht A n c)
 have ev:∀ A,ptr=true->a.eval X=.pointer A->a.eval Y=.pointer none->(execOp a.eval o).run P w=.ok (.value (.bool (A.isNone != neg))) w:=fun A hp hu hv=>by
  subst hp;simp only [if_true] at ht;obtain ⟨e,ht⟩:=ht;exact key _ _ _ hu hv rfl (by simp) (fun op=>by cases op <;> simp [Go.binOp]) (B4 9999 ht A)
 have uQ:∀ {b:Bool},(execOp a.eval o).run P w=.ok (.value (.bool (b != neg))) w->LK P ga a w ι Θ o ⟨.bool (b != neg),.no⟩:=fun h=>⟨_,h,by rw [AA],trivial⟩
 simp only [K.run] at hr;split at hr
 ·rename_i l ah;rw [ah,rB] at hY;simp only [xB] at hY;obtain ⟨A,c,hv,_,_,hn,_⟩:=hY;obtain ⟨rfl,h0,rfl⟩:=hn trivial;rw [h0] at hv;cases hi:mN false (x.get s) with
  | none=>rw [hi] at hr; cases hr
  | some b =>
   rw [hi] at hr;injection hr with hr; injection hr with e1 e2; subst e1; subst e2;refine ⟨rfl,uQ ?_⟩;unfold mN at hi;split at hi <;> first | (exact absurd ‹false=true› (by decide)) | skip
   ·rename_i l' _ gc;injection hi with hi; subst hi;rw [gc,rB] at hX;simp only [xB] at hX;obtain ⟨A,c,hu,_,_,fh,nq⟩:=hX;have:=ud _ _ _ rfl hu hv;rw [(fh trivial).1] at this; exact this
   ·rename_i l' _ gc;split at hi
    ·cases hi
    ·rename_i db;injection hi with hi; subst hi;rw [gc,rB] at hX;simp only [xB] at hX;obtain ⟨A,c,hu,_,_,fh,nq⟩:=hX;have:=ud _ _ _ rfl hu hv;obtain ⟨_,_,rfl,_⟩:=(nq trivial).2 (by cases l' with | nil=>simp at db | cons=>simp);exact this
   ·rename_i l' _ gc;injection hi with hi; subst hi;rw [gc] at hX;obtain ⟨a',c,hu,_⟩:=hX;exact ud _ _ _ rfl hu hv
   ·rename_i gc;injection hi with hi; subst hi;rw [gc] at hX;obtain ⟨b,_,_,_,_,_,hu⟩:=OC.1 hX;exact ud _ _ _ rfl hu hv
   ·cases hi
 ·rename_i ah;rw [ah,bQ] at hY;cases hi:mN true (x.get s) with
  | none=>rw [hi] at hr; cases hr
  | some b =>
   rw [hi] at hr;injection hr with hr; injection hr with e1 e2; subst e1; subst e2;refine ⟨rfl,uQ ?_⟩;unfold mN at hi;split at hi <;> first | (exact absurd ‹true=false› (by decide)) | skip
   ·rename_i gc;injection hi with hi; subst hi;rw [gc,bQ] at hX;exact ev _ rfl hX hY
   ·rename_i gc;injection hi with hi; subst hi;rw [gc] at hX;obtain ⟨b,_,hu⟩:=aC.1 hX;exact ev _ rfl hu hY
   ·rename_i gc;injection hi with hi; subst hi;rw [gc] at hX;obtain ⟨b,off,hu,_⟩:=KE.1 hX;exact ev _ rfl hu hY
   ·rename_i gc;injection hi with hi; subst hi;rw [gc] at hX;obtain ⟨b,off,hu,_⟩:=hX;exact ev _ rfl hu hY
   ·cases hi
 ·cases hr
def R7 (P:Program) (d:Nat) (t:TypeId) (w:World):Nat->Value->Value->Prop
 | 0,.int j a,.int j' b=>j=j'->(Op.equalIn (d + 1) t (.int j a) (.int j' b)).run P w=.ok (decide (a=b)) w
 | 1,.string a,.string b=>(Op.equalIn (d + 1) t (.string a) (.string b)).run P w=.ok (decide (a=b)) w
 | 2,.bool a,.bool b=>(Op.equalIn (d + 1) t (.bool a) (.bool b)).run P w=.ok (decide (a=b)) w
 | _,_,_=>True
theorem RS (d:Nat) {t:TypeId} {k:Nat} (hk:zP P t=some k) {xs ys:Array Value} {i:Nat} {u v:Value} (hu:xs[i]?=some u) (hv:ys[i]?=some v) :
  (part t xs i).run P w=.ok u w/\(part t ys i).run P w=.ok v w/\R7 P d t w k u v:=by
 unfold zP at hk;split at hk
 ·rename_i j ht _;injection hk with hk;subst hk;refine ⟨by simp [part,isAgg,run_underlying ht,hu],by simp [part,isAgg,run_underlying ht,hv],?_⟩;cases u <;> cases v <;> first | trivial | skip
  rename_i j1 a j2 b;rintro rfl;rw [run_equalIn_int w d t j1 j a b ht];rfl
 ·rename_i ht _;injection hk with hk;subst hk;refine ⟨by simp [part,isAgg,run_underlying ht,hu],by simp [part,isAgg,run_underlying ht,hv],?_⟩;cases u <;> cases v <;> first | trivial | skip
  rename_i a b;show (Op.equalIn (d + 1) t (.string a) (.string b)).run P w=_;rw [run_equalIn_string w d t a b ht,UG]
 ·rename_i ht _;injection hk with hk;subst hk;refine ⟨by simp [part,isAgg,run_underlying ht,hu],by simp [part,isAgg,run_underlying ht,hv],?_⟩;cases u <;> cases v <;> first | trivial | skip
  rename_i a b;show (Op.equalIn (d + 1) t (.bool a) (.bool b)).run P w=_;rw [run_equalIn_bool' w d t a b ht];cases a <;> cases b <;> rfl
 ·cases hk
theorem PY {k:Nat} {ks:List Nat} {x y:AV} {xs ys:List AV} {r:Bool} (h:zH (k :: ks) (x :: xs) (y :: ys)=some r) {av:Av} {u v:Value} (hu:QA ι av w x u) (hv:QA ι av w y v) (d:Nat) {t:TypeId} (hk:zP P t=some k) {us vs:Array Value} {i:Nat} (hi:us[i]?=some u) (hj:vs[i]?=some v) :
  ∃ b,(part t us i).run P w=.ok u w/\(part t vs i).run P w=.ok v w/\(Op.equalIn (d + 1) t u v).run P w=.ok b w/\(if b then zH ks xs ys=some r else r=false):=by
 obtain ⟨h1,h2,h3⟩:=RS (w:=w) d hk hi hj;unfold zH at h;split at h
 ·rename_i e _ _; cases e
 ·rename_i j a r1 j' b r2 e1 e2 e3;injection e1 with e1 e1'; injection e2 with e2 e2'; injection e3 with e3 e3';subst e1; subst e1'; subst e2; subst e2'; subst e3; subst e3';simp only [QA,xB] at hu hv;subst hu; subst hv;split at h
  ·rename_i ww;refine ⟨_,h1,h2,h3 ww,?_⟩;by_cases ue:a=b
   ·rw [if_pos ue] at h; rw [if_pos (by simpa using ue)]; exact h
   ·rw [if_neg ue] at h; injection h with h; rw [if_neg (by simpa using ue)]; exact h.symm
  ·cases h
 ·rename_i a r1 b r2 e1 e2 e3;injection e1 with e1 e1'; injection e2 with e2 e2'; injection e3 with e3 e3';subst e1; subst e1'; subst e2; subst e2'; subst e3; subst e3';simp only [QA,xB] at hu hv;subst hu; subst hv;refine ⟨_,h1,h2,h3,?_⟩;by_cases ue:a=b
  ·rw [if_pos ue] at h; rw [if_pos (by simpa using ue)]; exact h
  ·rw [if_neg ue] at h; injection h with h; rw [if_neg (by simpa using ue)]; exact h.symm
 ·rename_i a r1 b r2 e1 e2 e3;injection e1 with e1 e1'; injection e2 with e2 e2'; injection e3 with e3 e3';subst e1; subst e1'; subst e2; subst e2'; subst e3; subst e3';simp only [QA,xB] at hu hv;subst hu; subst hv;refine ⟨_,h1,h2,h3,?_⟩;by_cases ue:a=b
  ·rw [if_pos ue] at h; rw [if_pos (by simpa using ue)]; exact h
  ·rw [if_neg ue] at h; injection h with h; rw [if_neg (by simpa using ue)]; exact h.symm
 ·cases h
theorem PV:∀ {ks:List Nat} {xs ys:List AV} {r:Bool},zH ks xs ys=some r->ks≠[]->∃ x cn y cv,xs=x :: cn/\ys=y :: cv
 | [],_,_,_,h,h'=>absurd rfl h'
 | k :: ks,xs,ys,r,h,_=>by
  cases xs with
  | nil=>simp [zH] at h
  | cons x xs =>
   cases ys with
   | nil=>unfold zH at h; split at h <;> simp_all
   | cons y ys=>exact ⟨x,xs,y,ys,rfl,rfl⟩
theorem nJ:∀ {k1 k2:List Nat} {xs ys:List AV} {r:Bool},zH (k1++k2) xs ys=some r->∃ r1,zH k1 (xs.take k1.length) (ys.take k1.length)=some r1/\(if r1 then zH k2 (xs.drop k1.length) (ys.drop k1.length)=some r else r=false)
 | [],k2,xs,ys,r,h=>⟨true,by simp [zH],by simpa using h⟩
 | k :: k1,k2,xs,ys,r,h=>by
  obtain ⟨x,cn,y,cv,rfl,rfl⟩:=PV h (by simp);simp only [List.cons_append] at h;simp only [yz,List.take_succ_cons,List.drop_succ_cons];unfold zH at h;split at h
  ·rename_i e _ _; cases e
  ·rename_i j a r1 j' b r2 e1 e2 e3;injection e1 with e1 e1'; injection e2 with e2 e2'; injection e3 with e3 e3';subst e1; subst e1'; subst e2; subst e2'; subst e3; subst e3';split at h
   ·rename_i ww;subst ww;split at h
    ·rename_i ue;simp only [zH,if_true,if_pos ue];exact nJ h
    ·rename_i ue;injection h with h;exact ⟨false,by simp [zH,ue],by simpa using h.symm⟩
   ·cases h
  ·rename_i a r1 b r2 e1 e2 e3;injection e1 with e1 e1'; injection e2 with e2 e2'; injection e3 with e3 e3';subst e1; subst e1'; subst e2; subst e2'; subst e3; subst e3';split at h
   ·rename_i ue;simp only [zH,if_pos ue];exact nJ h
   ·rename_i ue;injection h with h;exact ⟨false,by simp [zH,ue],by simpa using h.symm⟩
  ·rename_i a r1 b r2 e1 e2 e3;injection e1 with e1 e1'; injection e2 with e2 e2'; injection e3 with e3 e3';subst e1; subst e1'; subst e2; subst e2'; subst e3; subst e3';split at h
   ·rename_i ue;simp only [zH,if_pos ue];exact nJ h
   ·rename_i ue;injection h with h;exact ⟨false,by simp [zH,ue],by simpa using h.symm⟩
  ·cases h
def OQ (P:Program) (ι:Ix) (av:Av) (w:World) (n:Nat) (t:TypeId) (ks:List Nat):Prop :=
 ∀ (d:Nat) (us vs:Array Value) (off:Nat) (xs ys:List AV) (r:Bool),zA ι av w xs ((us.toList.drop off).take ks.length)->zA ι av w ys ((vs.toList.drop off).take ks.length)->zH ks xs ys=some r →
  ∃ a b,(part t us off).run P w=.ok a w/\(part t vs off).run P w=.ok b w/\(Op.equalIn (d + n) t a b).run P w=.ok r w
theorem XF {av:Av} {xs:List AV} {us:List Value} {off k m:Nat} (h:zA ι av w xs ((us.drop off).take (k + m))):zA ι av w (xs.take k) ((us.drop off).take k)/\zA ι av w (xs.drop k) ((us.drop (off + k)).take m):=by
 constructor
 ·have:=qC k h
  rwa [List.take_take,Nat.min_eq_left (Nat.le_add_right ..)] at this
 ·have:=AB k h
  rwa [List.drop_take,Nat.add_sub_cancel_left,List.drop_drop] at this
theorem xN {av:Av} {n:Nat} (ih:∀ t ks,TC P n t=some ks->OQ P ι av w n t ks) (d:Nat) {us vs:Array Value}:∀ {fs:List Field} {i:Nat} {ks:List Nat} {xs ys:List AV} {r:Bool},WJ (TC P n) i fs=some ks->zH ks xs ys=some r->zA ι av w xs ((us.toList.drop i).take ks.length)->zA ι av w ys ((vs.toList.drop i).take ks.length) →
  (Op.eqFields (d + n) us vs fs).run P w=.ok r w
 | [],i,ks,xs,ys,r,hk,h,_,_=>by
  injection hk with hk;subst hk;cases xs <;> cases ys <;> simp [zH] at h
  subst h;simp [Op.eqFields]
 | f :: fs,i,ks,xs,ys,r,hk,h,hx,hy=>by
  unfold WJ at hk;obtain ⟨l,hl,hk⟩:=y0.1 hk;split at hk
  ·rename_i hn;obtain ⟨l',zj,rfl⟩:=y8.1 hk;obtain ⟨r1,h1,h2⟩:=nJ h;rw [y9] at hx hy;obtain ⟨x1,x2⟩:=XF hx;obtain ⟨y1,y2⟩:=XF hy;obtain ⟨a,b,p1,p2,p3⟩:=ih _ _ hl d us vs i _ _ _ x1 y1 h1;unfold Op.eqFields;rw [if_pos hn.1,hn.2];simp only [Sem.run_bind,p1,p2,p3,Result.andThen_ok,Sem.run_ite];cases r1 with
   | true =>
    simp only [if_true] at h2;simp only [Bool.not_true,yq,if_false];exact xN ih d zj h2 x2 y2
   | false =>
    simp only [yq,if_false] at h2;simp [h2]
  ·cases hk
theorem DO {av:Av} {n:Nat} {e:TypeId} {l:List Nat} (ih:OQ P ι av w n e l) (hc:P.cellsOf e=l.length) (d:Nat) {us vs:Array Value}:∀ {m i:Nat} {xs ys:List AV} {r:Bool},zH (ye m l).flatten xs ys=some r->zA ι av w xs ((us.toList.drop (i * l.length)).take (ye m l).flatten.length)->zA ι av w ys ((vs.toList.drop (i * l.length)).take (ye m l).flatten.length) →
  (Op.eqItems (d + n) e (P.cellsOf e) us vs (List.range' i m)).run P w=.ok r w
 | 0,i,xs,ys,r,h,_,_=>by
  cases xs <;> cases ys <;> simp [zH] at h
  subst h;simp [Op.eqItems]
 | m + 1,i,xs,ys,r,h,hx,hy=>by
  rw [List.replicate_succ,yi] at h hx hy;obtain ⟨r1,h1,h2⟩:=nJ h;rw [y9] at hx hy;obtain ⟨x1,x2⟩:=XF hx;obtain ⟨y1,y2⟩:=XF hy;rw [<- yt] at x2 y2;obtain ⟨a,b,p1,p2,p3⟩:=ih d us vs (i * l.length) _ _ _ x1 y1 h1;rw [List.range'_succ];unfold Op.eqItems;rw [hc];simp only [Sem.run_bind,p1,p2,p3,Result.andThen_ok,Sem.run_ite];cases r1 with
  | true =>
   simp only [if_true] at h2;simp only [Bool.not_true,yq,if_false];have:=DO ih hc d (m:=m) (i:=i + 1) h2 x2 y2;rw [hc] at this;exact this
  | false =>
   simp only [yq,if_false] at h2;simp [h2]
theorem DK {t:TypeId} {z:Nat} (hA:TD P t=some true) (hz:LA P t=some z) (us:Array Value) (off:Nat):(part t us off).run P w=.ok (.agg (us.extract off (off + z))) w/\(us.extract off (off + z)).toList=(us.toList.drop off).take z :=
 ⟨by simp [part,lJ hA,CA hz],by rw [Array.toList_extract,List.extract_eq_take_drop,Nat.add_sub_cancel_left]⟩
theorem kL {t:TypeId} {z:Nat} (h:LA P t=some z):∃ i,P.info? t=some i:=by
 unfold LA at h;cases hh:P.info? t with
 | none=>rw [hh] at h; cases h
 | some i=>exact ⟨i,rfl⟩
theorem rN {av:Av} {n:Nat} (ih:∀ t ks,TC P n t=some ks->OQ P ι av w n t ks) (d:Nat) {t:TypeId} {ks:List Nat} (hk:TC P (n + 1) t=some ks) (hA:TD P t=some true) {us vs:Array Value} {xs ys:List AV} {r:Bool}
  (hx:zA ι av w xs (us.toList.take ks.length)) (hy:zA ι av w ys (vs.toList.take ks.length)) (h:zH ks xs ys=some r):LA P t=some ks.length/\(Op.equalIn (d + n + 1) t (.agg us) (.agg vs)).run P w=.ok r w:=by
 unfold TC at hk;split at hk
 ·rename_i k gd;unfold TD at hA;unfold zP at gd;split at gd <;> first | (cases gd; done) | (rename_i ht _; rw [ht] at hA; injection hA with hA; cases hA) | (rename_i ht; rw [ht] at hA; injection hA with hA; cases hA)
 ·split at hk
  ·rename_i m e ht;obtain ⟨l,hl,hk⟩:=y0.1 hk;split at hk
   ·rename_i hc;injection hk with hk;subst hk;obtain ⟨i,hi⟩:=kL hc.2.1;refine ⟨hc.2.2,?_⟩;have:=run_equalIn_array (P:=P) w (d + n) us vs ht hi;rw [List.range_eq_range'] at this;exact this.trans (DO (ih _ _ hl) hc.1 d h (by simpa using hx) (by simpa using hy))
   ·cases hk
  ·rename_i fs ht;split at hk
   ·cases hk
   ·rename_i dd;obtain ⟨l,hl,hk⟩:=y0.1 hk;split at hk
    ·rename_i hc;injection hk with hk;subst hk;refine ⟨hc,?_⟩;have hf:P.fieldsOf t=fs:=by simp [Program.fieldsOf,ht]
     have:=run_equalIn_struct (P:=P) w (d + n) t us vs (by rw [hf]; exact ht) (by simpa using dd);rw [hf] at this;exact this.trans (xN ih d hl h (by simpa using hx) (by simpa using hy))
    ·cases hk
  ·cases hk
theorem lM {av:Av}:∀ (n:Nat) (t:TypeId) (ks:List Nat),TC P n t=some ks->OQ P ι av w n t ks
 | 0,_,_,h=>by cases h
 | n + 1,t,ks,hk=>by
  intro d us vs off xs ys r hx hy h;have rf:=hk;unfold TC at hk;split at hk
  ·rename_i k gd;injection hk with hk;subst hk;obtain ⟨x,cn,y,cv,rfl,rfl⟩:=PV h (by simp);obtain ⟨u,na,e1,hu,_,wg⟩:=hx;obtain ⟨v,wl,e2,hv,_,bn⟩:=hy;have l1:na=[]:=by
    have:=congrArg List.length e1;simp at this;exact yF (by omega)
   have l2:wl=[]:=by
    have:=congrArg List.length e2;simp at this;exact yF (by omega)
   have g1:us[off]?=some u:=by
    have:=congrArg (fun l=>l[0]?) e1;simpa [ym,yj] using this
   have g2:vs[off]?=some v:=by
    have:=congrArg (fun l=>l[0]?) e2;simpa [ym,yj] using this
   obtain ⟨b,p1,p2,p3,p4⟩:=PY (P:=P) h hu hv (d + n) gd g1 g2;refine ⟨u,v,p1,p2,?_⟩;have:b=r:=by
    cases b with
    | true =>
     simp only [if_true] at p4;subst l1;subst l2;cases cn with
     | nil=>cases cv with
      | nil=>simp [zH] at p4; exact p4.symm
      | cons=>simp [zH] at p4
     | cons=>simp [zH] at p4
    | false=>simpa using p4.symm
   rw [<- this];exact p3
  ·rename_i hnk;have hA:TD P t=some true:=by
    split at hk
    ·rename_i ht; simp [TD,ht]
    ·rename_i ht; simp [TD,ht]
    ·cases hk
   have:=rN (fun t ks h=>lM n t ks h) d rf hA (us:=us.extract off (off + ks.length)) (vs:=vs.extract off (off + ks.length)) (xs:=xs) (ys:=ys) (r:=r)
    (by rw [Array.toList_extract,List.extract_eq_take_drop,Nat.add_sub_cancel_left,List.take_take,Nat.min_self]; exact hx)
    (by rw [Array.toList_extract,List.extract_eq_take_drop,Nat.add_sub_cancel_left,List.take_take,Nat.min_self]; exact hy) h
   exact ⟨_,_,(DK hA this.1 us off).1,(DK hA this.1 vs off).1,this.2⟩
theorem lW (R:DA P O nt B F0 ga w0 D s a w ι Θ) {t t':TypeId} {neg:Bool} {ks:List Nat} (ht:lK P t=some ks) {X Y:Operand} {x y:GA} (hx:opd X=some x) (hy:opd Y=some y)
  (ho:o.op=.binOp (if neg then .neq else .eql) t X Y t') {call} {z:qA} {e:wB} (hr:(K.eqa neg ks x y).run call s=some (z,e)):e=.none/\LK P ga a w ι Θ o z:=by
 have hX:=(R.opd hx).1;have hY:=(R.opd hy).1;simp only [K.run] at hr;split at hr
 ·rename_i xa ya gc ah;rw [gc,fP] at hX;rw [ah,fP] at hY;obtain ⟨us,hu,wg⟩:=hX;obtain ⟨vs,hv,bn⟩:=hY;cases hq:zH ks xa ya with
  | none=>rw [hq] at hr; cases hr
  | some r =>
   rw [hq] at hr;injection hr with hr; injection hr with e1 e2; subst e1; subst e2;unfold lK at ht;split at ht
   ·cases ht
   ·rename_i hg;have he:(Op.equal t (.agg us) (.agg vs)).run P w=.ok r w:=by
     have main:TC P 8 t=some ks->TD P t=some true->(Op.equal t (.agg us) (.agg vs)).run P w=.ok r w:=fun hk hA =>
      by
       obtain ⟨r1,h1,h2⟩:=nJ (k1:=ks) (k2:=[]) (by simpa using hq);have e:r1=r:=by
        cases r1 with
        | true =>
         simp only [if_true] at h2;unfold zH at h2;split at h2 <;> first | (injection h2) | (rename_i e _ _; cases e) | cases h2
        | false=>simpa using h2.symm
       subst e;exact (rN (fun t ks h=>lM 7 t ks h) 9992 hk hA (us:=us) (vs:=vs) (qC _ wg) (qC _ bn) h1).2
     split at ht
     ·rename_i ij; exact main ht (by simp [TD,ij])
     ·rename_i ij; exact main ht (by simp [TD,ij])
     ·cases ht
    have ol:∀ op,(eqGuard op t X Y (.agg us) (.agg vs)).run P w=.ok () w:=fun op=>by
     have:P.eqGuardType P.depth t=false:=by simpa using hg
     unfold eqGuard;cases op <;> simp [this]
    refine ⟨rfl,.bool (r != neg),?_,by rw [AA],trivial⟩;cases neg with
    | false =>
     simp only [yq,if_false] at ho;simp [execOp,ho,hu,hv,ol,Go.binOp,he]
    | true =>
     simp only [if_true] at ho;simp [execOp,ho,hu,hv,ol,Go.binOp,he]
 ·cases hr
end
end
section
open Go Go.RowKit
section
variable {P:Program} {O:OB} {nt B:Nat} {F0:DH} {ga:Av} {w0:World} {D:Nat->Prop} {s:tA} {a:Act} {w w':World} {ι:Ix} {Θ:tE} {o:Oper}
theorem ZO {av avb:Av} {x:AV} {v:Value} (h:nA ι av avb w x v) (hx:x.leaf=true):QA ι av w x v/\v.oneCell'=true:=by
 cases x <;> first
  | (simp [AV.leaf] at hx; done)
  | (refine ⟨h,?_⟩; simp only [nA,QA,xB] at h; subst h; rfl)
  | (refine ⟨h,?_⟩; obtain ⟨b,_,rfl⟩:=h; rfl)
  | (refine ⟨h,?_⟩; obtain ⟨b,_,_,_,_,_,rfl⟩:=h; rfl)
  | (refine ⟨h,?_⟩; simp only [nA,QA,xB] at h; obtain ⟨b,off,rfl,_⟩:=h; rfl)
theorem PW {av avb:Av} {x:AV} {v:Value} (h:nA ι av avb w x v) (hx:x.whole=true):zA ι av w x.cells v.cells.toList:=by
 cases x with
 | agg cs=>obtain ⟨us,rfl,hc⟩:=h; exact hc
 | _ =>
  obtain ⟨h1,h2⟩:=ZO h hx;cases v <;> first | exact ⟨_,[],rfl,h1,h2,rfl⟩ | (simp [Value.oneCell'] at h2; done)
theorem AS (off:Nat):∀ (l:List Value) (k:Nat) (cells:Array Value),off + k + l.length<=cells.size →
  ((l.zipIdx k).foldl (fun cs (p:Value × Nat)=>cs.setIfInBounds (off + p.2) p.1) cells).toList=cells.toList.take (off + k)++l++cells.toList.drop (off + k + l.length)
 | [],k,cells,_=>by simp
 | v :: l,k,cells,h=>by
  simp only [yz] at h;rw [List.zipIdx_cons,List.foldl_cons,AS off l (k + 1) _ (by simp; omega)];simp only [Array.toList_setIfInBounds,yz];have hk:off + k<cells.toList.length:=by simp; omega
  rw [show off + (k + 1)=off + k + 1 from by omega,List.take_succ_eq_append_getElem (by simpa using hk)];rw [List.take_set_of_le (y6 _),List.getElem_set_self,List.drop_set_of_lt (by omega)];simp [yA,show off + k + 1 + l.length=off + k + (l.length + 1) from by omega]
theorem sL {pl:Nat->Option (Nat × Nat)} {av avb:Av} (ub:avb=avb):∀ {ps:List (Nat × Operand)} {ys:List (Nat × GA)} {zs:List (Nat × Nat × GA)} {cs ds:List AV} {us:Array Value},
  (∀ (X:Operand) (y:GA),opd X=some y->nA ι av avb w (y.get s) (a.eval X))->opds ps=some ys->fJ pl ys=some zs->(∀ p∈zs,(p.2.2.get s).whole=true) →
  aL cs (zs.map fun p=>(p.1,p.2.1,(p.2.2.get s).cells))=some ds->zA ι av w cs us.toList->∃ na,Instr.fill pl us (ps.map fun p=>(p.1,a.eval p.2))=some na/\zA ι av w ds na.toList
 | [],ys,zs,cs,ds,us,_,hy,hz,_,hf,hc=>by
  injection hy with hy; subst hy;injection hz with hz; subst hz;injection hf with hf; subst hf;exact ⟨us,rfl,hc⟩
 | (i,X) :: ps,ys,zs,cs,ds,us,gb,hy,hz,hl,hf,hc=>by
  unfold opds at hy;split at hy
  ·rename_i x l hx hr;injection hy with hy; subst hy;unfold fJ at hz;split at hz
   ·rename_i off z l' hp jp;injection hz with hz; subst hz;simp only [yf,aL] at hf;split at hf
    ·rename_i ea;have ab:=PW (gb X x hx) (hl _ (yh));have da:=NA ab;have hlu:=NA hc;simp only [yw] at da hlu;have rb:(a.eval X).cells.size=z:=by rw [da]; exact ea.1
     have ir:((a.eval X).cells.zipIdx.foldl (fun cs (p:Value × Nat)=>cs.setIfInBounds (off + p.2) p.1) us).toList=us.toList.take off++(a.eval X).cells.toList++us.toList.drop (off + z):=by
      rw [<- Array.foldl_toList,Array.toList_zipIdx,AS off _ 0 us (by simp [rb]; omega)];simp [rb]
     have pb:zA ι av w (cs.take off++(x.get s).cells++cs.drop (off + z)) (((a.eval X).cells.zipIdx.foldl (fun cs (p:Value × Nat)=>cs.setIfInBounds (off + p.2) p.1) us)).toList:=by
      rw [ir];exact GC (GC (qC off hc) ab) (AB (off + z) hc)
     obtain ⟨na,h1,h2⟩:=sL ub gb hr jp (fun p hp=>hl p (yr _ hp)) hf pb;refine ⟨na,?_,h2⟩;simp only [yf,Instr.fill,hp];rw [if_neg (by simp [rb]; omega)];exact h1
    ·cases hf
   ·cases hz
  ·cases hy
theorem WQ (R:DA P O nt B F0 ga w0 D s a w ι Θ) {t:TypeId} {ps:Array (Nat × Operand)} {ys:List (Nat × GA)} {zs:List (Nat × Nat × GA)} {zero:List AV} {pl:Nat->Option (Nat × Nat)} {z:Value} (du:jE z.cells.toList=some zero)
  (hb:P.built t (ps.map fun (i,x)=>(i,a.eval x)).toList=Instr.fill pl z.cells (ps.map fun (i,x)=>(i,a.eval x)).toList) (hy:opds ps.toList=some ys) (hp:fJ pl ys=some zs) (ho:o.op=.build t ps)
  {call} {x:qA} {e:wB} (hr:(K.build zero zs).run call s=some (x,e)):e=.none/\LK P ga a w ι Θ o x:=by
 simp only [K.run] at hr;split at hr
 ·rename_i nb;cases hf:aL zero (zs.map fun p=>(p.1,p.2.1,(p.2.2.get s).cells)) with
  | none=>rw [hf] at hr; cases hr
  | some ds =>
   rw [hf] at hr;injection hr with hr; injection hr with e1 e2; subst e1; subst e2;obtain ⟨na,h1,h2⟩:=sL (pl:=pl) (ι:=ι) (av:=JA ga ι Θ) (avb:=ZA ι Θ) (w:=w) (s:=s) (a:=a) rfl (fun X y h=>(R.opd h).1) hy hp (fun p hp=>by
    have:=y5.1 nb p hp;exact this) hf (dD du _ _)
   have h3:P.built t (ps.map fun (i,x)=>(i,a.eval x)).toList=some na:=by
    rw [hb,Array.toList_map];exact h1
   exact ⟨rfl,.agg na,by simp only [execOp,ho,Sem.run_bind,run_build w t _ na h3,Result.andThen_ok,Sem.run_pure],⟨na,rfl,h2⟩,trivial⟩
 ·cases hr
def Ix.add (ι:Ix) (d n b z:Nat):Ix:=⟨fun t' n'=>if t'=d/\n'=n then some b else ι t' n',ι.ob,fun b'=>if b'=b then z else ι.z b'⟩
section
variable (R:DA P O nt B F0 ga w0 D s a w ι Θ)
include R
theorem DA.low {b o:Nat} (h:JA ga ι Θ b o):b<w.heap.size:=by
 have h1:=R.kept.size;have h2:=R.base.1;rcases h with h | (⟨t,n,h⟩ | ⟨t,n,H,h,hb⟩) | ⟨k,ow,h,rfl,_⟩
 ·have:=R.out _ _ h; omega
 ·exact (R.mine _ _ _ h).2.1
 ·exact ((R.obs _ _ _ h).1 _ hb).2.1
 ·obtain ⟨_,_,_,_,cur,h5,_⟩:=R.tok _ _ h;exact uA h5
theorem DA.lowB:B<=w.heap.size:=by
 have h1:=R.kept.size;have h2:=R.base.1;omega
theorem DA.new {d:Nat} (hd:d<nt) (hD:¬ D d) {r:List qA} {cur:Array Value} (ty:TypeId) (ja:uB ι Θ (JA ga ι Θ) w r cur) {x:AV} {v:Value}
  (hx:∀ ι':Ix,ι' d s.next=some w.heap.size->ι'.z w.heap.size=cur.size->nA ι' (JA ga ι' Θ) (ZA ι' Θ) (w.alloc (.cells cur ty)) x v) :
  ∃ ι',DA P O nt B F0 ga w0 (fun t=>D t\/t=d) ((s.setRow d s.next r).put (some d) ⟨x,.no⟩) (a.put (some d) v) (w.alloc (.cells cur ty)) ι' Θ:=by
 have lc:ι d s.next=none:=by
  cases h:ι d s.next with
  | none=>rfl
  | some b =>
   rcases (R.mine _ _ _ h).2.2 with h1 | h1
   ·omega
   ·exact absurd h1.2 hD
 have kc:ι.ob d s.next=none:=by
  cases h:ι.ob d s.next with
  | none=>rfl
  | some b =>
   rcases (R.obs _ _ _ h).2 with h1 | h1
   ·omega
   ·exact absurd h1.2 hD
 have ac:∀ t n b,ι t n=some b->(ι.add d s.next w.heap.size cur.size) t n=some b:=fun t n b h=>by
  show (if t=d/\n=s.next then some w.heap.size else ι t n)=some b;split
  ·rename_i e; rw [e.1,e.2,lc] at h; cases h
  ·exact h
 have zc:∀ t n b,(ι.add d s.next w.heap.size cur.size) t n=some b->b<w.heap.size->ι t n=some b:=fun t n b h hb=>by
  have h':(if t=d/\n=s.next then some w.heap.size else ι t n)=some b:=h;split at h'
  ·injection h' with h'; omega
  ·exact h'
 have pb:(ι.add d s.next w.heap.size cur.size) d s.next=some w.heap.size:=by
  show (if d=d/\s.next=s.next then some w.heap.size else ι d s.next)=_;rw [if_pos ⟨rfl,rfl⟩]
 have mf:∀ b o,b<w.heap.size->ZA (ι.add d s.next w.heap.size cur.size) Θ b o->ZA ι Θ b o:=fun b o hb h=>h.imp (fun h=>h.imp (fun ⟨t,n,h⟩=>⟨t,n,zc t n b h hb⟩) id) id
 have hAx:∀ b o,b<w.heap.size->JA ga (ι.add d s.next w.heap.size cur.size) Θ b o->JA ga ι Θ b o:=fun b o hb h=>h.imp id (mf b o hb)
 have le:∀ b,b<w.heap.size->(w.alloc (.cells cur ty)).heap[b]?=w.heap[b]?:=fun b hb=>Below.heap_alloc w _ b hb
 have hA:xA (JA ga ι Θ) (JA ga (ι.add d s.next w.heap.size cur.size) Θ) w (w.alloc (.cells cur ty)):=xA.grown le hAx;have hB:xA (ZA ι Θ) (ZA (ι.add d s.next w.heap.size cur.size) Θ) w (w.alloc (.cells cur ty)):=xA.grown le mf;have ej:=R.lowB;have jb:Ix.Le ι (ι.add d s.next w.heap.size cur.size):=⟨ac,fun t n b h=>by
  have:=(R.mine t n b h).2.1;show (if b=w.heap.size then cur.size else ι.z b)=ι.z b;rw [if_neg (by omega)]⟩
 have hzn:(ι.add d s.next w.heap.size cur.size).z w.heap.size=cur.size:=if_pos rfl;refine ⟨ι.add d s.next w.heap.size cur.size,DA.put (s:=s.setRow d s.next r) ⟨R.defers,R.size,fun t=>nA.held jb hA hB _ _ (R.env t),R.ann,fun t n r' hr=>?_,fun t n b h=>?_,fun t n t' n' b h h'=>?_,fun k o h=>?_,R.tinj,fun k o t n h h'=>?_,R.out,fun p h=>⟨ac _ _ _ (R.pin p h).1,(R.pin p h).2.imp (fun g=>⟨g.1,(jb.z _ _ _ (R.pin p h).1).trans g.2⟩) id⟩,R.kept.alloc _,R.base,fun t n S h=>?_,fun t n H h=>?_,fun t=>nA.held jb hA hB _ _ (R.gen t),R.gann⟩ hd (hx _ pb hzn) trivial⟩
 ·simp only [tA.setRow] at hr;split at hr
  ·rename_i e;injection hr with hr;subst hr;refine ⟨by show ι.ob t n=none; rw [e.1,e.2]; exact kc,w.heap.size,cur,ty,by rw [e.1,e.2]; exact pb,mK rfl,ja.held jb hA (fun _ _ h=>h),.inl ej,hzn.symm⟩
  ·obtain ⟨h0,b,ia,ae,h1,h2,h3,h4,h5⟩:=R.rows t n r' hr;exact ⟨h0,b,ia,ae,ac _ _ _ h1,(le b (uA h2)).trans h2,h3.held jb hA (fun _ _ h=>h),h4,h5.trans (jb.z _ _ _ h1).symm⟩
 ·have h':(if t=d/\n=s.next then some w.heap.size else ι t n)=some b:=h;split at h'
  ·rename_i e;injection h' with h';subst h';exact ⟨.inl ej,by simp,.inr ⟨e.2,.inr e.1⟩⟩
  ·obtain ⟨h2,h3,h4⟩:=R.mine t n b h';exact ⟨h2,by simp; omega,h4.imp id fun ⟨e,d⟩=>⟨e,.inl d⟩⟩
 ·have g:(if t=d/\n=s.next then some w.heap.size else ι t n)=some b:=h;have g':(if t'=d/\n'=s.next then some w.heap.size else ι t' n')=some b:=h';split at g <;> split at g'
  ·rename_i e e'; exact ⟨e.1.trans e'.1.symm,e.2.trans e'.2.symm⟩
  ·injection g with g; have:=(R.mine _ _ _ g').2.1; omega
  ·injection g' with g'; have:=(R.mine _ _ _ g).2.1; omega
  ·exact R.inj t n t' n' b g g'
 ·obtain ⟨h1,h2,h3,h4,ia,h5,h6⟩:=R.tok k o h;exact ⟨h1,h2,h3,h4,ia,(le _ (uA h5)).trans h5,h6⟩
 ·obtain ⟨_,_,_,_,ia,h5,_⟩:=R.tok k o h;exact R.apart k o t n h (zc t n _ h' (uA h5))
 ·obtain ⟨p,H,h1,h2,h3,h4⟩:=R.objs t n S h;exact ⟨p,H,ac _ _ _ h1,h2,O.keep h3 (fun b hH=>le b (O.lt h3 hH)) (by simp),h4.keep (fun t n b H h g=>⟨ac _ _ _ h,H,g⟩) fun x hx=>(le _ (uA hx)).trans hx⟩
 ·obtain ⟨h1,h2⟩:=R.obs t n H h;refine ⟨fun b hb=>?_,h2.imp id fun ⟨e,d⟩=>⟨e,.inl d⟩⟩;obtain ⟨g1,g2,g3,g4⟩:=h1 b hb;exact ⟨g1,by simp; omega,fun t' n' h'=>g3 t' n' (zc t' n' b h' g2),g4⟩
end
end
end
section
open Go Go.RowKit
section
variable {P:Program} {O:OB} {nt B:Nat} {F0:DH} {ga:Av} {w0:World} {D:Nat->Prop} {s:tA} {a:Act} {w w':World} {ι:Ix} {Θ:tE} {o:Oper}
def fB (P:Program) (O:OB) (nt B:Nat) (F0:DH) (ga:Av) (w0:World) (D:Nat->Prop) (s:tA) (a:Act) (w:World):Prop:=∃ ι Θ,DA P O nt B F0 ga w0 D s a w ι Θ
theorem uB.of {av:Av}:∀ {r:List qA} {cur:List Value},zA ι av w (r.map (·.v)) cur->(∀ (j:Nat) (x:qA) (u:Value),r[j]?=some x->cur[j]?=some u->pE Θ x.a u)->uB ι Θ av w r cur.toArray:=by
 intro r cur h ha;refine ⟨by have:=NA h; simp at this; simp [this],fun j x hx=>?_⟩;obtain ⟨u,hu,h1,hr⟩:=LD h (j:=j) (x:=x.v) (by simp [hx]);exact ⟨u,by simpa using hu,h1,hr,ha j x u hx hu⟩
theorem SZ (R:DA P O nt B F0 ga w0 D s a w ι Θ) {t:TypeId} {zero:List AV} (hz:UD P t=some zero) (ho:o.op=.alloc t) {d:Nat} (fa:o.dst=some d) (hd:d<nt) (hD:¬ D d) {call} {xe:qA × wB} (hr:(K.alloc zero).run call s=some xe) {g} {s':tA} (he:sA.eff ⟨o.dst,.alloc zero,g⟩ s xe=some s') :
  ∃ v w',(execOp a.eval o).run P w=.ok (.value v) w'/\fB P O nt B F0 ga w0 (fun t=>D t\/t=d) s' (a.put o.dst v) w':=by
 obtain ⟨z,i,hi,bi,aa,hl⟩:=gC hz w;simp only [K.run] at hr;injection hr with hr;subst hr;simp only [sA.eff,fa] at he;injection he with he;subst he;refine ⟨.pointer (some ⟨w.heap.size,0,none⟩),w.alloc (.cells z.cells t),by simp [execOp,ho,Instr.alloc,aa,newVar,newRow],?_⟩;rw [fa];have mb:=dD (ι:=ι) hl (JA ga ι Θ) w;have ja:uB ι Θ (JA ga ι Θ) w (zero.map fun v=>⟨v,SC v⟩) z.cells.toList.toArray:=uB.of (by
  rw [J,show ((fun x:qA=>x.v) ∘ fun v=>(⟨v,SC v⟩:qA))=id from rfl,List.map_id];exact mb) (fun j x u hx hu=>by
  rw [yl] at hx;cases ni:zero[j]? with
  | none=>rw [ni] at hx; cases hx
  | some v =>
   rw [ni] at hx;injection hx with hx;subst hx;obtain ⟨u',jj,_,hr⟩:=LD mb ni;rw [hu] at jj;injection jj with jj;subst jj;show pE Θ (SC v) u;unfold SC;split
   ·simp only [QA,xB] at hr;obtain ⟨A,c,rfl,_,_,hn,_⟩:=hr;obtain ⟨rfl,h0,rfl⟩:=hn trivial;exact ⟨none,0,by rw [h0]⟩
   ·trivial)
 rw [yE] at ja;exact let ⟨ι',h⟩:=R.new hd hD t ja (x:=.ptr d s.next 0) (v:=.pointer (some ⟨w.heap.size,0,none⟩)) (fun ι' h _=>⟨_,h,rfl⟩); ⟨ι',Θ,h⟩
theorem j6 (R:DA P O nt B F0 ga w0 D s a w ι Θ) {t:TypeId} {z:Nat} {X:Operand} {x:GA} (hx:opd X=some x) (ho:o.op=.box t X) {d:Nat} (fa:o.dst=some d) (hd:d<nt) (hD:¬ D d) {call} {xe:qA × wB} (hr:(K.box z x).run call s=some xe) {g} {s':tA} (he:sA.eff ⟨o.dst,.box z x,g⟩ s xe=some s') :
  ∃ v w',(execOp a.eval o).run P w=.ok (.value v) w'/\fB P O nt B F0 ga w0 (fun t=>D t\/t=d) s' (a.put o.dst v) w':=by
 have hX:=R.opd hx;have aa:(execOp a.eval o).run P w=.ok (.value (.pointer (some ⟨w.heap.size,0,none⟩))) (w.alloc (.cells (a.eval X).cells t)):=by simp [execOp,ho,Instr.box,newVar,newRow]
 have key:∀ (r:List qA),uB ι Θ (JA ga ι Θ) w r (a.eval X).cells->fB P O nt B F0 ga w0 (fun t=>D t\/t=d) ((s.setRow d s.next r).put (some d) ⟨.ptr d s.next 0,.no⟩) (a.put (some d) (.pointer (some ⟨w.heap.size,0,none⟩))) (w.alloc (.cells (a.eval X).cells t)):=fun r h =>
  let ⟨ι',h⟩:=R.new hd hD t h (x:=.ptr d s.next 0) (v:=.pointer (some ⟨w.heap.size,0,none⟩)) (fun ι' h _=>⟨_,h,rfl⟩); ⟨ι',Θ,h⟩
 simp only [K.run] at hr;split at hr
 ·rename_i cs hv;split at hr
  ·injection hr with hr;subst hr;simp only [sA.eff,fa] at he;injection he with he;subst he;refine ⟨_,_,aa,?_⟩;rw [fa];refine key _ ?_;rw [hv] at hX;obtain ⟨us,hu,hc⟩:=hX.1;rw [hu];have:=uB.of (Θ:=Θ) (r:=cs.map fun v=>(⟨v,.no⟩:qA)) (cur:=us.toList) (ι:=ι) (w:=w) (av:=JA ga ι Θ) (by rw [J,show ((fun x:qA=>x.v) ∘ fun v=>(⟨v,.no⟩:qA))=id from rfl,List.map_id]; exact hc) (fun j x u hx _=>by
    rw [yl] at hx;cases ni:cs[j]? with
    | none=>rw [ni] at hx; cases hx
    | some v=>rw [ni] at hx; injection hx with hx; subst hx; trivial)
   simpa [Value.cells] using this
  ·cases hr
 ·rename_i hv;split at hr
  ·rename_i gk;injection hr with hr;subst hr;simp only [sA.eff,fa] at he;injection he with he;subst he;refine ⟨_,_,aa,?_⟩;rw [fa];refine key _ ?_;obtain ⟨h1,h2⟩:=ZO hX.1 gk;have hc:(a.eval X).cells=#[a.eval X]:=by
    generalize a.eval X=u at *
    cases u <;> first | rfl | (simp [Value.oneCell'] at h2; done)
   rw [hc];refine ⟨y6 _,fun j y hy=>?_⟩;cases j with
   | zero =>
    simp only [List.getElem?_cons_zero] at hy;injection hy with hy;subst hy;exact ⟨a.eval X,rfl,h2,h1,hX.2⟩
   | succ j=>simp at hy
  ·cases hr
theorem TJ (zero:List Value) (av:Av) {zs:List AV} (hz:zA ι av w zs zero) (c:Nat):zA ι av w (ye c zs).flatten (ye c zero).flatten:=by
 induction c with
 | zero=>simp [zA]
 | succ c ih=>rw [List.replicate_succ,List.replicate_succ,yi,yi]; exact GC hz ih
theorem RJ (zero:Array Value) (c:Nat):((Array.range (c * zero.size)).map (zero[· % zero.size]!)).toList=(ye c zero.toList).flatten:=by
 apply List.ext_getElem?;intro j;have da:(ye c zero.toList).flatten.length=c * zero.size:=by simp
 rcases Nat.lt_or_ge j (c * zero.size) with h | h
 ·have kb:0<zero.size:=by
   rcases yx zero.size with h0 | h0
   ·rw [h0] at h; simp at h
   ·exact h0
  have hm:=Nat.mod_lt j kb;have e1:((Array.range (c * zero.size)).map (zero[· % zero.size]!)).toList[j]?=some zero[j % zero.size]:=by
   simp [h,hm]
  rw [e1];clear e1 da
  induction c generalizing j with
  | zero=>simp at h
  | succ c ih =>
   rw [List.replicate_succ,yi];rcases Nat.lt_or_ge j zero.size with h1 | h1
   ·rw [yB (by simpa using h1)];have:j % zero.size=j:=Nat.mod_eq_of_lt h1;simp [this,h1]
   ·rw [yy (by simpa using h1)];have h2:j - zero.size<c * zero.size:=by rw [yt] at h; omega
    have h3:(j - zero.size) % zero.size=j % zero.size:=by
     conv=>rhs; rw [show j=(j - zero.size) + zero.size from by omega,Nat.add_mod_right]
    have:=ih (j - zero.size) h2 (Nat.mod_lt _ kb);simp only [yw] at this ⊢;rw [<- this];simp [h3]
 ·rw [List.getElem?_eq_none (by simpa using h),List.getElem?_eq_none (by omega)]
theorem w9 (R:DA P O nt B F0 ga w0 D s a w ι Θ) {t e:TypeId} {i:TypeInfo} {zero:List AV} (ht:P.underlying t=some (.slice e)) (hi:P.info? e=some i) (hz:UD P e=some zero) (rb:zero.length=i.size) {X Y:Operand} {x y:GA} (hx:opd X=some x) (hy:opd Y=some y) (ho:o.op=.makeSlice t X Y) {d:Nat} (fa:o.dst=some d) (hd:d<nt) (hD:¬ D d)
  {call} {xe:qA × wB} (hr:(K.mks i.size i.bytes zero x y).run call s=some xe) {g} {s':tA} (he:sA.eff ⟨o.dst,.mks i.size i.bytes zero x y,g⟩ s xe=some s') :
  ∃ v w',(execOp a.eval o).run P w=.ok (.value v) w'/\fB P O nt B F0 ga w0 (fun t=>D t\/t=d) s' (a.put o.dst v) w':=by
 obtain ⟨z,i',bc,bi,ze,hl⟩:=gC hz w;rw [hi] at bc;injection bc with bc;subst bc;have hX:=(R.opd hx).1;have hY:=(R.opd hy).1;simp only [K.run] at hr;split at hr
 ·rename_i l c tr hcn;obtain ⟨k1,n1,h1,ov,sv⟩:=XE tr;obtain ⟨k2,n2,h2,h20,h21⟩:=XE hcn;rw [h1,cA] at hX;rw [h2,cA] at hY;split at hr
  ·rename_i ea;obtain ⟨rl,pd,zd,_⟩:=ea;injection hr with hr;subst hr;simp only [sA.eff,fa] at he;injection he with he;subst he;have gf:z.cells.size=i.size:=by
    have:=wC hl;simp only [yw] at this;omega
   have aw:n2=(c:Int):=by omega
   have hb2:(i.bytes:Int) * n2<=281474976710656:=by
    rw [aw,<- Int.natCast_mul,Nat.mul_comm];omega
   have mg:madeCells z.cells (c * i.size)=(ye c z.cells.toList).flatten.toArray:=by
    have h:=RJ z.cells c;rw [gf] at h;unfold madeCells;rw [<- gf] at h;rw [<- gf];have h':=congrArg List.toArray h;rw [yE] at h';exact h'
   have aa:(execOp a.eval o).run P w=.ok (.value (.slice (some ⟨w.heap.size,0,none⟩) l c)) (w.alloc (.cells (ye c z.cells.toList).flatten.toArray e)):=by
    have:=run_make (P:=P) w t e i z ht hi bi k1 k2 n1 n2 ov (by omega) hb2 (by omega);rw [sv,h21,mg] at this;simp [execOp,ho,hX,hY,this]
   refine ⟨_,_,aa,?_⟩;rw [fa];have ja:uB ι Θ (JA ga ι Θ) w ((ye c zero).flatten.map fun v=>(⟨v,.no⟩:qA)) (ye c z.cells.toList).flatten.toArray:=uB.of (by
    rw [J,show ((fun x:qA=>x.v) ∘ fun v=>(⟨v,.no⟩:qA))=id from rfl,List.map_id];exact TJ _ _ (dD hl _ _) c) (fun j x u hx _=>by
    rw [yl] at hx;cases ni:(ye c zero).flatten[j]? with
    | none=>rw [ni] at hx; cases hx
    | some v=>rw [ni] at hx; injection hx with hx; subst hx; trivial)
   exact let ⟨ι',h⟩:=R.new hd hD e ja (x:=.ref d s.next i.size 0 l c) (v:=.slice (some ⟨w.heap.size,0,none⟩) l c) (fun ι' h hz=>⟨_,h,rl,c,y6 _,by rw [hz,yb]; simp [List.length_flatten,gf],rfl⟩); ⟨ι',Θ,h⟩
  ·cases hr
 ·cases hr
end
end
section
open Go Go.RowKit
section
variable {P:Program} {O:OB} {nt B:Nat} {F0:DH} {ga:Av} {w0:World} {D:Nat->Prop} {s:tA} {a:Act} {w w':World} {ι:Ix} {Θ:tE} {o:Oper}
theorem DA.alloc (R:DA P O nt B F0 ga w0 D s a w ι Θ) (ob:Obj):DA P O nt B F0 ga w0 D s a (w.alloc ob) ι Θ :=
 R.grow (fun b hb=>Below.heap_alloc w _ b hb) (by simp) (R.kept.alloc _)
theorem HC {av:Av}:∀ {xs:List AV} {us:List Value},zA ι av w xs us->(∀ x∈xs,x.free0=true)->IA av w xs us
 | [],_,h,_=>by simpa [IA,zA] using h
 | x :: r,_,h,hf=>by
  simp only [zA] at h;obtain ⟨u,na,rfl,h0,h1,h⟩:=h;refine ⟨u,na,rfl,?_,h1,HC h fun y hy=>hf y (yr _ hy)⟩;have hx:=hf x (yh);cases x <;> first | exact h0 | (simp [AV.free0] at hx; done)
theorem iM (sz:Nat):∀ (ps:List (Nat × GA)) (k:Nat) (A Z:List AV),ps.map (·.1)=List.range' k ps.length->A.length=k * sz->Z.length=ps.length * sz->(∀ p∈ps,(p.2.get s).cells.length=sz) →
  aL (A++Z) (ps.map fun p=>(p.1 * sz,sz,(p.2.get s).cells))=some (A++(ps.map fun p=>(p.2.get s).cells).flatten)
 | [],k,A,Z,_,_,hz,_=>by
  have:Z=[]:=yF (by simpa using hz);subst this;simp [aL]
 | (i,y) :: ps,k,A,Z,hp,hA,hZ,hl=>by
  simp only [yf,yz,List.range'_succ] at hp;injection hp with h1 h2;subst h1;have hy:(y.get s).cells.length=sz:=hl (_,y) (yh);simp only [yz] at hZ;have hZ2:sz<=Z.length:=by rw [hZ,yt]; omega
  simp only [yf,aL];rw [if_pos ⟨hy,by simp [hA]; omega⟩];have e1:(A++Z).take (i * sz)=A:=by rw [<- hA]; exact List.take_left
  have e2:(A++Z).drop (i * sz + sz)=Z.drop sz:=by rw [List.drop_append,<- hA,yD (by omega),List.nil_append]; congr 1; omega
  rw [e1,e2];have:=iM sz ps (i + 1) (A++(y.get s).cells) (Z.drop sz) h2 (by rw [y9,hA,hy,yt]) (by rw [yg,hZ,yt]; omega) (fun p hp=>hl p (yr _ hp));rw [this];simp
theorem FK (sz:Nat):∀ (ps:List (Nat × GA)),fJ (fun i=>some (i * sz,sz)) ps=some (ps.map fun p=>(p.1 * sz,sz,p.2))
 | []=>rfl
 | (i,x) :: r=>by simp [fJ,FK sz r]
theorem B8 (R:DA P O nt B F0 ga w0 D s a w ι Θ) {t e:TypeId} {n z:Nat} {zero:List AV} (ht:P.underlying t=some (.slice e)) (hz:UD P e=some zero) (hs:LA P e=some z) (rb:zero.length=z) (kb:0<z) (ur:n * z<=16777216) {ps:Array (Nat × Operand)} {ys:List (Nat × GA)} (hy:opds ps.toList=some ys) (ho:o.op=.buildSlice t n ps)
  {call} {x:qA} {ef:wB} (hr:(K.bsl zero n ys).run call s=some (x,ef)):ef=.none/\∃ v w',(execOp a.eval o).run P w=.ok (.value v) w'/\DA P O nt B F0 ga w0 D s a w' ι Θ/\nA ι (JA ga ι Θ) (ZA ι Θ) w' x.v v/\pE Θ x.a v:=by
 obtain ⟨zv,i',bc,bi,ze,hl⟩:=gC hz w;have uw:i'.size=z:=by simp [LA,bc] at hs; exact hs
 have gf:zv.cells.size=z:=by
  have:=wC hl;simp only [yw] at this;omega
 simp only [K.run] at hr;split at hr
 ·rename_i ea;obtain ⟨re,nb⟩:=ea;injection hr with hr; injection hr with e1 e2; subst e1; subst e2;have tb:∀ p∈ys,(p.2.get s).free=true/\(p.2.get s).cells.length=zero.length:=fun p hp=>by
   have:=y5.1 nb p hp;simpa using this
  have hn:ys.length=n:=by
   have:=congrArg List.length re;simpa using this
  have kg:=iM (s:=s) z ys 0 [] (ye n zero).flatten (by rw [re,List.range_eq_range',hn]) (by simp) (by simp [hn,rb]) (fun p hp=>by rw [(tb p hp).2,rb]);rw [List.nil_append,List.nil_append] at kg;have gq:∀ p∈ys,(p.2.get s).whole=true:=fun p hp=>by
   have:=(tb p hp).1;generalize p.2.get s=v at this;cases v <;> first | rfl | (simp [AV.free,AV.free0] at this; done)
  have hp:=FK z ys;have mg:((Array.range (n * z)).map (((if n * z=0 then (#[]:Array Value) else zv.cells)[· % (if n * z=0 then (#[]:Array Value) else zv.cells).size]!))).toList=(ye n zv.cells.toList).flatten:=by
   rcases yx n with h0 | h0
   ·subst h0; simp
   ·have:¬ n * z=0:=by have:=Nat.mul_pos h0 kb; omega
    simp only [if_neg this];rw [<- gf];exact RJ zv.cells n
  obtain ⟨na,h1,h2⟩:=sL (pl:=fun i=>some (i * z,z)) (ι:=ι) (av:=JA ga ι Θ) (avb:=ZA ι Θ) (w:=w) (s:=s) (a:=a) rfl (fun X y h=>(R.opd h).1) hy hp (fun p hp=>by
   obtain ⟨q,hq,rfl⟩:=List.mem_map.1 hp;exact gq q hq) (by rw [J]; exact kg) (us:=(Array.range (n * z)).map (((if n * z=0 then (#[]:Array Value) else zv.cells)[· % (if n * z=0 then (#[]:Array Value) else zv.cells).size]!))) (by
    rw [mg];exact TJ _ _ (dD hl _ _) n)
  have aa:(execOp a.eval o).run P w=.ok (.value (.slice (some ⟨w.heap.size,0,none⟩) n n)) (w.alloc (.cells na e)):=by
   have h3:Instr.fill (fun i=>some (i * z,z)) ((Array.range (n * z)).map (((if n * z=0 then (#[]:Array Value) else zv.cells)[· % (if n * z=0 then (#[]:Array Value) else zv.cells).size]!))) (ps.map fun (i,x)=>(i,a.eval x)).toList=some na:=by
    rw [Array.toList_map];exact h1
   have jb:¬ (n * z > 2 ^ 24):=by omega
   by_cases h0:n * z=0
   ·simp only [if_pos h0] at h3;simp only [execOp,ho,Instr.buildSlice,Sem.run_bind,run_underlying ht,Result.andThen_ok,CA hs,if_neg jb,if_pos h0,Sem.run_pure,h3,newRow,run_newObj_alloc]
   ·simp only [if_neg h0] at h3;simp only [execOp,ho,Instr.buildSlice,Sem.run_bind,run_underlying ht,Result.andThen_ok,CA hs,if_neg jb,if_neg h0,Sem.run_pure,ze,h3,newRow,run_newObj_alloc]
  refine ⟨rfl,_,_,aa,R.alloc _,?_,⟨_,_,rfl⟩⟩;have R':=R.alloc (.cells na e);have hA:xA (JA ga ι Θ) (JA ga ι Θ) w (w.alloc (.cells na e)):=xA.grown (fun b hb=>Below.heap_alloc w _ b hb) fun _ _ _ h=>h
  rw [rB];simp only [xB];have da:(ys.map fun p=>(p.2.get s).cells).length=n:=by simp [hn]
  refine ⟨_,n,by rw [da],by rw [da]; exact y6 _,fun x hx y hy=>?_,(fun h=>by cases h),fun _=>⟨fun h=>(by cases h),fun _=>⟨w.heap.size,0,rfl,?_⟩⟩⟩
  ·obtain ⟨p,hp,rfl⟩:=List.mem_map.1 hx;obtain ⟨q,hq,rfl⟩:=List.mem_map.1 hy;rw [(tb p hp).2,(tb q hq).2]
  ·rw [bB];have rc:∀ x∈(ys.map fun p=>(p.2.get s).cells).flatten,x.free0=true:=fun x hx=>by
    obtain ⟨l,hl,hx⟩:=List.mem_flatten.1 hx;obtain ⟨p,hp,rfl⟩:=List.mem_map.1 hl;have:=(tb p hp).1;generalize p.2.get s=v at this hx;cases v <;> first | (simp [AV.cells] at hx; subst hx; exact this) | exact y5.1 this x hx
   refine sE (IA.held hA _ _ (HC h2 rc)) fun j u hu=>⟨?_,fun h=>?_⟩
   ·rw [yb,cell_of_row _ w.heap.size j na e (0,0) (mK rfl)];simpa using hu
   ·have:=R.low h;omega
 ·cases hr
theorem F6 {t:TypeId} {z:Nat} (hz:LA P t=some z) {b off:Nat} {cur:Array Value} {ty:TypeId} (hb:w.heap[b]?=some (.cells cur ty (0,0))) {v:Value} (hv:v.cells.size=z) (jb:off + z<=cur.size) (h1:∀ u∈v.cells.toList,u.oneCell'=true) :
  (Instr.storeAt t (.pointer (some ⟨b,off,none⟩)) v).run P w=.ok () (w.setRow b (cur.toList.take off++v.cells.toList++cur.toList.drop (off + z)).toArray):=by
 have dd:=run_storeCells_at P b off ty v.cells.toList 0 cur w hb (by simp [hv]; omega) h1;simp only [Nat.add_zero,yw,hv] at dd;simp [Instr.storeAt,Instr.sureAddr,storeVar,CA hz,hv,dd]
theorem DA.set (R:DA P O nt B F0 ga w0 D s a w ι Θ) {t n b:Nat} {cur:Array Value} {ty:TypeId} (hb:ι t n=some b) (xc:ι.ob t n=none) (ba:w.heap[b]?=some (.cells cur ty (0,0))) {r:List qA} {new:Array Value} (ja:uB ι Θ (JA ga ι Θ) w r new) (lf:B<=b\/F0.r b) (tz:new.size=ι.z b) :
  DA P O nt B F0 ga w0 D (s.setRow t n r) a (w.setRow b new) ι Θ:=by
 have db:∀ b',b'≠b->(w.setRow b new).heap[b']?=w.heap[b']?:=fun b' h=>setRow_other w b b' new h
 have xb:(w.setRow b new).heap[b]?=some (.cells new ty (0,0)):=setRow_heap w b cur new ty (0,0) ba;have hB:xA (ZA ι Θ) (ZA ι Θ) w (w.setRow b new):=⟨fun b' o u hc hn=>by
  have:b'≠b:=fun e=>hn (.inl (.inl ⟨t,n,e ▸ hb⟩))
  exact ⟨(World.cell?_of_block (w:=w) (a:=⟨b',o,none⟩) (db b' this)).trans hc,hn⟩⟩
 have hA:xA (JA ga ι Θ) (JA ga ι Θ) w (w.setRow b new):=⟨fun b' o u hc hn=>by
  have:b'≠b:=fun e=>hn (.inr (.inl (.inl ⟨t,n,e ▸ hb⟩)))
  exact ⟨(World.cell?_of_block (w:=w) (a:=⟨b',o,none⟩) (db b' this)).trans hc,hn⟩⟩
 have ck:=R.mine t n b hb;refine ⟨R.defers,R.size,fun t=>nA.held (Ix.Le.refl _) hA hB _ _ (R.env t),R.ann,fun t' n' r' hr=>?_,fun t n b h=>?_,R.inj,fun k o h=>?_,R.tinj,R.apart,R.out,R.pin,?_,R.base,fun t' n' S h=>?_,fun t n H h=>(R.obs t n H h).grow (by simp),fun t=>nA.held (Ix.Le.refl _) hA hB _ _ (R.gen t),R.gann⟩
 ·simp only [tA.setRow] at hr;split at hr
  ·rename_i e;injection hr with hr;subst hr;exact ⟨by rw [e.1,e.2]; exact xc,b,new,ty,by rw [e.1,e.2]; exact hb,xb,ja.held (Ix.Le.refl _) hA (fun _ _ h=>h),lf,tz⟩
  ·rename_i e;obtain ⟨h0,b',ia,ae,h1,h2,h3,h4⟩:=R.rows t' n' r' hr;have:b'≠b:=fun e'=>e (R.inj _ _ _ _ _ (e' ▸ h1) hb)
   exact ⟨h0,b',ia,ae,h1,(db b' this).trans h2,h3.held (Ix.Le.refl _) hA (fun _ _ h=>h),h4⟩
 ·obtain ⟨h1,h2,h3⟩:=R.mine t n b h;exact ⟨h1,by simpa using h2,h3⟩
 ·obtain ⟨h1,h2,h3,h4,ia,h5,h6⟩:=R.tok k o h;have:o.g≠b:=fun e=>R.apart k o t n h (e ▸ hb)
  exact ⟨h1,h2,h3,h4,ia,(db _ this).trans h5,h6⟩
 ·refine R.kept.setRow (fun eb=>?_) _;rcases ck.1 with h | h
  ·have:=R.base.1; omega
  ·exact h
 ·obtain ⟨p,H,h1,h2,h3,h4⟩:=R.objs t' n' S h;have th:∀ b',H b'->b'≠b:=fun b' hH e=>by
   subst e;have:=((R.obs _ _ _ h2).1 _ hH).2.2.1 t n hb;rw [this.1,this.2,h2] at xc;cases xc
  exact ⟨p,H,h1,h2,O.keep h3 (fun b' hH=>db b' (th b' hH)) (by simp),h4.keep (fun t n b H h g=>⟨h,H,g⟩) fun x hx=>(db p (th p (O.main h3))).trans hx⟩
theorem uB.splice {av:Av} {r:List qA} {cur:Array Value} (h:uB ι Θ av w r cur) {off z:Nat} {m:List qA} {us:Array Value} (hm:uB ι Θ av w m us) (oc:us.size=m.length) (hz:m.length=z) (jb:off + z<=r.length):uB ι Θ av w (r.take off++m++r.drop (off + z)) (cur.toList.take off++us.toList++cur.toList.drop (off + z)).toArray:=by
 obtain ⟨h1,h2⟩:=h;obtain ⟨m1,m2⟩:=hm;have hl:r.length<=cur.toList.length:=by simpa using h1
 refine ⟨by simp only [y9,yc,yg,yu,yw,oc] at *; omega,fun j x hx=>?_⟩;have ht:(r.take off).length=off:=by rw [yc]; omega
 have ao:(cur.toList.take off).length=off:=by rw [yc]; omega
 simp only [List.getElem?_toArray];rcases Nat.lt_or_ge j off with hj | hj
 ·rw [yA,yB (by omega),ym] at hx;rw [yA,yB (by omega),ym];rw [if_pos hj] at hx ⊢;obtain ⟨u,hu,h⟩:=h2 j x hx;exact ⟨u,by simpa using hu,h⟩
 ·rcases Nat.lt_or_ge j (off + z) with hj2 | hj2
  ·rw [yA,yy (by omega),yB (by omega),ht] at hx;rw [yA,yy (by omega),yB (by simp [oc]; omega),ao];obtain ⟨u,hu,h⟩:=m2 _ x hx;exact ⟨u,by simpa using hu,h⟩
  ·rw [yA,yy (by omega),yy (by omega),ht,yj] at hx;rw [yA,yy (by omega),yy (by simp [oc]; omega),ao,yj];obtain ⟨u,hu,h⟩:=h2 _ x hx;refine ⟨u,?_,h⟩;have:us.toList.length=m.length:=by simpa using oc
   rw [this];simpa using hu
theorem JZ (R:DA P O nt B F0 ga w0 D s a w ι Θ) {t:TypeId} {agg:Bool} {z:Nat} (hz:LA P t=some z) (xv:agg=true\/z=1) {X Y:Operand} {x y:GA} (hx:opd X=some x) (hy:opd Y=some y) (ho:o.op=.store t X Y) (hd:∀ d,o.dst=some d->d<nt) {cl:Cl} {call} {xe:qA × wB} (hr:(K.store cl agg z x y).run call s=some xe) {g} {s':tA} (he:sA.eff ⟨o.dst,.store cl agg z x y,g⟩ s xe=some s') :
  ∃ w',(execOp a.eval o).run P w=.ok .skip w'/\fB P O nt B F0 ga w0 D s' (a.put o.dst undef) w':=by
 have hX:=(R.opd hx).1;have hY:=R.opd hy;simp only [K.run] at hr;split at hr
 ·rename_i t' n off gc;rw [gc,aC] at hX;obtain ⟨b,hb,hv⟩:=hX;split at hr
  ·cases hm:s.mem t' n with
   | none=>rw [hm] at hr; cases hr
   | some r =>
    rw [hm,U] at hr;cases hs:LE agg z off r (y.get s) (y.an s) with
    | none=>rw [hs] at hr; cases hr
    | some r' =>
     rw [hs] at hr;injection hr with hr;subst hr;simp only [sA.eff] at he;injection he with he;subst he;obtain ⟨de,b',cur,ty,ra,ba,ja,lf,eg⟩:=R.rows t' n r hm;rw [hb] at ra;injection ra with ra;subst ra;have uQ:∀ (m:List qA) (us:Array Value),r'=r.take off++m++r.drop (off + z)->m.length=z->off + z<=r.length->(a.eval Y).cells=us->us.size=m.length->uB ι Θ (JA ga ι Θ) w m us->∃ w',(execOp a.eval o).run P w=.ok .skip w'/\fB P O nt B F0 ga w0 D ((s.setRow t' n r').put o.dst ⟨.undef,.no⟩) (a.put o.dst undef) w':=fun m us h1 h2 h3 h4 az h5=>by
      have rb:(a.eval Y).cells.size=z:=by rw [h4,az,h2]
      have pe:∀ u∈(a.eval Y).cells.toList,u.oneCell'=true:=fun u hu=>by
       rw [h4] at hu;obtain ⟨j,hj,rfl⟩:=List.getElem_of_mem hu;have iq:j<m.length:=by simp at hj; omega
       obtain ⟨u',jj,h6,_⟩:=h5.2 j m[j] (yn iq);have:us[j]?=some (us.toList[j]):=by simp at hj ⊢
       rw [this] at jj;injection jj with jj;rw [jj];exact h6
      have aa:=F6 (P:=P) hz ba rb (yp h3 ja.1) pe;refine ⟨w.setRow b (cur.toList.take off++(a.eval Y).cells.toList++cur.toList.drop (off + z)).toArray,by simp only [execOp,ho,hv,Sem.run_bind,aa,Result.andThen_ok,Sem.run_pure],ι,Θ,DA.putN ?_ hd trivial trivial⟩;rw [h4];subst h1;exact R.set hb de ba (ja.splice h5 az h2 h3) lf (by
       rw [<- eg];have h6:=ja.1;simp only [yu,y9,yc,yg,yw];omega)
     cases agg with
     | true =>
      simp only [LE,if_true] at hs;split at hs
      ·rename_i cs ah;split at hs
       ·rename_i ea;injection hs with hs;rw [ah] at hY;obtain ⟨us,hu,hc⟩:=hY.1;refine uQ (cs.map (⟨·,.no⟩)) us hs.symm (by simpa using ea.1) ea.2 (by rw [hu]; rfl) (by have:=NA hc; simpa using this) ?_;have:=uB.of (Θ:=Θ) (r:=cs.map fun v=>(⟨v,.no⟩:qA)) (cur:=us.toList) (ι:=ι) (w:=w) (av:=JA ga ι Θ) (by rw [J,show ((fun x:qA=>x.v) ∘ fun v=>(⟨v,.no⟩:qA))=id from rfl,List.map_id]; exact hc) (fun j x u hx _=>by
         rw [yl] at hx;cases ni:cs[j]? with
         | none=>rw [ni] at hx; cases hx
         | some v=>rw [ni] at hx; injection hx with hx; subst hx; trivial)
        simpa using this
       ·cases hs
      ·cases hs
     | false =>
      have rd:z=1:=by rcases xv with h | h; cases h; exact h
      subst rd;simp only [LE,yq,if_false] at hs;split at hs
      ·rename_i ea;injection hs with hs;obtain ⟨h1,h2⟩:=ZO hY.1 ea.1;have hc:(a.eval Y).cells=#[a.eval Y]:=by
        generalize a.eval Y=u at *
        cases u <;> first | rfl | (simp [Value.oneCell'] at h2; done)
       refine uQ [⟨y.get s,y.an s⟩] #[a.eval Y] ?_ rfl (by have:=ea.2; omega) hc rfl ⟨y6 _,fun j x hx=>?_⟩
       ·rw [<- hs,List.set_eq_take_append_cons_drop,if_pos ea.2];simp
       ·cases j with
        | zero=>simp at hx; subst hx; exact ⟨a.eval Y,rfl,h2,h1,hY.2⟩
        | succ j=>simp at hx
      ·cases hs
  ·cases hr
 ·cases hr
theorem wM {av:Av}:∀ {xs:List AV} {us:List Value},zA ι av w xs us->∀ u∈us,u.oneCell'=true
 | [],us,h,u,hu=>by simp only [zA] at h; subst h; cases hu
 | x :: r,us,h,u,hu=>by
  simp only [zA] at h;obtain ⟨u',na,rfl,_,h1,h⟩:=h;rcases List.mem_cons.1 hu with rfl | hu
  ·exact h1
  ·exact wM h u hu
theorem N8 (R:DA P O nt B F0 ga w0 D s a w ι Θ) {t e:TypeId} {zero:List AV} (ht:P.underlying t=some (.slice e)) (hz:UD P e=some zero) {X:Operand} {x:GA} (hx:opd X=some x) (ho:o.op=.call { callee:=.builtin .clear,args:=#[X],argTypes:=#[t] }) (hd:∀ d,o.dst=some d->d<nt) {cl:Cl} {call} {xe:qA × wB} (hr:(K.clr cl zero x).run call s=some xe) {g} {s':tA} (he:sA.eff ⟨o.dst,.clr cl zero x,g⟩ s xe=some s') :
  ∃ v w',(execOp a.eval o).run P w=.ok (.value v) w'/\fB P O nt B F0 ga w0 D s' (a.put o.dst v) w':=by
 obtain ⟨z,i',bc,bi,ze,hl⟩:=gC hz w;have hX:=(R.opd hx).1;simp only [K.run] at hr;split at hr
 ·rename_i nl hy;rw [hy,rB] at hX;simp only [xB] at hX;obtain ⟨A,c,hv,_⟩:=hX;injection hr with hr;subst hr;simp only [sA.eff] at he;injection he with he;subst he;refine ⟨.tuple #[],w,?_,ι,Θ,R.putN hd trivial trivial⟩;cases A <;> simp [execOp,ho,resolve,invoke,builtin,Builtin.clear_,run_underlying ht,hv]
 ·rename_i t' n sz off ln cap hy;rw [hy] at hX;obtain ⟨b,hb,_,c,_,_,hv⟩:=hX;split at hr
  ·rename_i ea;obtain ⟨_,du,tr⟩:=ea;cases hm:s.mem t' n with
   | none=>rw [hm] at hr; cases hr
   | some r =>
    rw [hm,U] at hr;unfold AW at hr;split at hr
    ·rename_i jb;injection hr with hr;subst hr;simp only [sA.eff] at he;injection he with he;subst he;obtain ⟨de,b',cur,ty,ra,ba,ja,lf,eg⟩:=R.rows t' n r hm;rw [hb] at ra;injection ra with ra;subst ra;have gf:z.cells.size=zero.length:=by
      have:=wC hl;simp only [yw] at this;omega
     have fq:(Builtin.zeroCells z.cells ln).toList=(ye ln z.cells.toList).flatten:=RJ z.cells ln;have uq:=TJ (ι:=ι) (w:=w) z.cells.toList (JA ga ι Θ) (dD hl _ _) ln;have da:(ye ln z.cells.toList).flatten.length=ln * zero.length:=by simp [gf]
     have pe:∀ u∈(ye ln z.cells.toList).flatten,u.oneCell'=true:=wM uq;have dd:=run_storeCells_at P b off ty (ye ln z.cells.toList).flatten 0 cur w ba (by have:=ja.1; omega) pe;simp only [Nat.add_zero,da] at dd;obtain ⟨m,rfl⟩:∃ m,ln=m + 1:=⟨ln - 1,by omega⟩;have aa:(execOp a.eval o).run P w=.ok (.value (.tuple #[])) (w.setRow b (cur.toList.take off++(ye (m + 1) z.cells.toList).flatten++cur.toList.drop (off + (m + 1) * zero.length)).toArray):=by
      simp [execOp,ho,resolve,invoke,builtin,Builtin.clear_,run_underlying ht,hv,ze,fq,dd]
     refine ⟨_,_,aa,ι,Θ,DA.putN ?_ hd trivial trivial⟩;have kh:uB ι Θ (JA ga ι Θ) w (lA (ye (m + 1) zero)) (ye (m + 1) z.cells.toList).flatten.toArray:=uB.of (by
      unfold lA;rw [J,show ((fun x:qA=>x.v) ∘ fun v=>(⟨v,.no⟩:qA))=id from rfl,List.map_id];exact uq) (fun j x u hx _=>by
      unfold lA at hx;rw [yl] at hx;cases ni:(ye (m + 1) zero).flatten[j]? with
      | none=>rw [ni] at hx; cases hx
      | some v=>rw [ni] at hx; injection hx with hx; subst hx; trivial)
     have rb:(ye (m + 1) z.cells.toList).flatten.toArray.size=(lA (ye (m + 1) zero)).length:=by simp [lA,gf]
     have xy:(lA (ye (m + 1) zero)).length=(m + 1) * zero.length:=by simp [lA]
     have:=ja.splice kh rb xy jb;exact R.set hb de ba this lf (by
      rw [<- eg];have h6:=ja.1;simp only [yu,y9,yc,yg,yw,da];omega)
    ·cases hr
  ·cases hr
 ·cases hr
end
end
section
section
variable {call:OA} {s s':tA}
def xO (s s':tA) (l:List GA):Prop:=∀ o∈l,o.get s=o.get s'/\o.an s=o.an s'
def K.reads (k:K) (t:Nat):Prop:=match k.cl with
 | none=>False
 | some .imm=>False
 | some (.root r)=>t=r
 | some (.out L)=>L.contains t=false
 | some .any=>True
theorem eS {cl:Cl} (hm:cl.okMem=true->∀ t n,s.mem t n=s'.mem t n) (v:AV):rJ s cl v=rJ s' cl v:=by
 cases v <;> simp only [rJ]
 split
 ·rename_i sa; rw [hm sa]
 ·rfl
theorem cH {cl:Cl} (hm:cl.okMem=true->∀ t n,s.mem t n=s'.mem t n):∀ (l:List AV),NC s cl l=NC s' cl l
 | []=>rfl
 | x :: r=>by simp only [NC,eS hm x,cH hm r]
section
variable {cl:Cl} (hm:cl.okMem=true->∀ t n,s.mem t n=s'.mem t n) (za:s.obj=s'.obj) (v:AV)
include cl hm za v
theorem bK:zL s cl v=zL s' cl v:=by
 unfold zL;split
 ·split
  ·rename_i sa; rw [hm sa]
  ·rfl
 ·rfl
 ·rfl
 ·rw [za]
 ·rfl
theorem qS:eJ s cl v=eJ s' cl v:=by
 have:=bK hm za v;cases v <;> simp only [eJ,cH hm] <;> exact this
end
theorem dC {cl:Cl} (hm:cl.okMem=true->∀ t n,s.mem t n=s'.mem t n) (za:s.obj=s'.obj):∀ {xs:List GA},xO s s' xs->cB s cl xs=cB s' cl xs
 | [],_=>rfl
 | x :: r,h=>by
  have h1:=h x (yh);have h2:=dC hm za (xs:=r) fun o ho=>h o (yr _ ho)
  unfold cB;rw [h2,h1.1];rw [qS hm za]
theorem xL {cl:Cl} {t n:Nat} (hm:cl.okMem=true->∀ t n,s.mem t n=s'.mem t n) (za:s.obj=s'.obj):∀ {xs:List GA},xO s s' xs->BD s cl t n xs=BD s' cl t n xs
 | [],_=>rfl
 | x :: r,h=>by
  have h1:=h x (yh);have h2:=xL (t:=t) (n:=n) hm za (xs:=r) fun o ho=>h o (yr _ ho)
  unfold BD;rw [h2,h1.1];have:WN s cl t n (x.get s')=WN s' cl t n (x.get s'):=by
   unfold WN;split
   ·rfl
   ·rw [bK hm za]
   ·rfl
   ·rw [bK hm za]
  rw [this]
theorem QD {xs:List GA} (h:xO s s' xs):lC s xs=lC s' xs:=by
 induction xs with
 | nil=>rfl
 | cons x r ih =>
  have h1:=h x (yh);unfold lC at ih ⊢;rw [List.filterMap_cons,List.filterMap_cons,h1.1,ih fun o ho=>h o (yr _ ho)]
section
variable {cl:Cl} (hm:cl.okMem=true->∀ t n,s.mem t n=s'.mem t n) (v:AV)
include cl hm v
theorem nE:v.elems s cl=v.elems s' cl:=by
 cases v <;> simp only [AV.elems]
 split
 ·rename_i sa; rw [hm sa]
 ·rfl
theorem QT:v.raws s cl=v.raws s' cl:=by
 cases v <;> simp only [AV.raws]
 case ref t n sz off len c =>
  split
  ·rename_i h; rw [hm h t n]
  ·rfl
end
theorem lH {d:Nat} {o:Option GA} (h:xO s s' o.toList):CD s d o=CD s' d o:=by
 cases o with
 | none=>rfl
 | some o=>simp only [CD]; rw [(h o (by simp)).1]
theorem ZW {s s':tA} (hm:∀ t n,s.mem t n=s'.mem t n) (v:AV):v.frz s=v.frz s':=by
 have e:s.mem=s'.mem:=funext fun t=>funext fun n=>hm t n
 have h1:∀ v:AV,v.frz1 s=v.frz1 s':=fun v=>by cases v <;> simp only [AV.frz1,e]
 have nv:AV.frz1 s=AV.frz1 s':=funext h1;have h0:∀ v:AV,v.frz0 s=v.frz0 s':=fun v=>by cases v <;> simp only [AV.frz0,gO,e,nv]
 have oi:AV.frz0 s=AV.frz0 s':=funext h0;cases v <;> simp only [AV.frz,h0,oi]
theorem UJ (k:K) (h:xO s s' k.opds) (hm:∀ t n,k.reads t->s.mem t n=s'.mem t n) (za:ML k=true->s.obj=s'.obj):k.run call s=k.run call s':=by
 cases k with
 | mv x=>have h1:=h x (by simp [K.opds]); simp only [K.run,h1.1,h1.2]
 | pick c a b =>
  have h1:=h c (by simp [K.opds]); have h2:=h a (by simp [K.opds]); have h3:=h b (by simp [K.opds]);simp only [K.run,h1.1,h2.1,h2.2,h3.1,h3.2]
 | alloc z=>rfl
 | box z x=>have h1:=h x (by simp [K.opds]); simp only [K.run,h1.1,h1.2]
 | build z ps =>
  have h1:∀ p∈ps,p.2.2.get s=p.2.2.get s':=fun p hp=>(h p.2.2 (List.mem_map.2 ⟨p,hp,rfl⟩)).1
  have e1:ps.all (fun p=>(p.2.2.get s).whole)=ps.all (fun p=>(p.2.2.get s').whole):=by
   rw [Bool.eq_iff_iff,y5,y5];exact ⟨fun h p hp=>by rw [<- h1 p hp]; exact h p hp,fun h p hp=>by rw [h1 p hp]; exact h p hp⟩
  have e2:(ps.map fun p=>(p.1,p.2.1,(p.2.2.get s).cells))=ps.map fun p=>(p.1,p.2.1,(p.2.2.get s').cells):=yo fun p hp=>by rw [h1 p hp]
  simp only [K.run,e1,e2]
 | bsl z n ps =>
  have h1:∀ p∈ps,p.2.get s=p.2.get s':=fun p hp=>(h p.2 (List.mem_map.2 ⟨p,hp,rfl⟩)).1
  have e1:ps.all (fun p=>(p.2.get s).free&&decide ((p.2.get s).cells.length=z.length))=ps.all (fun p=>(p.2.get s').free&&decide ((p.2.get s').cells.length=z.length)):=by
   rw [Bool.eq_iff_iff,y5,y5];exact ⟨fun h p hp=>by rw [<- h1 p hp]; exact h p hp,fun h p hp=>by rw [h1 p hp]; exact h p hp⟩
  have e2:(ps.map fun p=>(p.2.get s).cells)=ps.map fun p=>(p.2.get s').cells:=yo fun p hp=>by rw [h1 p hp]
  simp only [K.run,e1,e2]
 | load cl g z x =>
  have h1:=h x (by simp [K.opds]);simp only [K.run,h1.1];split
  ·rename_i t n off _;split
   ·rename_i sa;rw [hm t n];cases cl with
    | any=>trivial
    | imm=>simp [Cl.okPtr] at sa
    | root r=>simp [Cl.okPtr] at sa; exact sa.symm
    | out L=>show L.contains t=false; simpa [Cl.okPtr] using sa
   ·rfl
  ·rfl
  ·rfl
  ·rfl
 | clr cl z x =>
  have h1:=h x (by simp [K.opds]);simp only [K.run,h1.1];split
  ·rfl
  ·rename_i t n sz off ln _ _;split
   ·rename_i sa;have sa:=sa.1;rw [hm t n];cases cl with
    | any=>trivial
    | imm=>simp [Cl.okPtr] at sa
    | root r=>simp [Cl.okPtr] at sa; exact sa.symm
    | out L=>show L.contains t=false; simpa [Cl.okPtr] using sa
   ·rfl
  ·rfl
 | store cl g z x y =>
  have h1:=h x (by simp [K.opds]); have h2:=h y (by simp [K.opds]);simp only [K.run,h1.1,h2.1,h2.2];split
  ·rename_i t n off _;split
   ·rename_i sa;rw [hm t n];cases cl with
    | any=>trivial
    | imm=>simp [Cl.okPtr] at sa
    | root r=>simp [Cl.okPtr] at sa; exact sa.symm
    | out L=>show L.contains t=false; simpa [Cl.okPtr] using sa
   ·rfl
  ·rfl
 | mm b x y=>have h1:=h x (by simp [K.opds]); have h2:=h y (by simp [K.opds]); simp only [K.run,h1.1,h2.1]
 | bin op b x y=>have h1:=h x (by simp [K.opds]); have h2:=h y (by simp [K.opds]); simp only [K.run,h1.1,h2.1]
 | eqa n ks x y=>have h1:=h x (by simp [K.opds]); have h2:=h y (by simp [K.opds]); simp only [K.run,h1.1,h2.1]
 | eqn n p x y=>have h1:=h x (by simp [K.opds]); have h2:=h y (by simp [K.opds]); simp only [K.run,h1.1,h2.1]
 | un op x=>have h1:=h x (by simp [K.opds]); simp only [K.run,h1.1]
 | conv o x=>have h1:=h x (by simp [K.opds]); simp only [K.run,h1.1]
 | rstr x=>have h1:=h x (by simp [K.opds]); simp only [K.run,h1.1]
 | bstr cl x =>
  have h1:=h x (by simp [K.opds]);have h3:=nE (cl:=cl) (s:=s) (s':=s') (fun sa t n=>hm t n (by cases cl <;> simp [Cl.okMem] at sa; trivial)) (x.get s');simp only [K.run,h1.1,h3]
 | aslc cl l z x lo hi =>
  have h1:=h x (by simp [K.opds]);have h2:∀ d,CD s d lo=CD s' d lo:=fun d=>lH fun o ho=>h o (by simp only [K.opds,List.mem_cons,List.mem_append]; exact .inr (.inl ho))
  have h3:∀ d,CD s d hi=CD s' d hi:=fun d=>lH fun o ho=>h o (by simp only [K.opds,List.mem_cons,List.mem_append]; exact .inr (.inr ho))
  simp only [K.run,h1.1,h2,h3];split
  ·rename_i t n o _;cases hc:cl.okMem with
   | true=>rw [hm t n (by cases cl <;> simp [Cl.okMem] at hc; trivial)]
   | false =>
    simp only [yq,and_false,if_false];cases CD s' 0 lo <;> try rfl
    cases CD s' l hi <;> try rfl
    cases s.mem t n <;> cases s'.mem t n <;> rfl
  ·rfl
 | mkf f xs =>
  have h1:∀ x∈xs,x.get s=x.get s':=fun x hx=>(h x hx).1
  have e1:xs.all (fun x=>(x.get s).capOk)=xs.all (fun x=>(x.get s').capOk):=by
   rw [Bool.eq_iff_iff,y5,y5];exact ⟨fun h p hp=>by rw [<- h1 p hp]; exact h p hp,fun h p hp=>by rw [h1 p hp]; exact h p hp⟩
  have e2:xs.map (·.get s)=xs.map (·.get s'):=yo h1;simp only [K.run,e1,e2]
 | callv cl x xs =>
  have h0:=h x (by simp [K.opds]);have hx:xO s s' xs:=fun o ho=>h o (by simp [K.opds,ho])
  have su:cl.okMem=true->∀ t n,s.mem t n=s'.mem t n:=fun sa t n=>hm t n (by cases cl <;> simp [Cl.okMem] at sa; trivial)
  have h1:=dC (cl:=cl) (s:=s) (s':=s') su (za rfl) (xs:=xs) hx;have h2:=QD (xs:=xs) hx;have h3:∀ l,NC s cl l=NC s' cl l:=cH su;simp only [K.run,h0.1,h1,h2,h3]
 | callr cl f xs =>
  have su:cl.okMem=true->∀ t n,s.mem t n=s'.mem t n:=fun sa t n=>hm t n (by cases cl <;> simp [Cl.okMem] at sa; trivial)
  have h1:∀ t n,BD s cl t n xs=BD s' cl t n xs:=fun t n=>xL su (za rfl) (xs:=xs) h
  have h2:AF s xs=AF s' xs:=by
   cases xs with
   | nil=>rfl
   | cons x r=>simp only [AF,(h x (by simp [K.opds])).1]
  simp only [K.run,h1,h2];split
  ·rename_i t n _;split
   ·rename_i sa;rw [hm t n (by cases cl with
     | any=>trivial
     | imm=>simp [Cl.okPtr] at sa
     | root r=>simp [Cl.okPtr] at sa; exact sa.symm
     | out L=>show L.contains t=false; simpa [Cl.okPtr] using sa)]
   ·rfl
  ·rfl
 | callh nt x xs=>rfl
 | nxt x=>rfl
 | slz x=>have h1:=h x (by simp [K.opds]); simp only [K.run,h1.1]
 | ent x=>have h1:=h x (by simp [K.opds]); simp only [K.run,h1.1,za rfl]
 | rng x=>have h1:=h x (by simp [K.opds]); simp only [K.run,h1.1,za rfl]
 | mks z b zs x y=>have h1:=h x (by simp [K.opds]); have h2:=h y (by simp [K.opds]); simp only [K.run,h1.1,h2.1]
 | slc st z x lo hi mx =>
  have h1:=h x (by simp [K.opds]);have h2:∀ d,CD s d lo=CD s' d lo:=fun d=>lH fun o ho=>h o (by simp only [K.opds,List.mem_cons,List.mem_append]; exact .inr (.inl ho))
  have h3:∀ d,CD s d hi=CD s' d hi:=fun d=>lH fun o ho=>h o (by simp only [K.opds,List.mem_cons,List.mem_append]; exact .inr (.inr (.inl ho)))
  simp only [K.run,h1.1,h2,h3]
 | faddr f x=>have h1:=h x (by simp [K.opds]); simp only [K.run,h1.1]
 | field g f z x=>have h1:=h x (by simp [K.opds]); simp only [K.run,h1.1]
 | aaddr l z x i=>have h1:=h x (by simp [K.opds]); have h2:=h i (by simp [K.opds]); simp only [K.run,h1.1,h2.1]
 | iaddr z x i=>have h1:=h x (by simp [K.opds]); have h2:=h i (by simp [K.opds]); simp only [K.run,h1.1,h2.1]
 | index x i=>have h1:=h x (by simp [K.opds]); have h2:=h i (by simp [K.opds]); simp only [K.run,h1.1,h2.1]
 | ext x i=>have h1:=h x (by simp [K.opds]); simp only [K.run,h1.1]
 | call cl f xs =>
  have h1:=dC (cl:=cl) (s:=s) (s':=s') (fun sa t n=>hm t n (by cases cl <;> simp [Cl.okMem] at sa; trivial)) (za rfl) (xs:=xs) h;have h2:=QD (xs:=xs) h;simp only [K.run,h1,h2,za rfl]
 | callf cl f z xs =>
  have h1:=dC (cl:=cl) (s:=s) (s':=s') (fun sa t n=>hm t n (by cases cl <;> simp [Cl.okMem] at sa; trivial)) (za rfl) (xs:=xs) h;have h2:=QD (xs:=xs) h;simp only [K.run,h1,h2,za rfl]
 | callo cl f z xs =>
  have h1:=dC (cl:=cl) (s:=s) (s':=s') (fun sa t n=>hm t n (by cases cl <;> simp [Cl.okMem] at sa; trivial)) (za rfl) (xs:=xs) h;have h2:=QD (xs:=xs) h;simp only [K.run,h1,h2]
 | calln cl f z L x xs =>
  have hx:=h x yh;have sb:xO s s' xs:=fun o ho=>h o (yr _ ho)
  have h1:=dC (cl:=cl) (s:=s) (s':=s') (fun sa t n=>hm t n (by cases cl <;> simp [Cl.okMem] at sa; trivial)) (za rfl) sb;have h2:=QD sb;have h3:=nE (cl:=cl) (s:=s) (s':=s') (fun sa t n=>hm t n (by cases cl <;> simp [Cl.okMem] at sa; trivial));simp only [K.run,h1,h2,h3,hx.1,hx.2]
 | callq cl f xs =>
  by_cases sa:cl.okMem=true
  ·have wr:∀ t n,s.mem t n=s'.mem t n:=fun t n=>hm t n (by cases cl <;> simp [Cl.okMem] at sa; trivial)
   have e:(xs.map fun x=>(x.get s).frz s)=xs.map fun x=>(x.get s').frz s':=yo fun x hx=>by rw [(h x hx).1,ZW wr]
   simp only [K.run,e]
  ·simp [K.run,sa]
 | len st x=>have h1:=h x (by simp [K.opds]); simp only [K.run,h1.1]
 | app cl e z b x y =>
  have h1:=h x (by simp [K.opds]); have h2:=h y (by simp [K.opds]);have h3:=nE (cl:=cl) (s:=s) (s':=s') (fun sa t n=>hm t n (by cases cl <;> simp [Cl.okMem] at sa; trivial)) (y.get s');simp only [K.run,h1.1,h1.2,h2.1,h3]
 | mkm=>rfl
 | bad=>rfl
 | mkb T e=>rfl
 | mget ok ty z x k=>have h1:=h x (by simp [K.opds]); have h2:=h k (by simp [K.opds]); simp only [K.run,h1.1,h2.1,za rfl]
 | mset ty x k v=>have h1:=h x (by simp [K.opds]); have h2:=h k (by simp [K.opds]); have h3:=h v (by simp [K.opds]); simp only [K.run,h1.1,h2.1,h3.1,za rfl]
 | mlen x=>have h1:=h x (by simp [K.opds]); simp only [K.run,h1.1,za rfl]
 | appf cl e z b x y =>
  have h1:=h x (by simp [K.opds]); have h2:=h y (by simp [K.opds]);have h3:∀ v:AV,v.elems s cl=v.elems s' cl:=fun v=>nE (cl:=cl) (s:=s) (s':=s') (fun sa t n=>hm t n (by cases cl <;> simp [Cl.okMem] at sa; trivial)) v
  simp only [K.run,h1.1,h1.2,h2.1,h3]
 | appm cl e z b x y =>
  have h1:=h x (by simp [K.opds]); have h2:=h y (by simp [K.opds]);have h3:∀ v:AV,v.elems s cl=v.elems s' cl:=fun v=>nE (cl:=cl) (s:=s) (s':=s') (fun sa t n=>hm t n (by cases cl <;> simp [Cl.okMem] at sa; trivial)) v
  simp only [K.run,h1.1,h1.2,h2.1,h3]
 | appn cl e z b x y =>
  have h1:=h x (by simp [K.opds]); have h2:=h y (by simp [K.opds]);have h3:∀ v:AV,v.raws s cl=v.raws s' cl:=fun v=>QT (cl:=cl) (s:=s) (s':=s') (fun sa t n=>hm t n (by cases cl <;> simp [Cl.okMem] at sa; trivial)) v
  simp only [K.run,h1.1,h1.2,h2.1,h3]
 | bslr sz z n ps =>
  have h1:∀ p∈ps,p.2.get s=p.2.get s':=fun p hp=>(h p.2 (List.mem_map.2 ⟨p,hp,rfl⟩)).1
  have e1:ps.all (fun p=>(p.2.get s).whole&&decide ((p.2.get s).cells.length=z.length))=ps.all (fun p=>(p.2.get s').whole&&decide ((p.2.get s').cells.length=z.length)):=by
   rw [Bool.eq_iff_iff,y5,y5];exact ⟨fun h p hp=>by rw [<- h1 p hp]; exact h p hp,fun h p hp=>by rw [h1 p hp]; exact h p hp⟩
  have e2:(ps.map fun p=>(p.2.get s).cells)=ps.map fun p=>(p.2.get s').cells:=yo fun p hp=>by rw [h1 p hp]
  simp only [K.run,e1,e2]
 | nilchk x=>have h1:=h x (by simp [K.opds]); simp only [K.run,h1.1]
structure IQ (f:An->An):Prop where
 no:f .no=.no
 ex:f .ex=.ex
 own:∀ k e,f (.own k e)≠.ex
def tA.mapAn (s:tA) (f:An->An):tA:=⟨fun t=>⟨(s.env t).v,f (s.env t).a⟩,fun t n=>(s.mem t n).map (·.map fun x=>⟨x.v,f x.a⟩),s.next,s.obj,fun t=>⟨(s.gh t).v,f (s.gh t).a⟩⟩
def qA.mapAn (f:An->An) (x:qA):qA:=⟨x.v,f x.a⟩
def wB.mapAn (f:An->An):wB->wB
 | .new r=>.new (r.map (qA.mapAn f))
 | .set t n r=>.set t n (r.map (qA.mapAn f))
 | .ob2 t n S r=>.ob2 t n S (r.map (qA.mapAn f))
 | e=>e
theorem fA (f:An->An) (o:GA):o.get (s.mapAn f)=o.get s:=by cases o <;> rfl
theorem KT {f:An->An} (hf:IQ f) (b:Bool) (a:An):SS b (f a)=f (SS b a):=by
 cases b with
 | true=>exact hf.ex.symm
 | false=>rfl
theorem KW {f:An->An} (hf:IQ f) (b:Bool) (a:An):w8 b (f a)=w8 b a:=by
 unfold w8;rw [KT hf];cases h:SS b a with
 | no=>rw [hf.no]
 | ex=>rw [hf.ex]
 | own k e =>
  cases h2:f (.own k e) with
  | ex=>exact absurd h2 (hf.own k e)
  | no=>rfl
  | own k' e'=>rfl
theorem TG {f:An->An} (hf:IQ f) (o:GA):o.an (s.mapAn f)=f (o.an s):=by
 cases o with
 | t n=>rfl
 | c v=>cases v <;> first | exact hf.no.symm | (rename_i b l; cases b; exact hf.no.symm; exact hf.ex.symm)
theorem OH (f:An->An) (r:List qA) (sz off len:Nat):bA (r.map (qA.mapAn f)) sz off len=bA r sz off len:=by
 unfold bA;have h1:(r.map (qA.mapAn f)).all (fun x=>x.v.free0)=r.all (fun x=>x.v.free0):=by rw [List.all_map]; rfl
 simp only [yv,h1];congr 1;congr 1;apply yo;intro i _;rw [<- List.map_drop,<- List.map_take,J];rfl
theorem NI (f:An->An) (cl:Cl) (v:AV):v.elems (s.mapAn f) cl=v.elems s cl:=by
 cases v <;> simp only [AV.elems]
 rename_i t n sz off len cap;split
 ·simp only [tA.mapAn];cases s.mem t n with
  | none=>rfl
  | some r=>exact OH f r sz off len
 ·rfl
theorem rS (f:An->An) (cl:Cl) (v:AV):rJ (s.mapAn f) cl v=rJ s cl v:=by
 cases v <;> simp only [rJ]
 rename_i t n off;split
 ·simp only [tA.mapAn];cases s.mem t n with
  | none=>rfl
  | some r =>
   simp only [yd,<- List.map_drop,List.all_map,J];rfl
 ·rfl
theorem bH (f:An->An) (cl:Cl):∀ (l:List AV),NC (s.mapAn f) cl l=NC s cl l
 | []=>rfl
 | x :: r=>by simp only [NC,rS f cl x,bH f cl r]
theorem nK (f:An->An) (cl:Cl) (v:AV):zL (s.mapAn f) cl v=zL s cl v:=by
 unfold zL;split
 ·rename_i t n sz off len cap;split
  ·simp only [tA.mapAn];cases s.mem t n with
   | none=>rfl
   | some r=>simp only [yd,U]; rw [show (fun x:qA=>(⟨x.v,f x.a⟩:qA))=qA.mapAn f from rfl,OH]
  ·rfl
 ·rfl
 ·rfl
 ·rfl
 ·rfl
theorem wS (f:An->An) (cl:Cl) (v:AV):eJ (s.mapAn f) cl v=eJ s cl v:=by
 have:=nK (s:=s) f cl v;cases v <;> simp only [eJ,bH] <;> exact this
theorem fC (f:An->An) (cl:Cl):∀ (xs:List GA),cB (s.mapAn f) cl xs=cB s cl xs
 | []=>rfl
 | x :: r=>by
  unfold cB;rw [fC f cl r,fA];rw [wS]
theorem cL (f:An->An) (cl:Cl) (t n:Nat):∀ (xs:List GA),BD (s.mapAn f) cl t n xs=BD s cl t n xs
 | []=>rfl
 | x :: r=>by
  unfold BD;rw [cL f cl t n r,fA];have:WN (s.mapAn f) cl t n (x.get s)=WN s cl t n (x.get s):=by
   unfold WN;split
   ·rfl
   ·rw [nK]
   ·rfl
   ·rw [nK]
  rw [this]
theorem hP (f:An->An) (xs:List GA):AF (s.mapAn f) xs=AF s xs:=by
 cases xs with
 | nil=>rfl
 | cons x r=>simp only [AF,fA]
theorem PS {f:An->An} (hf:IQ f) (v:AV):f (SC v)=SC v:=by
 unfold SC;split
 ·exact hf.ex
 ·exact hf.no
theorem WD (f:An->An) (xs:List GA):lC (s.mapAn f) xs=lC s xs:=by
 unfold lC;simp only [fA]
theorem QO (f:An->An) (d:Nat) (o:Option GA):CD (s.mapAn f) d o=CD s d o:=by
 cases o with
 | none=>rfl
 | some o=>simp only [CD,fA]
theorem fX (f:An->An) (hf:IQ f) (g:Bool) (z off:Nat) (r:List qA):bC g z off (r.map (qA.mapAn f))=(bC g z off r).map (qA.mapAn f):=by
 unfold bC;cases g with
 | true =>
  simp only [if_true,yv];split
  ·simp only [yd,qA.mapAn,hf.no,<- List.map_drop,<- List.map_take,J];rfl
  ·rfl
 | false=>simp
theorem cY (f:An->An) (hf:IQ f) (z:List AV) (off ln:Nat) (r:List qA):AW z off ln (r.map (qA.mapAn f))=(AW z off ln r).map (·.map (qA.mapAn f)):=by
 have h:(lA (ye ln z)).map (qA.mapAn f)=lA (ye ln z):=by
  unfold lA;rw [J];refine yo fun v _=>?_
  simp [qA.mapAn,hf.no]
 unfold AW;rw [yv];split
 ·simp only [yd,List.map_append,List.map_take,List.map_drop,h]
 ·rfl
theorem QS (f:An->An) (hf:IQ f) (g:Bool) (z off:Nat) (r:List qA) (v:AV) (a:An):LE g z off (r.map (qA.mapAn f)) v (f a)=(LE g z off r v a).map (·.map (qA.mapAn f)):=by
 unfold LE;cases g with
 | true =>
  simp only [if_true,yv];cases v <;> try rfl
  simp only;split
  ·simp only [yd,List.map_append,List.map_take,List.map_drop,J];congr 3;apply yo;intro x _;simp [qA.mapAn,hf.no]
  ·rfl
 | false =>
  simp only [yq,if_false,yv];split
  ·simp [qA.mapAn,List.map_set]
  ·rfl
theorem XW (f:An->An) (v:AV):v.frz (s.mapAn f)=v.frz s:=by
 have hm:∀ t n,(s.mapAn f).mem t n=(s.mem t n).map (·.map (qA.mapAn f)):=fun _ _=>rfl
 have hr:∀ (r:List qA) sz off len,SF (r.map (qA.mapAn f)) sz off len=SF r sz off len:=fun r sz off len=>by
  simp only [SF,yv];congr 2;exact yo fun i _=>by
   rw [<- List.map_drop,<- List.map_take,J];rfl
 have h1:∀ v:AV,v.frz1 (s.mapAn f)=v.frz1 s:=fun v=>by
  cases v <;> simp only [AV.frz1,hm]
  rename_i t n sz off len cap;cases s.mem t n with
  | none=>rfl
  | some r=>simp only [yd,U,OH]
 have nv:AV.frz1 (s.mapAn f)=AV.frz1 s:=funext h1;have h0:∀ v:AV,v.frz0 (s.mapAn f)=v.frz0 s:=fun v=>by
  cases v <;> simp only [AV.frz0,hm]
  rename_i t n sz off len cap;cases s.mem t n with
  | none=>rfl
  | some r=>simp only [yd,U,OH,gO,hr,nv]
 have oi:AV.frz0 (s.mapAn f)=AV.frz0 s:=funext h0;cases v <;> simp only [AV.frz,h0,oi]
theorem bX {f:An->An} (hf:IQ f) (k:K) (hk:AX k=false):k.run call (s.mapAn f)=(k.run call s).map fun p=>(p.1.mapAn f,p.2.mapAn f):=by
  cases k with
  | mv x=>simp [K.run,fA,TG hf,qA.mapAn,wB.mapAn]
  | callh nt x xs=>rfl
  | nxt x=>rfl
  | slz x =>
    simp only [K.run,fA];split <;> simp [qA.mapAn,wB.mapAn,hf.ex]
  | ent x =>
    simp only [K.run,fA,show (s.mapAn f).obj=s.obj from rfl];split
    · split
      · split
        · split
          · split
            · split <;> simp [qA.mapAn,wB.mapAn,hf.no]
            · rfl
          · rfl
        · rfl
      · rfl
    · rfl
  | rng x =>
    simp only [K.run,fA,show (s.mapAn f).obj=s.obj from rfl];split
    · split <;> simp [qA.mapAn,wB.mapAn,hf.no]
    · rfl
  | pick c a b =>
    simp only [K.run,fA,TG hf];split
    · rename_i t _
      cases t <;> simp [qA.mapAn,wB.mapAn]
    · rfl
  | alloc z =>
    simp only [K.run,yd,qA.mapAn,wB.mapAn,hf.no,J];congr 3;apply yo;intro v _;simp only [Function.comp,qA.mapAn,SC];split <;> simp [hf.no,hf.ex]
  | box z x =>
    simp only [K.run,fA,TG hf];split
    · split
      · simp [qA.mapAn,wB.mapAn,hf.no,Function.comp_def]
      · rfl
    · split
      · simp [qA.mapAn,wB.mapAn,hf.no]
      · rfl
  | build z ps =>
    simp only [K.run,fA];split
    · rw [Option.map_map]
      congr 1;funext cs;simp [qA.mapAn,wB.mapAn,hf.no]
    · rfl
  | bsl z n ps =>
    simp only [K.run,fA];split
    · simp [qA.mapAn,wB.mapAn,hf.ex]
    · rfl
  | load cl g z x =>
    simp only [K.run,fA];split
    · rename_i t n off _
      split
      · simp only [tA.mapAn]
        cases s.mem t n with
        | none=>rfl
        | some r =>
          simp only [yd,U];rw [show (fun x:qA=>(⟨x.v,f x.a⟩:qA))=qA.mapAn f from rfl,fX f hf];cases bC g z off r <;> rfl
      · rfl
    · split
      · rfl
      · rename_i cs _ _ _
        cases pC g z cs <;> simp [qA.mapAn,wB.mapAn,hf.no]
    · split
      · rfl
      · rename_i cs _ _ _
        cases pC g z cs <;> simp [qA.mapAn,wB.mapAn,hf.no]
    · rfl
  | clr cl z x =>
    simp only [K.run,fA];split
    · simp [qA.mapAn,wB.mapAn,hf.no]
    · rename_i t n sz off ln _ _
      split
      · simp only [tA.mapAn]
        cases s.mem t n with
        | none=>rfl
        | some r =>
          simp only [yd,U];rw [show (fun x:qA=>(⟨x.v,f x.a⟩:qA))=qA.mapAn f from rfl,cY f hf];cases AW z off ln r <;> simp [qA.mapAn,wB.mapAn,hf.no]
      · rfl
    · rfl
  | store cl g z x y =>
    simp only [K.run,fA,TG hf];split
    · rename_i t n off _
      split
      · simp only [tA.mapAn]
        cases s.mem t n with
        | none=>rfl
        | some r =>
          simp only [yd,U];rw [show (fun x:qA=>(⟨x.v,f x.a⟩:qA))=qA.mapAn f from rfl,QS f hf];cases LE g z off r (y.get s) (y.an s) <;> simp [qA.mapAn,wB.mapAn,hf.no]
      · rfl
    · rfl
  | mm b x y=>simp only [K.run,fA]; cases mmC b (x.get s) (y.get s) <;> simp [qA.mapAn,wB.mapAn,hf.no]
  | bin op b x y=>simp only [K.run,fA]; cases fY op b (x.get s) (y.get s) <;> simp [qA.mapAn,wB.mapAn,hf.no]
  | eqa n ks x y =>
    simp only [K.run,fA];split
    · rename_i a b _ _
      cases zH ks a b <;> simp [qA.mapAn,wB.mapAn,hf.no]
    · rfl
  | eqn n p x y =>
    simp only [K.run,fA];split
    · cases mN false (x.get s) <;> simp [qA.mapAn,wB.mapAn,hf.no]
    · cases mN true (x.get s) <;> simp [qA.mapAn,wB.mapAn,hf.no]
    · rfl
  | un op x=>simp only [K.run,fA]; split <;> simp [qA.mapAn,wB.mapAn,hf.no]
  | conv o x=>simp only [K.run,fA]; split <;> simp [qA.mapAn,wB.mapAn,hf.no]
  | rstr x=>simp only [K.run,fA]; split <;> simp [qA.mapAn,wB.mapAn,hf.no]
  | bstr cl x =>
    simp only [K.run,fA,NI];split
    · rename_i l _
      cases bytesOf l <;> simp [qA.mapAn,wB.mapAn,hf.no]
    · rfl
  | aslc cl l z x lo hi =>
    simp only [K.run,fA,QO];split
    · rename_i t n o _
      simp only [tA.mapAn];cases CD s 0 lo <;> try rfl
      cases CD s l hi <;> try rfl
      cases s.mem t n with
      | none=>rfl
      | some r =>
        simp only [yd,yv];split
        · split <;> simp [qA.mapAn,wB.mapAn,hf.no]
        · rfl
    · rfl
  | mkf g xs =>
    simp only [K.run,fA];split <;> simp [qA.mapAn,wB.mapAn,hf.no]
  | callv cl x xs =>
    simp only [K.run,fA,fC,WD,bH];split
    · split
      · rename_i vs ws _ _ _
        rename_i g cs _ _ _ _ _ _;cases call _ _ none with
        | none=>rfl
        | some r =>
          simp only [U];split
          · split <;> simp [qA.mapAn,wB.mapAn,hf.no]
          · rfl
      · rfl
    · rfl
  | callr cl g xs =>
    simp only [K.run,cL,hP];split
    · rename_i t n _
      split
      · simp only [tA.mapAn]
        cases s.mem t n with
        | none=>rfl
        | some r =>
          simp only [yd];cases BD s cl t n xs with
          | none=>rfl
          | some vs =>
            simp only [List.all_map,J,yv];have e1:r.all ((fun x:qA=>x.v.free0) ∘ fun x=>(⟨x.v,f x.a⟩:qA))=r.all (fun x=>x.v.free0):=rfl;have e2:r.map ((fun x:qA=>x.v) ∘ fun x=>(⟨x.v,f x.a⟩:qA))=r.map (·.v):=rfl;rw [e1,e2];split
            · cases call g (.undef :: .undef :: vs) (some (.agg (r.map (·.v)))) with
              | none=>rfl
              | some q =>
                simp only [U];split
                · split <;> simp [qA.mapAn,wB.mapAn,hf.no,Function.comp_def,PS hf]
                · rfl
            · rfl
      · rfl
    · rfl
  | mks z b zs x y =>
    simp only [K.run,fA];split
    · split
      · simp only [yd,qA.mapAn,wB.mapAn,hf.no,J]
        congr 3;apply yo;intro v _;simp [qA.mapAn,hf.no]
      · rfl
    · rfl
  | slc st z x lo hi mx =>
    simp only [K.run,fA,QO];split
    · rfl
    · split
      · rfl
      · split <;> first
          | rfl
          | (split
             · split <;> (try split) <;> simp [qA.mapAn,wB.mapAn,hf.no]
             · rfl)
  | faddr o x=>simp only [K.run,fA]; split <;> simp [qA.mapAn,wB.mapAn,hf.no]
  | field g o z x =>
    simp only [K.run,fA];split
    · rename_i cs _
      cases pC g z (cs.drop o) <;> simp [qA.mapAn,wB.mapAn,hf.no]
    · rfl
  | aaddr l z x i =>
    simp only [K.run,fA];split
    · split
      · split <;> simp [qA.mapAn,wB.mapAn,hf.no]
      · rfl
    · rfl
  | iaddr z x i =>
    simp only [K.run,fA];split
    · split
      · rename_i k _ _ _ l _
        cases l[k]? with
        | none=>rfl
        | some cs=>simp only [U]; split <;> simp [qA.mapAn,wB.mapAn,hf.no]
      · rename_i k _ _ l _
        cases l[k]? with
        | none=>rfl
        | some cs=>simp only [U]; split <;> simp [qA.mapAn,wB.mapAn,hf.no]
      · split <;> simp [qA.mapAn,wB.mapAn,hf.no]
      · rfl
    · rfl
  | index x i =>
    simp only [K.run,fA];split
    · rename_i k b _ _
      cases b[k]? <;> simp [qA.mapAn,wB.mapAn,hf.no]
    · rfl
  | ext x i =>
    simp only [K.run,fA];split
    · rename_i vs _
      cases vs[i]? <;> simp [qA.mapAn,wB.mapAn,hf.no]
    · rfl
  | call cl g xs =>
    simp only [K.run,fC,WD];cases cB s cl xs with
    | none=>rfl
    | some vs =>
      simp only [U];split
      · cases call g vs none with
        | none=>rfl
        | some r =>
          simp only [U];split
          · split <;> simp [qA.mapAn,wB.mapAn,hf.no]
          · split <;> simp [qA.mapAn,wB.mapAn,hf.no]
      · rename_i t n _
        simp only [show (s.mapAn f).obj=s.obj from rfl];cases call g vs (s.obj t n) with
        | none=>rfl
        | some r =>
          simp only [U];split
          · rfl
          · split <;> simp [qA.mapAn,wB.mapAn,hf.no]
      · rfl
  | callf cl g z xs =>
    simp only [K.run,fC,WD];cases cB s cl xs with
    | none=>rfl
    | some vs =>
      simp only [U];split
      · rename_i t n _
        simp only [show (s.mapAn f).obj=s.obj from rfl];cases call g (.undef :: vs) (s.obj t n) with
        | none=>rfl
        | some r =>
          simp only [U];split
          · split
            · split
              · simp [qA.mapAn,wB.mapAn,hf.no]
              · simp [qA.mapAn,wB.mapAn,hf.no,lA,Function.comp_def]
            · rfl
          · rfl
      · rfl
  | callo cl g z xs =>
    simp only [K.run,fC,WD];split
    · rename_i vs _ _
      cases call g (.undef :: vs) none with
      | none=>rfl
      | some r =>
        simp only [U];split
        · rename_i b l
          split
          · split
            · simp [qA.mapAn,wB.mapAn,hf.ex]
            · split
              · rfl
              · simp [qA.mapAn,wB.mapAn,hf.no,lA,Function.comp_def]
          · rfl
        · rfl
    · rfl
  | calln cl g z L x xs =>
    simp only [K.run,fC,WD,fA,NI,TG hf,KW hf];split
    · rename_i vs _ _
      split
      · split
        · split
          · rename_i l _
            split
            · cases call g (.undef :: .sl false l :: vs) (some (.int .i64 z)) with
              | none=>rfl
              | some r =>
                simp only [U];split
                · split
                  · simp [qA.mapAn,wB.mapAn,hf.no,lA,Function.comp_def]
                  · rfl
                · rfl
            · rfl
          · rfl
        · rename_i b _
          split
          · cases call g (.undef :: .sl b [] :: vs) (some (.int .i64 z)) with
            | none=>rfl
            | some r =>
              simp only [U];split
              · split
                · simp [qA.mapAn,wB.mapAn,hf.no,lA,Function.comp_def]
                · rfl
              · rfl
          · rfl
        · rfl
      · rfl
    · rfl
  | callq cl g xs =>
    have e:(xs.map fun x=>(x.get (s.mapAn f)).frz (s.mapAn f))=xs.map fun x=>(x.get s).frz s:=yo fun x _=>by rw [fA,XW]
    simp only [K.run,e];split
    · cases call g (xs.map fun x=>(x.get s).frz s) none with
      | none=>rfl
      | some r =>
        simp only [U];split
        · split <;> simp [qA.mapAn,wB.mapAn,hf.no]
        · rfl
    · rfl
  | len st x=>simp only [K.run,fA]; split <;> (try split) <;> simp [qA.mapAn,wB.mapAn,hf.no]
  | app cl e z b x y=>simp [AX] at hk
  | mkm=>simp [K.run,qA.mapAn,wB.mapAn,hf.no]
  | bad=>simp [K.run]
  | mkb T e=>simp [K.run,qA.mapAn,wB.mapAn,hf.no]
  | mget ok ty z x k =>
    simp only [K.run,fA,show (s.mapAn f).obj=s.obj from rfl];split
    · split
      · split <;> simp [qA.mapAn,wB.mapAn,hf.no]
      · rfl
    · rfl
  | mset ty x k v =>
    simp only [K.run,fA,show (s.mapAn f).obj=s.obj from rfl];split
    · split
      · split <;> simp [qA.mapAn,wB.mapAn,hf.no]
      · rfl
    · rfl
  | mlen x =>
    simp only [K.run,fA,show (s.mapAn f).obj=s.obj from rfl];split
    · split <;> simp [qA.mapAn,wB.mapAn,hf.no]
    · rfl
  | appf cl e z b x y =>
    simp only [K.run,fA,TG hf,NI];split
    · split
      · rename_i bb _ _ _ _ _
        rw [KT hf];cases hx:SS bb (x.an s) with
        | no=>simp [hf.no]
        | ex =>
          simp only [hf.ex];split
          · simp [qA.mapAn,wB.mapAn,hf.ex]
          · simp [qA.mapAn,wB.mapAn,hf.no,Function.comp_def,lA]
        | own k e =>
          simp only;have:=hf.own k e;split
          · contradiction
          · rfl
      · rfl
    · rfl
  | appm cl e z b x y=>simp [AX] at hk
  | appn cl e z b x y=>simp [AX] at hk
  | bslr sz z n ps =>
    simp only [K.run,fA];split
    · simp [qA.mapAn,wB.mapAn,hf.no,Function.comp_def,lA]
    · rfl
  | nilchk x=>simp only [K.run,fA]; split <;> simp [qA.mapAn,wB.mapAn,hf.no]
end
end
section
open Go Go.RowKit
section
variable {P:Program} {O:OB} {nt B:Nat} {F0:DH} {ga:Av} {w0:World} {D:Nat->Prop} {s:tA} {a:Act} {w w':World} {ι:Ix} {Θ:tE} {o:Oper}
theorem CS {α:Type} (sz:Nat):∀ (len:Nat) (L:List α),len * sz<=L.length->((List.range len).map fun i=>(L.drop (i * sz)).take sz).flatten=L.take (len * sz)
 | 0,L,_=>by simp
 | len + 1,L,h=>by
  have h1:len * sz<=L.length:=by rw [yt] at h; omega
  rw [y3,List.map_append,List.flatten_append,CS sz len L h1];simp only [yf,List.map_nil,yi,List.flatten_nil,List.append_nil];rw [yt,List.take_add]
theorem PC {av:Av} {r:List qA} {cur:Array Value} (ja:uB ι Θ av w r cur) {b:Nat} {ty:TypeId} (hb:w.heap[b]?=some (.cells cur ty (0,0))) {sz off len:Nat} {m:List (List AV)} (h:bA r sz off len=some m) :
  m.length=len/\(∀ c∈m,c.length=sz)/\∃ us,IA av w m.flatten us/\∀ (j:Nat) (u:Value),us[j]?=some u->w.cell? ⟨b,off + j,none⟩=some u:=by
 unfold bA at h;split at h
 ·rename_i hc;injection h with h;subst h;have rc:∀ x∈r.map (·.v),x.free0=true:=fun x hx=>by
   obtain ⟨y,hy,rfl⟩:=List.mem_map.1 hx;exact y5.1 hc.2 y hy
  have lg:((List.range len).map fun i=>((r.drop (off + i * sz)).take sz).map (·.v)).flatten=((r.map (·.v)).drop off).take (len * sz):=by
   rw [<- CS sz len _ (by simp; omega)];congr 1;apply yo;intro i _;rw [List.drop_drop,List.map_take,List.map_drop]
  have mb:=qC (len * sz) (AB off ja.rep);refine ⟨by simp,fun c ml=>?_,((cur.toList.take r.length).drop off).take (len * sz),?_,fun j u hu=>?_⟩
  ·obtain ⟨i,hi,rfl⟩:=List.mem_map.1 ml;have bc:i<len:=by simpa using hi
   have:(i + 1) * sz<=len * sz:=Nat.mul_le_mul_right _ bc;rw [yt] at this;simp;omega
  ·rw [lg];exact HC mb fun x hx=>rc x (List.mem_of_mem_drop (List.mem_of_mem_take hx))
  ·rw [cell_of_row w b (off + j) cur ty (0,0) hb];rw [ym] at hu;split at hu
   ·rw [yj,ym] at hu;split at hu
    ·simpa using hu
    ·cases hu
   ·cases hu
 ·cases h
theorem zF (R:DA P O nt B F0 ga w0 D s a w ι Θ) {v:Value} {y:AV} (hY:nA ι (JA ga ι Θ) (ZA ι Θ) w y v) {cl:Cl} {m:List (List AV)} (h:y.elems s cl=some m) {sz:Nat} (kb:0<sz) (rb:∀ c∈m,c.length=sz) :
  ∃ us,IA (JA ga ι Θ) w m.flatten us/\Sl (fun _=>False) w sz v m.length us:=by
 have rj:m.flatten.length=m.length * sz:=by
  clear h hY
  induction m with
  | nil=>simp
  | cons c r ih=>rw [yi,y9,rb c (by simp),ih (fun c hc=>rb c (by simp [hc])),yz,yt]; omega
 have da:∀ {av:Av} {us:List Value},IA av w m.flatten us->us.length=m.length * sz:=fun h=>by
  have:=NA (aB (ι:=ι) h);omega
 cases y with
 | sl nil l =>
  injection h with h;subst h;rw [rB] at hY;simp only [xB] at hY;obtain ⟨A,c,hv,hc,_,hn,hs⟩:=hY;rcases yx l.length with h0 | h0
  ·have:l=[]:=yF h0;subst this;exact ⟨[],rfl,by simp,A,c,hv,hc,fun h=>by simp at h⟩
  ·cases nil with
   | true=>have:=(hn rfl).2.1; omega
   | false =>
    obtain ⟨b,off,rfl,ja⟩:=(hs rfl).2 h0;obtain ⟨us,hl,oc⟩:=KD (bB.1 ja);refine ⟨us,hl,da hl,_,c,hv,hc,fun _=>⟨b,off,rfl,?_,fun h=>h,fun j u hu=>(oc j u hu).1⟩⟩;have hp:0<us.length:=by rw [da hl]; exact Nat.mul_pos h0 kb
    exact IB (oc 0 us[0] (yn hp)).1
 | bl l =>
  injection h with h;subst h;obtain ⟨a',c,hv,hc,_,hs⟩:=hY;rcases yx l.length with h0 | h0
  ·have:l=[]:=yF h0;subst this;exact ⟨[],rfl,by simp,some a',c,hv,hc,fun h=>by simp at h⟩
  ·obtain ⟨b,off,rfl,ja⟩:=hs h0;obtain ⟨us,hl,oc⟩:=EI (ZD.1 ja);refine ⟨us,hl,da hl,_,c,hv,hc,fun _=>⟨b,off,rfl,?_,fun h=>h,fun j u hu=>(oc j u hu).1⟩⟩;have hp:0<us.length:=by rw [da hl]; exact Nat.mul_pos h0 kb
   exact IB (oc 0 us[0] (yn hp)).1
 | ref t n sz' off len cap =>
  simp only [AV.elems] at h;split at h
  ·cases hm:s.mem t n with
   | none=>rw [hm] at h; cases h
   | some r =>
    rw [hm,U] at h;obtain ⟨b,hb,jb,cc,sd,_,hv⟩:=OC.1 hY;obtain ⟨de,b',cur,ty,ra,ba,ja,_⟩:=R.rows t n r hm;rw [hb] at ra;injection ra with ra;subst ra;obtain ⟨h1,h2,us,hl,oc⟩:=PC ja ba h;subst h1;exact ⟨us,hl,da hl,_,cc,hv,yp jb sd,fun _=>⟨b,off,rfl,uA ba,fun h=>h,oc⟩⟩
  ·cases h
 | _=>simp [AV.elems] at h
theorem hJ {av:Av} {r:List qA} {cur:Array Value} (ja:uB ι Θ av w r cur) {b:Nat} {ty:TypeId} (hb:w.heap[b]?=some (.cells cur ty (0,0))) {sz off len:Nat} {m:List (List AV)} (h:SF r sz off len=some m) :
  m.length=len/\(∀ c∈m,c.length=sz)/\∃ us,zA ι av w m.flatten us/\∀ (j:Nat) (u:Value),us[j]?=some u->w.cell? ⟨b,off + j,none⟩=some u:=by
 unfold SF at h;split at h
 ·rename_i hc;injection h with h;subst h;have lg:((List.range len).map fun i=>((r.drop (off + i * sz)).take sz).map (·.v)).flatten=((r.map (·.v)).drop off).take (len * sz):=by
   rw [<- CS sz len _ (by simp; omega)];congr 1;apply yo;intro i _;rw [List.drop_drop,List.map_take,List.map_drop]
  have mb:=qC (len * sz) (AB off ja.rep);refine ⟨by simp,fun c ml=>?_,((cur.toList.take r.length).drop off).take (len * sz),?_,fun j u hu=>?_⟩
  ·obtain ⟨i,hi,rfl⟩:=List.mem_map.1 ml;have bc:i<len:=by simpa using hi
   have:(i + 1) * sz<=len * sz:=Nat.mul_le_mul_right _ bc;rw [yt] at this;simp;omega
  ·rw [lg];exact mb
  ·rw [cell_of_row w b (off + j) cur ty (0,0) hb];rw [ym] at hu;split at hu
   ·rw [yj,ym] at hu;split at hu
    ·simpa using hu
    ·cases hu
   ·cases hu
 ·cases h
theorem iW (R:DA P O nt B F0 ga w0 D s a w ι Θ) {v:Value} {y:AV} (hY:nA ι (JA ga ι Θ) (ZA ι Θ) w y v) {cl:Cl} {m:List (List AV)} (h:y.raws s cl=some m) {sz:Nat} (kb:0<sz) (rb:∀ c∈m,c.length=sz) :
  ∃ us,zA ι (JA ga ι Θ) w m.flatten us/\Sl (fun _=>False) w sz v m.length us:=by
 have rj:m.flatten.length=m.length * sz:=by
  clear h hY
  induction m with
  | nil=>simp
  | cons c r ih=>rw [yi,y9,rb c (by simp),ih (fun c hc=>rb c (by simp [hc])),yz,yt]; omega
 have da:∀ {av:Av} {us:List Value},zA ι av w m.flatten us->us.length=m.length * sz:=fun h=>by
  have:=NA h;omega
 have old:∀ (hm:y.elems s cl=some m),∃ us,zA ι (JA ga ι Θ) w m.flatten us/\Sl (fun _=>False) w sz v m.length us:=fun hm=>by
  obtain ⟨us,h1,h2⟩:=zF R hY hm kb rb;exact ⟨us,aB h1,h2⟩
 cases y with
 | sl nil l=>exact old h
 | bl l=>exact old h
 | ref t n sz' off len cap =>
  simp only [AV.raws] at h;split at h
  ·cases hm:s.mem t n with
   | none=>rw [hm] at h; cases h
   | some r =>
    rw [hm,U] at h;obtain ⟨b,hb,jb,cc,sd,_,hv⟩:=OC.1 hY;obtain ⟨de,b',cur,ty,ra,ba,ja,_⟩:=R.rows t n r hm;rw [hb] at ra;injection ra with ra;subst ra;obtain ⟨h1,h2,us,hl,oc⟩:=hJ ja ba h;subst h1;exact ⟨us,hl,da hl,_,cc,hv,yp jb sd,fun _=>⟨b,off,rfl,uA ba,fun h=>h,oc⟩⟩
  ·cases h
 | _=>simp [AV.raws] at h
theorem RR {t e:TypeId} {i:TypeInfo} {z:Value} (ht:P.underlying t=some (.slice e)) (hi:P.info? e=some i) (ty:TypeId) {g n c:Nat} {cur:Array Value} (hg:w.heap[g]?=some (.cells cur e (0,0))) (bd:cur.size=c * i.size) (_hz:i.zero=some z)
  {src:Value} {m:Nat} {news:List Value} (hs:Sl (fun _=>False) w i.size src m news) (h1:∀ u∈news,u.oneCell'=true) (jb:n + m<=c) :
  (Builtin.append_ #[t,t] ty #[.slice (some ⟨g,0,none⟩) n c,src]).run P w=.ok (.slice (some ⟨g,0,none⟩) (n + m) c) (w.setRow g (cur.toList.take (n * i.size)++news++cur.toList.drop (n * i.size + news.length)).toArray):=by
 obtain ⟨hl,A,c',rfl,hc,ab⟩:=hs;have ne:n * i.size + news.length<=cur.size:=by rw [hl,bd,<- Nat.add_mul]; exact Nat.mul_le_mul_right _ jb
 cases A with
 | none =>
  have hm:m=0:=by
   rcases yx m with h | h
   ·exact h
   ·obtain ⟨b,off,hA,_⟩:=ab h; cases hA
  subst hm;have lq:news=[]:=yF (by simpa using hl);subst lq;simp only [Nat.add_zero] at jb;have xk:w.setRow g (cur.toList.take (n * i.size)++[]++cur.toList.drop (n * i.size + ([]:List Value).length)).toArray=w:=by
   simp only [List.append_nil,List.length_nil,Nat.add_zero,List.take_append_drop,yE];exact setRow_self w g cur e (0,0) hg
  rw [xk];simp [Builtin.append_,run_underlying ht,sizeOf,typeInfo,hi,Builtin.lenOf,Builtin.firstCells,jb,storeCells]
 | some a =>
  refine run_append_room (P:=P) w t ty e i ht hi g n c cur hg a m c' news hl (fun j u hu=>?_) h1 jb ne;have hm:0<m:=by
   rcases yx m with h | h
   ·subst h; have:=(yk.1 hu).1; omega
   ·exact h
  obtain ⟨b,off,hA,_,_,uc⟩:=ab hm;injection hA with hA;subst hA;rw [Addr.add_lit];exact uc j u hu
theorem gN {t e:TypeId} {i:TypeInfo} (ht:P.underlying t=some (.slice e)) (hi:P.info? e=some i) (ty:TypeId) {A:Option Addr} {n c:Nat} (jb:n<=c) {src:Value} {news:List Value} (hs:Sl (fun _=>False) w i.size src 0 news) :
  (Builtin.append_ #[t,t] ty #[.slice A n c,src]).run P w=.ok (.slice A n c) w:=by
 obtain ⟨hl,A',c',rfl,hc,ab⟩:=hs;cases A' <;> cases A <;> simp [Builtin.append_,run_underlying ht,sizeOf,typeInfo,hi,Builtin.lenOf,Builtin.firstCells,jb,storeCells,loadCells,loadCellsFrom]
def BY (w:World) (xs news:List Value) (z:Value) (e:TypeId) (need c:Nat):World:=w.drew.alloc (.cells (xs.toArray++news.toArray++Builtin.zeroCells z.cells (grownCap w need c e - need)) e)
theorem fN {t e:TypeId} {i:TypeInfo} {z:Value} (ht:P.underlying t=some (.slice e)) (hi:P.info? e=some i) (hz:i.zero=some z) (ty:TypeId) {A:Option Addr} {n c:Nat} {xs:List Value} (sb:xs.length=n * i.size) (hA:A=none->n=0/\c=0) (hx:∀ a,A=some a->∀ j u,xs[j]?=some u->w.cell? (a.add j)=some u)
  {src:Value} {m:Nat} {news:List Value} (hs:Sl (fun _=>False) w i.size src m news) (eb:c<n + m) (hnc:n<=c) (h63:n + m<=140737488355328) (pd:(n + m) * i.bytes<=140737488355328) :
  (Builtin.append_ #[t,t] ty #[.slice A n c,src]).run P w=.ok (.slice (some ⟨w.heap.size,0,none⟩) (n + m) (grownCap w (n + m) c e)) (BY w xs news z e (n + m) c):=by
 obtain ⟨hl,A',c',rfl,hc,ab⟩:=hs;have hm:0<m:=by omega
 obtain ⟨b,off,rfl,_,_,uc⟩:=ab hm;have fb:∀ j u,news[j]?=some u->w.cell? ((⟨b,off,none⟩:Addr).add j)=some u:=fun j u hu=>by rw [Addr.add_lit]; exact uc j u hu
 cases A with
 | none =>
  obtain ⟨rfl,rfl⟩:=hA rfl;have gu:xs=[]:=yF (by simpa using sb);subst gu;have:=run_append_nil (P:=P) w t ty e i z ht hi hz ⟨b,off,none⟩ m c' news hl fb hm (by omega) (by rw [yb] at pd; omega);simpa [BY] using this
 | some a =>
  exact run_append_grow (P:=P) w t ty e i z ht hi hz a n c xs sb (hx a rfl) ⟨b,off,none⟩ m c' news hl fb eb (by omega) (growslice_fits (by omega) pd)
section
variable (R:DA P O nt B F0 ga w0 D s a w ι Θ)
include R
theorem DA.fam (Θ':tE) (f:An->An) (ub:∀ b o,ZA ι Θ' b o->ZA ι Θ b o) (jn:∀ A v,pE Θ A v->pE Θ' (f A) v)
  (tok:∀ k o,Θ' k=some o->B<=o.g/\0<o.sz/\o.n<=o.c/\o.c<=maxLen/\∃ cur,w.heap[o.g]?=some (.cells cur o.e (0,0))/\(cur.size=o.c * o.sz/\LA P o.e=some o.sz)) (tinj:∀ k k' o o',Θ' k=some o->Θ' k'=some o'->o.g=o'.g->k=k') (apart:∀ k o t n,Θ' k=some o->ι t n≠some o.g)
  (apob:∀ k o t n H,Θ' k=some o->ι.ob t n=some H->¬ H o.g) :
  DA P O nt B F0 ga w0 D (s.mapAn f) a w ι Θ':=by
 have hB:xA (ZA ι Θ) (ZA ι Θ') w w:=xA.less ub;have hA:xA (JA ga ι Θ) (JA ga ι Θ') w w:=xA.less fun b o h=>h.imp id (ub b o)
 refine ⟨R.defers,R.size,fun t=>nA.held (Ix.Le.refl _) hA hB _ _ (R.env t),fun t=>jn _ _ (R.ann t),fun t n r hr=>?_,R.mine,R.inj,tok,tinj,apart,R.out,R.pin,R.kept,R.base,R.objs,fun t n H h=>?_,fun t=>nA.held (Ix.Le.refl _) hA hB _ _ (R.gen t),fun t=>jn _ _ (R.gann t)⟩
 ·simp only [tA.mapAn] at hr;cases hm:s.mem t n with
  | none=>rw [hm] at hr; cases hr
  | some r0 =>
   rw [hm] at hr;injection hr with hr;subst hr;obtain ⟨h0,b,cur,ty,h1,h2,⟨h3,h4⟩,h8⟩:=R.rows t n r0 hm;refine ⟨h0,b,cur,ty,h1,h2,⟨by simpa using h3,fun j x hx=>?_⟩,h8⟩;rw [yl] at hx;cases hj:r0[j]? with
   | none=>rw [hj] at hx; cases hx
   | some y =>
    rw [hj] at hx;injection hx with hx;subst hx;obtain ⟨u,hu,h5,h6,h7⟩:=h4 j y hj;exact ⟨u,hu,h5,QA.held (Ix.Le.refl _) hA _ _ h6,jn _ _ h7⟩
 ·obtain ⟨h1,h2⟩:=R.obs t n H h;exact ⟨fun b hb=>let ⟨g1,g2,g3,_,g5⟩:=h1 b hb; ⟨g1,g2,g3,fun k o hk e=>apob k o t n H hk h (e ▸ hb),g5⟩,h2⟩
theorem DA.spare {k:Nat} {ow:Ow} (hk:Θ k=some ow) {cur new:Array Value} (bd:w.heap[ow.g]?=some (.cells cur ow.e (0,0))) (rb:new.size=cur.size) (wk:∀ j,j<ow.n * ow.sz->new[j]?=cur[j]?) :
  DA P O nt B F0 ga w0 D s a (w.setRow ow.g new) ι Θ:=by
 have db:∀ b',b'≠ow.g->(w.setRow ow.g new).heap[b']?=w.heap[b']?:=fun b' h=>setRow_other w ow.g b' new h
 have xb:(w.setRow ow.g new).heap[ow.g]?=some (.cells new ow.e (0,0)):=setRow_heap w ow.g cur new ow.e (0,0) bd;have ed:∀ b o u,w.cell? ⟨b,o,none⟩=some u->(b=ow.g->o<ow.n * ow.sz)->(w.setRow ow.g new).cell? ⟨b,o,none⟩=some u:=fun b o u hc eb=>by
  by_cases hb:b=ow.g
  ·subst hb;rw [cell_of_row _ ow.g o new ow.e (0,0) xb,wk o (eb rfl),<- cell_of_row w ow.g o cur ow.e (0,0) bd];exact hc
  ·exact (World.cell?_of_block (w:=w) (a:=⟨b,o,none⟩) (db b hb)).trans hc
 have hB:xA (ZA ι Θ) (ZA ι Θ) w (w.setRow ow.g new):=⟨fun b o u hc hn=>⟨ed b o u hc fun e=>by
  rcases Nat.lt_or_ge o (ow.n * ow.sz) with h | h
  ·exact h
  ·exact absurd (.inr ⟨k,ow,hk,e.symm,h⟩) hn,hn⟩⟩
 have hA:xA (JA ga ι Θ) (JA ga ι Θ) w (w.setRow ow.g new):=⟨fun b o u hc hn=>⟨ed b o u hc fun e=>by
  rcases Nat.lt_or_ge o (ow.n * ow.sz) with h | h
  ·exact h
  ·exact absurd (.inr (.inr ⟨k,ow,hk,e.symm,h⟩)) hn,hn⟩⟩
 refine ⟨R.defers,R.size,fun t=>nA.held (Ix.Le.refl _) hA hB _ _ (R.env t),R.ann,fun t n r hr=>?_,fun t n b h=>?_,R.inj,fun j o h=>?_,R.tinj,R.apart,R.out,R.pin,?_,R.base,fun t n S h=>?_,fun t n H h=>(R.obs t n H h).grow (by simp),fun t=>nA.held (Ix.Le.refl _) hA hB _ _ (R.gen t),R.gann⟩
 ·obtain ⟨h0,b,ia,ty,h1,h2,h3,h8⟩:=R.rows t n r hr;have:b≠ow.g:=fun e=>R.apart k ow t n hk (e ▸ h1)
  exact ⟨h0,b,ia,ty,h1,(db b this).trans h2,h3.held (Ix.Le.refl _) hA (fun _ _ h=>h),h8⟩
 ·obtain ⟨h1,h2,h3⟩:=R.mine t n b h;exact ⟨h1,by simpa using h2,h3⟩
 ·obtain ⟨h1,h2,h3,h4,ia,h5,h6⟩:=R.tok j o h;by_cases hg:o.g=ow.g
  ·have:=R.tinj _ _ _ _ h hk hg;subst this;rw [hk] at h;injection h with h;subst h;rw [bd] at h5;injection h5 with h5;injection h5 with h5;subst h5;exact ⟨h1,h2,h3,h4,new,xb,rb.trans h6.1,h6.2⟩
  ·exact ⟨h1,h2,h3,h4,ia,(db _ hg).trans h5,h6⟩
 ·have:=(R.tok k ow hk).1;have hb:=R.base.1;exact R.kept.setRow (fun eb=>by omega) _
 ·obtain ⟨p,H,h1,h2,h3,h4⟩:=R.objs t n S h;have th:∀ b',H b'->b'≠ow.g:=fun b' hH e=>(((R.obs _ _ _ h2).1 _ hH).2.2.2.1 k ow hk) e.symm
  exact ⟨p,H,h1,h2,O.keep h3 (fun b' hH=>db b' (th b' hH)) (by simp),h4.keep (fun t n b H h g=>⟨h,H,g⟩) fun x hx=>(db p (th p (O.main h3))).trans hx⟩
theorem DA.fresh {d:Nat} (hd:Θ d=none) {cur:Array Value} {e:TypeId} {n c sz:Nat} (bd:cur.size=c * sz) (rb:0<sz) (hn:n<=c) (hc:c<=maxLen) (htz:LA P e=some sz) :
  DA P O nt B F0 ga w0 D s a (w.drew.alloc (.cells cur e)) ι (fun j=>if j=d then some ⟨w.heap.size,n,c,sz,e⟩ else Θ j):=by
 have le:∀ b,b<w.heap.size->(w.drew.alloc (.cells cur e)).heap[b]?=w.heap[b]?:=fun b hb=>Below.heap_alloc w.drew _ b hb
 have mf:∀ b o,b<w.heap.size->ZA ι (fun j=>if j=d then some ⟨w.heap.size,n,c,sz,e⟩ else Θ j) b o->ZA ι Θ b o:=fun b o hb h=>h.imp id fun ⟨k,ow,h,h1,h2⟩=>by
  by_cases e:k=d
  ·simp only [if_pos e] at h; injection h with h; subst h; simp only at h1; omega
  ·simp only [if_neg e] at h; exact ⟨k,ow,h,h1,h2⟩
 have hB:xA (ZA ι Θ) (ZA ι (fun j=>if j=d then some ⟨w.heap.size,n,c,sz,e⟩ else Θ j)) w (w.drew.alloc (.cells cur e)):=xA.grown le mf;have hA:xA (JA ga ι Θ) (JA ga ι (fun j=>if j=d then some ⟨w.heap.size,n,c,sz,e⟩ else Θ j)) w (w.drew.alloc (.cells cur e)):=xA.grown le fun b o hb h=>h.imp id (mf b o hb)
 have hΘ:∀ k o,Θ k=some o->(fun j=>if j=d then some ⟨w.heap.size,n,c,sz,e⟩ else Θ j) k=some o:=fun k o h=>by
  by_cases e:k=d
  ·subst e; rw [hd] at h; cases h
  ·simp only [if_neg e]; exact h
 have jn:∀ A v,pE Θ A v->pE (fun j=>if j=d then some ⟨w.heap.size,n,c,sz,e⟩ else Θ j) A v:=fun A v h=>by
  cases A with
  | no=>trivial
  | ex=>exact h
  | own k e'=>exact h.imp id fun ⟨ow,h1,h2⟩=>⟨ow,hΘ _ _ h1,h2⟩
 have zk:w.heap.size<=(w.drew.alloc (.cells cur e)).heap.size:=by
  have:(w.drew.alloc (.cells cur e)).heap.size=w.drew.heap.size + 1:=World.size_alloc _ _;have h4:w.drew.heap.size=w.heap.size:=rfl;omega
 refine ⟨R.defers,R.size,fun t=>nA.held (Ix.Le.refl _) hA hB _ _ (R.env t),fun t=>jn _ _ (R.ann t),fun t n r hr=>?_,fun t n b h=>?_,R.inj,fun j o h=>?_,fun k k' o o' h h' hg=>?_,fun k o t n h h'=>?_,R.out,R.pin,R.kept.drew.alloc _,R.base,fun t n S h=>?_,fun t n H h=>?_,fun t=>nA.held (Ix.Le.refl _) hA hB _ _ (R.gen t),fun t=>jn _ _ (R.gann t)⟩
 ·obtain ⟨h0,b,ia,ty,h1,h2,h3,h8⟩:=R.rows t n r hr;exact ⟨h0,b,ia,ty,h1,(le b (uA h2)).trans h2,h3.held (Ix.Le.refl _) hA hΘ,h8⟩
 ·obtain ⟨h1,h2,h3⟩:=R.mine t n b h;exact ⟨h1,by omega,h3⟩
 ·by_cases e':j=d
  ·simp only [if_pos e'] at h;injection h with h;subst h;exact ⟨R.lowB,rb,hn,hc,cur,mK rfl,bd,htz⟩
  ·simp only [if_neg e'] at h;obtain ⟨h1,h2,h3,h4,ia,h5,h6⟩:=R.tok j o h;exact ⟨h1,h2,h3,h4,ia,(le _ (uA h5)).trans h5,h6⟩
 ·by_cases e1:k=d <;> by_cases e2:k'=d
  ·rw [e1,e2]
  ·simp only [if_pos e1] at h; simp only [if_neg e2] at h';injection h with h; subst h;obtain ⟨_,_,_,_,ia,h5,_⟩:=R.tok _ _ h';have:=uA h5;simp only at hg; omega
  ·simp only [if_neg e1] at h; simp only [if_pos e2] at h';injection h' with h'; subst h';obtain ⟨_,_,_,_,ia,h5,_⟩:=R.tok _ _ h;have:=uA h5;simp only at hg; omega
  ·simp only [if_neg e1] at h; simp only [if_neg e2] at h';exact R.tinj _ _ _ _ h h' hg
 ·by_cases e':k=d
  ·simp only [if_pos e'] at h;injection h with h;subst h;have:=(R.mine _ _ _ h').2.1;simp only at this; omega
  ·simp only [if_neg e'] at h;exact R.apart k o t n h h'
 ·obtain ⟨p,H,h1,h2,h3,h4⟩:=R.objs t n S h;exact ⟨p,H,h1,h2,O.keep h3 (fun b' hH=>le b' (O.lt h3 hH)) zk,h4.keep (fun t n b H h g=>⟨h,H,g⟩) fun x hx=>(le _ (uA hx)).trans hx⟩
 ·obtain ⟨h1,h2⟩:=R.obs t n H h;refine ⟨fun b hb=>?_,h2⟩;obtain ⟨g1,g2,g3,g4,g5⟩:=h1 b hb;refine ⟨g1,by omega,g3,fun k o hk=>?_,g5⟩;by_cases e':k=d
  ·simp only [if_pos e'] at hk;injection hk with hk;subst hk;simp only;omega
  ·simp only [if_neg e'] at hk;exact g4 k o hk
end
end
end
end Go.Proofs.YtbhbeakhognieaaGreatDoor
