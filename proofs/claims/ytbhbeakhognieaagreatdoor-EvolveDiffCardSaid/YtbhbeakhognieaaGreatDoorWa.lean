/- A part of the proof. -/
import Derived.Calls
import Derived.Orders
import Derived.Below
import Derived.Scope
import Derived.Test.YtbhbeakhognieaaGreatDoorRows
import Derived.WalkKit
import Derived.WalkSpells
import Derived.WalkLawsBesides
import Derived.Handy
import Derived.Maps.AppendAt
import Derived.Lib.FrozenHead
import Derived.Laws.Cells
import Derived.ChangeKeysEq
import Derived.Laws.Tables
set_option linter.all false
set_option maxRecDepth 100000
set_option maxHeartbeats 8000000
open Option renaming bind_some → J, bind_eq_some_iff → y7, map_eq_some_iff → yf, map_some → yp
open List renaming range_succ → y0, map_map → y5, all_eq_true → y8, length_map → y9, length_append → yb, getElem?_eq_getElem → yg, getElem?_map → yh, drop_eq_nil_of_le → yj, drop_eq_getElem_cons → yk, append_assoc → yl, length_take → ym, replicate → yo, getElem?_eq_some_iff → yq, length_drop → yr, append_nil → yt, map_cons → yu, mem_cons_self → yv, getElem?_drop → yw, flatten_cons → yy, getElem?_take → yz, mem_cons → yA, length_cons → yD, mem_cons_of_mem → yE, size_toArray → yF, mem_append → yI, getElem?_append_right → yJ, map_congr_left → yK, getElem?_append_left → yL, eq_nil_of_length_eq_zero → yN, take_append_drop → yR
open Nat renaming le_refl → ye, zero_add → yn, succ_mul → yB, eq_zero_or_pos → yH, mul_le_mul_right → yO
open Bool renaming false_eq_true → yC
open Array renaming length_toList → yG, toArray_toList → yM, getD_eq_getD_getElem? → yP
namespace Go.Proofs.YtbhbeakhognieaaGreatDoor
open Go
inductive AV where
 | int (k:IntKind) (n:Int)
 | bool (b:Bool)
 | str (s:ByteArray)
 | nilP
 | ptr (t n off:Nat)
 | ip (cs:List AV)
 | bp (cs:List AV)
 | sl (nil:Bool) (l:List (List AV))
 | bl (l:List (List AV))
 | ref (t n sz off len cap:Nat)
 | mp (t n:Nat)
 | fn (f:Nat) (caps:List AV)
 | agg (cs:List AV)
 | tup (vs:List AV)
 | undef
 deriving Inhabited
inductive An where
 | no
 | ex
 | own (k:Nat) (e:TypeId)
structure wA where
 v:AV
 a:An
inductive iB where
 | t (n:Nat)
 | c (v:AV)
 deriving Inhabited
inductive Cl where
 | any
 | imm
 | root (t:Nat)
 /-- in no box of these slots -/
 | out (L:List Nat)
inductive z8 where
 | none
 | some (k:IntKind)
 | agg (l:List (Option IntKind))
instance:Inhabited z8:=⟨.none⟩
inductive K where
 | mv (x:iB)
 | pick (c a b:iB)
 | alloc (zero:List AV)
 | box (size:Nat) (x:iB)
 | build (zero:List AV) (parts:List (Nat × Nat × iB))
 | bsl (zero:List AV) (n:Nat) (parts:List (Nat × iB))
 | load (cl:Cl) (agg:Bool) (size:Nat) (x:iB)
 | store (cl:Cl) (agg:Bool) (size:Nat) (x y:iB)
 | clr (cl:Cl) (zero:List AV) (x:iB)
 | bin (op:BinOp) (bl:Bool) (x y:iB)
 | mm (mx:Bool) (x y:iB)
 | eqa (neg:Bool) (ks:List Nat) (x y:iB)
 | eqn (neg ptr:Bool) (x y:iB)
 | un (op:UnOp) (x:iB)
 | conv (k:Option IntKind) (x:iB)
 | rstr (x:iB)
 | bstr (cl:Cl) (x:iB)
 | mks (size bytes:Nat) (zero:List AV) (len cap:iB)
 | slc (str:Bool) (size:Nat) (x:iB) (lo hi mx:Option iB)
 | aslc (cl:Cl) (len size:Nat) (x:iB) (lo hi:Option iB)
 | faddr (off:Nat) (x:iB)
 | field (agg:Bool) (off size:Nat) (x:iB)
 | iaddr (size:Nat) (x i:iB)
 | aaddr (len size:Nat) (x i:iB)
 | index (x i:iB)
 | ext (x:iB) (i:Nat)
 | call (cl:Cl) (f:Nat) (xs:List iB)
 | callf (cl:Cl) (f:Nat) (sz:Nat) (xs:List iB)
 /-- a call whose result is a slice of the caller's own; one that takes a row (in none of the boxes L) and gives one; one that gives numbers and letters only,by what the memory of its arguments ro -/
 | callo (cl:Cl) (f:Nat) (sz:Nat) (xs:List iB)
 | calln (cl:Cl) (f:Nat) (sz:Nat) (L:List Nat) (x:iB) (xs:List iB)
 | callq (cl:Cl) (f:Nat) (xs:List iB)
 | mkf (f:Nat) (xs:List iB)
 | callv (cl:Cl) (x:iB) (xs:List iB)
 | callr (cl:Cl) (f:Nat) (xs:List iB)
 | callh (nt:Nat) (x:iB) (xs:List iB)
 | len (str:Bool) (x:iB)
 | app (cl:Cl) (e:TypeId) (size bytes:Nat) (x y:iB)
 | appf (cl:Cl) (e:TypeId) (size bytes:Nat) (x y:iB)
 | appm (cl:Cl) (e:TypeId) (size bytes:Nat) (x y:iB)
 | appn (cl:Cl) (e:TypeId) (size bytes:Nat) (x y:iB)
 | bslr (size:Nat) (zero:List AV) (n:Nat) (parts:List (Nat × iB))
 | mkm
 | mkb (T e:TypeId)
 | mget (ok:Bool) (ty:z8) (zero:AV) (x k:iB)
 | mset (ty:z8) (x k v:iB)
 | mlen (x:iB)
 | rng (x:iB)
 | slz (x:iB)
 | ent (x:iB)
 | nxt (x:iB)
 | nilchk (x:iB)
 | bad
 deriving Inhabited
instance:Inhabited Cl:=⟨.any⟩
structure kA where
 dst:Option Nat
 op:K
 guard:Option (Nat × Bool)
inductive C where
 | skip
 | seq (a b:C)
 | reg (ops:List kA)
 | cond (c:iB) (t e:C)
 | block (id:Nat) (b:C)
 | loop (b:C)
 | exit (id:Nat)
 | ret
inductive Ex where
 | nrm
 | exit (id:Nat)
 | ret
structure uA where
 env:Nat->wA
 mem:Nat->Nat->Option (List wA)
 next:Nat
 obj:Nat->Nat->Option AV
 /-- the slots of the calls that wait -/
 gh:Nat->wA
def An.strip (k:Nat):An->An
 | .own j e=>if j=k then .no else .own j e
 | a=>a
def wA.strip (k:Nat) (x:wA):wA:=⟨x.v,x.a.strip k⟩
def uA.strip (s:uA) (k:Nat):uA:=⟨fun t=>(s.env t).strip k,fun t n=>(s.mem t n).map (·.map (wA.strip k)),s.next,s.obj,fun t=>(s.gh t).strip k⟩
def uA.stripA (s:uA):An->uA
 | .own k _=>s.strip k
 | _=>s
def uA.put (s:uA) (d:Option Nat) (x:wA):uA:=match d with
 | some d=>{ s with env:=fun t=>if t=d then x else s.env t }
 | none=>s
def uA.setRow (s:uA) (t n:Nat) (r:List wA):uA:={ s with mem:=fun t' n'=>if t'=t/\n'=n then some r else s.mem t' n' }
def uA.setObj (s:uA) (t n:Nat) (S:AV):uA:={ s with obj:=fun t' n'=>if t'=t/\n'=n then some S else s.obj t' n' }
def HA (l:List (List AV)):List wA:=l.flatten.map (⟨·,.no⟩)
def AV.kill0 (t n:Nat):AV->AV
 | .ptr t' n' o=>if t'=t/\n'=n then .undef else .ptr t' n' o
 | .ref t' n' z o l c=>if t'=t/\n'=n then .undef else .ref t' n' z o l c
 | .mp t' n'=>if t'=t/\n'=n then .undef else .mp t' n'
 | v=>v
def AV.kill1 (t n:Nat):AV->AV
 | .agg cs=>.agg (cs.map (AV.kill0 t n))
 | v=>v.kill0 t n
def AV.kill (t n:Nat):AV->AV
 | .agg cs=>.agg (cs.map (AV.kill0 t n))
 | .tup vs=>.tup (vs.map (AV.kill1 t n))
 | .fn f vs=>.fn f (vs.map (AV.kill0 t n))
 | v=>v.kill0 t n
def wA.kill (t n:Nat) (x:wA):wA:=⟨x.v.kill t n,x.a⟩
def uA.kill (s:uA) (t n:Nat):uA:=⟨fun j=>(s.env j).kill t n,fun t' n'=>if t'=t/\n'=n then none else (s.mem t' n').map (·.map (wA.kill t n)),s.next,s.obj,fun j=>(s.gh j).kill t n⟩
def uA.killO (s:uA):Option (Nat × Nat)->uA
 | none=>s
 | some p=>s.kill p.1 p.2
def iB.get (s:uA):iB->AV
 | .t n=>(s.env n).v
 | .c v=>v
def iB.an (s:uA):iB->An
 | .t n=>(s.env n).a
 | .c (.sl true _)=>.ex
 | .c _=>.no
def AV.cells:AV->List AV
 | .agg cs=>cs
 | v=>[v]
def AV.leaf:AV->Bool
 | .agg _ | .tup _ | .bp _ | .bl _ | .fn .. | .undef=>false
 | _=>true
def AV.whole:AV->Bool
 | .agg _=>true
 | v=>v.leaf
def AV.free0:AV->Bool
 | .ptr .. | .bp _ | .bl _ | .ref .. | .mp .. | .fn .. | .undef | .agg _ | .tup _=>false
 | _=>true
def AV.free:AV->Bool
 | .agg cs=>cs.all AV.free0
 | v=>v.free0
def rG (row:List wA) (sz off len:Nat):Option (List (List AV)) :=
 if off + len * sz<=row.length/\row.all (fun x=>x.v.free0) then some ((List.range len).map fun i=>((row.drop (off + i * sz)).take sz).map (·.v)) else none
def Cl.okMem:Cl->Bool
 | .any=>true
 | _=>false
def AV.elems (s:uA) (cl:Cl):AV->Option (List (List AV))
 | .sl _ l=>some l
 | .bl l=>some l
 | .ref t n sz off len _=>if cl.okMem then (s.mem t n).bind fun r=>rG r sz off len else none
 | _=>none
def cN (row:List wA) (sz off len:Nat):Option (List (List AV)) :=
 if off + len * sz<=row.length then some ((List.range len).map fun i=>((row.drop (off + i * sz)).take sz).map (·.v)) else none
def AV.raws (s:uA) (cl:Cl):AV->Option (List (List AV))
 | .sl _ l=>some l
 | .bl l=>some l
 | .ref t n sz off len _=>if cl.okMem then (s.mem t n).bind fun r=>cN r sz off len else none
 | _=>none
def AV.noName (t n:Nat):AV->Bool
 | .ptr t' n' _ | .ref t' n' _ _ _ _ | .mp t' n'=>!(decide (t'=t)&&decide (n'=n))
 | .agg _ | .tup _ | .fn ..=>false
 | _=>true
def kQ:AV->Option Nat
 | .int _ n=>if 0<=n then some n.toNat else none
 | _=>none
def iH (s:uA) (d:Nat):Option iB->Option Nat
 | none=>some d
 | some o=>kQ (o.get s)
def rQ (cells:List AV):List (Nat × Nat × List AV)->Option (List AV)
 | []=>some cells
 | (off,size,v) :: r=>if v.length=size/\off + size<=cells.length then rQ (cells.take off++v++cells.drop (off + size)) r else none
def US (k:IntKind) (r:BitVec k.bits):AV:=.int k (k.wrap r.toNat)
def shN (k:IntKind) (b:Int):Nat:=min b.toNat k.bits
def J8 (op:BinOp) (bl:Bool):AV->AV->Option AV
 | .int k a,.int k' b=>match op with
  | .shl=>if 0<=b then some (.int k (k.wrap (a * 2 ^ shN k b))) else none
  | .shr=>if 0<=b then some (.int k (a.fdiv (2 ^ shN k b))) else none
  | _=>if k=k' then (match op with
  | .and=>some (US k (BitVec.ofInt k.bits a &&& BitVec.ofInt k.bits b))
  | .or=>some (US k (BitVec.ofInt k.bits a ||| BitVec.ofInt k.bits b))
  | .xor=>some (US k (BitVec.ofInt k.bits a ^^^ BitVec.ofInt k.bits b))
  | .andNot=>some (US k (BitVec.ofInt k.bits a &&& ~~~ BitVec.ofInt k.bits b))
  | .add=>some (.int k (k.wrap (a + b)))
  | .sub=>some (.int k (k.wrap (a - b)))
  | .mul=>some (.int k (k.wrap (a * b)))
  | .quo=>if b=0 then none else some (.int k (k.wrap (a.tdiv b)))
  | .rem=>if b=0 then none else some (.int k (a.tmod b))
  | .eql=>some (.bool (decide (a=b)))
  | .neq=>some (.bool (!decide (a=b)))
  | .lss=>some (.bool (decide (a<b)))
  | .leq=>some (.bool (decide (a<=b)))
  | .gtr=>some (.bool (decide (b<a)))
  | .geq=>some (.bool (decide (b<=a)))
  | _=>none) else none
 | .str a,.str b=>match op with
  | .add=>if a.size + b.size<=9223372036854775807 then some (.str (a++b)) else none
  | .eql=>some (.bool (decide (a=b)))
  | .neq=>some (.bool (!decide (a=b)))
  | .lss=>some (.bool (Op.bytesLess a.toList b.toList))
  | .gtr=>some (.bool (!(Op.bytesLess a.toList b.toList||decide (a=b))))
  | .leq=>some (.bool (Op.bytesLess a.toList b.toList||decide (a=b)))
  | .geq=>some (.bool (!Op.bytesLess a.toList b.toList))
  | _=>none
 | .bool a,.bool b=>if bl then (match op with
  | .eql=>some (.bool (a == b))
  | .neq=>some (.bool (!(a == b)))
  | _=>none) else none
 | _,_=>none
def mmC (mx:Bool):AV->AV->Option AV
 | .int k a,.int k' b=>if k=k' then some (.int k (if mx then max a b else min a b)) else none
 | _,_=>none
def BH:List Nat->List AV->List AV->Option Bool
 | [],[],[]=>some true
 | 0 :: ks,.int k a :: r,.int k' b :: r'=>if k=k' then (if a=b then BH ks r r' else some false) else none
 | 1 :: ks,.str a :: r,.str b :: r'=>if a=b then BH ks r r' else some false
 | 2 :: ks,.bool a :: r,.bool b :: r'=>if a=b then BH ks r r' else some false
 | _,_,_=>none
def aG:Bool->AV->Option Bool
 | false,.sl true _=>some true
 | false,.sl false l=>if l.isEmpty then none else some false
 | false,.bl _=>some false
 | false,.ref ..=>some false
 | true,.nilP=>some true
 | true,.ptr ..=>some false
 | true,.ip _=>some false
 | true,.bp _=>some false
 | _,_=>none
inductive tC where
 | none
 | new (r:List wA)
 | set (t n:Nat) (r:List wA)
 | app (a:An) (k:Nat)
 | obj (t n:Nat) (S:AV)
 | mk (S:AV)
 | rn (k:Option (Nat × Nat)) (r:List wA)
 | ob2 (t n:Nat) (S:AV) (r:List wA)
def Cl.okPtr:Cl->Nat->Bool
 | .any,_=>true
 | .imm,_=>false
 | .root r,t=>r == t
 | .out L,t=>!L.contains t
def EA (agg:Bool) (size off:Nat) (row:List wA):Option wA :=
 if agg then (if off + size<=row.length then some ⟨.agg (((row.drop off).take size).map (·.v)),.no⟩ else none)
 else row[off]?
def lE (agg:Bool) (size:Nat) (cs:List AV):Option AV :=
 if agg then (if size<=cs.length then some (.agg (cs.take size)) else none) else cs[0]?
def dQ (s:uA) (cl:Cl):AV->Option AV
 | .ref t n sz off len _=>if cl.okMem then ((s.mem t n).bind fun r=>rG r sz off len).map .bl else none
 | .bl l=>some (.bl l)
 | .bp l=>some (.bp l)
 | .ptr t n off=>if off=0/\cl.okMem/\(s.obj t n).isSome then some (.ptr 0 0 0) else none
 | v=>if v.free then some v else none
def pN (s:uA) (cl:Cl):AV->Option AV
 | .ptr t n off=>if cl.okMem then match s.mem t n with
  | some r=>if (r.drop off).all (fun x=>x.v.free0) then some (.bp ((r.drop off).map (·.v))) else none
  | none=>none else none
 | .bp l=>some (.bp l)
 | .nilP=>some .nilP
 | _=>none
def UC (s:uA) (cl:Cl):List AV->Option (List AV)
 | []=>some []
 | x :: r=>match pN s cl x,UC s cl r with
  | some v,some vs=>some (v :: vs)
  | _,_=>none
def SD (s:uA) (cl:Cl):AV->Option AV
 | .fn f cs=>(UC s cl cs).map (.fn f)
 | v=>dQ s cl v
def placeOf:AV->Option (Nat × Nat)
 | .ptr t n _=>some (t,n)
 | .ref t n _ _ _ _=>some (t,n)
 | _=>none
def wT (s:uA) (cl:Cl) (t n:Nat):AV->Option AV
 | .ptr t' n' off=>if t'=t/\n'=n then some (.ptr 0 0 off) else none
 | .ref t' n' sz off len cap=>if t'=t/\n'=n then some (.ref 0 0 sz off len cap) else dQ s cl (.ref t' n' sz off len cap)
 | .fn f cs=>if cs.isEmpty then some (.fn f []) else none
 | v=>dQ s cl v
def pH (s:uA) (cl:Cl) (t n:Nat):List iB->Option (List AV)
 | []=>some []
 | x :: r=>match wT s cl t n (x.get s),pH s cl t n r with
  | some v,some vs=>some (v :: vs)
  | _,_=>none
def sJ (s:uA):List iB->Option (Nat × Nat)
 | []=>none
 | x :: _=>placeOf (x.get s)
def AV.capOk:AV->Bool
 | .ptr .. | .bp _ | .nilP=>true
 | _=>false
def bytesOf:List (List AV)->Option (List UInt8)
 | []=>some []
 | c :: r=>match c,bytesOf r with
  | [.int .u8 n],some l=>some (UInt8.ofNat n.toNat :: l)
  | _,_=>none
def WE (s:uA) (xs:List iB):List (Nat × Nat):=xs.filterMap fun x=>match x.get s with
 | .ptr t n _=>some (t,n)
 | _=>none
def BC (s:uA) (cl:Cl):List iB->Option (List AV)
 | []=>some []
 | x :: r=>match SD s cl (x.get s),BC s cl r with
  | some v,some vs=>some (v :: vs)
  | _,_=>none
def AV.isUn:AV->Bool
 | .undef=>true
 | _=>false
def AV.back:AV->Bool
 | .tup vs=>vs.all fun v=>v.free||v.isUn
 | v=>v.free
def AV.isObj:AV->Bool
 | .ptr 0 0 0=>true
 | _=>false
def AV.backN:AV->Bool
 | .tup vs=>vs.all fun v=>v.free||v.isObj
 | v=>v.isObj
def AV.named (d n:Nat):AV->AV
 | .tup vs=>.tup (vs.map fun v=>if v.isObj then .ptr d n 0 else v)
 | .mp _ _=>.mp d n
 | v=>if v.isObj then .ptr d n 0 else v
def OA (size:Nat) (l:List (List AV)):Bool:=l.all (·.length == size)
def nA (bytes n:Nat):Bool:=decide (n * bytes<=140737488355328)&&decide (n<=140737488355328)
theorem rA {b n:Nat}:nA b n=true ↔ n * b<=140737488355328/\n<=140737488355328:=by simp [nA]
theorem C6 (z:Nat):OA z []=true:=rfl
theorem XC (z:Nat) (c:List AV) (l:List (List AV)):OA z (c :: l)=(decide (c.length=z)&&OA z l):=rfl
theorem RG (z:Nat) (l m:List (List AV)):OA z (l++m)=(OA z l&&OA z m):=by simp [OA]
theorem UD {α:Type} (z:Nat) (f:α->List AV) (l:List α) (h:∀ x,(f x).length=z):OA z (l.map f)=true:=by simp [OA,h]
theorem uH {z:Nat} {l:List (List AV)} (h:OA z l=true) (n:Nat):OA z (l.take n)=true:=by
 simp only [OA,y8] at h ⊢;exact fun x hx=>h x (List.mem_of_mem_take hx)
theorem ZI {z:Nat} {l:List (List AV)} (h:OA z l=true) (n:Nat):OA z (l.drop n)=true:=by
 simp only [OA,y8] at h ⊢;exact fun x hx=>h x (List.mem_of_mem_drop hx)
def AV.scal:AV->Bool
 | .int .. | .bool _ | .str _=>true
 | _=>false
def AV.flat:AV->Bool
 | .agg cs=>cs.all AV.scal
 | v=>v.scal
def qF (L:List (List AV)):AV:=.tup [.undef,.sl false L]
def fG:AV->Option (List (List AV))
 | .tup [.undef,.sl false L]=>some L
 | _=>none
theorem UG (L:List (List AV)):fG (qF L)=some L:=rfl
def E5 (T e:TypeId) (s:ByteArray):AV:=.tup [.undef,.undef,.int .i64 (T:Nat),.int .i64 (e:Nat),.str s]
def bldOf:AV->Option (TypeId × TypeId × ByteArray)
 | .tup [.undef,.undef,.int _ T,.int _ e,.str s]=>some (T.toNat,e.toNat,s)
 | _=>none
def HX (tm nm N:Nat) (seen:List Nat):AV:=.tup [.undef,.undef,.undef,.mp tm nm,.int .i64 N,.sl false (seen.map fun i:Nat=>[.int .i64 i])]
def JX:List (List AV)->List Nat
 | [.int _ i] :: r=>i.toNat :: JX r
 | _=>[]
def TU:AV->Option (Nat × Nat × Nat × List Nat)
 | .tup [.undef,.undef,.undef,.mp tm nm,.int _ N,.sl false l]=>some (tm,nm,N.toNat,JX l)
 | _=>none
theorem UU:∀ l:List Nat,JX (l.map fun i:Nat=>[AV.int .i64 i])=l
 | []=>rfl
 | i :: r=>by simp [JX,UU r]
theorem CT (tm nm N:Nat) (seen:List Nat):TU (HX tm nm N seen)=some (tm,nm,N,seen):=by simp [TU,HX,UU]
def fZ (S:AV):Bool:=(TU S).isNone
def noItO:Option AV->Bool
 | none=>true
 | some S=>fZ S
noncomputable def fY (f:Nat->Option (AV × Option AV)) (z:Option (AV × Option AV)):List Nat->Option (AV × Option AV)
 | []=>z
 | [i]=>f i
 | i :: j :: r=>open Classical in if ∀ x∈j :: r,f x=f i then f i else none
def iN:List (Option IntKind)->List AV->Bool
 | [],[]=>true
 | .some k :: r,.int k' _ :: cs=>decide (k=k')&&iN r cs
 | .none :: r,.str _ :: cs=>iN r cs
 | _,_=>false
def sG:z8->AV->Bool
 | .some k,.int k' _=>decide (k=k')
 | .none,.str _=>true
 | .agg l,.agg cs=>iN l cs
 | _,_=>false
def BJ (ty:z8) (L:List (List AV)):Bool:=L.all fun e=>match e with
 | [k,v]=>sG ty k&&v.flat
 | _=>false
def OU:List AV->List AV->Bool
 | [],[]=>true
 | .int k a :: r,.int k' b :: r'=>(decide (k=k')&&decide (a=b))&&OU r r'
 | .str a :: r,.str b :: r'=>decide (a=b)&&OU r r'
 | _,_=>false
def FO:AV->AV->Bool
 | .int k a,.int k' b=>decide (k=k')&&decide (a=b)
 | .str a,.str b=>decide (a=b)
 | .agg a,.agg b=>OU a b
 | _,_=>false
def aH:List (List AV)->AV->Option AV
 | [],_=>none
 | e :: r,k=>match e with
  | [k',v]=>if FO k' k then some v else aH r k
  | _=>aH r k
def eG:List (List AV)->AV->AV->List (List AV)
 | [],k,v=>[[k,v]]
 | e :: r,k,v=>match e with
  | [k',_]=>if FO k' k then [k,v] :: r else e :: eG r k v
  | _=>e :: eG r k v
abbrev RV:=AV × Option AV
abbrev LA:=Nat->List AV->Option AV->Option RV
abbrev LpT:=C->uA->(Ex->uA->Option RV)->Option RV
abbrev HpT:=Nat->List wA->uA->(wA->uA->Option RV)->Option RV
structure LH where
 l:LpT
 h:HpT
instance:CoeFun LH (fun _=>LpT):=⟨LH.l⟩
def gA (agg:Bool) (size off:Nat) (row:List wA) (x:AV) (a:An):Option (List wA) :=
 if agg then match x with
  | .agg cs=>if cs.length=size/\off + size<=row.length then some (row.take off++cs.map (⟨·,.no⟩)++row.drop (off + size)) else none
  | _=>none
 else if x.leaf/\off<row.length then some (row.set off ⟨x,a⟩) else none
def K6 (zero:List AV) (off ln:Nat) (r:List wA):Option (List wA) :=
 if off + ln * zero.length<=r.length then some (r.take off++HA (List.replicate ln zero)++r.drop (off + ln * zero.length)) else none
def ZA:Bool->An->An
 | true,_=>.ex
 | false,a=>a
def SX (b:Bool) (a:An):Bool:=match ZA b a with
 | .ex=>true
 | _=>false
def tF:AV->An
 | .sl true _=>.ex
 | _=>.no
def AV.frz1 (s:uA):AV->AV
 | .ref t n sz off len c=>match (s.mem t n).bind fun r=>rG r sz off len with
  | some l=>.sl false l
  | none=>.ref t n sz off len c
 | v=>v
def lY (s:uA) (row:List wA) (sz off len:Nat):Option (List (List AV)):=(cN row sz off len).bind fun l =>
 if (l.map fun c=>c.map (AV.frz1 s)).flatten.all AV.free0=true then some (l.map fun c=>c.map (AV.frz1 s)) else none
def AV.frz0 (s:uA):AV->AV
 | .ref t n sz off len c=>match (s.mem t n).bind fun r=>rG r sz off len with
  | some l=>.sl false l
  | none=>match (s.mem t n).bind fun r=>lY s r sz off len with
   | some l=>.sl false l
   | none=>.ref t n sz off len c
 | v=>v
def AV.frz (s:uA):AV->AV
 | .agg cs=>.agg (cs.map (AV.frz0 s))
 | v=>v.frz0 s
def AV.plain:AV->Bool
 | .tup vs=>vs.all AV.scal
 | v=>v.scal
def K.run (call:LA) (s:uA):K->Option (wA × tC)
 | .mv x=>some (⟨x.get s,x.an s⟩,.none)
 | .pick c a b=>match c.get s with
  | .bool t=>some (if t then ⟨a.get s,a.an s⟩ else ⟨b.get s,b.an s⟩,.none)
  | _=>none
 | .alloc zero=>some (⟨.ptr 0 0 0,.no⟩,.new (zero.map fun v=>⟨v,tF v⟩))
 | .box size x=>match x.get s with
  | .agg cs=>if cs.length=size then some (⟨.ptr 0 0 0,.no⟩,.new (cs.map (⟨·,.no⟩))) else none
  | v=>if v.leaf then some (⟨.ptr 0 0 0,.no⟩,.new [⟨v,x.an s⟩]) else none
 | .build zero parts=>if parts.all (fun p=>(p.2.2.get s).whole) then
   (rQ zero (parts.map fun p=>(p.1,p.2.1,(p.2.2.get s).cells))).map fun cs=>(⟨.agg cs,.no⟩,.none) else none
 | .bsl zero n parts=>if parts.map (·.1)=List.range n/\parts.all (fun p=>(p.2.get s).free&&decide ((p.2.get s).cells.length=zero.length)) then
   some (⟨.sl false (parts.map fun p=>(p.2.get s).cells),.ex⟩,.none) else none
 | .load cl agg size x=>match x.get s with
  | .ptr t n off=>if cl.okPtr t then ((s.mem t n).bind (EA agg size off)).map fun x=>(x,.none) else none
  | .ip cs=>match cl with
   | .root _=>none
   | _=>(lE agg size cs).map fun v=>(⟨v,.no⟩,.none)
  | .bp cs=>match cl with
   | .root _=>none
   | _=>(lE agg size cs).map fun v=>(⟨v,.no⟩,.none)
  | _=>none
 | .store cl agg size x y=>match x.get s with
  | .ptr t n off=>if cl.okPtr t then ((s.mem t n).bind fun r=>gA agg size off r (y.get s) (y.an s)).map fun r=>(⟨.undef,.no⟩,.set t n r) else none
  | _=>none
 | .clr cl zero x=>match x.get s with
  | .sl _ []=>some (⟨.undef,.no⟩,.none)
  | .ref t n sz off ln _=>if cl.okPtr t=true/\zero.length=sz/\0<ln then ((s.mem t n).bind fun r=>K6 zero off ln r).map fun r=>(⟨.undef,.no⟩,.set t n r) else none
  | _=>none
 | .bin op t x y=>(J8 op t (x.get s) (y.get s)).map fun v=>(⟨v,.no⟩,.none)
 | .mm mx x y=>(mmC mx (x.get s) (y.get s)).map fun v=>(⟨v,.no⟩,.none)
 | .eqa neg ks x y=>match x.get s,y.get s with
  | .agg a,.agg b=>(BH ks a b).map fun t=>(⟨.bool (t != neg),.no⟩,.none)
  | _,_=>none
 | .eqn neg ptr x y=>match ptr,y.get s with
  | false,.sl true _=>(aG false (x.get s)).map fun t=>(⟨.bool (t != neg),.no⟩,.none)
  | true,.nilP=>(aG true (x.get s)).map fun t=>(⟨.bool (t != neg),.no⟩,.none)
  | _,_=>none
 | .un op x=>match op,x.get s with
  | .not,.bool b=>some (⟨.bool (!b),.no⟩,.none)
  | .neg,.int k n=>some (⟨.int k (k.wrap (0 - n)),.no⟩,.none)
  | _,_=>none
 | .conv k x=>match k,x.get s with
  | some k,.int _ n=>some (⟨.int k (k.wrap n),.no⟩,.none)
  | none,.str b=>some (⟨.str b,.no⟩,.none)
  | _,_=>none
 | .rstr x=>match x.get s with
  | .int _ n=>some (⟨.str (Utf8.encode n),.no⟩,.none)
  | _=>none
 | .bstr cl x=>match (x.get s).elems s cl with
  | some l=>(bytesOf l).map fun bs=>(⟨.str ⟨bs.toArray⟩,.no⟩,.none)
  | none=>none
 | .aslc cl ln size x lo hi=>match x.get s with
  | .ptr t n o=>match iH s 0 lo,iH s ln hi,s.mem t n with
   | some l,some h,some r=>if l<=h/\h<=ln/\0<size/\o + ln * size<=r.length/\cl.okMem=true then
     (if h=l then some (⟨.sl false [],.no⟩,.none) else some (⟨.ref t n size (o + l * size) (h - l) (ln - l),.no⟩,.none)) else none
   | _,_,_=>none
  | _=>none
 | .mkf f xs=>if xs.all (fun x=>(x.get s).capOk) then some (⟨.fn f (xs.map (·.get s)),.no⟩,.none) else none
 | .callv cl x xs=>match x.get s with
  | .fn f cs=>match BC s cl xs,UC s cl cs,WE s xs with
   | some vs,some ws,[]=>(call f (vs++ws) none).bind fun r=>match r.2 with
    | none=>if r.1.back then some (⟨r.1,.no⟩,.none) else none
    | some _=>none
   | _,_,_=>none
  | _=>none
 | .callr cl f xs=>match sJ s xs with
  | some (t,n)=>if cl.okPtr t then (match s.mem t n,pH s cl t n xs with
   | some r,some vs=>if r.all (fun x=>x.v.free0) then (call f (.undef :: .undef :: vs) (some (.agg (r.map (·.v))))).bind fun q=>match q.2 with
     | some (.agg cs)=>if q.1.back/\cs.length=r.length/\cs.all AV.free0=true then some (⟨q.1,.no⟩,.set t n (cs.map fun v=>⟨v,tF v⟩)) else none
     | _=>none else none
   | _,_=>none) else none
  | none=>none
 | .callh ..=>none
 | .bad=>none
 | .mks size bytes zero ln cap=>match kQ (ln.get s),kQ (cap.get s) with
  | some l,some c=>if l<=c/\c * bytes<=140737488355328/\c<=140737488355328/\zero.length=size then some (⟨.ref 0 0 size 0 l c,.no⟩,.new ((List.replicate c zero).flatten.map (⟨·,.no⟩))) else none
  | _,_=>none
 | .slc str size x lo hi mx=>match mx with
  | some _=>none
  | none =>
   match iH s 0 lo with
   | none=>none
   | some l=>match x.get s with
    | .sl b e=>match iH s e.length hi with
     | some h=>if l<=h/\h<=e.length/\OA size e=true/\str=false then some (⟨.sl b ((e.take h).drop l),.no⟩,.none) else none
     | _=>none
    | .bl e=>match iH s e.length hi with
     | some h=>if l<=h/\h<=e.length/\OA size e=true/\str=false then some (⟨.bl ((e.take h).drop l),.no⟩,.none) else none
     | _=>none
    | .ref t n sz off ln cap=>match iH s ln hi with
     | some h=>if l<=h/\h<=cap/\sz=size/\str=false then (if h=l/\¬ (l=0/\0<cap) then some (⟨.sl false [],.no⟩,.none) else some (⟨.ref t n sz (off + l * sz) (h - l) (cap - l),.no⟩,.none)) else none
     | _=>none
    | .str b=>match iH s b.size hi with
     | some h=>if l<=h/\h<=b.size/\str=true then some (⟨.str (b.extract l h),.no⟩,.none) else none
     | _=>none
    | _=>none
 | .faddr off x=>match x.get s with
  | .ptr t n o=>some (⟨.ptr t n (o + off),.no⟩,.none)
  | .ip cs=>some (⟨.ip (cs.drop off),.no⟩,.none)
  | .bp cs=>some (⟨.bp (cs.drop off),.no⟩,.none)
  | _=>none
 | .field agg off size x=>match x.get s with
  | .agg cs=>(lE agg size (cs.drop off)).map fun v=>(⟨v,.no⟩,.none)
  | _=>none
 | .aaddr ln size x i=>match kQ (i.get s) with
  | some k=>if k<ln then (match x.get s with
   | .ptr t n o=>some (⟨.ptr t n (o + k * size),.no⟩,.none)
   | .ip cs=>some (⟨.ip (cs.drop (k * size)),.no⟩,.none)
   | .bp cs=>some (⟨.bp (cs.drop (k * size)),.no⟩,.none)
   | _=>none) else none
  | none=>none
 | .iaddr size x i=>match kQ (i.get s) with
  | some k=>match x.get s with
   | .sl _ l=>l[k]?.bind fun cs=>if cs.length=size then some (⟨.ip cs,.no⟩,.none) else none
   | .bl l=>l[k]?.bind fun cs=>if cs.length=size then some (⟨.bp cs,.no⟩,.none) else none
   | .ref t n sz off ln _=>if k<ln/\sz=size then some (⟨.ptr t n (off + k * sz),.no⟩,.none) else none
   | _=>none
  | none=>none
 | .index x i=>match kQ (i.get s),x.get s with
  | some k,.str b=>b[k]?.map fun u=>(⟨.int .u8 u.toNat,.no⟩,.none)
  | _,_=>none
 | .ext x i=>match x.get s with
  | .tup vs=>vs[i]?.map fun v=>(⟨v,.no⟩,.none)
  | _=>none
 | .call cl f xs=>(BC s cl xs).bind fun vs=>match WE s xs with
  | []=>(call f vs none).bind fun r=>match r.2 with
   | none=>if r.1.back then some (⟨r.1,.no⟩,.none) else none
   | some S=>if r.1.backN/\cl.okMem/\fZ S=true then some (⟨r.1,.no⟩,.mk S) else none
  | [(t,n)]=>(call f vs (s.obj t n)).bind fun r=>match r.2 with
   | none=>none
   | some S=>if r.1.back/\(s.obj t n).isSome/\fZ S=true then some (⟨r.1,.no⟩,.obj t n S) else none
  | _=>none
 | .callf cl f sz xs=>(BC s cl xs).bind fun vs=>match WE s xs with
  | [(t,n)]=>(call f (.undef :: vs) (s.obj t n)).bind fun r=>match r with
   | (.sl false l,some S)=>if (s.obj t n).isSome=true/\OA sz l=true/\l.all (fun c=>c.all AV.scal)=true/\fZ S=true then
     (if l.isEmpty then some (⟨.sl false [],.no⟩,.obj t n S) else some (⟨.ref 0 0 sz 0 l.length l.length,.no⟩,.ob2 t n S (HA l))) else none
   | _=>none
  | _=>none
 | .callo cl f sz xs=>match BC s cl xs,WE s xs with
  | some vs,[]=>(call f (.undef :: vs) none).bind fun r=>match r with
   | (.sl b l,none)=>if OA sz l=true/\l.flatten.all AV.free0=true/\0<sz then
     (if l.isEmpty then some (⟨.sl b [],.ex⟩,.none) else if b then none else some (⟨.ref 0 0 sz 0 l.length l.length,.no⟩,.new (HA l))) else none
   | _=>none
  | _,_=>none
 | .calln cl f sz L x xs=>match BC s cl xs,WE s xs with
  | some vs,[]=>if vs.all AV.free=true then (match x.get s with
   | .ref t n z off ln _=>(match (AV.ref t n z off ln 0).elems s cl with
    | some l=>if off=0/\z=sz/\t≠0/\L.contains t=false then (call f (.undef :: .sl false l :: vs) (some (.int .i64 sz))).bind fun r=>match r with
      | (.sl false l',none)=>if OA sz l'=true/\l'.flatten.all AV.free0=true/\0<sz then some (⟨.ref 0 0 sz 0 l'.length l'.length,.no⟩,.rn (some (t,n)) (HA l')) else none
      | _=>none else none
    | none=>none)
   | .sl b []=>if SX b (x.an s)=true then (call f (.undef :: .sl b [] :: vs) (some (.int .i64 sz))).bind fun r=>match r with
      | (.sl false l',none)=>if OA sz l'=true/\l'.flatten.all AV.free0=true/\0<sz then some (⟨.ref 0 0 sz 0 l'.length l'.length,.no⟩,.new (HA l')) else none
      | _=>none else none
   | _=>none) else none
  | _,_=>none
 | .callq cl f xs=>if cl.okMem=true/\(xs.map fun x=>(x.get s).frz s).all AV.free=true then
   (call f (xs.map fun x=>(x.get s).frz s) none).bind fun r=>match r with
    | (v,none)=>if v.plain then some (⟨v,.no⟩,.none) else none
    | _=>none else none
 | .len str x=>match x.get s with
  | .sl _ l=>if str then none else some (⟨.int .i64 l.length,.no⟩,.none)
  | .bl l=>if str then none else some (⟨.int .i64 l.length,.no⟩,.none)
  | .ref _ _ _ _ ln _=>if str then none else some (⟨.int .i64 ln,.no⟩,.none)
  | .str b=>if str then some (⟨.int .i64 b.size,.no⟩,.none) else none
  | _=>none
 | .app cl e size bytes x y=>match x.get s,(y.get s).elems s cl with
  | .sl b l,some m=>if nA bytes (l.length + m.length)=true/\OA size (l++m)=true then
    (match ZA b (x.an s) with
    | .no=>none
    | .own k e'=>if e'=e then some (⟨.sl (b&&m.isEmpty) (l++m),.own 0 e⟩,.app (.own k e') 0) else none
    | .ex=>some (⟨.sl (b&&m.isEmpty) (l++m),.own 0 e⟩,.app .ex 0)) else none
  | _,_=>none
 | .appf cl e size bytes x y=>match x.get s,(y.get s).elems s cl with
  | .sl b l,some m=>if nA bytes (l.length + m.length)=true/\OA size (l++m)=true then
    (match ZA b (x.an s) with
    | .ex=>if m.isEmpty then some (⟨.sl b l,.ex⟩,.none) else some (⟨.ref 0 0 size 0 (l.length + m.length) (l.length + m.length),.no⟩,.new (HA (l++m)))
    | _=>none) else none
  | _,_=>none
 | .appm cl e size bytes x y=>match x.get s,(y.get s).elems s cl with
  | .sl b l,some m=>if nA bytes (l.length + m.length)=true/\OA size (l++m)=true then
    (match ZA b (x.an s) with
    | .ex=>if m.isEmpty then some (⟨.sl b l,.ex⟩,.none) else some (⟨.ref 0 0 size 0 (l.length + m.length) (l.length + m.length),.no⟩,.new (HA (l++m)))
    | _=>none) else none
  | .ref t n sz off ln _,some m=>match (AV.ref t n sz off ln 0).elems s cl with
   | some l=>if off=0/\sz=size/\nA bytes (ln + m.length)=true/\OA size m=true/\t≠0 then
     some (⟨.ref 0 0 size 0 (ln + m.length) (ln + m.length),.no⟩,.rn (some (t,n)) (HA (l++m))) else none
   | none=>none
  | _,_=>none
 | .appn cl e size bytes x y=>match x.get s,(y.get s).raws s cl with
  | .sl b l,some m=>if nA bytes (l.length + m.length)=true/\OA size (l++m)=true/\0<m.length then
    (match ZA b (x.an s) with
    | .ex=>some (⟨.ref 0 0 size 0 (l.length + m.length) (l.length + m.length),.no⟩,.new (HA (l++m)))
    | _=>none) else none
  | .ref t n sz off ln _,some m=>match (AV.ref t n sz off ln 0).raws s cl with
   | some l=>if off=0/\sz=size/\nA bytes (ln + m.length)=true/\OA size m=true/\t≠0/\(l++m).flatten.all (AV.noName t n)=true then
     some (⟨.ref 0 0 size 0 (ln + m.length) (ln + m.length),.no⟩,.rn (some (t,n)) (HA (l++m))) else none
   | none=>none
  | _,_=>none
 | .bslr size zero n parts=>if parts.map (·.1)=List.range n/\parts.all (fun p=>(p.2.get s).whole&&decide ((p.2.get s).cells.length=zero.length))/\0<n/\zero.length=size then
   some (⟨.ref 0 0 size 0 n n,.no⟩,.new (HA (parts.map fun p=>(p.2.get s).cells))) else none
 | .mkm=>some (⟨.mp 0 0,.no⟩,.mk (qF []))
 | .mkb T e=>some (⟨.ptr 0 0 0,.no⟩,.mk (E5 T e ⟨#[]⟩))
 | .mget ok ty zero x k=>match x.get s with
  | .mp t n=>match (s.obj t n).bind fG with
   | some L=>if BJ ty L=true/\sG ty (k.get s)=true/\zero.flat=true then
     some (⟨if ok then .tup [(aH L (k.get s)).getD zero,.bool (aH L (k.get s)).isSome] else (aH L (k.get s)).getD zero,.no⟩,.none) else none
   | none=>none
  | _=>none
 | .mset ty x k v=>match x.get s with
  | .mp t n=>match (s.obj t n).bind fG with
   | some L=>if BJ ty L=true/\sG ty (k.get s)=true/\(v.get s).flat=true then
     some (⟨.undef,.no⟩,.obj t n (qF (eG L (k.get s) (v.get s)))) else none
   | none=>none
  | _=>none
 | .mlen x=>match x.get s with
  | .mp t n=>match (s.obj t n).bind fG with
   | some L=>some (⟨.int .i64 L.length,.no⟩,.none)
   | none=>none
  | _=>none
 | .rng x=>match x.get s with
  | .mp t n=>match (s.obj t n).bind fG with
   | some L=>some (⟨.ptr 0 0 0,.no⟩,.mk (HX t n L.length []))
   | none=>none
  | _=>none
 | .nxt _=>none
 | .ent x=>match x.get s with
  | .ptr t n 0=>match (s.obj t n).bind TU with
   | some (tm,nm,N,seen)=>match (s.obj tm nm).bind fG,seen.getLast? with
    | some L,some i=>if L.length=N then (match L[i]? with
      | some [y,v]=>if y.flat&&v.flat then some (⟨.tup [y,v],.no⟩,.none) else none
      | _=>none) else none
    | _,_=>none
   | none=>none
  | _=>none
 | .slz x=>match x.get s with
  | .sl b _=>some (⟨.sl b [],.ex⟩,.none)
  | .bl _=>some (⟨.sl false [],.ex⟩,.none)
  | .ref ..=>some (⟨.sl false [],.ex⟩,.none)
  | _=>none
 | .nilchk x=>match x.get s with
  | .ptr t n o=>some (⟨.ptr t n o,.no⟩,.none)
  | .ip cs=>some (⟨.ip cs,.no⟩,.none)
  | .bp cs=>some (⟨.bp cs,.no⟩,.none)
  | _=>none
def kA.eff (o:kA) (s:uA):wA × tC->Option uA
 | (x,.none)=>some (s.put o.dst x)
 | (x,.new r)=>match o.dst with
  | none=>none
  | some d=>some ((s.setRow d s.next r).put (some d) ⟨match x.v with | .ref _ _ sz off l c=>.ref d s.next sz off l c | _=>.ptr d s.next 0,.no⟩)
 | (x,.set t n r)=>some ((s.setRow t n r).put o.dst x)
 | (x,.app a _)=>match o.dst with
  | none=>none
  | some d=>some (((s.stripA a).strip d).put (some d) ⟨x.v,match x.a with | .own _ e=>.own d e | a=>a⟩)
 | (x,.obj t n S)=>some ((s.setObj t n S).put o.dst x)
 | (x,.mk S)=>match o.dst with
  | none=>none
  | some d=>some ((s.setObj d s.next S).put (some d) ⟨x.v.named d s.next,.no⟩)
 | (x,.ob2 t n S r)=>match o.dst with
  | none=>none
  | some d=>some (((s.setObj t n S).setRow d s.next r).put (some d) ⟨match x.v with | .ref _ _ sz off l c=>.ref d s.next sz off l c | _=>.ptr d s.next 0,.no⟩)
 | (x,.rn k r)=>match o.dst with
  | none=>none
  | some d=>some (((s.killO k).setRow d s.next r).put (some d) ⟨match x.v with | .ref _ _ sz off l c=>.ref d s.next sz off l c | _=>.ptr d s.next 0,.no⟩)
def kA.step (call:LA) (o:kA) (s:uA):Option uA :=
 match o.guard with
 | none=>(o.op.run call s).bind (o.eff s)
 | some (t,want)=>match (s.env t).v with
  | .bool b=>if b=want then (o.op.run call s).bind (o.eff s) else some (s.put o.dst ⟨.tup [],.no⟩)
  | .tup []=>some (s.put o.dst ⟨.tup [],.no⟩)
  | _=>none
def uA.enter (s:uA) (nt:Nat):uA:={ s with next:=s.next + 1,gh:=fun t=>if t<nt then s.env t else s.gh (t - nt) }
def uA.leave (s:uA) (nt:Nat):uA:={ s with env:=fun t=>if t<nt then s.gh t else ⟨.undef,.no⟩,gh:=fun t=>s.gh (t + nt) }
def mP (s:uA) (xs:List iB):List wA:=xs.map fun x=>⟨x.get s,x.an s⟩
def rD (lh:LH) (d:Option Nat) (nt:Nat) (x:iB) (xs:List iB) (s:uA) (k:uA->Option RV):Option RV:=match x.get s with
 | .fn f cs=>lh.h f (mP s xs++cs.map (⟨·,.no⟩)) (s.enter nt) fun y s'=>k ((s'.leave nt).put d y)
 | _=>none
noncomputable def FU (d:Option Nat) (x:iB) (s:uA) (k:uA->Option RV):Option RV:=match x.get s with
 | .ptr t n 0=>match (s.obj t n).bind TU with
  | some (tm,nm,N,seen)=>match (s.obj tm nm).bind fG with
   | some L=>if L.length=N then fY (fun i=>match L[i]? with
     | some [y,v]=>if y.flat&&v.flat then k ((s.setObj t n (HX tm nm N (seen++[i]))).put d ⟨.tup [.bool true,y,v],.no⟩) else none
     | _=>none) (k (s.put d ⟨.tup [.bool false],.no⟩)) ((List.range N).filter fun i=>!seen.contains i) else none
   | none=>none
  | none=>none
 | _=>none
def NI (s:uA) (d:Option Nat) (g:Option (Nat × Bool)) (a:Option RV) (k:uA->Option RV):Option RV:=match g with
 | none=>a
 | some (t,want)=>match (s.env t).v with
  | .bool b=>if b=want then a else k (s.put d ⟨.tup [],.no⟩)
  | .tup []=>k (s.put d ⟨.tup [],.no⟩)
  | _=>none
noncomputable def kA.stepK (call:LA) (lh:LH) (o:kA) (s:uA) (k:uA->Option RV):Option RV:=match o.op with
 | .callh nt x xs=>NI s o.dst o.guard (rD lh o.dst nt x xs s k) k
 | .nxt x=>NI s o.dst o.guard (FU o.dst x s k) k
 | _=>(o.step call s).bind k
noncomputable def rF (call:LA) (lh:LH):List kA->uA->(uA->Option RV)->Option RV
 | [],s,k=>k s
 | o :: r,s,k=>o.stepK call lh s fun s=>rF call lh r s k
noncomputable def C.run (call:LA) (lp:LH):C->uA->(Ex->uA->Option RV)->Option RV
 | .skip,s,k=>k .nrm s
 | .seq a b,s,k=>a.run call lp s fun e s=>match e with
  | .nrm=>b.run call lp s k
  | e=>k e s
 | .reg ops,s,k=>rF call lp ops s fun s=>k .nrm { s with next:=s.next + 1 }
 | .cond c t e,s,k=>match c.get s with
  | .bool b=>if b then t.run call lp s k else e.run call lp s k
  | _=>none
 | .block id b,s,k=>b.run call lp s fun e s=>match e with
  | .exit j=>if j=id then k .nrm s else k (.exit j) s
  | e=>k e s
 | .loop b,s,k=>lp b s k
 | .exit id,s,k=>k (.exit id) s
 | .ret,s,k=>k .ret s
inductive A6 where
 | tmp (t:Nat)
 | cell (t:Nat) (agg:Bool) (size:Nat)
structure RA where
 code:C
 res:List A6
 np:Nat
 mu:List Nat:=[]
def AW (s:uA):List A6->Option (List AV)
 | []=>some []
 | .tmp t :: r=>(AW s r).map ((s.env t).v :: ·)
 | .cell t agg size :: r=>match (s.env t).v with
  | .ptr t n off=>((s.mem t n).bind (EA agg size off)).bind fun x=>(AW s r).map (x.v :: ·)
  | _=>none
def EZ:List AV->AV
 | [v]=>v
 | vs=>.tup vs
def objAt:List AV->Option (Nat × Nat)
 | []=>none
 | .ptr t n 0 :: _=>some (t,n)
 | _ :: r=>objAt r
def GG (t n:Nat):AV->AV
 | .ptr t' n' o=>if t'=t/\n'=n/\o=0 then .ptr 0 0 0 else .undef
 | v=>v
def P0 (S0:Option AV) (s:uA) (vs:List AV):Option RV :=
 match S0 with
 | some _=>if vs.all AV.free then (s.obj 0 0).map fun S=>(EZ vs,some S) else none
 | none=>if vs.all AV.free then some (EZ vs,none) else match objAt vs with
  | some (t,n)=>match s.obj t n with
   | some S=>if (vs.map (GG t n)).all (fun v=>v.free||v.isObj) then some (EZ (vs.map (GG t n)),some S) else none
   | none=>none
  | none=>none
def xU (f:RA) (S0:Option AV):Ex->uA->Option RV
 | .exit _,_=>none
 | _,s=>(AW s f.res).bind fun vs=>P0 S0 s (vs.map (AV.frz s))
def uA.init (args:List AV) (S0:Option AV):uA:=⟨fun t=>⟨args.getD t .undef,.no⟩,fun _ _=>none,1,fun t n=>if t=0/\n=0 then S0 else none,fun _=>⟨.undef,.no⟩⟩
def uA.initR (args:List AV) (cs:List AV):uA:=⟨fun t=>⟨args.getD t .undef,.no⟩,fun t n=>if t=0/\n=0 then some (cs.map fun v=>⟨v,tF v⟩) else none,1,fun _ _=>none,fun _=>⟨.undef,.no⟩⟩
def uA.drop0 (s:uA):uA:={ s with mem:=fun t n=>if t=0/\n=0 then none else s.mem t n }
def finVR (n:Nat) (s:uA) (vs:List AV):Option RV :=
 if vs.all AV.free then (s.mem 0 0).bind fun r =>
  if (r.map fun x=>AV.frz0 s.drop0 x.v).all AV.free0=true/\r.length=n then some (EZ vs,some (.agg (r.map fun x=>AV.frz0 s.drop0 x.v))) else none
 else none
def finR (f:RA) (n:Nat):Ex->uA->Option RV
 | .exit _,_=>none
 | _,s=>(AW s f.res).bind fun vs=>finVR n s (vs.map (AV.frz s.drop0))
def GO:List AV->Option (List AV)
 | .undef :: .undef :: r=>some r
 | _=>none
def SL (lp:LpT) (b:C) (k:Ex->uA->Option RV):Ex->uA->Option RV
 | .nrm,s=>lp b s k
 | e,s=>k e s
def sE:List AV->Bool
 | .undef :: _=>true
 | _=>false
def aJ (s:uA):List A6->Option (List wA)
 | []=>some []
 | .tmp t :: r=>(aJ s r).map (s.env t :: ·)
 | .cell t agg size :: r=>match (s.env t).v with
  | .ptr t n off=>((s.mem t n).bind (EA agg size off)).bind fun x=>(aJ s r).map (⟨x.v,.no⟩ :: ·)
  | _=>none
def AV.tupOk:AV->Bool
 | .bp _ | .bl _ | .fn .. | .tup _=>false
 | _=>true
def a6:List wA->Option wA
 | [x]=>some x
 | l=>if l.all (fun x=>x.v.tupOk) then some ⟨.tup (l.map (·.v)),.no⟩ else none
def DX (f:RA) (k:wA->uA->Option RV):Ex->uA->Option RV
 | .exit _,_=>none
 | _,s=>((aJ s f.res).bind a6).bind fun x=>k x s
def uA.initH (s:uA) (args:List wA):uA:={ s with env:=fun t=>args.getD t ⟨.undef,.no⟩ }
def XI (f:RA):Ex->uA->Option RV
 | .exit _,_=>none
 | _,s=>match aJ s f.res with
  | some [⟨.sl b [],a⟩]=>if SX b a=true then some (.sl b [],none) else none
  | some [⟨.ref t n sz 0 (len + 1) _,_⟩]=>((s.mem t n).bind fun r=>rG r sz 0 (len + 1)).map fun l=>(.sl false l,none)
  | _=>none
mutual
noncomputable def dD (T:Nat->Option RA) (ext:LA):Nat->LA
 | 0,f,args,S0=>match T f with
  | none=>ext f args S0
  | some _=>none
 | n + 1,f,args,S0=>match T f with
  | none=>ext f args S0
  | some c=>match GO args,S0 with
   | some rest,some (.agg cs)=>if rest.length=c.np/\sE rest=false then c.code.run (dD T ext n) ⟨jJ T ext n,PK T ext n⟩ (uA.initR rest cs) (finR c cs.length) else none
   | some _,_=>none
   | none,_=>if args.length=c.np/\sE args=false/\noItO S0=true then c.code.run (dD T ext n) ⟨jJ T ext n,PK T ext n⟩ (uA.init args S0) (xU c S0)
    else if args.length=c.np + 1/\sE args=true/\sE args.tail=false/\S0.isNone=true then c.code.run (dD T ext n) ⟨jJ T ext n,PK T ext n⟩ (uA.init args.tail none) (XI c) else none
noncomputable def jJ (T:Nat->Option RA) (ext:LA):Nat->LpT
 | 0,_,_,_=>none
 | n + 1,b,s,k=>b.run (dD T ext n) ⟨jJ T ext n,PK T ext n⟩ s (SL (jJ T ext n) b k)
noncomputable def PK (T:Nat->Option RA) (ext:LA):Nat->HpT
 | 0,_,_,_,_=>none
 | n + 1,f,args,s,k=>match T f with
  | none=>none
  | some c=>if args.length=c.np then c.code.run (dD T ext n) ⟨jJ T ext n,PK T ext n⟩ (s.initH args) (DX c k) else none
end
section
def XV:Value->Option AV
 | .int k n=>some (.int k n)
 | .bool b=>some (.bool b)
 | .string s=>some (.str s)
 | .pointer none=>some .nilP
 | .slice none 0 0=>some (.sl true [])
 | _=>none
def UH:List Value->Option (List AV)
 | []=>some []
 | v :: r=>match XV v,UH r with
  | some x,some l=>some (x :: l)
  | _,_=>none
def W8:Value->Option AV
 | .agg cs=>(UH cs.toList).map .agg
 | v=>XV v
def opd:Operand->Option iB
 | .tmp t=>some (.t t)
 | .const v=>(W8 v).map .c
 | .func f=>some (.c (.fn f []))
 | _=>none
section
variable (P:Program)
def DG (t:TypeId):Option Bool:=(P.underlying t).map fun | .struct _=>true | .array ..=>true | _=>false
def nB (t:TypeId):Option Nat:=(P.info? t).map (·.size)
def FG (t:TypeId):Option (List AV):=((P.info? t).bind (·.zero)).bind fun z=>UH z.cells.toList
def tScal (t:TypeId):Bool:=match P.underlying t with | some (.int _)=>true | some .string=>true | some .bool=>true | _=>false
def opds:List (Nat × Operand)->Option (List (Nat × iB))
 | []=>some []
 | (i,x) :: r=>match opd x,opds r with
  | some x,some l=>some ((i,x) :: l)
  | _,_=>none
def MD:List Operand->Option (List iB)
 | []=>some []
 | x :: r=>match opd x,MD r with
  | some x,some l=>some (x :: l)
  | _,_=>none
def LT:Option Operand->Option (Option iB)
 | none=>some none
 | some x=>(opd x).map some
def zN (pl:Nat->Option (Nat × Nat)):List (Nat × iB)->Option (List (Nat × Nat × iB))
 | []=>some []
 | (i,x) :: r=>match pl i,zN pl r with
  | some (off,z),some l=>some ((off,z,x) :: l)
  | _,_=>none
def HV (t:TypeId):Option Nat:=match P.underlying t,nB P t with
 | some (.int _),some 1=>some 0
 | some .string,some 1=>some 1
 | some .bool,some 1=>some 2
 | _,_=>none
def AN (r:TypeId->Option (List Nat)) (i:Nat):List Field->Option (List Nat)
 | []=>some []
 | f :: fs=>(r f.type).bind fun l=>if f.name≠"_"/\f.offset=i then (AN r (i + l.length) fs).map (l++·) else none
def BE:Nat->TypeId->Option (List Nat)
 | 0,_=>none
 | n + 1,t=>match HV P t with
  | some k=>some [k]
  | none=>match P.underlying t with
   | some (.array m e)=>(BE n e).bind fun l=>if P.cellsOf e=l.length/\nB P e=some l.length/\nB P t=some (List.replicate m l).flatten.length then some (List.replicate m l).flatten else none
   | some (.struct fs)=>if P.stoodInHeld t then none else (AN (BE n) 0 fs.toList).bind fun l=>if nB P t=some l.length then some l else none
   | _=>none
def LO (t:TypeId):Option (List Nat):=if P.eqGuardType P.depth t then none else match P.underlying t with
 | some (.array ..)=>BE P 8 t
 | some (.struct _)=>BE P 8 t
 | _=>none
def scalK (t:TypeId):Option (Option IntKind):=match P.underlying t with
 | some (.int k)=>some (some k)
 | some .string=>some none
 | _=>none
def keysT (t:TypeId):Option (List (Option IntKind)):=match P.underlying t with
 | some (.array n e)=>(scalK P e).map (List.replicate n)
 | some (.struct fs)=>fs.toList.mapM fun f=>scalK P f.type
 | _=>none
def nH:Option IntKind->Nat
 | some _=>0
 | none=>1
def PU (t:TypeId):Option z8:=match P.underlying t with
 | some (.int k)=>some (.some k)
 | some .string=>some .none
 | _=>(keysT P t).bind fun l=>if LO P t=some (l.map nH)/\l≠[] then some (.agg l) else none
def G5:List AV->Bool
 | [.nilP,.sl true []]=>true
 | _=>false
def L8 (e:TypeId):Option TypeId:=if (FG P e).map G5=some true then (match P.underlying e with
  | some (.struct fs)=>(fs[1]?).bind fun f=>match P.underlying f.type with
   | some (.slice el)=>some el
   | _=>none
  | _=>none) else none
def isZ:Option Operand->Bool
 | some (.const (.int .i64 n))=>decide (n=0)
 | _=>false
def U0 (cl:Cl) (mu:Option Bool) (o:Go.Op) (nest:Bool:=false):Option K :=
 match o with
 | .move x | .assign x=>(opd x).map .mv
 | .pick c a b=>match opd c,opd a,opd b with
  | some c,some a,some b=>some (.pick c a b)
  | _,_,_=>none
 | .alloc e=>match mu with
  | none=>(FG P e).map .alloc
  | some _=>(L8 P e).map (.mkb e)
 | .box e x=>match nB P e,opd x with
  | some z,some x=>some (.box z x)
  | _,_=>none
 | .build t ps=>match P.underlying t,FG P t,opds ps.toList with
  | some (.struct fs),some z,some ps=>(match fs.toList.mapM (fun f=>(P.info? f.type).map fun i=>(f.offset,i.size)) with
   | some pl=>(zN (pl.toArray[·]?) ps).map (.build z)
   | none=>none)
  | some (.array _ e),some z,some ps=>(match P.info? e with
   | some ie=>(zN (fun i=>some (i * ie.size,ie.size)) ps).map (.build z)
   | none=>none)
  | _,_,_=>none
 | .buildSlice t n ps=>match P.underlying t,opds ps.toList with
  | some (.slice e),some ps=>match FG P e,nB P e with
   | some z,some k=>if z.length=k/\0<k/\n * k<=16777216 then (match mu with | none=>some (.bsl z n ps) | some _=>some (.bslr k z n ps)) else none
   | _,_=>none
  | _,_=>none
 | .load t x=>match DG P t,nB P t,opd x with
  | some a,some z,some x=>some (.load cl a z x)
  | _,_,_=>none
 | .store t x y=>match DG P t,nB P t,opd x,opd y with
  | some a,some z,some x,some y=>if a||z == 1 then some (.store cl a z x y) else none
  | _,_,_,_=>none
 | .binOp op t x y _=>match opd x,opd y with
  | some x,some y=>if tScal P t then some (.bin op (match P.underlying t with | some .bool=>true | _=>false) x y) else
   match op with
   | .eql=>(match P.underlying t with
    | some (.slice _)=>some (.eqn false false x y)
    | some (.pointer _)=>some (.eqn false true x y)
    | _=>(LO P t).map fun ks=>.eqa false ks x y)
   | .neq=>(match P.underlying t with
    | some (.slice _)=>some (.eqn true false x y)
    | some (.pointer _)=>some (.eqn true true x y)
    | _=>(LO P t).map fun ks=>.eqa true ks x y)
   | _=>none
  | _,_=>none
 | .unOp op t x=>if tScal P t then (opd x).map (.un op) else none
 | .convert s d x=>match P.underlying s,P.underlying d,opd x with
  | some (.int _),some (.int k),some x=>some (.conv (some k) x)
  | some .string,some .string,some x=>some (.conv none x)
  | some (.int _),some .string,some x=>some (.rstr x)
  | some (.slice e),some .string,some x=>(match P.underlying e with
   | some (.int .u8)=>if nB P e=some 1 then some (.bstr cl x) else none
   | _=>none)
  | _,_,_=>none
 | .makeSlice t l c=>match P.underlying t,opd l,opd c with
  | some (.slice e),some l,some c=>match FG P e,P.info? e with
   | some z,some i=>if z.length=i.size/\0<i.size then some (.mks i.size i.bytes z l c) else none
   | _,_=>none
  | _,_,_=>none
 | .entry x=>(opd x).map .ent
 | .slice t x lo hi mx0=>match opd x,LT lo,LT hi,LT mx0 with
  | some x,some l,some h,some m=>match P.underlying t with
   | some .string=>some (.slc true 1 x l h m)
   | some (.slice e)=>(match lo,isZ hi&&isZ mx0 with
    | none,true=>(nB P e).map fun _=>.slz x
    | _,_=>(nB P e).map fun k=>.slc false k x l h m)
   | some (.array n e)=>(match m with
    | none=>(nB P e).map fun k=>.aslc cl n k x l h
    | some _=>none)
   | _=>none
  | _,_,_,_=>none
 | .fieldAddr t x i=>match P.underlying t,opd x with
  | some (.struct fs),some x=>match fs[i]? with
   | some f=>match nB P f.type with
    | some (_ + 1)=>some (.faddr f.offset x)
    | _=>none
   | none=>none
  | _,_=>none
 | .field t x i=>match P.underlying t,opd x with
  | some (.struct fs),some x=>match fs[i]? with
   | some f=>match DG P f.type,nB P f.type with
    | some a,some z=>some (.field a f.offset z x)
    | _,_=>none
   | none=>none
  | _,_=>none
 | .indexAddr t x i=>match P.underlying t,opd x,opd i with
  | some (.slice e),some x,some i=>(nB P e).map fun k=>.iaddr k x i
  | some (.array n e),some x,some i=>(nB P e).map fun k=>.aaddr n k x i
  | _,_,_=>none
 | .index t x i=>match P.underlying t,opd x,opd i with
  | some .string,some x,some i=>some (.index x i)
  | _,_,_=>none
 | .range t x=>match P.underlying t with
  | some (.map _ _)=>(opd x).map .rng
  | _=>none
 | .makeMap t r=>match r,P.underlying t with
  | none,some (.map kT _)=>(PU P kT).map fun _=>.mkm
  | _,_=>none
 | .lookup t x i ok=>match P.underlying t,opd x,opd i with
  | some (.map kT eT),some x,some i=>match PU P kT,((P.info? eT).bind (·.zero)).bind W8 with
   | some ty,some z=>some (.mget ok ty z x i)
   | _,_=>none
  | _,_,_=>none
 | .mapUpdate t m k v=>match P.underlying t,opd m,opd k,opd v with
  | some (.map kT _),some m,some k,some v=>(PU P kT).map fun ty=>.mset ty m k v
  | _,_,_,_=>none
 | .insert t m k v=>match P.underlying t,opd m,opd k,opd v with
  | some (.map kT _),some m,some k,some v=>(PU P kT).map fun ty=>.mset ty m k v
  | _,_,_,_=>none
 | .extract x i=>(opd x).map fun x=>.ext x i
 | .nilCheck x=>(opd x).map .nilchk
 | .call { callee:=.value (.func f),args:=xs,.. }=>match mu with
  | some false=>(match P.funcs[f]? with
   | some fn=>(match fn.resultTypes.toList with
    | [t]=>(match P.underlying t with
     | some (.slice e)=>(match nB P e,MD xs.toList with
      | some z,some xs=>if 0<z then some (.callf cl f z xs) else none
      | _,_=>none)
     | _=>none)
    | _=>none)
   | none=>none)
  | some true=>(MD xs.toList).map (.callr cl f)
  | none=>(MD xs.toList).map (.call cl f)
 | .makeFunc (.func f) fs xs=>if fs.size=0 then (MD xs.toList).map (.mkf f) else none
 | .call { callee:=.value (.tmp t),args:=xs,.. }=>(MD xs.toList).map (.callv cl (.t t))
 | .call { callee:=.builtin .len,args:=xs,argTypes:=ts }=>match MD xs.toList,ts.toList with
  | some [x],[t]=>(match P.underlying t with
   | some .string=>some (.len true x)
   | some (.slice _)=>some (.len false x)
   | some (.map _ _)=>some (.mlen x)
   | _=>none)
  | _,_=>none
 | .call { callee:=.builtin .clear,args:=xs,argTypes:=ts }=>match MD xs.toList,ts.toList with
  | some [x],[t]=>(match P.underlying t with
   | some (.slice e)=>(FG P e).map fun z=>.clr cl z x
   | _=>none)
  | _,_=>none
 | .call { callee:=.builtin .max,args:=xs,.. }=>match xs.toList with
  | [X,Y]=>(match opd X,opd Y with
   | some x,some y=>some (.mm true x y)
   | _,_=>none)
  | _=>none
 | .call { callee:=.builtin .min,args:=xs,.. }=>match xs.toList with
  | [X,Y]=>(match opd X,opd Y with
   | some x,some y=>some (.mm false x y)
   | _,_=>none)
  | _=>none
 | .call { callee:=.builtin .append,args:=xs,argTypes:=ts }=>match MD xs.toList,ts.toList with
  | some [x,y],[t,t']=>if t=t' then match P.underlying t with
   | some (.slice e)=>match P.info? e,FG P e with
    | some i,some z=>if z.length=i.size/\0<i.size then some (match mu with | some true=>(if nest then .appn cl e i.size i.bytes x y else .appm cl e i.size i.bytes x y) | some false=>.appf cl e i.size i.bytes x y | none=>.app cl e i.size i.bytes x y) else none
    | _,_=>none
   | _=>none else none
  | _,_=>none
 | _=>none
def HY (cl:Cl) (mu:Option Bool) (bad nest:Bool) (o:Go.Op):Option K:=match U0 P cl mu o nest with
 | some k=>some k
 | none=>if bad then some .bad else none
def LS (cl:Cl) (hs:Nat->Bool) (L:List Nat) (o:Go.Op):Option K:=match o with
 | .call { callee:=.value (.func f),args:=xs,.. } =>
  if hs (30000000 + f) then (MD xs.toList).map (.callq cl f) else
  if hs (10000000 + f)||hs (20000000 + f) then (match P.funcs[f]? with
   | some fn=>(match fn.resultTypes.toList with
    | [t]=>(match P.underlying t with
     | some (.slice e)=>(match nB P e,MD xs.toList with
      | some z,some ys=>if 0<z then (if hs (10000000 + f) then some (.callo cl f z ys) else match ys with
       | y :: r=>some (.calln cl f z L y r)
       | []=>none) else none
      | _,_=>none)
     | _=>none)
    | _=>none)
   | none=>none) else none
 | _=>none
def CW (nt:Nat) (hs:Nat->Bool) (o:Go.Op):Option K:=match o with
 | .call { callee:=.value (.func f),args:=xs,.. }=>if hs (1000000 + f) then (MD xs.toList).map (.callh nt (.c (.fn f []))) else none
 | .call { callee:=.value (.tmp t),args:=xs,.. }=>if hs (2000000 + t) then (MD xs.toList).map (.callh nt (.t t)) else none
 | .next x false=>(opd x).map .nxt
 | _=>none
def xN (boxes:List Nat) (ops:List Oper):Nat->Operand->Option Nat
 | 0,_=>none
 | n + 1,.tmp t=>if boxes.contains t then some t else
  match ops.find? (fun o=>o.dst == some t) with
  | some o=>match o.op with
   | .fieldAddr _ x _=>xN boxes ops n x
   | .move x=>xN boxes ops n x
   | .nilCheck x=>xN boxes ops n x
   | _=>none
  | none=>none
 | _ + 1,_=>none
def isS:K->Bool
 | .store .. | .callr .. | .clr ..=>true
 | _=>false
def d7:K->Bool
 | .callh ..=>true
 | .nxt _=>true
 | _=>false
def MZ:K->Bool
 | .alloc _ | .box .. | .mks .. | .appf .. | .appm .. | .appn .. | .bslr .. | .callf .. | .callo .. | .calln ..=>true
 | _=>false
def isM:K->Bool
 | .appm ..=>true
 | .appn ..=>true
 | .calln ..=>true
 | .callh ..=>true
 | .nxt _=>true
 | _=>false
def XQ:K->Bool
 | .call .. | .callf .. | .callo .. | .calln .. | .callq .. | .callv .. | .callr .. | .mkm | .mkb .. | .mget .. | .mset .. | .mlen _ | .rng _ | .ent _=>true
 | _=>false
def isR:K->Bool
 | .mget .. | .mlen _ | .ent _=>true
 | _=>false
def d8:K->Bool
 | .app .. | .appm .. | .appn ..=>true
 | _=>false
def K.cl:K->Option Cl
 | .load cl ..=>some cl
 | .store cl ..=>some cl
 | .clr cl ..=>some cl
 | .call cl ..=>some cl
 | .callf cl ..=>some cl
 | .callv cl ..=>some cl
 | .callo cl ..=>some cl
 | .calln cl ..=>some cl
 | .callq cl ..=>some cl
 | .callr cl ..=>some cl
 | .bstr cl _=>some cl
 | .aslc cl ..=>some cl
 | .app cl ..=>some cl
 | .appf cl ..=>some cl
 | .appm cl ..=>some cl
 | .appn cl ..=>some cl
 | _=>none
def NF (a b:kA):Bool :=
 !isM a.op&&!isM b.op&&(!d8 a.op||!d8 b.op)&&(!XQ a.op||!XQ b.op||(isR a.op&&isR b.op)) &&
 (match a.op.cl,b.op.cl with
  | some c,some d=>!(isS a.op||isS b.op)||(match c,d with
   | .imm,_=>true
   | _,.imm=>true
   | .root r,.root r'=>r != r'
   | .root r,.out L=>L.contains r
   | .out L,.root r=>L.contains r
   | _,_=>false)
  | _,_=>true) &&
 (!MZ a.op||(match b.op.cl with | none=>true | some .imm=>true | some (.root r)=>a.dst != some r | some (.out L)=>(match a.dst with | some d=>L.contains d | none=>false) | some .any=>false)) &&
 (!MZ b.op||(match a.op.cl with | none=>true | some .imm=>true | some (.root r)=>b.dst != some r | some (.out L)=>(match b.dst with | some d=>L.contains d | none=>false) | some .any=>false)) &&
 (!MZ a.op||!MZ b.op||a.dst != b.dst)
def g7 (o:kA):Bool:=match o.op,o.guard with
 | .mv (.t _),none=>true
 | _,_=>false
def isN:K->Bool
 | .appm ..=>true
 | .calln ..=>true
 | .appn ..=>true
 | _=>false
def isLd (o b:kA):Bool:=match o.op,o.guard,b.op with
 | .load (.root r) .false _ (.t _),none,.calln _ _ _ L _ _=>L.contains r&&b.dst != some r
 | _,_,_=>false
def isPt (o:kA):Bool:=match o.op,o.guard with
 | .nilchk (.t _),none=>true
 | .faddr _ (.t _),none=>true
 | _,_=>false
def cL (a b:kA):Bool:=NF a b||((g7 a&&isN b.op)||(g7 b&&isN a.op)||(isLd a b&&isN b.op)||(isN a.op&&isPt b))
def TN (ops:List Oper):List Nat :=
 (ops.foldl (fun acc o=>acc.push (o.after.foldl (fun s e=>if Region.binds .any e then s ||| 2 ^ e.on ||| acc.getD e.on 0 else s) 0)) (#[]:Array Nat)).toList
def K.opds:K->List iB
 | .mv x | .box _ x | .load _ _ _ x | .un _ x | .conv _ x | .rstr x | .bstr _ x | .faddr _ x | .field _ _ _ x | .ext x _ | .len _ x | .nilchk x | .rng x | .nxt x | .slz x | .ent x | .clr _ _ x=>[x]
 | .pick c a b=>[c,a,b]
 | .alloc _ | .mkm | .mkb .. | .bad=>[]
 | .mget _ _ _ x k=>[x,k]
 | .mset _ x k v=>[x,k,v]
 | .mlen x=>[x]
 | .build _ ps=>ps.map (·.2.2)
 | .bsl _ _ ps=>ps.map (·.2)
 | .bslr _ _ _ ps=>ps.map (·.2)
 | .store _ _ _ x y | .bin _ _ x y | .mm _ x y | .eqa _ _ x y | .eqn _ _ x y | .mks _ _ _ x y | .iaddr _ x y | .aaddr _ _ x y | .index x y | .app _ _ _ _ x y | .appf _ _ _ _ x y | .appm _ _ _ _ x y | .appn _ _ _ _ x y=>[x,y]
 | .slc _ _ x lo hi mx=>x :: (lo.toList++(hi.toList++mx.toList))
 | .aslc _ _ _ x lo hi=>x :: (lo.toList++hi.toList)
 | .mkf _ xs=>xs
 | .callv _ x xs=>x :: xs
 | .callr _ _ xs=>xs
 | .callh _ x xs=>x :: xs
 | .call _ _ xs=>xs
 | .callf _ _ _ xs=>xs
 | .callo _ _ _ xs=>xs
 | .calln _ _ _ _ x xs=>x :: xs
 | .callq _ _ xs=>xs
def kA.looks (o:kA):List Nat:=o.op.opds.filterMap (fun | .t n=>some n | _=>none)++(match o.guard with | some (t,_)=>[t] | none=>[])
def kA.clear (a b:kA):Bool:=match a.dst with
 | some d=>!b.looks.contains d&&b.dst != some d
 | none=>true
def KD (a b:kA):Bool:=a.clear b&&b.clear a
def bH (o:Oper):List Nat:=o.after.toList.filterMap fun e=>if Region.binds .any e then some e.on else none
def bfOk (ops:List Oper) (bf:List Nat):Bool:=(List.range ops.length).all fun i=>match ops[i]? with
 | some o=>(bH o).all (fun e=>decide (e<i))&&(List.range i).all fun r=>!(bf.getD i 0).testBit r||(bH o).any fun e=>e == r||(decide (r<e)&&(bf.getD e 0).testBit r)
 | none=>false
def wR (ops:List Oper) (cs:List kA):Bool :=
 let bf:=TN ops
 bfOk ops bf&&(List.range ops.length).all fun j=>(List.range j).all fun i =>
  (bf.getD j 0).testBit i||(match cs[i]?,cs[j]? with
   | some x,some y=>KD x y&&cL x y
   | _,_=>false)
def pQ (cs:List kA):Bool:=(List.range cs.length).all fun j=>match cs[j]? with
 | some y=>!((MZ y.op||XQ y.op)&&y.dst.isSome)||(List.range cs.length).all fun i=>i == j||(match cs[i]? with | some x=>x.dst != y.dst | none=>false)
 | none=>false
def JZ (o:Oper):Bool:=match o.op with | .store ..=>true | .alloc _=>true | .box ..=>true | .makeSlice ..=>true | .call { callee:=.builtin .append,.. }=>true | .call { callee:=.builtin .clear,.. }=>true | _=>false
def fixed (ops:List Oper) (o:Oper):Bool:=match o.dst with
 | none=>false
 | some d=>match ops.findIdx? (fun p=>p.dst == some d) with
  | none=>false
  | some i=>let bf:=TN ops
   (List.range ops.length).all fun j=>i == j||!(match ops[j]? with | some p=>JZ p | none=>false)||(bf.getD j 0).testBit i||(bf.getD i 0).testBit j
def claim (boxes:List Nat) (adv lo:Bool) (out:Option (List Nat)) (ops:List Oper) (draw:Bool) (o:Oper):Cl :=
 if !draw then .any else
 if adv then (match o.op with
  | .load _ x=>(match xN boxes ops 10 x with | some t=>.root t | none=>if fixed ops o then .any else if lo then .out (out.getD []++ops.filterMap fun p=>if JZ p then p.dst else none) else .imm)
  | .store _ x _=>(match xN boxes ops 10 x,out with | some t,_=>.root t | none,some L=>.out (L++ops.filterMap fun p=>if JZ p then p.dst else none) | none,none=>.any)
  | .call { callee:=.value (.func _),args:=xs,.. }=>(match (xs[0]?).bind (xN (boxes.filter (· == 0)) ops 10) with | some t=>.root t | none=>if fixed ops o||!(ops.any JZ) then .any else .imm)
  | _=>if fixed ops o||!(ops.any JZ) then .any else .imm) else
 if ops.any (fun o=>match o.op with | .store ..=>true | .call { callee:=.builtin .clear,.. }=>true | .alloc _=>true | .box ..=>true | .makeSlice ..=>true | _=>false) then
  match o.op with
  | .load _ x=>(match xN boxes ops 10 x with | some t=>.root t | none=>.imm)
  | .store _ x _=>(match xN boxes ops 10 x with | some t=>.root t | none=>.any)
  | _=>.imm
 else .any
def dstOk (nt:Nat):Option Nat->Bool
 | some d=>decide (d<nt)
 | none=>true
def MP (boxes:List Nat) (nt:Nat) (all:List Oper) (draw:Bool):List Oper->Option (List kA)
 | []=>some []
 | o :: r=>match (match CW nt (fun c=>boxes.contains (nt + 1 + c)) o.op with | some k=>some k | none=>match LS P (claim boxes (boxes.any (nt<·)) (boxes.contains (nt + 1 + 7000000)) (if boxes.contains (nt + 1 + 6000000) then some (boxes.filter (·<nt)) else none) all draw o) (fun c=>boxes.contains (nt + 1 + c)) (boxes.filter (·<nt)) o.op with | some k=>some k | none=>(HY P (claim boxes (boxes.any (nt<·)) (boxes.contains (nt + 1 + 7000000)) (if boxes.contains (nt + 1 + 6000000) then some (boxes.filter (·<nt)) else none) all draw o) (match o.dst with | some d=>if boxes.contains (nt + 1 + (2 * d + 1)) then some true else if boxes.contains (nt + 1 + 2 * d) then some false else none | none=>none) (boxes.contains (nt + 1 + 4000000)) (boxes.contains (nt + 1 + 5000000)) o.op).filter (fun k=>!d7 k)),MP boxes nt all draw r with
  | some k,some l =>
   if dstOk nt o.dst then
    match o.guard with
    | none=>some (⟨o.dst,k,none⟩ :: l)
    | some (g,want)=>match (all[g]?).bind (·.dst) with
     | some t=>some (⟨o.dst,k,some (t,want)⟩ :: l)
     | none=>none
   else none
  | _,_=>none
def comp (boxes:List Nat) (nt:Nat):Code->Option C
 | .skip=>some .skip
 | .seq a b=>match comp boxes nt a,comp boxes nt b with
  | some a,some b=>some (.seq a b)
  | _,_=>none
 | .region _ ops draw=>match MP P boxes nt ops.toList draw ops.toList with
  | some cs=>if pQ cs&&(!draw||wR ops.toList cs) then some (.reg cs) else none
  | none=>none
 | .cond c t e=>match opd c,comp boxes nt t,comp boxes nt e with
  | some c,some t,some e=>some (.cond c t e)
  | _,_,_=>none
 | .block id b=>(comp boxes nt b).map (.block id)
 | .loop b=>(comp boxes nt b).map .loop
 | .exit id=>some (.exit id)
 | .scope b=>comp boxes nt b
 | .ret=>some .ret
 | _=>none
def TJ:Code->List Nat
 | .seq a b=>TJ a++TJ b
 | .region _ ops _=>ops.toList.filterMap fun o=>match o.op with | .alloc _=>o.dst | .box ..=>o.dst | _=>none
 | .cond _ t e=>TJ t++TJ e
 | .block _ b=>TJ b
 | .loop b=>TJ b
 | .scope b=>TJ b
 | _=>[]
def lI:List ResultVar->Option (List A6)
 | []=>some []
 | .tmp t :: r=>(lI r).map (.tmp t :: ·)
 | .cell t ty :: r=>match DG P ty,nB P ty,lI r with
  | some a,some z,some l=>some (.cell t a z :: l)
  | _,_,_=>none
def AO (mu:List Nat) (fn:Func):Option RA:=match fn.body with
 | none=>none
 | some b=>match comp P (TJ b++(if mu.contains 3000000 then [0] else [])++mu.map (fn.ntmps + 1 + ·)) fn.ntmps b,lI P fn.results.toList with
  | some c,some r=>if fn.params.size + fn.nfree<=fn.ntmps then some ⟨c,r,fn.params.size + fn.nfree,mu⟩ else none
  | _,_=>none
end
end
section
open Go.RowKit
structure SA (F:Nat->Prop) (w w':World):Prop where
 os:w'.os=w.os
 tape:w'.tape=w.tape
 output:w'.output=w.output
 size:w.heap.size<=w'.heap.size
 block:∀ k,k<w.heap.size->¬ F k->w'.heap[k]?=w.heap[k]?
section
variable {F G:Nat->Prop} {w w1 w2:World}
theorem SA.refl (F:Nat->Prop) (w:World):SA F w w:=⟨rfl,rfl,rfl,ye _,fun _ _ _=>rfl⟩
theorem SA.trans (h:SA F w w1) (k:SA G w1 w2) (hG:∀ i,i<w.heap.size->G i->F i):SA F w w2 :=
 ⟨k.os.trans h.os,k.tape.trans h.tape,k.output.trans h.output,Nat.le_trans h.size k.size,fun i hi hF =>
  (k.block i (Nat.lt_of_lt_of_le hi h.size) (fun g=>hF (hG i hi g))).trans (h.block i hi hF)⟩
theorem SA.mono (h:SA F w w1) (hG:∀ i,i<w.heap.size->F i->G i):SA G w w1 :=
 ⟨h.os,h.tape,h.output,h.size,fun i hi hg=>h.block i hi fun hf=>hg (hG i hi hf)⟩
theorem SA.of_below (h:Below w.heap.size w w1) (F:Nat->Prop):SA F w w1:=⟨h.os,h.tape,h.output,h.size,fun k hk _=>h.block k hk⟩
theorem SA.below (h:SA (fun _=>False) w w1):Below w.heap.size w w1:=⟨h.os,h.tape,h.output,h.size,fun k hk=>h.block k hk id⟩
theorem SA.alloc (h:SA F w w1) (o:Obj):SA F w (w1.alloc o) :=
 ⟨h.os,h.tape,h.output,by have:=h.size; simp; omega,fun k hk hF=>(Below.heap_alloc w1 o k (Nat.lt_of_lt_of_le hk h.size)).trans (h.block k hk hF)⟩
theorem SA.drew (h:SA F w w1):SA F w w1.drew:=⟨h.os,h.tape,h.output,h.size,h.block⟩
theorem SA.trans_below (h:SA F w w1) (k:Below w1.heap.size w1 w2):SA F w w2:=h.trans (SA.of_below k (fun _=>False)) (fun _ _ h=>h.elim)
theorem SA.grown (h:SA F w w1) {row:Option Nat} (hg:w1.grownBy w2 row) (hr:∀ k,k<w.heap.size->row=some k->F k):SA F w w2 :=
 ⟨hg.os.trans h.os,hg.tape.trans h.tape,hg.output.trans h.output,Nat.le_trans h.size hg.size,fun k hk hF =>
  (hg.block k (Nat.lt_of_lt_of_le hk h.size) (fun e=>hF (hr k hk e.symm))).trans (h.block k hk hF)⟩
theorem SA.cell (h:SA F w w1) {a:Addr} (ha:a.block<w.heap.size) (hF:¬ F a.block):w1.cell? a=w.cell? a:=World.cell?_of_block (w:=w) (h.block _ ha hF)
theorem SA.frozen (h:SA F w w1) {a:Addr} (ha:a.block<w.heap.size) (hF:¬ F a.block):w1.frozen? a=w.frozen? a:=World.frozen?_of_block (w:=w) (h.block _ ha hF)
end
theorem eL {p:Prop} (h:p):Hid p:=h
theorem dA {w:World} {k:Nat} {o:Obj} (h:w.heap[k]?=some o):k<w.heap.size:=by
 rcases Nat.lt_or_ge k w.heap.size with h' | h'
 ·exact h'
 ·rw [Array.getElem?_eq_none h'] at h; cases h
theorem SA.at_ {F:Nat->Prop} {w w1:World} (h:SA F w w1) {a:Addr} {v:Value} (hc:w.cell? a=some v) (hF:¬ F a.block):w1.cell? a=some v:=(h.cell (World.block_lt_of_cell? w a hc) hF).trans hc
theorem SA.fz {F:Nat->Prop} {w w1:World} (h:SA F w w1) {a:Addr} (hc:w.frozen? a=false) (hl:a.block<w.heap.size) (hF:¬ F a.block):w1.frozen? a=false:=(h.frozen hl hF).trans hc
theorem EN {w w1:World} (h:Below w.drew.heap.size w.drew w1):Below w.heap.size w w1:=⟨h.os,h.tape,h.output,h.size,h.block⟩
theorem tP {w:World} {o:Obj} {n:Nat} (h:n=w.heap.size):(w.alloc o).heap[n]?=some o:=by rw [h]; exact heap_alloc_new w o
def Sl (av:Nat->Prop) (w:World) (sz:Nat) (v:Value) (n:Nat) (cs:List Value):Prop :=
 cs.length=n * sz/\∃ A c,v=.slice A n c/\n<=c ∧
  (0<n->∃ b off,A=some ⟨b,off,none⟩/\b<w.heap.size/\¬ av b/\∀ j u,cs[j]?=some u->w.cell? ⟨b,off + j,none⟩=some u)
section
variable {av ab:Nat->Prop} {w w':World} {sz n:Nat} {v:Value} {cs:List Value}
theorem Sl.nil (av:Nat->Prop) (w:World) (sz:Nat):Sl av w sz (.slice none 0 0) 0 []:=⟨by simp,none,0,rfl,ye _,fun h=>absurd h (by omega)⟩
theorem Sl.keep {F:Nat->Prop} (h:Sl av w sz v n cs) (hk:SA F w w') (hF:∀ b,b<w.heap.size->F b->av b):Sl av w' sz v n cs:=by
 obtain ⟨hl,A,c,rfl,hc,hn⟩:=h;refine ⟨hl,A,c,rfl,hc,fun h0=>?_⟩;obtain ⟨b,off,rfl,hb,tc,rb⟩:=hn h0;exact ⟨b,off,rfl,Nat.lt_of_lt_of_le hb hk.size,tc,fun j u hu=>(hk.cell (a:=⟨b,off + j,none⟩) hb (fun f=>tc (hF b hb f))).trans (rb j u hu)⟩
theorem Sl.below (h:Sl av w sz v n cs) (hk:Below w.heap.size w w'):Sl av w' sz v n cs:=h.keep (SA.of_below hk (fun _=>False)) (fun _ _ h=>h.elim)
theorem Sl.len (h:Sl av w sz v n cs):cs.length=n * sz:=h.1
theorem Sl.zero (av:Nat->Prop) (w:World) (sz:Nat) (A:Option Addr) (c:Nat):Sl av w sz (.slice A 0 c) 0 []:=⟨by simp,A,c,rfl,Nat.zero_le _,fun h=>absurd h (by omega)⟩
end
theorem c9 {P:Program} (w:World) (t e:TypeId) (i:TypeInfo) (ht:P.underlying t=some (.slice e)) (hi:P.info? e=some i) (A:Option Addr) (n c k:Nat) (hk:k<=c) :
  (Instr.slice t (.slice A n c) none (some (.int .i64 k)) none).run P w=.ok (.slice A k c) w:=by
 have h0:(0:Int)<=(k:Int):=by omega
 have h1:(k:Int)<=(c:Int):=by omega
 cases A <;> simp [Instr.slice,run_underlying ht,Instr.sliceBounds,run_sliceBound,sizeOf,typeInfo,hi,h0,h1,Addr.add]
theorem n9 {P:Program} (w:World) (t e:TypeId) (i:TypeInfo) (size:Nat) (ht:P.underlying t=some (.slice e)) (hi:P.info? e=some i) (hs:i.size=size) (A:Option Addr) (n c k:Nat) (hk:k<=n) :
  (Instr.slice t (.slice A n c) (some (.int .i64 k)) none none).run P w=.ok (.slice (if c=k then A else A.map (·.add (k * size))) (n - k) (c - k)) w:=by
 have h0:(0:Int)<=(k:Int):=by omega
 have h1:(k:Int)<=(n:Int):=by omega
 simp [Instr.slice,run_underlying ht,Instr.sliceBounds,run_sliceBound,sizeOf,typeInfo,hi,hs,h0,h1]
theorem b9 {P:Program} (w:World) (t e:TypeId) (i:TypeInfo) (size:Nat) (ht:P.underlying t=some (.slice e)) (hi:P.info? e=some i) (hs:i.size=size) (A:Option Addr) (n c k h:Nat) (hk:k<=h) (hh:h<=c) :
  (Instr.slice t (.slice A n c) (some (.int .i64 k)) (some (.int .i64 h)) none).run P w=.ok (.slice (if c=k then A else A.map (·.add (k * size))) (h - k) (c - k)) w:=by
 have h0:(0:Int)<=(k:Int):=by omega
 have h1:(k:Int)<=(h:Int):=by omega
 have h2:(0:Int)<=(h:Int):=by omega
 have h3:(h:Int)<=(c:Int):=by omega
 simp [Instr.slice,run_underlying ht,Instr.sliceBounds,run_sliceBound,sizeOf,typeInfo,hi,hs,h0,h1,h2,h3]
theorem SA.setRow {F:Nat->Prop} {w w1:World} (h:SA F w w1) {B:Nat} (hF:B<w.heap.size->F B) (cs:Array Value):SA F w (w1.setRow B cs) :=
 ⟨h.os,h.tape,h.output,by have:=h.size; simpa using this,fun k hk hn=>(setRow_other w1 B k cs (fun e=>hn (e ▸ hF (e ▸ hk)))).trans (h.block k hk hn)⟩
/-! maps -/
def NH {κ β:Type} [DecidableEq κ]:List (κ × β)->κ->Option β
 | [],_=>none
 | p :: l,k=>if k=p.1 then some p.2 else NH l k
def SW {κ β:Type} [DecidableEq κ]:List (κ × β)->κ->β->List (κ × β)
 | [],k,v=>[(k,v)]
 | p :: l,k,v=>if k=p.1 then (k,v) :: l else p :: SW l k v
section
variable {κ β:Type} [DecidableEq κ]
end
structure OM (P:Program) (T:TypeId) {κ:Type} [DecidableEq κ] (ke:κ->Value):Prop where
 check:∀ (empty:Bool) (k:κ) (w:World),(Instr.checkKey empty 10000 T (ke k)).run P w=.ok () w
 find:∀ (k:κ) (es:List MapEntry) (L:List (κ × Value)) (w:World),es.map (fun e=>(e.key,e.val))=L.map (fun p=>(ke p.1,p.2)) →
  (Instr.findKey T (ke k) es).run P w=.ok (((L.map (·.1)).idxOf? k).bind fun i=>(L[i]?).map fun p=>(i,p.2)) w
 same:∀ (k:κ),Instr.sameBits 10000 (ke k) (ke k)=true
def PL {κ:Type} (ke:κ->Value) (w:World) (m:Nat) (L:List (κ × Value)):Prop :=
 ∃ es clock,w.heap[m]?=some (.map es clock)/\es.toList.map (fun e=>(e.key,e.val))=L.map (fun p=>(ke p.1,p.2))
theorem F5 {κ β:Type} [DecidableEq κ] (L:List (κ × β)) (k:κ):(((L.map (·.1)).idxOf? k).bind fun i=>(L[i]?).map fun p=>(i,p.2)).map (·.2)=NH L k:=by
 induction L with
 | nil=>simp [NH]
 | cons p l ih =>
  unfold NH;simp only [yu,List.idxOf?_cons];by_cases h:p.1=k
  ·subst h; simp
  ·have h':(p.1 == k)=false:=by simpa using h
   have h2:¬ k=p.1:=fun e=>h e.symm
   rw [h',if_neg h2,<- ih];cases hi:List.idxOf? k (List.map (fun x=>x.1) l) with
   | none=>simp
   | some i=>simp [Function.comp_def]
section
theorem PL.keep {κ:Type} {ke:κ->Value} {w:World} {m:Nat} {L:List (κ × Value)} {F:Nat->Prop} {w':World} (h:PL ke w m L) (hk:SA F w w') (hF:¬ F m):PL ke w' m L:=by
 obtain ⟨es,clock,h1,h2⟩:=h;exact ⟨es,clock,(hk.block m (dA h1) hF).trans h1,h2⟩
theorem PL.lt {κ:Type} {ke:κ->Value} {w:World} {m:Nat} {L:List (κ × Value)} (h:PL ke w m L):m<w.heap.size:=by
 obtain ⟨es,clock,h1,h2⟩:=h;exact dA h1
theorem idx_set {κ β:Type} [DecidableEq κ] (L:List (κ × β)) (k:κ) (v:β):SW L k v=match (L.map (·.1)).idxOf? k with | some i=>L.set i (k,v) | none=>L++[(k,v)]:=by
 induction L with
 | nil=>simp [SW]
 | cons p l ih =>
  unfold SW;simp only [yu,List.idxOf?_cons];by_cases h:p.1=k
  ·subst h; simp
  ·have h':(p.1 == k)=false:=by simpa using h
   have h2:¬ k=p.1:=fun e=>h e.symm
   rw [h',if_neg h2,ih];cases hi:List.idxOf? k (List.map (fun x=>x.1) l) <;> simp
variable {κ:Type} [DecidableEq κ] {P:Program} {T kT eT:TypeId} {ke:κ->Value} {w:World} {m:Nat} {L:List (κ × Value)}
theorem PL.lookup (h:PL ke w m L) (K:OM P kT ke) (hT:P.underlying T=some (.map kT eT)) {z:Value} (hz:(zeroValue eT).run P w=.ok z w) (k:κ) :
  (Instr.lookup T (.map (some m)) (ke k) false).run P w=.ok ((NH L k).getD z) w:=by
 obtain ⟨es,clock,h1,h2⟩:=h;have hg:(getObj m).run P w=.ok (.map es clock) w:=by simp [getObj,Sem.run,h1]
 have hf:=K.find k es.toList L w h2;have hi:=F5 L k;simp only [Instr.lookup,Sem.run_bind,run_underlying hT,Result.andThen_ok,hg,Sem.run_pure,K.check,hf];rw [<- hi];cases hq:((L.map (·.1)).idxOf? k).bind fun i=>(L[i]?).map fun p=>(i,p.2) with
 | none=>simp [hz]
 | some x=>obtain ⟨i,v⟩:=x; simp
theorem PL.lookup_ok (h:PL ke w m L) (K:OM P kT ke) (hT:P.underlying T=some (.map kT eT)) {z:Value} (hz:(zeroValue eT).run P w=.ok z w) (k:κ) :
  (Instr.lookup T (.map (some m)) (ke k) true).run P w=.ok (.tuple #[(NH L k).getD z,.bool (NH L k).isSome]) w:=by
 obtain ⟨es,clock,h1,h2⟩:=h;have hg:(getObj m).run P w=.ok (.map es clock) w:=by simp [getObj,Sem.run,h1]
 have hf:=K.find k es.toList L w h2;have hi:=F5 L k;simp only [Instr.lookup,Sem.run_bind,run_underlying hT,Result.andThen_ok,hg,Sem.run_pure,K.check,hf];rw [<- hi];cases hq:((L.map (·.1)).idxOf? k).bind fun i=>(L[i]?).map fun p=>(i,p.2) with
 | none=>simp [hz]
 | some x=>obtain ⟨i,v⟩:=x; simp
theorem SA.setObj {F:Nat->Prop} {w w1:World} (h:SA F w w1) {m:Nat} (hF:F m) (o:Obj):SA F w { w1 with heap:=w1.heap.setIfInBounds m o } :=
 ⟨h.os,h.tape,h.output,by have:=h.size; simpa using this,fun k hk hn=>by
  have:m≠k:=fun e=>hn (e ▸ hF)
  show (w1.heap.setIfInBounds m o)[k]?=_;rw [Array.getElem?_setIfInBounds_ne this];exact h.block k hk hn⟩
end
end
section
open Go Go.RowKit
abbrev Av:=Nat->Nat->Prop
structure Ix where
 f:Nat->Nat->Option Nat
 ob:Nat->Nat->Option (Nat->Prop)
 z:Nat->Nat
instance:CoeFun Ix (fun _=>Nat->Nat->Option Nat):=⟨Ix.f⟩
def Ix.none:Ix:=⟨fun _ _=>.none,fun _ _=>.none,fun _=>0⟩
structure Ix.Le (ι ι':Ix):Prop where
 f:∀ t n b,ι t n=some b->ι' t n=some b
 z:∀ t n b,ι t n=some b->ι'.z b=ι.z b
theorem Ix.Le.refl (ι:Ix):Ix.Le ι ι:=⟨fun _ _ _ h=>h,fun _ _ _ _=>rfl⟩
def AV.scalV:AV->Value
 | .int k n=>.int k n
 | .bool b=>.bool b
 | .str s=>.string s
 | _=>Go.undef
def AV.flatV:AV->Value
 | .agg cs=>.agg (cs.map AV.scalV).toArray
 | v=>v.scalV
def G9:List AV->Value × Value
 | [k,v]=>(k.flatV,v.flatV)
 | _=>(Go.undef,Go.undef)
def EX (es:Array MapEntry) (clock:Nat):Prop:=clock=es.size/\∀ i (h:i<es.size),es[i].born=i
theorem K5 {S:AV} (h:(TU S).isSome=true):fG S=none/\bldOf S=none:=by
 unfold TU at h;split at h
 ·exact ⟨rfl,rfl⟩
 ·cases h
def MapO (L:List (List AV)) (H:Nat->Prop) (p:Nat) (w:World):Prop:=(∀ b,H b ↔ b=p)/\∃ es clock,w.heap[p]?=some (.map es clock)/\es.toList.map (fun e=>(e.key,e.val))=L.map G9/\EX es clock
def o0 (T e:TypeId) (s:ByteArray) (H:Nat->Prop) (p:Nat) (w:World):Prop :=
 ∃ v q,w.heap[p]?=some (.cells #[q,v] T (0,0))/\(q=.pointer none\/q=.pointer (some ⟨p,0,none⟩))/\w.ownsRowF 0 e 1 v s.size (Go.Lib.strCells s)/\v.ownBlock≠some p/\∀ b,H b ↔ b=p\/v.ownBlock=some b
theorem o0.keep {T e:TypeId} {s:ByteArray} {H:Nat->Prop} {p:Nat} {w w':World} (h:o0 T e s H p w) (hb:∀ b,H b->w'.heap[b]?=w.heap[b]?):o0 T e s H p w':=by
 obtain ⟨v,q,h1,h2,h3,h4,h5⟩:=h;refine ⟨v,q,(hb p ((h5 p).2 (.inl rfl))).trans h1,h2,⟨h3.1,?_⟩,h4,h5⟩;rcases h3.2 with hn | ⟨g,cap,cur,fz,rfl,ry,hg,rest⟩
 ·exact .inl hn
 ·exact .inr ⟨g,cap,cur,fz,rfl,ry,(hb g ((h5 g).2 (.inr rfl))).trans hg,rest⟩
theorem o0.lt {T e:TypeId} {s:ByteArray} {H:Nat->Prop} {p b:Nat} {w:World} (h:o0 T e s H p w) (hb:H b):b<w.heap.size:=by
 obtain ⟨v,q,h1,h2,h3,h4,h5⟩:=h;rcases (h5 b).1 hb with rfl | hv
 ·exact dA h1
 ·exact (h3.lt b hv).2
structure sO where
 at_:AV->(Nat->Prop)->Nat->World->Prop
 keep:∀ {S H p w w'},at_ S H p w->(∀ b,H b->w'.heap[b]?=w.heap[b]?)->w.heap.size<=w'.heap.size->at_ S H p w'
 main:∀ {S H p w},at_ S H p w->H p
 lt:∀ {S H p w b},at_ S H p w->H b->b<w.heap.size
structure JD extends sO where
 maps:∀ L H p w,at_ (qF L) H p w ↔ MapO L H p w
 blds:∀ T e s H p w,at_ (E5 T e s) H p w ↔ o0 T e s H p w
 iters:∀ S H p w,(TU S).isSome=true->(at_ S H p w ↔ ((∀ b,H b ↔ b=p)/\p<w.heap.size))
def sO.ofAt (O:sO) (A:AV) (H:Nat->Prop) (p:Nat) (w:World):Prop:=match fG A with
 | some L=>MapO L H p w
 | none=>match bldOf A with
  | some (T,e,s)=>o0 T e s H p w
  | none=>if (TU A).isSome=true then (∀ b,H b ↔ b=p)/\p<w.heap.size else O.at_ A H p w
def sO.of (O:sO):JD where
 at_:=O.ofAt
 keep:=fun {A H p w w'} h hb hs=>by
  unfold sO.ofAt at h ⊢
  split at h
  ·obtain ⟨h1,es,clock,h2,h3⟩:=h
   exact ⟨h1,es,clock,(hb p ((h1 p).2 rfl)).trans h2,h3⟩
  ·split at h
   ·exact h.keep hb
   ·split at h
    ·rename_i hi
     simp only [hi,if_true]
     exact ⟨h.1,Nat.lt_of_lt_of_le h.2 hs⟩
    ·rename_i hi
     simp only [hi,if_false]
     exact O.keep h hb hs
 main:=fun {A H p w} h=>by
  unfold sO.ofAt at h
  split at h
  ·exact (h.1 p).2 rfl
  ·split at h
   ·obtain ⟨v,q,h1,h2,h3,h4,h5⟩:=h
    exact (h5 p).2 (.inl rfl)
   ·split at h
    ·exact (h.1 p).2 rfl
    ·exact O.main h
 lt:=fun {A H p w b} h hb=>by
  unfold sO.ofAt at h
  split at h
  ·obtain ⟨h1,es,clock,h2,h3⟩:=h
   rw [(h1 b).1 hb]
   exact dA h2
  ·split at h
   ·exact h.lt hb
   ·split at h
    ·rw [(h.1 b).1 hb]; exact h.2
    ·exact O.lt h hb
 maps:=fun L H p w=>Iff.rfl
 blds:=fun T e s H p w=>Iff.rfl
 iters:=fun S H p w h=>by
  unfold sO.ofAt
  rw [(K5 h).1,(K5 h).2]
  simp only [h,if_true]
def noObjs:sO where
 at_:=fun _ _ _ _=>False
 keep:=fun h _ _=>h.elim
 main:=fun h=>h.elim
 lt:=fun h _=>h.elim
mutual
/-- v reads as x in w,and nothing that it reads lies in av -/
def JC (av:Av) (w:World):AV->Value->Prop
 | .int k n,v=>v=.int k n
 | .bool b,v=>v=.bool b
 | .str s,v=>v=.string s
 | .nilP,v=>v=.pointer none
 | .ip cs,v=>∃ b off,v=.pointer (some ⟨b,off,none⟩)/\gD av w cs b off
 | .sl nil l,v=>∃ A c,v=.slice A l.length c/\l.length<=c/\(∀ x∈l,∀ y∈l,x.length=y.length)/\(nil=true->A=none/\l.length=0/\c=0)/\(nil=false->(A=none->c=0)/\(0<l.length->∃ b off,A=some ⟨b,off,none⟩/\Rows av w l b off))
 | .agg cs,v=>∃ us,v=.agg us/\KA av w cs us.toList
 | .tup xs,v=>∃ us,v=.tuple us/\kJ av w xs us.toList
 | .ptr ..,_=>False
 | .bp ..,_=>False
 | .bl ..,_=>False
 | .ref ..,_=>False
 | .mp ..,_=>False
 | .fn ..,_=>False
 | .undef,_=>True
def KA (av:Av) (w:World):List AV->List Value->Prop
 | [],us=>us=[]
 | x :: r,us=>∃ u wa,us=u :: wa/\JC av w x u/\u.oneCell'=true/\KA av w r wa
def kJ (av:Av) (w:World):List AV->List Value->Prop
 | [],us=>us=[]
 | x :: r,us=>∃ u wa,us=u :: wa/\JC av w x u/\kJ av w r wa
def gD (av:Av) (w:World):List AV->Nat->Nat->Prop
 | [],_,_=>True
 | x :: r,b,off=>(∃ u,w.cell? ⟨b,off,none⟩=some u/\JC av w x u/\u.oneCell'=true)/\¬ av b off/\gD av w r b (off + 1)
def Rows (av:Av) (w:World):List (List AV)->Nat->Nat->Prop
 | [],_,_=>True
 | cs :: r,b,off=>gD av w cs b off/\Rows av w r b (off + cs.length)
end
structure TA (av ab:Av) (w w':World):Prop where
 cell:∀ b o u,w.cell? ⟨b,o,none⟩=some u->¬ av b o->w'.cell? ⟨b,o,none⟩=some u/\¬ ab b o
mutual
theorem JC.held {av ab:Av} {w w':World} (h:TA av ab w w'):∀ (x:AV) (v:Value),JC av w x v->JC ab w' x v
 | .int _ _,_,hr=>by simpa [JC] using hr
 | .bool _,_,hr=>by simpa [JC] using hr
 | .str _,_,hr=>by simpa [JC] using hr
 | .nilP,_,hr=>by simpa [JC] using hr
 | .ip cs,_,hr=>by
  simp only [JC] at hr ⊢
  obtain ⟨b,off,rfl,hc⟩:=hr
  exact ⟨b,off,rfl,gD.held h cs b off hc⟩
 | .sl nil l,_,hr=>by
  simp only [JC] at hr ⊢
  obtain ⟨A,c,rfl,hc,hu,hn,hs⟩:=hr
  refine ⟨A,c,rfl,hc,hu,hn,fun hf=>⟨(hs hf).1,fun h0=>?_⟩⟩
  obtain ⟨b,off,rfl,oa⟩:=(hs hf).2 h0
  exact ⟨b,off,rfl,Rows.held h l b off oa⟩
 | .agg cs,_,hr=>by
  simp only [JC] at hr ⊢
  obtain ⟨us,rfl,hc⟩:=hr
  exact ⟨us,rfl,KA.held h cs _ hc⟩
 | .tup xs,_,hr=>by
  simp only [JC] at hr ⊢
  obtain ⟨us,rfl,hc⟩:=hr
  exact ⟨us,rfl,kJ.held h xs _ hc⟩
 | .ptr ..,_,hr=>by simp [JC] at hr
 | .bp ..,_,hr=>by simp [JC] at hr
 | .bl ..,_,hr=>by simp [JC] at hr
 | .ref ..,_,hr=>by simp [JC] at hr
 | .mp ..,_,hr=>by simp [JC] at hr
 | .fn ..,_,hr=>by simp [JC] at hr
 | .undef,_,hr=>trivial
theorem KA.held {av ab:Av} {w w':World} (h:TA av ab w w'):∀ (xs:List AV) (us:List Value),KA av w xs us->KA ab w' xs us
 | [],_,hr=>by simpa [KA] using hr
 | x :: r,_,hr=>by
  simp only [KA] at hr ⊢
  obtain ⟨u,wa,rfl,hx,h1,hr⟩:=hr
  exact ⟨u,wa,rfl,JC.held h x u hx,h1,KA.held h r wa hr⟩
theorem kJ.held {av ab:Av} {w w':World} (h:TA av ab w w'):∀ (xs:List AV) (us:List Value),kJ av w xs us->kJ ab w' xs us
 | [],_,hr=>by simpa [kJ] using hr
 | x :: r,_,hr=>by
  simp only [kJ] at hr ⊢
  obtain ⟨u,wa,rfl,hx,hr⟩:=hr
  exact ⟨u,wa,rfl,JC.held h x u hx,kJ.held h r wa hr⟩
theorem gD.held {av ab:Av} {w w':World} (h:TA av ab w w'):∀ (cs:List AV) (b off:Nat),gD av w cs b off->gD ab w' cs b off
 | [],_,_,_=>by simp [gD]
 | x :: r,b,off,hr=>by
  simp only [gD] at hr ⊢
  obtain ⟨⟨u,hc,hx,h1⟩,ha,hr⟩:=hr
  obtain ⟨xb,cu⟩:=h.cell b off u hc ha
  exact ⟨⟨u,xb,JC.held h x u hx,h1⟩,cu,gD.held h r b (off + 1) hr⟩
theorem Rows.held {av ab:Av} {w w':World} (h:TA av ab w w'):∀ (l:List (List AV)) (b off:Nat),Rows av w l b off->Rows ab w' l b off
 | [],_,_,_=>by simp [Rows]
 | cs :: r,b,off,hr=>by
  simp only [Rows] at hr ⊢
  exact ⟨gD.held h cs b off hr.1,Rows.held h r b (off + cs.length) hr.2⟩
end
theorem TA.refl (av:Av) (w:World):TA av av w w:=⟨fun _ _ _ hc ha=>⟨hc,ha⟩⟩
theorem TA.less {av ab:Av} {w:World} (h:∀ b o,ab b o->av b o):TA av ab w w:=⟨fun _ _ _ hc ha=>⟨hc,fun hx=>ha (h _ _ hx)⟩⟩
def OB (av EB:Av) (w:World):List AV->Nat->Nat->Prop
 | [],_,_=>True
 | x :: r,b,off=>(∃ u,w.cell? ⟨b,off,none⟩=some u/\JC av w x u/\u.oneCell'=true)/\¬ EB b off/\OB av EB w r b (off + 1)
def RI (av EB:Av) (w:World):List (List AV)->Nat->Nat->Prop
 | [],_,_=>True
 | cs :: r,b,off=>OB av EB w cs b off/\RI av EB w r b (off + cs.length)
theorem OB.held {av ab EB avB':Av} {w w':World} (h:TA av ab w w') (hB:TA EB avB' w w'):∀ (cs:List AV) (b off:Nat),OB av EB w cs b off->OB ab avB' w' cs b off
 | [],_,_,_=>by simp [OB]
 | x :: r,b,off,hr=>by
  simp only [OB] at hr ⊢;obtain ⟨⟨u,hc,hx,h1⟩,ha,hr⟩:=hr;obtain ⟨xb,cu⟩:=hB.cell b off u hc ha;exact ⟨⟨u,xb,JC.held h x u hx,h1⟩,cu,OB.held h hB r b (off + 1) hr⟩
theorem RI.held {av ab EB avB':Av} {w w':World} (h:TA av ab w w') (hB:TA EB avB' w w'):∀ (l:List (List AV)) (b off:Nat),RI av EB w l b off->RI ab avB' w' l b off
 | [],_,_,_=>by simp [RI]
 | cs :: r,b,off,hr=>by
  simp only [RI] at hr ⊢;exact ⟨OB.held h hB cs b off hr.1,RI.held h hB r b (off + cs.length) hr.2⟩
def IA (ι:Ix) (av:Av) (w:World):AV->Value->Prop
 | .ptr t n off,v=>∃ b,ι t n=some b/\v=.pointer (some ⟨b,off,none⟩)
 | .ref t n sz off len cap,v=>∃ b,ι t n=some b/\len<=cap/\∃ c,cap<=c/\off + c * sz<=ι.z b/\v=.slice (some ⟨b,off,none⟩) len c
 | .mp t n,v=>∃ b,ι t n=some b/\v=.map (some b)
 | .undef,_=>True
 | x,v=>JC av w x v
def QA (ι:Ix) (av:Av) (w:World):List AV->List Value->Prop
 | [],us=>us=[]
 | x :: r,us=>∃ u wa,us=u :: wa/\IA ι av w x u/\u.oneCell'=true/\QA ι av w r wa
def PM (ι:Ix) (av:Av) (w:World):AV->Value->Prop
 | .agg cs,v=>∃ us,v=.agg us/\QA ι av w cs us.toList
 | x,v=>IA ι av w x v
def RE (ι:Ix) (av:Av) (w:World):List AV->List Value->Prop
 | [],us=>us=[]
 | x :: r,us=>∃ u wa,us=u :: wa/\PM ι av w x u/\RE ι av w r wa
def fT (ι:Ix) (av EB:Av) (w:World):AV->Value->Prop
 | .bp cs,v=>∃ b off,v=.pointer (some ⟨b,off,none⟩)/\OB av EB w cs b off
 | x,v=>IA ι av w x v
def SE (ι:Ix) (av EB:Av) (w:World):List AV->List Value->Prop
 | [],us=>us=[]
 | x :: r,us=>∃ u wa,us=u :: wa/\fT ι av EB w x u/\SE ι av EB w r wa
def UA (ι:Ix) (av EB:Av) (w:World):AV->Value->Prop
 | .bp cs,v=>∃ b off,v=.pointer (some ⟨b,off,none⟩)/\OB av EB w cs b off
 | .bl l,v=>∃ a c,v=.slice (some a) l.length c/\l.length<=c/\(∀ x∈l,∀ y∈l,x.length=y.length)/\(0<l.length->∃ b off,a=⟨b,off,none⟩/\RI av EB w l b off)
 | .agg cs,v=>∃ us,v=.agg us/\QA ι av w cs us.toList
 | .tup xs,v=>∃ us,v=.tuple us/\RE ι av w xs us.toList
 | .fn f cs,v=>∃ us,v=.func (.func f) #[] us/\SE ι av EB w cs us.toList
 | .undef,_=>True
 | x,v=>IA ι av w x v
theorem IA.held {ι ι':Ix} {av ab:Av} {w w':World} (hι:Ix.Le ι ι') (h:TA av ab w w') (x:AV) (v:Value) (hr:IA ι av w x v):IA ι' ab w' x v:=by
 cases x <;> first
  | exact JC.held h _ v hr
  | (obtain ⟨b,hb,h1,c,h2,h3,hv⟩:=hr; exact ⟨b,hι.f _ _ _ hb,h1,c,h2,by rw [hι.z _ _ _ hb]; exact h3,hv⟩)
  | (obtain ⟨b,hb,hv⟩:=hr; exact ⟨b,hι.f _ _ _ hb,hv⟩)
  | trivial
theorem QA.held {ι ι':Ix} {av ab:Av} {w w':World} (hι:Ix.Le ι ι') (h:TA av ab w w'):∀ (xs:List AV) (us:List Value),QA ι av w xs us->QA ι' ab w' xs us
 | [],_,hr=>by simpa [QA] using hr
 | x :: r,_,hr=>by
  simp only [QA] at hr ⊢;obtain ⟨u,wa,rfl,hx,h1,hr⟩:=hr;exact ⟨u,wa,rfl,IA.held hι h x u hx,h1,QA.held hι h r wa hr⟩
theorem PM.held {ι ι':Ix} {av ab:Av} {w w':World} (hι:Ix.Le ι ι') (h:TA av ab w w') (x:AV) (v:Value) (hr:PM ι av w x v):PM ι' ab w' x v:=by
 cases x with
 | agg cs=>obtain ⟨us,hv,hc⟩:=hr; exact ⟨us,hv,QA.held hι h _ _ hc⟩
 | int=>exact IA.held hι h (.int _ _) v hr
 | bool=>exact IA.held hι h (.bool _) v hr
 | str=>exact IA.held hι h (.str _) v hr
 | nilP=>exact IA.held hι h .nilP v hr
 | ptr t n o=>exact IA.held hι h (.ptr t n o) v hr
 | ip cs=>exact IA.held hι h (.ip cs) v hr
 | bp cs=>exact IA.held hι h (.bp cs) v hr
 | sl n l=>exact IA.held hι h (.sl n l) v hr
 | bl l=>exact IA.held hι h (.bl l) v hr
 | ref a b c d e f=>exact IA.held hι h (.ref a b c d e f) v hr
 | mp t n=>exact IA.held hι h (.mp t n) v hr
 | fn f cs=>exact IA.held hι h (.fn f cs) v hr
 | tup cs=>exact IA.held hι h (.tup cs) v hr
 | undef=>trivial
theorem RE.held {ι ι':Ix} {av ab:Av} {w w':World} (hι:Ix.Le ι ι') (h:TA av ab w w'):∀ (xs:List AV) (us:List Value),RE ι av w xs us->RE ι' ab w' xs us
 | [],_,hr=>by simpa [RE] using hr
 | x :: r,_,hr=>by
  simp only [RE] at hr ⊢;obtain ⟨u,wa,rfl,hx,hr⟩:=hr;exact ⟨u,wa,rfl,PM.held hι h x u hx,RE.held hι h r wa hr⟩
theorem fT.held {ι ι':Ix} {av ab EB avB':Av} {w w':World} (hι:Ix.Le ι ι') (h:TA av ab w w') (hB:TA EB avB' w w') (x:AV) (v:Value) (hr:fT ι av EB w x v):fT ι' ab avB' w' x v:=by
 match x,hr with
 | .bp cs,⟨b,off,hv,hc⟩=>exact ⟨b,off,hv,OB.held h hB _ b off hc⟩
 | .int k n,hr=>exact IA.held hι h (.int k n) v hr
 | .bool b,hr=>exact IA.held hι h (.bool b) v hr
 | .str s,hr=>exact IA.held hι h (.str s) v hr
 | .nilP,hr=>exact IA.held hι h .nilP v hr
 | .ptr t n off,hr=>exact IA.held hι h (.ptr t n off) v hr
 | .ip cs,hr=>exact IA.held hι h (.ip cs) v hr
 | .sl n l,hr=>exact IA.held hι h (.sl n l) v hr
 | .mp t n,hr=>exact IA.held hι h (.mp t n) v hr
 | .ref t n sz off len cap,hr=>exact IA.held hι h (.ref t n sz off len cap) v hr
 | .undef,hr=>trivial
 | .agg cs,hr=>exact IA.held hι h (.agg cs) v hr
 | .tup cs,hr=>exact IA.held hι h (.tup cs) v hr
theorem SE.held {ι ι':Ix} {av ab EB avB':Av} {w w':World} (hι:Ix.Le ι ι') (h:TA av ab w w') (hB:TA EB avB' w w'):∀ (xs:List AV) (us:List Value),SE ι av EB w xs us->SE ι' ab avB' w' xs us
 | [],_,hr=>by simpa [SE] using hr
 | x :: r,_,hr=>by
  simp only [SE] at hr ⊢;obtain ⟨u,wa,rfl,hx,hr⟩:=hr;exact ⟨u,wa,rfl,fT.held hι h hB x u hx,SE.held hι h hB r wa hr⟩
theorem UA.held {ι ι':Ix} {av ab EB avB':Av} {w w':World} (hι:Ix.Le ι ι') (h:TA av ab w w') (hB:TA EB avB' w w') (x:AV) (v:Value) (hr:UA ι av EB w x v):UA ι' ab avB' w' x v:=by
 match x,hr with
 | .bp cs,⟨b,off,hv,hc⟩=>exact ⟨b,off,hv,OB.held h hB _ b off hc⟩
 | .bl l,⟨a,c,hv,hl,hu,hc⟩ =>
  refine ⟨a,c,hv,hl,hu,fun h0=>?_⟩;obtain ⟨b,off,ha,hr⟩:=hc h0;exact ⟨b,off,ha,RI.held h hB _ b off hr⟩
 | .agg cs,⟨us,hv,hc⟩=>exact ⟨us,hv,QA.held hι h _ _ hc⟩
 | .undef,_=>trivial
 | .int k n,hr=>exact IA.held hι h (.int k n) v hr
 | .bool b,hr=>exact IA.held hι h (.bool b) v hr
 | .str s,hr=>exact IA.held hι h (.str s) v hr
 | .nilP,hr=>exact IA.held hι h .nilP v hr
 | .ptr t n off,hr=>exact IA.held hι h (.ptr t n off) v hr
 | .ip cs,hr=>exact IA.held hι h (.ip cs) v hr
 | .sl n l,hr=>exact IA.held hι h (.sl n l) v hr
 | .mp t n,hr=>exact IA.held hι h (.mp t n) v hr
 | .ref t n sz off len cap,hr=>exact IA.held hι h (.ref t n sz off len cap) v hr
 | .tup vs,⟨us,hv,hc⟩=>exact ⟨us,hv,RE.held hι h _ _ hc⟩
 | .fn f cs,⟨us,hv,hc⟩=>exact ⟨us,hv,SE.held hι h hB _ _ hc⟩
end
section
open Go Go.RowKit
structure AL where
 b:Nat->Prop
 p:Option Nat
 r:Nat->Prop
 z:Nat
 /-- what the slots of the calls that wait td -/
 g:Nat->Value
instance:CoeFun AL (fun _=>Nat->Prop):=⟨AL.b⟩
structure Ow where
 g:Nat
 n:Nat
 c:Nat
 sz:Nat
 e:TypeId
abbrev lH:=Nat->Option Ow
def Ix.has (ι:Ix) (b:Nat):Prop:=(∃ t n,ι t n=some b)\/∃ t n H,ι.ob t n=some H/\H b
def EB (ι:Ix) (Θ:lH):Av:=fun b o=>ι.has b\/(∃ k ow,Θ k=some ow/\ow.g=b/\ow.n * ow.sz<=o)
def QB (aa:Av) (ι:Ix) (Θ:lH):Av:=fun b o=>aa b o\/EB ι Θ b o
def exV (v:Value):Prop:=∃ A n,v=.slice A n n
def QH (Θ:lH):An->Value->Prop
 | .no,_=>True
 | .ex,v=>exV v
 | .own k e,v=>exV v\/∃ ow,Θ k=some ow/\ow.e=e/\v=.slice (some ⟨ow.g,0,none⟩) ow.n ow.c
def QC (ι:Ix) (Θ:lH) (av:Av) (w:World) (r:List wA) (cur:Array Value):Prop :=
 r.length<=cur.size/\∀ (j:Nat) (x:wA),r[j]?=some x->∃ u,cur[j]?=some u/\u.oneCell'=true/\IA ι av w x.v u/\QH Θ x.a u
def ObOk (B:Nat) (F0:AL) (D:Nat->Prop) (next:Nat) (w:World) (ι:Ix) (Θ:lH) (t n:Nat) (H:Nat->Prop):Prop :=
 (∀ b,H b->(B<=b\/F0 b)/\b<w.heap.size/\(∀ t' n',ι t' n'=some b->t'=t/\n'=n)/\(∀ k o,Θ k=some o->o.g≠b)/\∀ t' n' H',ι.ob t' n'=some H'->H' b->t'=t/\n'=n)/\(n<next\/n=next/\D t)
def EY (ι:Ix) (S:AV) (p:Nat) (w:World):Prop:=∀ tm nm N seen,TU S=some (tm,nm,N,seen)->∃ m H,ι tm nm=some m/\ι.ob tm nm=some H/\w.heap[p]?=some (.mapIter (some m) N seen.toArray N)
theorem EY.no {ι:Ix} {S:AV} {p:Nat} {w:World} (h:fZ S=true):EY ι S p w:=fun tm nm N seen e=>by
 unfold fZ at h;rw [e] at h;cases h
theorem EY.keep {ι ι':Ix} {S:AV} {p:Nat} {w w':World} (h:EY ι S p w) (hι:∀ t n b H,ι t n=some b->ι.ob t n=some H->ι' t n=some b/\∃ H',ι'.ob t n=some H') (hp:∀ x,w.heap[p]?=some x->w'.heap[p]?=some x):EY ι' S p w':=fun tm nm N seen e=>by
 obtain ⟨m,H,h1,h2,h3⟩:=h tm nm N seen e;obtain ⟨g1,H',g2⟩:=hι _ _ _ _ h1 h2;exact ⟨m,H',g1,g2,hp _ h3⟩
structure fB (P:Program) (O:JD) (nt B:Nat) (F0:AL) (aa:Av) (w0:World) (D:Nat->Prop) (s:uA) (a:Act) (w:World) (ι:Ix) (Θ:lH):Prop where
 defers:a.defers=[]
 size:a.tmps.size=nt
 env:∀ t,UA ι (QB aa ι Θ) (EB ι Θ) w (s.env t).v (a.tmps.getD t undef)
 ann:∀ t,QH Θ (s.env t).a (a.tmps.getD t undef)
 rows:∀ t n r,s.mem t n=some r->ι.ob t n=none/\∃ b cur ty,ι t n=some b/\w.heap[b]?=some (.cells cur ty (0,0))/\QC ι Θ (QB aa ι Θ) w r cur/\(B<=b\/F0.r b)/\cur.size=ι.z b
 mine:∀ t n b,ι t n=some b->(B<=b\/F0 b)/\b<w.heap.size/\(n<s.next\/n=s.next/\D t)
 inj:∀ t n t' n' b,ι t n=some b->ι t' n'=some b->t=t'/\n=n'
 tok:∀ k o,Θ k=some o->B<=o.g/\0<o.sz/\o.n<=o.c/\o.c<=maxLen/\∃ cur,w.heap[o.g]?=some (.cells cur o.e (0,0))/\(cur.size=o.c * o.sz/\nB P o.e=some o.sz)
 tinj:∀ k k' o o',Θ k=some o->Θ k'=some o'->o.g=o'.g->k=k'
 apart:∀ k o t n,Θ k=some o->ι t n≠some o.g
 out:∀ b o,aa b o->b<B
 pin:∀ p,F0.p=some p->ι 0 0=some p/\((F0.r p/\ι.z p=F0.z)\/∃ H,ι.ob 0 0=some H)
 kept:SA F0.b w0 w
 base:B=w0.heap.size
 objs:∀ t n S,s.obj t n=some S->∃ p H,ι t n=some p/\ι.ob t n=some H/\O.at_ S H p w/\EY ι S p w
 obs:∀ t n H,ι.ob t n=some H->ObOk B F0 D s.next w ι Θ t n H
 gen:∀ t,UA ι (QB aa ι Θ) (EB ι Θ) w (s.gh t).v (F0.g t)
 gann:∀ t,QH Θ (s.gh t).a (F0.g t)
section
variable {P:Program} {O:JD} {nt B:Nat} {F0:AL} {aa:Av} {w0:World} {D:Nat->Prop} {s:uA} {a:Act} {w w':World} {ι:Ix} {Θ:lH}
theorem ED {w:World} {b o:Nat} {u:Value} (h:w.cell? ⟨b,o,none⟩=some u):b<w.heap.size:=World.block_lt_of_cell? w ⟨b,o,none⟩ (by exact h)
theorem TA.grown {av ab:Av} (hb:∀ b,b<w.heap.size->w'.heap[b]?=w.heap[b]?) (ha:∀ b o,b<w.heap.size->ab b o->av b o):TA av ab w w' :=
 ⟨fun b o _ hc hn=>⟨(World.cell?_of_block (w:=w) (a:=⟨b,o,none⟩) (hb b (ED hc))).trans hc,fun h=>hn (ha b o (ED hc) h)⟩⟩
theorem QC.held {ι ι':Ix} {Θ Θ':lH} {av ab:Av} {r:List wA} {cur:Array Value} (h:QC ι Θ av w r cur) (hι:Ix.Le ι ι') (hh:TA av ab w w') (hΘ:∀ k o,Θ k=some o->Θ' k=some o):QC ι' Θ' ab w' r cur:=by
 refine ⟨h.1,fun j x hx=>?_⟩;obtain ⟨u,hu,h1,hr,ha⟩:=h.2 j x hx;refine ⟨u,hu,h1,IA.held hι hh _ _ hr,?_⟩;cases hxa:x.a with
 | no=>trivial
 | ex=>rw [hxa] at ha; exact ha
 | own k e =>
  rw [hxa] at ha;rcases ha with ha | ⟨ow,h1,h2⟩
  ·exact .inl ha
  ·exact .inr ⟨ow,hΘ _ _ h1,h2⟩
theorem ObOk.grow {t n:Nat} {H:Nat->Prop} {next:Nat} (h:ObOk B F0 D next w ι Θ t n H) (hs:w.heap.size<=w'.heap.size):ObOk B F0 D next w' ι Θ t n H :=
 ⟨fun b hb=>let ⟨h1,h2,h3⟩:=h.1 b hb; ⟨h1,Nat.lt_of_lt_of_le h2 hs,h3⟩,h.2⟩
theorem fB.grow (R:fB P O nt B F0 aa w0 D s a w ι Θ) (hb:∀ b,b<w.heap.size->w'.heap[b]?=w.heap[b]?) (hs:w.heap.size<=w'.heap.size) (hw:SA F0.b w0 w'):fB P O nt B F0 aa w0 D s a w' ι Θ:=by
 have hA:TA (QB aa ι Θ) (QB aa ι Θ) w w':=TA.grown hb fun _ _ _ h=>h
 have hB:TA (EB ι Θ) (EB ι Θ) w w':=TA.grown hb fun _ _ _ h=>h
 refine ⟨R.defers,R.size,fun t=>UA.held (Ix.Le.refl _) hA hB _ _ (R.env t),R.ann,fun t n r hr=>?_,fun t n b h=>?_,R.inj,fun k o h=>?_,R.tinj,R.apart,R.out,R.pin,hw,R.base,fun t n S h=>?_,fun t n H h=>(R.obs t n H h).grow hs,fun t=>UA.held (Ix.Le.refl _) hA hB _ _ (R.gen t),R.gann⟩
 ·obtain ⟨h0,b,cur,ty,h1,h2,h3,h4⟩:=R.rows t n r hr;exact ⟨h0,b,cur,ty,h1,(hb b (dA h2)).trans h2,h3.held (Ix.Le.refl _) hA (fun _ _ h=>h),h4⟩
 ·obtain ⟨h1,h2,h3⟩:=R.mine t n b h;exact ⟨h1,by omega,h3⟩
 ·obtain ⟨h1,h2,h3,h4,cur,h5,h6⟩:=R.tok k o h;exact ⟨h1,h2,h3,h4,cur,(hb _ (dA h5)).trans h5,h6⟩
 ·obtain ⟨p,H,h1,h2,h3,h4⟩:=R.objs t n S h;exact ⟨p,H,h1,h2,O.keep h3 (fun b hH=>hb b (O.lt h3 hH)) hs,h4.keep (fun t n b H h g=>⟨h,H,g⟩) fun x hx=>(hb _ (dA hx)).trans hx⟩
theorem qZ {a:Act} {d t:Nat} {v:Value} (hd:d<a.tmps.size):(a.put (some d) v).tmps.getD t undef=if t=d then v else a.tmps.getD t undef:=by
 simp only [Act.put,yP,Array.getElem?_setIfInBounds];by_cases h:d=t
 ·subst h; simp [hd]
 ·have h':¬ t=d:=fun e=>h e.symm
  simp [h,h']
theorem fB.put (R:fB P O nt B F0 aa w0 D s a w ι Θ) {d:Nat} (hd:d<nt) {x:wA} {v:Value} (hx:UA ι (QB aa ι Θ) (EB ι Θ) w x.v v) (ha:QH Θ x.a v):fB P O nt B F0 aa w0 D (s.put (some d) x) (a.put (some d) v) w ι Θ:=by
 have ak:d<a.tmps.size:=by rw [R.size]; exact hd
 refine ⟨R.defers,by simpa [Act.put] using R.size,fun t=>?_,fun t=>?_,R.rows,R.mine,R.inj,R.tok,R.tinj,R.apart,R.out,R.pin,R.kept,R.base,R.objs,R.obs,R.gen,R.gann⟩
 ·rw [qZ ak];simp only [uA.put];by_cases h:t=d
  ·simp only [if_pos h]; exact hx
  ·simp only [if_neg h]; exact R.env t
 ·rw [qZ ak];simp only [uA.put];by_cases h:t=d
  ·simp only [if_pos h]; exact ha
  ·simp only [if_neg h]; exact R.ann t
theorem fB.putN (R:fB P O nt B F0 aa w0 D s a w ι Θ) {d:Option Nat} (hd:∀ t,d=some t->t<nt) {x:wA} {v:Value} (hx:UA ι (QB aa ι Θ) (EB ι Θ) w x.v v) (ha:QH Θ x.a v):fB P O nt B F0 aa w0 D (s.put d x) (a.put d v) w ι Θ:=by
 cases d with
 | none=>exact R
 | some d=>exact R.put (hd d rfl) hx ha
theorem fB.more (R:fB P O nt B F0 aa w0 D s a w ι Θ) {D':Nat->Prop} (h:∀ t,D t->D' t):fB P O nt B F0 aa w0 D' s a w ι Θ :=
 ⟨R.defers,R.size,R.env,R.ann,R.rows,fun t n b hb=>let ⟨h1,h2,h3⟩:=R.mine t n b hb; ⟨h1,h2,h3.imp id fun ⟨e,d⟩=>⟨e,h t d⟩⟩,R.inj,R.tok,R.tinj,R.apart,R.out,R.pin,R.kept,R.base,R.objs,fun t n H hb=>⟨(R.obs t n H hb).1,(R.obs t n H hb).2.imp id fun ⟨e,d⟩=>⟨e,h t d⟩⟩,R.gen,R.gann⟩
structure Ix.Lk (t n:Nat) (ι ι':Ix):Prop where
 f:∀ t' n' b,¬ (t'=t/\n'=n)->ι t' n'=some b->ι' t' n'=some b
 z:∀ t n b,ι t n=some b->ι'.z b=ι.z b
theorem IA.kill {t n:Nat} {ι ι':Ix} {av ab:Av} (hι:Ix.Lk t n ι ι') (h:TA av ab w w') (x:AV) (v:Value) (hr:IA ι av w x v):IA ι' ab w' (x.kill0 t n) v:=by
 cases x with
 | ptr t' n' o =>
  obtain ⟨b,hb,hv⟩:=hr;simp only [AV.kill0];split
  ·trivial
  ·rename_i jb; exact ⟨b,hι.f _ _ _ jb hb,hv⟩
 | ref t' n' sz o l c =>
  obtain ⟨b,hb,h1,c',h2,h3,hv⟩:=hr;simp only [AV.kill0];split
  ·trivial
  ·rename_i jb; exact ⟨b,hι.f _ _ _ jb hb,h1,c',h2,by rw [hι.z _ _ _ hb]; exact h3,hv⟩
 | mp t' n' =>
  obtain ⟨b,hb,hv⟩:=hr;simp only [AV.kill0];split
  ·trivial
  ·rename_i jb; exact ⟨b,hι.f _ _ _ jb hb,hv⟩
 | undef=>trivial
 | _=>exact JC.held h _ v hr
theorem QA.kill {t n:Nat} {ι ι':Ix} {av ab:Av} (hι:Ix.Lk t n ι ι') (h:TA av ab w w'):∀ (xs:List AV) (us:List Value),QA ι av w xs us->QA ι' ab w' (xs.map (AV.kill0 t n)) us
 | [],_,hr=>by simpa [QA] using hr
 | x :: r,_,hr=>by
  simp only [QA] at hr;obtain ⟨u,wa,rfl,hx,h1,hr⟩:=hr;exact ⟨u,wa,rfl,IA.kill hι h x u hx,h1,QA.kill hι h r wa hr⟩
theorem PM.kill {t n:Nat} {ι ι':Ix} {av ab:Av} (hι:Ix.Lk t n ι ι') (h:TA av ab w w') (x:AV) (v:Value) (hr:PM ι av w x v):PM ι' ab w' (x.kill1 t n) v:=by
 cases x with
 | agg cs=>obtain ⟨us,hv,hc⟩:=hr; exact ⟨us,hv,QA.kill hι h _ _ hc⟩
 | ptr t' n' o =>
  have:=IA.kill hι h (.ptr t' n' o) v hr;show PM ι' ab w' (AV.kill0 t n (.ptr t' n' o)) v;simp only [AV.kill0] at this ⊢;split
  ·trivial
  ·rename_i jb; rw [if_neg jb] at this; exact this
 | ref t' n' sz o l c =>
  have:=IA.kill hι h (.ref t' n' sz o l c) v hr;show PM ι' ab w' (AV.kill0 t n (.ref t' n' sz o l c)) v;simp only [AV.kill0] at this ⊢;split
  ·trivial
  ·rename_i jb; rw [if_neg jb] at this; exact this
 | mp t' n' =>
  have:=IA.kill hι h (.mp t' n') v hr;show PM ι' ab w' (AV.kill0 t n (.mp t' n')) v;simp only [AV.kill0] at this ⊢;split
  ·trivial
  ·rename_i jb; rw [if_neg jb] at this; exact this
 | undef=>trivial
 | int=>exact IA.kill hι h (.int _ _) v hr
 | bool=>exact IA.kill hι h (.bool _) v hr
 | str=>exact IA.kill hι h (.str _) v hr
 | nilP=>exact IA.kill hι h .nilP v hr
 | ip=>exact IA.kill hι h (.ip _) v hr
 | sl n' l=>exact IA.kill hι h (.sl n' l) v hr
 | tup cs=>exact IA.kill hι h (.tup cs) v hr
 | bl cs=>exact IA.kill hι h (.bl cs) v hr
 | bp cs=>exact IA.kill hι h (.bp cs) v hr
 | fn f cs=>exact IA.kill hι h (.fn f cs) v hr
theorem RE.kill {t n:Nat} {ι ι':Ix} {av ab:Av} (hι:Ix.Lk t n ι ι') (h:TA av ab w w'):∀ (xs:List AV) (us:List Value),RE ι av w xs us->RE ι' ab w' (xs.map (AV.kill1 t n)) us
 | [],_,hr=>by simpa [RE] using hr
 | x :: r,_,hr=>by
  simp only [RE] at hr;obtain ⟨u,wa,rfl,hx,hr⟩:=hr;exact ⟨u,wa,rfl,PM.kill hι h x u hx,RE.kill hι h r wa hr⟩
theorem fT.kill {t n:Nat} {ι ι':Ix} {av ab EB avB':Av} (hι:Ix.Lk t n ι ι') (h:TA av ab w w') (hB:TA EB avB' w w') (x:AV) (v:Value) (hr:fT ι av EB w x v):fT ι' ab avB' w' (x.kill0 t n) v:=by
 cases x with
 | bp cs=>obtain ⟨b,off,hv,hc⟩:=hr; exact ⟨b,off,hv,OB.held h hB _ b off hc⟩
 | ptr t' n' o =>
  have:=IA.kill hι h (.ptr t' n' o) v hr;simp only [AV.kill0] at this ⊢;split
  ·trivial
  ·rename_i jb; rw [if_neg jb] at this; exact this
 | ref t' n' sz o l c =>
  have:=IA.kill hι h (.ref t' n' sz o l c) v hr;simp only [AV.kill0] at this ⊢;split
  ·trivial
  ·rename_i jb; rw [if_neg jb] at this; exact this
 | mp t' n' =>
  have:=IA.kill hι h (.mp t' n') v hr;simp only [AV.kill0] at this ⊢;split
  ·trivial
  ·rename_i jb; rw [if_neg jb] at this; exact this
 | undef=>trivial
 | int=>exact IA.kill hι h (.int _ _) v hr
 | bool=>exact IA.kill hι h (.bool _) v hr
 | str=>exact IA.kill hι h (.str _) v hr
 | nilP=>exact IA.kill hι h .nilP v hr
 | ip=>exact IA.kill hι h (.ip _) v hr
 | sl=>exact IA.kill hι h (.sl _ _) v hr
 | agg cs=>exact IA.kill hι h (.agg cs) v hr
 | tup cs=>exact IA.kill hι h (.tup cs) v hr
 | bl cs=>exact IA.kill hι h (.bl cs) v hr
 | fn f cs=>exact IA.kill hι h (.fn f cs) v hr
theorem SE.kill {t n:Nat} {ι ι':Ix} {av ab EB avB':Av} (hι:Ix.Lk t n ι ι') (h:TA av ab w w') (hB:TA EB avB' w w'):∀ (xs:List AV) (us:List Value),SE ι av EB w xs us->SE ι' ab avB' w' (xs.map (AV.kill0 t n)) us
 | [],_,hr=>by simpa [SE] using hr
 | x :: r,_,hr=>by
  simp only [SE] at hr;obtain ⟨u,wa,rfl,hx,hr⟩:=hr;exact ⟨u,wa,rfl,fT.kill hι h hB x u hx,SE.kill hι h hB r wa hr⟩
theorem UA.kill {t n:Nat} {ι ι':Ix} {av ab EB avB':Av} (hι:Ix.Lk t n ι ι') (h:TA av ab w w') (hB:TA EB avB' w w') (x:AV) (v:Value) (hr:UA ι av EB w x v):UA ι' ab avB' w' (x.kill t n) v:=by
 cases x with
 | bp cs=>obtain ⟨b,off,hv,hc⟩:=hr; exact ⟨b,off,hv,OB.held h hB _ b off hc⟩
 | bl l =>
  obtain ⟨a,c,hv,hl,hu,hc⟩:=hr;refine ⟨a,c,hv,hl,hu,fun h0=>?_⟩;obtain ⟨b,off,ha,hr⟩:=hc h0;exact ⟨b,off,ha,RI.held h hB _ b off hr⟩
 | agg cs=>obtain ⟨us,hv,hc⟩:=hr; exact ⟨us,hv,QA.kill hι h _ _ hc⟩
 | tup cs=>obtain ⟨us,hv,hc⟩:=hr; exact ⟨us,hv,RE.kill hι h _ _ hc⟩
 | fn f cs=>obtain ⟨us,hv,hc⟩:=hr; exact ⟨us,hv,SE.kill hι h hB _ _ hc⟩
 | undef=>trivial
 | ptr t' n' o =>
  have:=IA.kill hι h (.ptr t' n' o) v hr;show UA ι' ab avB' w' (AV.kill0 t n (.ptr t' n' o)) v;simp only [AV.kill0] at this ⊢;split
  ·trivial
  ·rename_i jb; rw [if_neg jb] at this; exact this
 | ref t' n' sz o l c =>
  have:=IA.kill hι h (.ref t' n' sz o l c) v hr;show UA ι' ab avB' w' (AV.kill0 t n (.ref t' n' sz o l c)) v;simp only [AV.kill0] at this ⊢;split
  ·trivial
  ·rename_i jb; rw [if_neg jb] at this; exact this
 | mp t' n' =>
  have:=IA.kill hι h (.mp t' n') v hr;show UA ι' ab avB' w' (AV.kill0 t n (.mp t' n')) v;simp only [AV.kill0] at this ⊢;split
  ·trivial
  ·rename_i jb; rw [if_neg jb] at this; exact this
 | int=>exact IA.kill hι h (.int _ _) v hr
 | bool=>exact IA.kill hι h (.bool _) v hr
 | str=>exact IA.kill hι h (.str _) v hr
 | nilP=>exact IA.kill hι h .nilP v hr
 | ip=>exact IA.kill hι h (.ip _) v hr
 | sl=>exact IA.kill hι h (.sl _ _) v hr
theorem tU {v:Value} {x:AV} (h:XV v=some x) (av:Av) (w:World):JC av w x v/\v.oneCell'=true/\x.leaf=true/\(∀ n l,x=.sl n l->n=true/\v=.slice none 0 0):=by
 unfold XV at h;split at h <;> first
  | (injection h with h; subst h; simp [JC,Value.oneCell',AV.leaf]; done)
  | (cases h; done)
theorem WS {ι:Ix} {av EB:Av} {w:World} {x:AV} {v:Value} (h:JC av w x v) (hx:x.leaf=true):UA ι av EB w x v:=by
 cases x <;> first | exact h | (simp [AV.leaf] at hx; done) | (simp [JC] at h; done)
theorem RH {ι:Ix} {av:Av} {w:World} {x:AV} {v:Value} (h:JC av w x v):IA ι av w x v:=by
 cases x <;> first | exact h | simp [JC] at h
theorem uG {ι:Ix}:∀ {vs:List Value} {xs:List AV} (_:UH vs=some xs) (av:Av) (w:World),QA ι av w xs vs
 | [],_,h,_,_=>by injection h with h; subst h; rfl
 | v :: r,_,h,av,w=>by
  unfold UH at h;cases hv:XV v with
  | none=>rw [hv] at h; cases h
  | some x =>
   rw [hv] at h;cases hr:UH r with
   | none=>rw [hr] at h; cases h
   | some l =>
    rw [hr] at h;injection h with h;subst h;have h1:=tU hv av w;exact ⟨v,r,rfl,RH h1.1,h1.2.1,uG hr av w⟩
theorem I2 {v:Value} {x:AV} (h:W8 v=some x) (ι:Ix) (av EB:Av) (w:World):UA ι av EB w x v:=by
 unfold W8 at h;split at h
 ·rename_i cs;cases hc:UH cs.toList with
  | none=>rw [hc] at h; cases h
  | some l =>
   rw [hc] at h;injection h with h;subst h;exact ⟨cs,rfl,uG hc av w⟩
 ·have:=tU h av w;exact WS this.1 this.2.2.1
theorem avC_nil {v:Value} {b:Bool} {l:List (List AV)} (h:W8 v=some (.sl b l)):b=true/\v=.slice none 0 0:=by
 unfold W8 at h;split at h
 ·rename_i cs;cases hc:UH cs.toList with
  | none=>rw [hc] at h; cases h
  | some l=>rw [hc] at h; injection h with h; cases h
 ·exact (tU h (fun _ _=>False) default).2.2.2 _ _ rfl
theorem fB.opd (R:fB P O nt B F0 aa w0 D s a w ι Θ) {x:Operand} {y:iB} (h:opd x=some y):UA ι (QB aa ι Θ) (EB ι Θ) w (y.get s) (a.eval x)/\QH Θ (y.an s) (a.eval x):=by
 unfold YtbhbeakhognieaaGreatDoor.opd at h;split at h
 ·injection h with h;subst h;exact ⟨R.env _,R.ann _⟩
 ·rename_i v;cases hc:W8 v with
  | none=>rw [hc] at h; cases h
  | some x =>
   rw [hc] at h;injection h with h;subst h;refine ⟨I2 hc _ _ _ _,?_⟩;cases x with
   | sl b l =>
    obtain ⟨rfl,hv⟩:=avC_nil hc;exact ⟨none,0,hv⟩
   | _=>trivial
 ·injection h with h;subst h;exact ⟨⟨#[],rfl,rfl⟩,trivial⟩
 ·cases h
end
end
section
open Go Go.RowKit
section
variable {P:Program} {O:JD} {nt B:Nat} {F0:AL} {aa:Av} {w0:World} {D:Nat->Prop} {s:uA} {a:Act} {w w':World} {ι:Ix} {Θ:lH}
theorem QN {t:TypeId} {b:Bool} (h:DG P t=some b) (w:World):(isAgg t).run P w=.ok b w:=by
 unfold DG at h;cases hu:P.underlying t with
 | none=>rw [hu] at h; cases h
 | some d =>
  rw [hu] at h;injection h with h;subst h;cases d <;> simp [isAgg,run_underlying hu]
theorem AB {t:TypeId} {z:Nat} (h:nB P t=some z) (w:World):(sizeOf t).run P w=.ok z w:=by
 unfold nB at h;cases hu:P.info? t with
 | none=>rw [hu] at h; cases h
 | some d =>
  rw [hu] at h;injection h with h;subst h;simp [sizeOf,typeInfo,hu]
theorem mE {t:TypeId} {l:List AV} (h:FG P t=some l) (w:World):∃ z i,P.info? t=some i/\i.zero=some z/\(zeroValue t).run P w=.ok z w/\UH z.cells.toList=some l:=by
 unfold FG at h;cases hu:P.info? t with
 | none=>rw [hu] at h; cases h
 | some d =>
  rw [hu] at h;cases hz:d.zero with
  | none=>simp [hz] at h
  | some z =>
   simp only [J,hz] at h;exact ⟨z,d,rfl,hz,by simp [zeroValue,typeInfo,hu,hz],h⟩
theorem eE:∀ {vs:List Value} {xs:List AV},UH vs=some xs->xs.length=vs.length
 | [],_,h=>by injection h with h; subst h; rfl
 | v :: r,_,h=>by
  unfold UH at h;cases hv:XV v with
  | none=>rw [hv] at h; cases h
  | some x =>
   rw [hv] at h;cases hr:UH r with
   | none=>rw [hr] at h; cases h
   | some l=>rw [hr] at h; injection h with h; subst h; simp [eE hr]
def nP (P:Program) (aa:Av) (a:Act) (w:World) (ι:Ix) (Θ:lH) (o:Oper) (x:wA):Prop :=
 ∃ v,(execOp a.eval o).run P w=.ok (.value v) w/\UA ι (QB aa ι Θ) (EB ι Θ) w x.v v/\QH Θ x.a v
section
variable {av avb:Av}
include av avb
theorem PA {k:IntKind} {n:Int} {v:Value}:UA ι av avb w (.int k n) v ↔ v=.int k n:=by simp [UA,IA,JC]
theorem rB {b:Bool} {v:Value}:UA ι av avb w (.bool b) v ↔ v=.bool b:=by simp [UA,IA,JC]
theorem cE {b:ByteArray} {v:Value}:UA ι av avb w (.str b) v ↔ v=.string b:=by simp [UA,IA,JC]
theorem sX {v:Value}:UA ι av avb w .nilP v ↔ v=.pointer none:=by simp [UA,IA,JC]
theorem xE {t n off:Nat} {v:Value}:UA ι av avb w (.ptr t n off) v ↔ ∃ b,ι t n=some b/\v=.pointer (some ⟨b,off,none⟩):=Iff.rfl
theorem wF {t n sz off len cap:Nat} {v:Value}:UA ι av avb w (.ref t n sz off len cap) v ↔ ∃ b,ι t n=some b/\len<=cap/\∃ c,cap<=c/\off + c * sz<=ι.z b/\v=.slice (some ⟨b,off,none⟩) len c:=Iff.rfl
theorem bI {cs:List AV} {v:Value}:UA ι av avb w (.ip cs) v ↔ ∃ b off,v=.pointer (some ⟨b,off,none⟩)/\gD av w cs b off:=by simp [UA,IA,JC]
theorem NB {nil:Bool} {l:List (List AV)} {v:Value}:UA ι av avb w (.sl nil l) v ↔ JC av w (.sl nil l) v:=Iff.rfl
theorem mV {cs:List AV} {v:Value}:UA ι av avb w (.agg cs) v ↔ ∃ us,v=.agg us/\QA ι av w cs us.toList:=Iff.rfl
theorem repS_tup {cs:List AV} {v:Value}:UA ι av avb w (.tup cs) v ↔ ∃ us,v=.tuple us/\RE ι av w cs us.toList:=Iff.rfl
end
theorem XB {av:Av}:∀ {xs:List AV} {us:List Value},QA ι av w xs us->us.length=xs.length
 | [],_,h=>by simp only [QA] at h; subst h; rfl
 | x :: r,_,h=>by
  simp only [QA] at h;obtain ⟨u,wa,rfl,_,_,h⟩:=h;simp [XB h]
theorem PD {av:Av}:∀ {xs:List AV} {us:List Value} (n:Nat),QA ι av w xs us->QA ι av w (xs.drop n) (us.drop n)
 | [],_,n,h=>by simp only [QA] at h; subst h; simp [QA]
 | x :: r,_,n,h=>by
  cases n with
  | zero=>exact h
  | succ n =>
   simp only [QA] at h;obtain ⟨u,wa,rfl,_,_,h⟩:=h;exact PD n h
theorem wE {av:Av}:∀ {xs:List AV} {us:List Value} (n:Nat),QA ι av w xs us->QA ι av w (xs.take n) (us.take n)
 | [],_,n,h=>by simp only [QA] at h; subst h; simp [QA]
 | x :: r,_,n,h=>by
  cases n with
  | zero=>simp [QA]
  | succ n =>
   simp only [QA] at h;obtain ⟨u,wa,rfl,h0,h1,h⟩:=h;exact ⟨u,wa.take n,rfl,h0,h1,wE n h⟩
theorem rH {av:Av}:∀ {xs:List AV} {us:List Value} (_:QA ι av w xs us) {j:Nat} {x:AV},xs[j]?=some x->∃ u,us[j]?=some u/\u.oneCell'=true/\IA ι av w x u
 | [],_,_,_,_,hx=>by simp at hx
 | y :: r,_,h,j,x,hx=>by
  simp only [QA] at h;obtain ⟨u,wa,rfl,h0,h1,h⟩:=h;cases j with
  | zero=>simp at hx; subst hx; exact ⟨u,rfl,h1,h0⟩
  | succ j=>exact rH h (j:=j) (by simpa using hx)
theorem aF {av:Av}:∀ {xs ys:List AV} {us vs:List Value},QA ι av w xs us->QA ι av w ys vs->QA ι av w (xs++ys) (us++vs)
 | [],_,_,_,h,h'=>by simp only [QA] at h; subst h; exact h'
 | x :: r,_,_,_,h,h'=>by
  simp only [QA] at h;obtain ⟨u,wa,rfl,h0,h1,h⟩:=h;exact ⟨u,wa++_,rfl,h0,h1,aF h h'⟩
theorem OC {av:Av}:∀ {xs:List AV} {us:List Value},KA av w xs us->QA ι av w xs us
 | [],_,h=>by simpa [KA,QA] using h
 | x :: r,_,h=>by
  simp only [KA] at h;obtain ⟨u,wa,rfl,h0,h1,h⟩:=h;exact ⟨u,wa,rfl,RH h0,h1,OC h⟩
theorem eH {av:Av}:∀ {cs:List AV} {b off:Nat},gD av w cs b off->∃ us,KA av w cs us/\∀ (j:Nat) (u:Value),us[j]?=some u->w.cell? ⟨b,off + j,none⟩=some u/\¬ av b (off + j)
 | [],_,_,_=>⟨[],rfl,fun j u h=>by simp at h⟩
 | x :: r,b,off,h=>by
  simp only [gD] at h;obtain ⟨⟨u,hc,hx,h1⟩,ha,hr⟩:=h;obtain ⟨us,hl,hj⟩:=eH hr;refine ⟨u :: us,⟨u,us,rfl,hx,h1,hl⟩,fun j v hv=>?_⟩;cases j with
  | zero=>simp at hv; subst hv; exact ⟨hc,ha⟩
  | succ j =>
   have:=hj j v (by simpa using hv);rw [show off + (j + 1)=off + 1 + j from by omega];exact this
theorem IM {av avb:Av}:∀ {cs:List AV} {b off:Nat},OB av avb w cs b off->∃ us,KA av w cs us/\∀ (j:Nat) (u:Value),us[j]?=some u->w.cell? ⟨b,off + j,none⟩=some u/\¬ avb b (off + j)
 | [],_,_,_=>⟨[],rfl,fun j u h=>by simp at h⟩
 | x :: r,b,off,h=>by
  simp only [OB] at h;obtain ⟨⟨u,hc,hx,h1⟩,ha,hr⟩:=h;obtain ⟨us,hl,hj⟩:=IM hr;refine ⟨u :: us,⟨u,us,rfl,hx,h1,hl⟩,fun j v hv=>?_⟩;cases j with
  | zero=>simp at hv; subst hv; exact ⟨hc,ha⟩
  | succ j =>
   have:=hj j v (by simpa using hv);rw [show off + (j + 1)=off + 1 + j from by omega];exact this
theorem EH {av:Av}:∀ {cs:List AV} {us:List Value} {b off:Nat},KA av w cs us->(∀ (j:Nat) (u:Value),us[j]?=some u->w.cell? ⟨b,off + j,none⟩=some u/\¬ av b (off + j))->gD av w cs b off
 | [],_,_,_,_,_=>by simp [gD]
 | x :: r,_,b,off,h,hj=>by
  simp only [KA] at h;obtain ⟨u,wa,rfl,h0,h1,h⟩:=h;simp only [gD];have h2:=hj 0 u rfl;refine ⟨⟨u,h2.1,h0,h1⟩,h2.2,EH h fun j v hv=>?_⟩;have:=hj (j + 1) v (by simpa using hv);rw [show off + 1 + j=off + (j + 1) from by omega];exact this
theorem dI {av:Av}:∀ {cs ds:List AV} {b off:Nat},gD av w (cs++ds) b off ↔ gD av w cs b off/\gD av w ds b (off + cs.length)
 | [],ds,b,off=>by simp [gD]
 | x :: r,ds,b,off=>by
  simp only [List.cons_append,gD,dI (cs:=r),yD];rw [show off + (r.length + 1)=off + 1 + r.length from by omega];exact ⟨fun ⟨h1,h2,h3,h4⟩=>⟨⟨h1,h2,h3⟩,h4⟩,fun ⟨⟨h1,h2,h3⟩,h4⟩=>⟨h1,h2,h3,h4⟩⟩
theorem qD {av:Av}:∀ {l:List (List AV)} {b off:Nat},Rows av w l b off ↔ gD av w l.flatten b off
 | [],b,off=>by simp [Rows,gD]
 | cs :: r,b,off=>by
  simp only [Rows,yy,dI,qD (l:=r)]
theorem kH {av avb:Av}:∀ {cs ds:List AV} {b off:Nat},OB av avb w (cs++ds) b off ↔ OB av avb w cs b off/\OB av avb w ds b (off + cs.length)
 | [],ds,b,off=>by simp [OB]
 | x :: r,ds,b,off=>by
  simp only [List.cons_append,OB,kH (cs:=r),yD];rw [show off + (r.length + 1)=off + 1 + r.length from by omega];exact ⟨fun ⟨h1,h2,h3,h4⟩=>⟨⟨h1,h2,h3⟩,h4⟩,fun ⟨⟨h1,h2,h3⟩,h4⟩=>⟨h1,h2,h3,h4⟩⟩
theorem tH {av avb:Av}:∀ {l:List (List AV)} {b off:Nat},RI av avb w l b off ↔ OB av avb w l.flatten b off
 | [],b,off=>by simp [RI,OB]
 | cs :: r,b,off=>by
  simp only [RI,yy,kH,tH (l:=r)]
theorem SN {sz:Nat}:∀ {l:List (List AV)} (_:∀ c∈l,c.length=sz) (k:Nat),l.flatten.drop (k * sz)=(l.drop k).flatten
 | [],_,k=>by simp
 | c :: r,h,k=>by
  cases k with
  | zero=>simp
  | succ k =>
   have hc:c.length=sz:=h c (by simp);rw [yy,List.drop_succ_cons,List.drop_append,hc,show (k + 1) * sz - sz=k * sz from by rw [yB]; omega,
    yj (by rw [hc,yB]; omega),List.nil_append]
   exact SN (fun c hc=>h c (by simp [hc])) k
theorem part_run {t:TypeId} {agg:Bool} {z:Nat} (hA:DG P t=some agg) (hz:nB P t=some z) {av:Av} {cs:List AV} {us:Array Value} (h:QA ι av w cs us.toList) {off:Nat} {x:AV} {avb:Av}
  (hx:lE agg z (cs.drop off)=some x):∃ v,(part t us off).run P w=.ok v w/\UA ι av avb w x v:=by
 cases agg with
 | true =>
  simp only [lE,if_true] at hx;split at hx
  ·rename_i tb;injection hx with hx;subst hx;refine ⟨.agg (us.extract off (off + z)),by simp [part,QN hA,AB hz],_,rfl,?_⟩;have:=wE z (PD off h);have he:(us.extract off (off + z)).toList=(us.toList.drop off).take z:=by
    rw [Array.toList_extract,List.extract_eq_take_drop,Nat.add_sub_cancel_left]
   rw [he];exact this
  ·cases hx
 | false =>
  simp only [lE,yC,if_false,yw,Nat.add_zero] at hx;obtain ⟨u,hu,h1,hr⟩:=rH h hx;have bm:us[off]?=some u:=by simpa using hu
  refine ⟨u,by simp [part,QN hA,bm],?_⟩;cases x <;> first | exact hr | (simp [IA,JC] at hr; obtain ⟨wa,rfl,_⟩:=hr; simp [Value.oneCell'] at h1) | (simp [IA,JC] at hr)
end
end
section
open Go Go.RowKit
section
variable {P:Program} {O:JD} {nt B:Nat} {F0:AL} {aa:Av} {w0:World} {D:Nat->Prop} {s:uA} {a:Act} {w w':World} {ι:Ix} {Θ:lH} {o:Oper}
theorem O6 {av avb:Av} {x:AV} {u:Value} (h:IA ι av w x u) (h1:u.oneCell'=true):UA ι av avb w x u:=by
 cases x <;> first | exact h | (simp [IA,JC] at h; obtain ⟨wa,rfl,_⟩:=h; simp [Value.oneCell'] at h1; done) | (simp [IA,JC] at h; done)
theorem val_mv (R:fB P O nt B F0 aa w0 D s a w ι Θ) {X:Operand} {y:iB} (h:opd X=some y) (ho:o.op=.move X\/o.op=.assign X):nP P aa a w ι Θ o ⟨y.get s,y.an s⟩ :=
 ⟨a.eval X,by rcases ho with ho | ho <;> simp [execOp,ho],(R.opd h).1,(R.opd h).2⟩
theorem val_pick (R:fB P O nt B F0 aa w0 D s a w ι Θ) {C X Y:Operand} {c x y:iB} (hc:opd C=some c) (hx:opd X=some x) (hy:opd Y=some y) (ho:o.op=.pick C X Y) {t:Bool} (ht:c.get s=.bool t) :
  nP P aa a w ι Θ o (if t then ⟨x.get s,x.an s⟩ else ⟨y.get s,y.an s⟩):=by
 have h:=(R.opd hc).1;rw [ht,rB] at h;cases t with
 | true=>exact ⟨a.eval X,by simp [execOp,ho,h,asBool],(R.opd hx).1,(R.opd hx).2⟩
 | false=>exact ⟨a.eval Y,by simp [execOp,ho,h,asBool],(R.opd hy).1,(R.opd hy).2⟩
theorem QC.rep {av:Av} {r:List wA} {cur:Array Value} (h:QC ι Θ av w r cur):QA ι av w (r.map (·.v)) (cur.toList.take r.length):=by
 obtain ⟨hl,hj⟩:=h;obtain ⟨l⟩:=cur;simp only [yF] at hl;simp only [List.getElem?_toArray] at hj;simp only
 induction r generalizing l with
 | nil=>rfl
 | cons x r ih =>
  cases l with
  | nil=>simp at hl
  | cons u us =>
   obtain ⟨u',hu,h1,hr,_⟩:=hj 0 x rfl;simp at hu;subst hu;exact ⟨_,us.take r.length,rfl,hr,h1,ih us (by simpa using hl) fun j y hy=>hj (j + 1) y hy⟩
theorem aN {t:TypeId} {agg:Bool} {z:Nat} (hA:DG P t=some agg) (hz:nB P t=some z) {av avb:Av} {cs:List AV} {us:List Value} (h:QA ι av w cs us) {b off:Nat} (fd:∀ (j:Nat) (u:Value),us[j]?=some u->w.cell? ⟨b,off + j,none⟩=some u)
  {x:AV} (hx:lE agg z cs=some x):∃ v,(loadVar t ⟨b,off,none⟩).run P w=.ok v w/\UA ι av avb w x v/\(agg=false->w.cell? ⟨b,off,none⟩=some v):=by
 cases agg with
 | true =>
  simp only [lE,if_true] at hx;split at hx
  ·rename_i tb;injection hx with hx;subst hx;have ea:=XB h;have hl:(us.take z).length=z:=by rw [ym,ea]; omega
   have hr:=run_loadCells_list (P:=P) w ⟨b,off,none⟩ (us.take z) (fun j v hv=>by
    rw [Addr.add_lit];refine fd j v ?_;rw [yz] at hv;split at hv
    ·exact hv
    ·cases hv)
   rw [hl] at hr;exact ⟨.agg (us.take z).toArray,by simp [loadVar,QN hA,AB hz,hr],⟨_,rfl,wE z h⟩,fun h=>by cases h⟩
  ·cases hx
 | false =>
  simp only [lE,yC,if_false] at hx;obtain ⟨u,hu,h1,hr⟩:=rH h hx;have hc:=fd 0 u hu;rw [Nat.add_zero] at hc;refine ⟨u,by simp [loadVar,QN hA,hc],O6 hr h1,fun _=>hc⟩
theorem val_load (R:fB P O nt B F0 aa w0 D s a w ι Θ) {t:TypeId} {agg:Bool} {z:Nat} (hA:DG P t=some agg) (hz:nB P t=some z) {X:Operand} {y:iB} (h:opd X=some y) (ho:o.op=.load t X) {cl:Cl} {call} {x:wA} {e:tC}
  (hr:(K.load cl agg z y).run call s=some (x,e)):e=.none/\nP P aa a w ι Θ o x:=by
 have hX:=(R.opd h).1;simp only [K.run] at hr;split at hr
 ·rename_i t' n off hy;rw [hy,xE] at hX;obtain ⟨b,hb,hv⟩:=hX;split at hr
  ·cases hm:s.mem t' n with
   | none=>rw [hm] at hr; cases hr
   | some r =>
    rw [hm,J] at hr;obtain ⟨pf,b',cur,ty,gb,na,oa,_⟩:=R.rows t' n r hm;rw [hb] at gb;injection gb with gb;subst gb;have rb:∀ (j:Nat) (u:Value),((cur.toList.take r.length).drop off)[j]?=some u->w.cell? ⟨b,off + j,none⟩=some u:=fun j u hu=>by
     rw [cell_of_row w b (off + j) cur ty (0,0) na];rw [yw,yz] at hu;split at hu
     ·simpa using hu
     ·cases hu
    cases hl:EA agg z off r with
    | none=>rw [hl] at hr; cases hr
    | some y' =>
     rw [hl] at hr;injection hr with hr;injection hr with h1 h2;subst h1; subst h2;refine ⟨rfl,?_⟩;have wb:=PD off oa.rep;have hi:lE agg z ((r.map (·.v)).drop off)=some y'.v:=by
      cases agg with
      | true =>
       simp only [EA,if_true] at hl;split at hl
       ·rename_i tb;injection hl with hl;subst hl;simp only [lE,if_true,yr,y9];rw [if_pos (by omega)];simp [List.map_take,List.map_drop]
       ·cases hl
      | false =>
       simp only [EA,yC,if_false] at hl;simp [lE,yw,hl]
     obtain ⟨v,ka,hS,hc⟩:=aN (avb:=EB ι Θ) hA hz wb rb hi;refine ⟨v,by simp [execOp,ho,Instr.loadAt,Instr.sureAddr,hv,ka],hS,?_⟩;cases agg with
     | true =>
      simp only [EA,if_true] at hl;split at hl
      ·injection hl with hl; subst hl; trivial
      ·cases hl
     | false =>
      simp only [EA,yC,if_false] at hl;obtain ⟨u,hu,_,_,ha⟩:=oa.2 off y' hl;have h3:=hc rfl;rw [cell_of_row w b off cur ty (0,0) na,hu] at h3;injection h3 with h3;subst h3;exact ha
  ·cases hr
 ·rename_i cs hy;rw [hy,bI] at hX;obtain ⟨b,off,hv,wh⟩:=hX;obtain ⟨us,hl,fd⟩:=eH wh;split at hr
  ·cases hr
  ·cases hi:lE agg z cs with
   | none=>rw [hi] at hr; cases hr
   | some x' =>
    rw [hi] at hr;injection hr with hr;injection hr with h1 h2;subst h1; subst h2;obtain ⟨v,ka,hS,_⟩:=aN (avb:=EB ι Θ) hA hz (OC (ι:=ι) hl) (fun j u hu=>(fd j u hu).1) hi;exact ⟨rfl,v,by simp [execOp,ho,Instr.loadAt,Instr.sureAddr,hv,ka],hS,trivial⟩
 ·rename_i cs hy;rw [hy] at hX;obtain ⟨b,off,hv,wh⟩:=hX;obtain ⟨us,hl,fd⟩:=IM wh;split at hr
  ·cases hr
  ·cases hi:lE agg z cs with
   | none=>rw [hi] at hr; cases hr
   | some x' =>
    rw [hi] at hr;injection hr with hr;injection hr with h1 h2;subst h1; subst h2;obtain ⟨v,ka,hS,_⟩:=aN (avb:=EB ι Θ) hA hz (OC (ι:=ι) hl) (fun j u hu=>(fd j u hu).1) hi;exact ⟨rfl,v,by simp [execOp,ho,Instr.loadAt,Instr.sureAddr,hv,ka],hS,trivial⟩
 ·cases hr
theorem sK (a b:ByteArray):(a.toList == b.toList)=decide (a=b):=by
 rw [ByteArray.toList_eq,ByteArray.toList_eq];obtain ⟨⟨x⟩⟩:=a;obtain ⟨⟨y⟩⟩:=b;rw [Bool.eq_iff_iff];simp
theorem uB {op:BinOp} {t t':TypeId} {X Y:Operand} {u v r:Value} (ho:o.op=.binOp op t X Y t') (hX:a.eval X=u) (hY:a.eval Y=v) (hu:u.oneCell'=true) (hn:u≠.nilIface) (hv:(Go.binOp op t u v).run P w=.ok r w):(execOp a.eval o).run P w=.ok (.value r) w:=by
 have hg:(eqGuard op t X Y u v).run P w=.ok () w:=by
  unfold eqGuard;cases u <;> first | exact absurd rfl hn | (simp [Value.oneCell'] at hu; done) | (simp; done) | (split <;> simp; done)
 simp [execOp,ho,hX,hY,hg,hv]
theorem val_mm (R:fB P O nt B F0 aa w0 D s a w ι Θ) {mx:Bool} {ts:Array TypeId} {X Y:Operand} {x y:iB} (hx:opd X=some x) (hy:opd Y=some y) (ho:o.op=.call { callee:=.builtin (if mx then .max else .min),args:=#[X,Y],argTypes:=ts }) {v:AV} (hr:mmC mx (x.get s) (y.get s)=some v) :
  nP P aa a w ι Θ o ⟨v,.no⟩:=by
 have hX:=(R.opd hx).1;have hY:=(R.opd hy).1;unfold mmC at hr;split at hr
 ·rename_i k n k' n' e1 e2;rw [e1,PA] at hX;rw [e2,PA] at hY;split at hr
  ·rename_i hk;subst hk;injection hr with hr;subst hr;cases mx with
   | true =>
    have e:(if n' > n then n' else n)=max n n':=by rw [Int.max_def]; split <;> split <;> omega
    exact ⟨.int k (max n n'),by simp [execOp,ho,resolve,invoke,builtin,Builtin.max_,Builtin.max2,hX,hY,e],by simp [PA],trivial⟩
   | false =>
    have e:(if n'<n then n' else n)=min n n':=by rw [Int.min_def]; split <;> split <;> omega
    exact ⟨.int k (min n n'),by simp [execOp,ho,resolve,invoke,builtin,Builtin.min_,Builtin.min2,hX,hY,e],by simp [PA],trivial⟩
  ·cases hr
 ·cases hr
theorem val_bin (R:fB P O nt B F0 aa w0 D s a w ι Θ) {op:BinOp} {t t':TypeId} {bl:Bool} (ht:bl=true->P.underlying t=some .bool) {X Y:Operand} {x y:iB} (hx:opd X=some x) (hy:opd Y=some y) (ho:o.op=.binOp op t X Y t') {v:AV} (hr:J8 op bl (x.get s) (y.get s)=some v) :
  nP P aa a w ι Θ o ⟨v,.no⟩:=by
 have hX:=(R.opd hx).1;have hY:=(R.opd hy).1;unfold J8 at hr;split at hr
 ·rename_i k n k' n' e1 e2;rw [e1,PA] at hX;rw [e2,PA] at hY;by_cases le:op=.shl
  ·subst le;simp only at hr;split at hr
   ·rename_i h0;injection hr with hr;subst hr;exact ⟨.int k (k.wrap (n * 2 ^ shN k n')),uB ho hX hY rfl (by simp) (by simp [Go.binOp,Op.shift,shN,Int.not_lt.2 h0]),by rw [PA],trivial⟩
   ·cases hr
  by_cases hsr:op=.shr
  ·subst hsr;simp only at hr;split at hr
   ·rename_i h0;injection hr with hr;subst hr;exact ⟨.int k (n.fdiv (2 ^ shN k n')),uB ho hX hY rfl (by simp) (by simp [Go.binOp,Op.shift,shN,Int.not_lt.2 h0]),by rw [PA],trivial⟩
   ·cases hr
  split at hr
  ·exact absurd rfl le
  ·exact absurd rfl hsr
  split at hr
  ·rename_i hk;subst hk;cases op <;> simp only at hr
   case and=>injection hr with hr; subst hr; exact ⟨_,uB ho hX hY rfl (by simp) (by simp only [Go.binOp,ne_eq,not_true_eq_false,if_false]; rfl),by rw [US,PA],trivial⟩
   case or=>injection hr with hr; subst hr; exact ⟨_,uB ho hX hY rfl (by simp) (by simp only [Go.binOp,ne_eq,not_true_eq_false,if_false]; rfl),by rw [US,PA],trivial⟩
   case xor=>injection hr with hr; subst hr; exact ⟨_,uB ho hX hY rfl (by simp) (by simp only [Go.binOp,ne_eq,not_true_eq_false,if_false]; rfl),by rw [US,PA],trivial⟩
   case andNot=>injection hr with hr; subst hr; exact ⟨_,uB ho hX hY rfl (by simp) (by simp only [Go.binOp,ne_eq,not_true_eq_false,if_false]; rfl),by rw [US,PA],trivial⟩
   case add=>injection hr with hr; subst hr; exact ⟨.int k (k.wrap (n + n')),uB ho hX hY rfl (by simp) (by simp [Go.binOp,Op.intArith]),by rw [PA],trivial⟩
   case sub=>injection hr with hr; subst hr; exact ⟨.int k (k.wrap (n - n')),uB ho hX hY rfl (by simp) (by simp [Go.binOp,Op.intArith]),by rw [PA],trivial⟩
   case mul=>injection hr with hr; subst hr; exact ⟨.int k (k.wrap (n * n')),uB ho hX hY rfl (by simp) (by simp [Go.binOp,Op.intArith]),by rw [PA],trivial⟩
   case quo =>
    split at hr
    ·cases hr
    ·rename_i h0;injection hr with hr;subst hr;exact ⟨.int k (k.wrap (n.tdiv n')),uB ho hX hY rfl (by simp) (by simp [Go.binOp,Op.intDiv,h0]),by rw [PA],trivial⟩
   case rem =>
    split at hr
    ·cases hr
    ·rename_i h0;injection hr with hr;subst hr;exact ⟨.int k (n.tmod n'),uB ho hX hY rfl (by simp) (by simp [Go.binOp,Op.intDiv,h0]),by rw [PA],trivial⟩
   case eql=>injection hr with hr; subst hr; exact ⟨.bool (n == n'),uB ho hX hY rfl (by simp) (by simp [Go.binOp,Op.intCmp]),rB.2 (congrArg Value.bool (by first | rfl | (rw [Bool.eq_iff_iff]; simp))),trivial⟩
   case neq=>injection hr with hr; subst hr; exact ⟨.bool (n != n'),uB ho hX hY rfl (by simp) (by simp [Go.binOp,Op.intCmp]),rB.2 (congrArg Value.bool (by first | rfl | (rw [Bool.eq_iff_iff]; simp))),trivial⟩
   case lss=>injection hr with hr; subst hr; exact ⟨.bool (decide (n<n')),uB ho hX hY rfl (by simp) (by simp [Go.binOp,Op.intCmp]),rB.2 (congrArg Value.bool (by first | rfl | (rw [Bool.eq_iff_iff]; simp))),trivial⟩
   case leq=>injection hr with hr; subst hr; exact ⟨.bool (decide (n<=n')),uB ho hX hY rfl (by simp) (by simp [Go.binOp,Op.intCmp]),rB.2 (congrArg Value.bool (by first | rfl | (rw [Bool.eq_iff_iff]; simp))),trivial⟩
   case gtr=>injection hr with hr; subst hr; exact ⟨.bool (decide (n > n')),uB ho hX hY rfl (by simp) (by simp [Go.binOp,Op.intCmp]),rB.2 (congrArg Value.bool (by first | rfl | (rw [Bool.eq_iff_iff]; simp))),trivial⟩
   case geq=>injection hr with hr; subst hr; exact ⟨.bool (decide (n>=n')),uB ho hX hY rfl (by simp) (by simp [Go.binOp,Op.intCmp]),rB.2 (congrArg Value.bool (by first | rfl | (rw [Bool.eq_iff_iff]; simp))),trivial⟩
   all_goals cases hr
  ·cases hr
 ·rename_i n n' e1 e2;rw [e1,cE] at hX;rw [e2,cE] at hY;cases op <;> simp only at hr
  case add =>
   split at hr
   ·rename_i tb;injection hr with hr;subst hr;have hm:IntKind.i64.max=9223372036854775807:=by decide
    have:¬ ((n.size + n'.size:Nat):Int) > IntKind.i64.max:=by rw [hm]; omega
    exact ⟨.string (n++n'),uB ho hX hY rfl (by simp) (by simp only [Go.binOp,Op.stringOp,if_neg this]; simp),by rw [cE],trivial⟩
   ·cases hr
  case eql=>injection hr with hr; subst hr; exact ⟨.bool (n.toList == n'.toList),uB ho hX hY rfl (by simp) (by simp [Go.binOp,Op.stringOp]),rB.2 (congrArg Value.bool (by first | rfl | (rw [sK]))),trivial⟩
  case neq=>injection hr with hr; subst hr; exact ⟨.bool (!(n.toList == n'.toList)),uB ho hX hY rfl (by simp) (by simp [Go.binOp,Op.stringOp]),rB.2 (congrArg Value.bool (by first | rfl | (rw [sK]))),trivial⟩
  case lss=>injection hr with hr; subst hr; exact ⟨.bool (Op.bytesLess n.toList n'.toList),uB ho hX hY rfl (by simp) (by simp [Go.binOp,Op.stringOp]),rB.2 (congrArg Value.bool (by first | rfl | (rw [sK]))),trivial⟩
  case gtr=>injection hr with hr; subst hr; exact ⟨.bool (!(Op.bytesLess n.toList n'.toList||n.toList == n'.toList)),uB ho hX hY rfl (by simp) (by simp [Go.binOp,Op.stringOp]),by rw [rB,sK],trivial⟩
  case leq=>injection hr with hr; subst hr; exact ⟨.bool (Op.bytesLess n.toList n'.toList||n.toList == n'.toList),uB ho hX hY rfl (by simp) (by simp [Go.binOp,Op.stringOp]),by rw [rB,sK],trivial⟩
  case geq=>injection hr with hr; subst hr; exact ⟨.bool (!Op.bytesLess n.toList n'.toList),uB ho hX hY rfl (by simp) (by simp [Go.binOp,Op.stringOp]),by rw [rB],trivial⟩
  all_goals cases hr
 ·rename_i n n' e1 e2;rw [e1,rB] at hX;rw [e2,rB] at hY;split at hr
  case isFalse=>cases hr
  rename_i hb;have hq:(Op.equal t (.bool n) (.bool n')).run P w=.ok (n == n') w:=run_equalIn_bool' w 9999 t n n' (ht hb);cases op <;> simp only at hr
  case eql=>injection hr with hr; subst hr; exact ⟨.bool (n == n'),uB ho hX hY rfl (by simp) (by simp [Go.binOp,hq]),by rw [rB],trivial⟩
  case neq=>injection hr with hr; subst hr; exact ⟨.bool (!(n == n')),uB ho hX hY rfl (by simp) (by simp [Go.binOp,hq]),by rw [rB],trivial⟩
  all_goals cases hr
 ·cases hr
end
end
section
open Go Go.RowKit
section
variable {P:Program} {O:JD} {nt B:Nat} {F0:AL} {aa:Av} {w0:World} {D:Nat->Prop} {s:uA} {a:Act} {w w':World} {ι:Ix} {Θ:lH} {o:Oper}
theorem WI {av:Av}:∀ {cs:List AV} {b off:Nat} (k:Nat),gD av w cs b off->gD av w (cs.drop k) b (off + k)
 | [],_,_,k,_=>by simp [gD]
 | x :: r,b,off,0,h=>h
 | x :: r,b,off,k + 1,h=>by
  simp only [gD] at h;rw [List.drop_succ_cons,show off + (k + 1)=off + 1 + k from by omega];exact WI k h.2.2
theorem WH {av avb:Av}:∀ {cs:List AV} {b off:Nat} (k:Nat),OB av avb w cs b off->OB av avb w (cs.drop k) b (off + k)
 | [],_,_,k,_=>by simp [OB]
 | x :: r,b,off,0,h=>h
 | x :: r,b,off,k + 1,h=>by
  simp only [OB] at h;rw [List.drop_succ_cons,show off + (k + 1)=off + 1 + k from by omega];exact WH k h.2.2
section
variable (R:fB P O nt B F0 aa w0 D s a w ι Θ) {t:TypeId} {fs:Array Field} {f:Field} {i z:Nat}
include R t fs f i z
theorem q8 (ht:P.underlying t=some (.struct fs)) (hf:fs[i]?=some f) (hz:nB P f.type=some (z + 1)) {X:Operand} {y:iB} (h:opd X=some y) (ho:o.op=.fieldAddr t X i)
  {call} {x:wA} {e:tC} (hr:(K.faddr f.offset y).run call s=some (x,e)):e=.none/\nP P aa a w ι Θ o x:=by
 have hX:=(R.opd h).1;have ka:∀ b off,a.eval X=.pointer (some ⟨b,off,none⟩)->(execOp a.eval o).run P w=.ok (.value (.pointer (some ⟨b,off + f.offset,none⟩))) w:=fun b off hv=>by
  simp [execOp,ho,Instr.fieldAt,run_underlying ht,hf,hv,Instr.sureAddr,fieldPlace,AB hz,Addr.add_lit]
 simp only [K.run] at hr;split at hr
 ·rename_i t' n off hy;injection hr with hr; injection hr with h1 h2; subst h1; subst h2;rw [hy,xE] at hX;obtain ⟨b,hb,hv⟩:=hX;exact ⟨rfl,_,ka _ _ hv,⟨b,hb,rfl⟩,trivial⟩
 ·rename_i cs hy;injection hr with hr; injection hr with h1 h2; subst h1; subst h2;rw [hy,bI] at hX;obtain ⟨b,off,hv,hc⟩:=hX;exact ⟨rfl,_,ka _ _ hv,by rw [bI]; exact ⟨b,_,rfl,WI _ hc⟩,trivial⟩
 ·rename_i cs hy;injection hr with hr; injection hr with h1 h2; subst h1; subst h2;rw [hy] at hX;obtain ⟨b,off,hv,hc⟩:=hX;exact ⟨rfl,_,ka _ _ hv,⟨b,_,rfl,WH _ hc⟩,trivial⟩
 ·cases hr
theorem w8 {agg:Bool} (ht:P.underlying t=some (.struct fs)) (hf:fs[i]?=some f) (hA:DG P f.type=some agg) (hz:nB P f.type=some z) {X:Operand} {y:iB} (h:opd X=some y) (ho:o.op=.field t X i)
  {call} {x:wA} {e:tC} (hr:(K.field agg f.offset z y).run call s=some (x,e)):e=.none/\nP P aa a w ι Θ o x:=by
 have hX:=(R.opd h).1;simp only [K.run] at hr;split at hr
 ·rename_i cs hy;rw [hy,mV] at hX;obtain ⟨us,hv,hc⟩:=hX;cases hl:lE agg z (cs.drop f.offset) with
  | none=>rw [hl] at hr; cases hr
  | some v =>
   rw [hl] at hr;injection hr with hr; injection hr with h1 h2; subst h1; subst h2;obtain ⟨u,hu,hS⟩:=part_run (avb:=EB ι Θ) hA hz hc hl;exact ⟨rfl,u,by simp [execOp,ho,Instr.field,run_underlying ht,hf,hv,asAgg,hu],hS,trivial⟩
 ·cases hr
end
theorem mI {v:AV} {n:Nat} (h:kQ v=some n):∃ k i,v=.int k i/\0<=i/\i.toNat=n:=by
 unfold kQ at h;split at h
 ·rename_i k i;split at h
  ·injection h with h; exact ⟨k,i,rfl,by assumption,h⟩
  ·cases h
 ·cases h
theorem m8 {av:Av} {l:List (List AV)} {b off sz k:Nat} {cs:List AV} (h:Rows av w l b off) (hu:∀ c∈l,c.length=sz) (hk:l[k]?=some cs):gD av w cs b (off + k * sz):=by
 have h1:=WI (k * sz) (qD.1 h);rw [SN hu] at h1;have ia:k<l.length:=(yq.1 hk).1;have th:l[k]=cs:=(yq.1 hk).2;rw [yk ia,yy,dI,th] at h1;exact h1.1
theorem S6 {av avb:Av} {l:List (List AV)} {b off sz k:Nat} {cs:List AV} (h:RI av avb w l b off) (hu:∀ c∈l,c.length=sz) (hk:l[k]?=some cs):OB av avb w cs b (off + k * sz):=by
 have h1:=WH (k * sz) (tH.1 h);rw [SN hu] at h1;have ia:k<l.length:=(yq.1 hk).1;have th:l[k]=cs:=(yq.1 hk).2;rw [yk ia,yy,kH,th] at h1;exact h1.1
section
variable (R:fB P O nt B F0 aa w0 D s a w ι Θ)
include R
theorem r8 {t e':TypeId} {z:Nat} (ht:P.underlying t=some (.slice e')) (hz:nB P e'=some z) {X I:Operand} {y i:iB} (h:opd X=some y) (hi:opd I=some i) (ho:o.op=.indexAddr t X I)
  {call} {x:wA} {e:tC} (hr:(K.iaddr z y i).run call s=some (x,e)):e=.none/\nP P aa a w ι Θ o x:=by
 have hX:=(R.opd h).1;have hI:=(R.opd hi).1;simp only [K.run] at hr;split at hr
 ·rename_i k hk;obtain ⟨kk,n,xc,h0,hn⟩:=mI hk;rw [xc,PA] at hI;have ka:∀ b off len cap,a.eval X=.slice (some ⟨b,off,none⟩) len cap->k<len->(execOp a.eval o).run P w=.ok (.value (.pointer (some ⟨b,off + k * z,none⟩))) w:=fun b off len cap hv ia=>by
   have hc:0<=n/\n<(len:Int):=⟨h0,by omega⟩;simp [execOp,ho,Instr.indexAt,run_underlying ht,hv,hI,asIntOf,hc,AB hz,Addr.add_lit,hn]
  split at hr
  ·rename_i nl l hy;rw [hy,NB] at hX;simp only [JC] at hX;obtain ⟨A,c,hv,hc,hu,io,hs⟩:=hX;cases hl:l[k]? with
   | none=>rw [hl] at hr; cases hr
   | some cs =>
    rw [hl,J] at hr;split at hr
    ·rename_i wh;injection hr with hr; injection hr with h1 h2; subst h1; subst h2;have ia:k<l.length:=(yq.1 hl).1;have ge:cs∈l:=List.mem_of_getElem? hl;have hnf:nl=false:=by
      cases nl with
      | false=>rfl
      | true=>have:=(io rfl).2.1; omega
     obtain ⟨b,off,rfl,oa⟩:=(hs hnf).2 (by omega);exact ⟨rfl,_,ka _ _ _ _ hv ia,by rw [bI]; exact ⟨b,_,rfl,m8 oa (fun c hc=>(hu c hc cs ge).trans wh) hl⟩,trivial⟩
    ·cases hr
  ·rename_i l hy;rw [hy] at hX;obtain ⟨a',c,hv,hc,hu,hs⟩:=hX;cases hl:l[k]? with
   | none=>rw [hl] at hr; cases hr
   | some cs =>
    rw [hl,J] at hr;split at hr
    ·rename_i wh;injection hr with hr; injection hr with h1 h2; subst h1; subst h2;have ia:k<l.length:=(yq.1 hl).1;have ge:cs∈l:=List.mem_of_getElem? hl;obtain ⟨b,off,rfl,oa⟩:=hs (by omega);exact ⟨rfl,_,ka _ _ _ _ hv ia,⟨b,_,rfl,S6 oa (fun c hc=>(hu c hc cs ge).trans wh) hl⟩,trivial⟩
    ·cases hr
  ·rename_i t' n' sz off ln cap hy;rw [hy,wF] at hX;obtain ⟨b,hb,tb,_,_,_,hv⟩:=hX;split at hr
   ·rename_i ia;injection hr with hr; injection hr with h1 h2; subst h1; subst h2;obtain ⟨ia,rfl⟩:=ia;exact ⟨rfl,_,ka _ _ _ _ hv ia,⟨b,hb,rfl⟩,trivial⟩
   ·cases hr
  ·cases hr
 ·cases hr
theorem M7 {t e':TypeId} {n z:Nat} (ht:P.underlying t=some (.array n e')) (hz:nB P e'=some z) {X I:Operand} {y i:iB} (h:opd X=some y) (hi:opd I=some i) (ho:o.op=.indexAddr t X I)
  {call} {x:wA} {e:tC} (hr:(K.aaddr n z y i).run call s=some (x,e)):e=.none/\nP P aa a w ι Θ o x:=by
 have hX:=(R.opd h).1;have hI:=(R.opd hi).1;simp only [K.run] at hr;split at hr
 ·rename_i k hk;obtain ⟨kk,m,xc,h0,hn⟩:=mI hk;rw [xc,PA] at hI;split at hr
  ·rename_i ia;have ka:∀ b off,a.eval X=.pointer (some ⟨b,off,none⟩)->(execOp a.eval o).run P w=.ok (.value (.pointer (some ⟨b,off + k * z,none⟩))) w:=fun b off hv=>by
    have hc:0<=m/\m<(n:Int):=⟨h0,by omega⟩;simp [execOp,ho,Instr.indexAt,run_underlying ht,hv,hI,asIntOf,hc,Instr.sureAddr,AB hz,Addr.add_lit,hn]
   split at hr
   ·rename_i t' n' off hy;injection hr with hr; injection hr with h1 h2; subst h1; subst h2;rw [hy,xE] at hX;obtain ⟨b,hb,hv⟩:=hX;exact ⟨rfl,_,ka _ _ hv,⟨b,hb,rfl⟩,trivial⟩
   ·rename_i cs hy;injection hr with hr; injection hr with h1 h2; subst h1; subst h2;rw [hy,bI] at hX;obtain ⟨b,off,hv,hc⟩:=hX;exact ⟨rfl,_,ka _ _ hv,by rw [bI]; exact ⟨b,_,rfl,WI _ hc⟩,trivial⟩
   ·rename_i cs hy;injection hr with hr; injection hr with h1 h2; subst h1; subst h2;rw [hy] at hX;obtain ⟨b,off,hv,hc⟩:=hX;exact ⟨rfl,_,ka _ _ hv,⟨b,_,rfl,WH _ hc⟩,trivial⟩
   ·cases hr
  ·cases hr
 ·cases hr
theorem t8 {t:TypeId} (ht:P.underlying t=some .string) {X I:Operand} {y i:iB} (h:opd X=some y) (hi:opd I=some i) (ho:o.op=.index t X I)
  {call} {x:wA} {e:tC} (hr:(K.index y i).run call s=some (x,e)):e=.none/\nP P aa a w ι Θ o x:=by
 have hX:=(R.opd h).1;have hI:=(R.opd hi).1;simp only [K.run] at hr;split at hr
 ·rename_i k b hk hy;obtain ⟨kk,n,xc,h0,hn⟩:=mI hk;rw [xc,PA] at hI;rw [hy,cE] at hX;cases hb:b[k]? with
  | none=>rw [hb] at hr; cases hr
  | some u =>
   rw [hb] at hr;injection hr with hr; injection hr with h1 h2; subst h1; subst h2;exact ⟨rfl,.int .u8 u.toNat,by simp [execOp,ho,Instr.index,run_underlying ht,hX,hI,asIntOf,h0,hn,hb],by rw [PA],trivial⟩
 ·cases hr
end
theorem GW {av:Av}:∀ {xs:List AV} {us:List Value} (_:RE ι av w xs us) {j:Nat} {x:AV},xs[j]?=some x->∃ u,us[j]?=some u/\PM ι av w x u
 | [],_,_,_,_,hx=>by simp at hx
 | y :: r,_,h,j,x,hx=>by
  simp only [RE] at h;obtain ⟨u,wa,rfl,h0,h⟩:=h;cases j with
  | zero=>simp at hx; subst hx; exact ⟨u,rfl,h0⟩
  | succ j=>exact GW h (j:=j) (by simpa using hx)
theorem DE {av:Av} {x:AV} {u:Value} (h:JC av w x u):PM ι av w x u:=by
 cases x <;> first
  | (simp only [JC] at h; obtain ⟨us,hv,hc⟩:=h; exact ⟨us,hv,OC hc⟩)
  | exact RH (ι:=ι) h
theorem HW {av:Av}:∀ {xs:List AV} {us:List Value},kJ av w xs us->RE ι av w xs us
 | [],_,h=>by simpa [kJ,RE] using h
 | x :: r,_,h=>by
  simp only [kJ] at h;obtain ⟨u,wa,rfl,h0,h⟩:=h;exact ⟨u,wa,rfl,DE h0,HW h⟩
theorem TH {av avb:Av} {x:AV} {u:Value} (h:JC av w x u):UA ι av avb w x u:=by
 cases x <;> first
  | exact h
  | (simp only [JC] at h; obtain ⟨us,hv,hc⟩:=h; exact ⟨us,hv,OC hc⟩)
  | (simp only [JC] at h; obtain ⟨us,hv,hc⟩:=h; exact ⟨us,hv,HW hc⟩)
  | (simp [JC] at h; done)
theorem P6 {av avb:Av} {x:AV} {u:Value} (h:PM ι av w x u):UA ι av avb w x u:=by
 cases x <;> first
  | exact h
  | exact TH h
theorem KC {av avb:Av} {x:AV} {u:Value} (h:IA ι av w x u):UA ι av avb w x u:=by
 cases x <;> first | exact h | exact TH h
section
variable (R:fB P O nt B F0 aa w0 D s a w ι Θ)
include R
theorem val_ext {i:Nat} {X:Operand} {y:iB} (h:opd X=some y) (ho:o.op=.extract X i)
  {call} {x:wA} {e:tC} (hr:(K.ext y i).run call s=some (x,e)):e=.none/\nP P aa a w ι Θ o x:=by
 have hX:=(R.opd h).1;simp only [K.run] at hr;split at hr
 ·rename_i vs hy;rw [hy,repS_tup] at hX;obtain ⟨us,hv,hc⟩:=hX;cases hb:vs[i]? with
  | none=>rw [hb] at hr; cases hr
  | some u =>
   rw [hb] at hr;injection hr with hr; injection hr with h1 h2; subst h1; subst h2;obtain ⟨u',hu,wb⟩:=GW hc hb;have bm:us[i]?=some u':=by simpa using hu
   exact ⟨rfl,u',by simp [execOp,ho,Instr.extract,hv,bm],P6 wb,trivial⟩
 ·cases hr
theorem i2 {X:Operand} {y:iB} (h:opd X=some y) (ho:o.op=.nilCheck X)
  {call} {x:wA} {e:tC} (hr:(K.nilchk y).run call s=some (x,e)):e=.none/\nP P aa a w ι Θ o x:=by
 have hX:=(R.opd h).1;simp only [K.run] at hr;split at hr
 ·rename_i t n off hy;injection hr with hr; injection hr with h1 h2; subst h1; subst h2;rw [hy] at hX;obtain ⟨b,hb,hv⟩:=xE.1 hX;exact ⟨rfl,.pointer (some ⟨b,off,none⟩),by simp [execOp,ho,hv],by rw [xE]; exact ⟨b,hb,rfl⟩,trivial⟩
 ·rename_i cs hy;injection hr with hr; injection hr with h1 h2; subst h1; subst h2;rw [hy] at hX;obtain ⟨b,off,hv,hc⟩:=bI.1 hX;exact ⟨rfl,.pointer (some ⟨b,off,none⟩),by simp [execOp,ho,hv],by rw [bI]; exact ⟨b,off,rfl,hc⟩,trivial⟩
 ·rename_i cs hy;injection hr with hr; injection hr with h1 h2; subst h1; subst h2;rw [hy] at hX;obtain ⟨b,off,hv,hc⟩:=hX;exact ⟨rfl,.pointer (some ⟨b,off,none⟩),by simp [execOp,ho,hv],⟨b,off,rfl,hc⟩,trivial⟩
 ·cases hr
theorem R6 {t:TypeId} {str:Bool} (ht:if str then P.underlying t=some .string else ∃ e,P.underlying t=some (.slice e)) {X:Operand} {y:iB} (h:opd X=some y) (ho:o.op=.call { callee:=.builtin .len,args:=#[X],argTypes:=#[t] })
  {call} {x:wA} {e:tC} (hr:(K.len str y).run call s=some (x,e)):e=.none/\nP P aa a w ι Θ o x:=by
 have hX:=(R.opd h).1;have le:∀ A n c,str=false->a.eval X=.slice A n c->(execOp a.eval o).run P w=.ok (.value (.int .i64 n)) w:=fun A n c hs hv=>by
  subst hs;obtain ⟨e',ht⟩:=ht;simp [execOp,ho,resolve,invoke,builtin,Builtin.len_,run_underlying ht,hv,goInt]
 simp only [K.run] at hr;split at hr
 ·rename_i nl l hy;rw [hy,NB] at hX;simp only [JC] at hX;obtain ⟨A,c,hv,_⟩:=hX;cases str with
  | true=>simp at hr
  | false =>
   simp only [yC,if_false] at hr;injection hr with hr; injection hr with h1 h2; subst h1; subst h2;exact ⟨rfl,_,le _ _ _ rfl hv,by rw [PA],trivial⟩
 ·rename_i l hy;rw [hy] at hX;obtain ⟨A,c,hv,_⟩:=hX;cases str with
  | true=>simp at hr
  | false =>
   simp only [yC,if_false] at hr;injection hr with hr; injection hr with h1 h2; subst h1; subst h2;exact ⟨rfl,_,le _ _ _ rfl hv,by rw [PA],trivial⟩
 ·rename_i t' n sz off ln cap hy;rw [hy,wF] at hX;obtain ⟨b,_,_,_,_,_,hv⟩:=hX;cases str with
  | true=>simp at hr
  | false =>
   simp only [yC,if_false] at hr;injection hr with hr; injection hr with h1 h2; subst h1; subst h2;exact ⟨rfl,_,le _ _ _ rfl hv,by rw [PA],trivial⟩
 ·rename_i b hy;rw [hy,cE] at hX;cases str with
  | false=>simp at hr
  | true =>
   simp only [if_true] at hr ht;injection hr with hr; injection hr with h1 h2; subst h1; subst h2;exact ⟨rfl,.int .i64 b.size,by simp [execOp,ho,resolve,invoke,builtin,Builtin.len_,run_underlying ht,hX,goInt],by rw [PA],trivial⟩
 ·cases hr
theorem val_un {op:UnOp} {t:TypeId} {X:Operand} {y:iB} (h:opd X=some y) (ho:o.op=.unOp op t X)
  {call} {x:wA} {e:tC} (hr:(K.un op y).run call s=some (x,e)):e=.none/\nP P aa a w ι Θ o x:=by
 have hX:=(R.opd h).1;simp only [K.run] at hr;split at hr
 ·rename_i b hy;injection hr with hr; injection hr with h1 h2; subst h1; subst h2;rw [hy,rB] at hX;exact ⟨rfl,.bool (!b),by simp [execOp,ho,Op.unary,hX],by rw [rB],trivial⟩
 ·rename_i k n hy;injection hr with hr; injection hr with h1 h2; subst h1; subst h2;rw [hy,PA] at hX;exact ⟨rfl,.int k (k.wrap (0 - n)),by simp [execOp,ho,Op.unary,Op.intArith,hX],by rw [PA],trivial⟩
 ·cases hr
theorem XZ {k:Option IntKind} {t t':TypeId} (hk:match k with | some k=>(∃ j,P.underlying t=some (.int j))/\P.underlying t'=some (.int k) | none=>P.underlying t=some .string/\P.underlying t'=some .string)
  {X:Operand} {y:iB} (h:opd X=some y) (ho:o.op=.convert t t' X) {call} {x:wA} {e:tC} (hr:(K.conv k y).run call s=some (x,e)):e=.none/\nP P aa a w ι Θ o x:=by
 have hX:=(R.opd h).1;simp only [K.run] at hr;split at hr
 ·rename_i k' j n hy;injection hr with hr; injection hr with h1 h2; subst h1; subst h2;rw [hy,PA] at hX;obtain ⟨⟨i,h1⟩,h2⟩:=hk;exact ⟨rfl,.int k' (k'.wrap n),by simp [execOp,ho,Go.convert,run_underlying h1,run_underlying h2,Conv.intToInt,hX],by rw [PA],trivial⟩
 ·rename_i b hy;injection hr with hr; injection hr with h1 h2; subst h1; subst h2;rw [hy,cE] at hX;exact ⟨rfl,.string b,by simp [execOp,ho,Go.convert,run_underlying hk.1,run_underlying hk.2,hX],by rw [cE],trivial⟩
 ·cases hr
end
end
end
section
open Go Go.RowKit
section
variable {P:Program} {O:JD} {nt B:Nat} {F0:AL} {aa:Av} {w0:World} {D:Nat->Prop} {s:uA} {a:Act} {w w':World} {ι:Ix} {Θ:lH} {o:Oper}
def lU (a:Act) (d:Nat):Option Operand->Option Value × Nat->Prop
 | none,(v,n)=>v=none/\n=d
 | some x,(v,n)=>v=some (a.eval x)/\∃ k i,a.eval x=.int k i/\0<=i/\i.toNat=n
theorem eK {t e:TypeId} {z:Nat} (ht:P.underlying t=some (.slice e)) (hz:nB P e=some z) {A:Option Addr} {n c:Nat} {L H:Option Operand} {l h:Nat} (hl:lU a 0 L (L.map a.eval,l)) (hh:lU a n H (H.map a.eval,h)) (h1:l<=h) (h2:h<=c) :
  (Instr.sliceAt t (.slice A n c) (L.map a.eval) (H.map a.eval) none).run P w=.ok (.slice (if c=l then A else A.map (·.add (l * z))) (h - l) (c - l)) w:=by
 cases L with
 | none =>
  obtain ⟨_,rfl⟩:=hl;cases H with
  | none =>
   obtain ⟨_,rfl⟩:=hh;simp [Instr.sliceAt,Instr.slice,Instr.sliceBounds,run_underlying ht,AB hz]
  | some x =>
   obtain ⟨_,k,i,hx,h0,rfl⟩:=hh;have:0<=i/\i<=(c:Int):=⟨h0,by omega⟩;simp [Instr.sliceAt,Instr.slice,Instr.sliceBounds,Instr.sliceBound,run_underlying ht,AB hz,hx,asIntOf,this]
 | some y =>
  obtain ⟨_,k',i',hy,ff,rfl⟩:=hl;cases H with
  | none =>
   obtain ⟨_,rfl⟩:=hh;have:0<=i'/\i'<=(h:Int):=⟨ff,by omega⟩;simp [Instr.sliceAt,Instr.slice,Instr.sliceBounds,Instr.sliceBound,run_underlying ht,AB hz,hy,asIntOf,this]
  | some x =>
   obtain ⟨_,k,i,hx,h0,rfl⟩:=hh;have h3:0<=i/\i<=(c:Int):=⟨h0,by omega⟩;have h4:0<=i'/\i'<=(i.toNat:Int):=⟨ff,by omega⟩;have h5:i'<=max i 0:=by omega
   simp [Instr.sliceAt,Instr.slice,Instr.sliceBounds,Instr.sliceBound,run_underlying ht,AB hz,hx,hy,asIntOf,h3,h4,h5]
theorem DV {t:TypeId} (ht:P.underlying t=some .string) {b:ByteArray} {L H:Option Operand} {l h:Nat} (hl:lU a 0 L (L.map a.eval,l)) (hh:lU a b.size H (H.map a.eval,h)) (h1:l<=h) (h2:h<=b.size) :
  (Instr.sliceAt t (.string b) (L.map a.eval) (H.map a.eval) none).run P w=.ok (.string (b.extract l h)) w:=by
 cases L with
 | none =>
  obtain ⟨_,rfl⟩:=hl;cases H with
  | none =>
   obtain ⟨_,rfl⟩:=hh;simp [Instr.sliceAt,Instr.slice,Instr.sliceBounds,run_underlying ht]
  | some x =>
   obtain ⟨_,k,i,hx,h0,rfl⟩:=hh;have:0<=i/\i<=(b.size:Int):=⟨h0,by omega⟩;simp [Instr.sliceAt,Instr.slice,Instr.sliceBounds,Instr.sliceBound,run_underlying ht,hx,asIntOf,this]
 | some y =>
  obtain ⟨_,k',i',hy,ff,rfl⟩:=hl;cases H with
  | none =>
   obtain ⟨_,rfl⟩:=hh;have:0<=i'/\i'<=(b.size:Int):=⟨ff,by omega⟩;simp [Instr.sliceAt,Instr.slice,Instr.sliceBounds,Instr.sliceBound,run_underlying ht,hy,asIntOf,this]
  | some x =>
   obtain ⟨_,k,i,hx,h0,rfl⟩:=hh;have h3:0<=i/\i<=(b.size:Int):=⟨h0,by omega⟩;have h4:0<=i'/\i'<=(i.toNat:Int):=⟨ff,by omega⟩;have h5:i'<=max i 0:=by omega
   simp [Instr.sliceAt,Instr.slice,Instr.sliceBounds,Instr.sliceBound,run_underlying ht,hx,hy,asIntOf,h3,h4,h5]
theorem gH (R:fB P O nt B F0 aa w0 D s a w ι Θ) {L:Option Operand} {l:Option iB} (h:LT L=some l) {d n:Nat} (hn:iH s d l=some n):lU a d L (L.map a.eval,n):=by
 cases L with
 | none =>
  injection h with h;subst h;injection hn with hn;exact ⟨rfl,hn.symm⟩
 | some X =>
  simp only [LT] at h;cases hx:opd X with
  | none=>rw [hx] at h; cases h
  | some x =>
   rw [hx] at h;injection h with h;subst h;obtain ⟨k,i,hi,h0,hn⟩:=mI hn;have:=(R.opd hx).1;rw [hi,PA] at this;exact ⟨rfl,k,i,this,h0,hn⟩
theorem GZ {sz:Nat} {e:List (List AV)} (hu:∀ c∈e,c.length=sz) (l h:Nat):((e.take h).drop l).flatten=(e.flatten.take (h * sz)).drop (l * sz):=by
 rw [<- SN (fun c hc=>hu c (List.mem_of_mem_take hc)) l];congr 1;clear l
 induction e generalizing h with
 | nil=>simp
 | cons c r ih =>
  cases h with
  | zero=>simp
  | succ h =>
   have hc:c.length=sz:=hu c (by simp);rw [List.take_succ_cons,yy,yy,List.take_append,hc,ih (fun c hc=>hu c (by simp [hc])),
    List.take_of_length_le (l:=c) (by rw [hc,yB]; omega),show (h + 1) * sz - sz=h * sz from by rw [yB]; omega]
theorem p0 {av:Av} {cs:List AV} {b off:Nat} (k:Nat) (h:gD av w cs b off):gD av w (cs.take k) b off:=by
 rw [<- yR k cs,dI] at h;exact h.1
theorem RY {av avb:Av} {cs:List AV} {b off:Nat} (k:Nat) (h:OB av avb w cs b off):OB av avb w (cs.take k) b off:=by
 rw [<- yR k cs,kH] at h;exact h.1
theorem T6 (R:fB P O nt B F0 aa w0 D s a w ι Θ) {t:TypeId} {str:Bool} {z:Nat} (ht:if str then P.underlying t=some .string else ∃ e,P.underlying t=some (.slice e)/\nB P e=some z) {X:Operand} {L H:Option Operand} {x:iB} {l h:Option iB} (hx:opd X=some x) (hl:LT L=some l) (hh:LT H=some h)
  (ho:o.op=.slice t X L H none) {call} {y:wA} {e:tC} (hr:(K.slc str z x l h none).run call s=some (y,e)):e=.none/\nP P aa a w ι Θ o y:=by
 have hX:=(R.opd hx).1;simp only [K.run] at hr;split at hr
 ·cases hr
 ·rename_i lo mr;have hL:=gH R hl mr;split at hr
  ·rename_i b e' hy;rw [hy,NB] at hX;simp only [JC] at hX;obtain ⟨A,c,hv,hc,hu,hn,hs⟩:=hX;split at hr
   ·rename_i hi tq;have hH:=gH R hh tq;split at hr
    ·rename_i ba;obtain ⟨h1,h2,h3,rfl⟩:=ba;injection hr with hr; injection hr with e1 e2; subst e1; subst e2;obtain ⟨el,ix,jx⟩:=ht;have ac:∀ c∈e',c.length=z:=fun c hc=>by simpa using y8.1 h3 c hc
     have ka:=eK (w:=w) (A:=A) ix jx hL hH h1 (Nat.le_trans h2 hc);refine ⟨rfl,.slice (if c=lo then A else A.map (·.add (lo * z))) (hi - lo) (c - lo),by simp only [execOp,ho,hv,Option.map_none,Sem.run_bind,ka,Result.andThen_ok,Sem.run_pure],?_,trivial⟩;simp only [NB,JC];have ea:((e'.take hi).drop lo).length=hi - lo:=by rw [yr,ym]; omega
     refine ⟨_,_,by rw [ea],by rw [ea]; omega,fun x hx y hy=>(ac x (List.mem_of_mem_take (List.mem_of_mem_drop hx))).trans (ac y (List.mem_of_mem_take (List.mem_of_mem_drop hy))).symm,fun hb=>?_,fun hb=>?_⟩
     ·obtain ⟨rfl,h0,rfl⟩:=hn hb;refine ⟨by simp,by omega,by omega⟩
     ·obtain ⟨rf,ci⟩:=hs hb;by_cases md:c=lo
      ·exact ⟨fun _=>by omega,fun h0=>by omega⟩
      ·refine ⟨fun hA=>?_,fun h0=>?_⟩
       ·rw [if_neg md] at hA;cases ki:A with
        | none=>have:=rf ki; omega
        | some a=>rw [ki] at hA; cases hA
       obtain ⟨bb,off,rfl,oa⟩:=ci (by omega);refine ⟨bb,off + lo * z,by rw [if_neg md]; simp only [yp,Addr.add_lit],?_⟩;rw [qD,GZ ac];exact WI _ (p0 _ (qD.1 oa))
    ·cases hr
   ·cases hr
  ·rename_i e' hy;rw [hy] at hX;obtain ⟨a',c,hv,hc,hu,hs⟩:=hX;split at hr
   ·rename_i hi tq;have hH:=gH R hh tq;split at hr
    ·rename_i ba;obtain ⟨h1,h2,h3,rfl⟩:=ba;injection hr with hr; injection hr with e1 e2; subst e1; subst e2;obtain ⟨el,ix,jx⟩:=ht;have ac:∀ c∈e',c.length=z:=fun c hc=>by simpa using y8.1 h3 c hc
     have ka:=eK (w:=w) (A:=some a') ix jx hL hH h1 (Nat.le_trans h2 hc);refine ⟨rfl,.slice (if c=lo then some a' else (some a').map (·.add (lo * z))) (hi - lo) (c - lo),by simp only [execOp,ho,hv,Option.map_none,Sem.run_bind,ka,Result.andThen_ok,Sem.run_pure],?_,trivial⟩;have ea:((e'.take hi).drop lo).length=hi - lo:=by rw [yr,ym]; omega
     refine ⟨if c=lo then a' else a'.add (lo * z),c - lo,by rw [ea]; split <;> simp,by rw [ea]; omega,fun x hx y hy=>(ac x (List.mem_of_mem_take (List.mem_of_mem_drop hx))).trans (ac y (List.mem_of_mem_take (List.mem_of_mem_drop hy))).symm,fun h0=>?_⟩;rw [if_neg (by omega)];obtain ⟨bb,off,rfl,oa⟩:=hs (by omega);refine ⟨bb,off + lo * z,by rw [Addr.add_lit],?_⟩;rw [tH,GZ ac];exact WH _ (RY _ (tH.1 oa))
    ·cases hr
   ·cases hr
  ·rename_i t' n sz off ln cap hy;rw [hy,wF] at hX;obtain ⟨b,hb,tb,cc,af,hz,hv⟩:=hX;split at hr
   ·rename_i hi tq;have hH:=gH R hh tq;split at hr
    ·rename_i ba;obtain ⟨h1,h2,rfl,rfl⟩:=ba;obtain ⟨el,ix,jx⟩:=ht;have ka:=eK (w:=w) (A:=some ⟨b,off,none⟩) ix jx hL hH h1 (Nat.le_trans h2 af);have fh:(execOp a.eval o).run P w=.ok (.value (.slice (if cc=lo then some ⟨b,off,none⟩ else (some (⟨b,off,none⟩:Addr)).map (·.add (lo * sz))) (hi - lo) (cc - lo))) w:=by simp only [execOp,ho,hv,Option.map_none,Sem.run_bind,ka,Result.andThen_ok,Sem.run_pure]
     split at hr
     ·rename_i he;injection hr with hr; injection hr with e1 e2; subst e1; subst e2;refine ⟨rfl,_,fh,?_,trivial⟩;rw [NB];simp only [JC,List.length_nil];refine ⟨_,cc - lo,by rw [show hi - lo=0 from by omega],by omega,(fun x hx=>by cases hx),(fun h=>by cases h),fun _=>⟨fun h=>?_,fun h=>absurd h (Nat.lt_irrefl 0)⟩⟩;split at h <;> simp at h
     ·rename_i he;injection hr with hr; injection hr with e1 e2; subst e1; subst e2;refine ⟨rfl,_,fh,⟨b,hb,by omega,cc - lo,by omega,?_,?_⟩,trivial⟩
      ·have:off + lo * sz + (cc - lo) * sz=off + cc * sz:=by
        rw [Nat.add_assoc,<- Nat.add_mul];congr 2;omega
       rw [this];exact hz
      ·rw [if_neg (by omega)];simp [Addr.add_lit]
    ·cases hr
   ·cases hr
  ·rename_i b hy;rw [hy,cE] at hX;split at hr
   ·rename_i hi tq;have hH:=gH R hh tq;split at hr
    ·rename_i ba;obtain ⟨h1,h2,rfl⟩:=ba;injection hr with hr; injection hr with e1 e2; subst e1; subst e2;have ka:=DV (w:=w) ht hL hH h1 h2;exact ⟨rfl,.string (b.extract lo hi),by simp only [execOp,ho,hX,Option.map_none,Sem.run_bind,ka,Result.andThen_ok,Sem.run_pure],by rw [cE],trivial⟩
    ·cases hr
   ·cases hr
  ·cases hr
theorem isZ_eq {H:Option Operand} (h:isZ H=true):H=some (.const (.int .i64 0)):=by
 unfold isZ at h;split at h
 ·rw [of_decide_eq_true h]
 ·cases h
theorem val_slz (R:fB P O nt B F0 aa w0 D s a w ι Θ) {t e':TypeId} {z:Nat} (ht:P.underlying t=some (.slice e')) (hz:nB P e'=some z) {X:Operand} {H M:Option Operand} (hH:isZ H=true) (hM:isZ M=true) {x:iB} (hx:opd X=some x)
  (ho:o.op=.slice t X none H M) {call} {y:wA} {e:tC} (hr:(K.slz x).run call s=some (y,e)):e=.none/\nP P aa a w ι Θ o y:=by
 have hX:=(R.opd hx).1;rw [isZ_eq hH,isZ_eq hM] at ho;have ka:∀ (A:Option Addr) (n c:Nat),a.eval X=.slice A n c->(execOp a.eval o).run P w=.ok (.value (.slice A 0 0)) w:=fun A n c hv=>by
  have le:(Instr.sliceAt t (.slice A n c) none (some (.int .i64 0)) (some (.int .i64 0))).run P w=.ok (.slice A 0 0) w:=by simp [Instr.sliceAt,Instr.slice,Instr.sliceBounds,Instr.sliceBound,run_underlying ht,AB hz,asIntOf]
  have he:a.eval (.const (.int .i64 0))=.int .i64 0:=rfl;simp only [execOp,ho,hv,he,Option.map_none,yp,le,Sem.run_bind,Result.andThen_ok,Sem.run_pure]
 simp only [K.run] at hr;split at hr
 ·rename_i b l hy;injection hr with hr; injection hr with e1 e2; subst e1; subst e2;rw [hy,NB] at hX;simp only [JC] at hX;obtain ⟨A,c,hv,hc,hu,hn,hs⟩:=hX;refine ⟨rfl,_,ka _ _ _ hv,?_,⟨A,0,rfl⟩⟩;simp only [NB,JC,List.length_nil];exact ⟨A,0,rfl,ye _,(fun x hx=>by cases hx),fun hb=>⟨(hn hb).1,trivial,rfl⟩,fun hb=>⟨fun _=>rfl,fun h0=>absurd h0 (Nat.lt_irrefl 0)⟩⟩
 ·rename_i l hy;injection hr with hr; injection hr with e1 e2; subst e1; subst e2;rw [hy] at hX;obtain ⟨a',c,hv,hc,hu,hs⟩:=hX;refine ⟨rfl,_,ka _ _ _ hv,?_,⟨_,0,rfl⟩⟩;simp only [NB,JC,List.length_nil];exact ⟨_,0,rfl,ye _,(fun x hx=>by cases hx),(fun hb=>by cases hb),fun hb=>⟨fun _=>rfl,fun h0=>absurd h0 (Nat.lt_irrefl 0)⟩⟩
 ·rename_i t' n sz off ln cap hy;injection hr with hr; injection hr with e1 e2; subst e1; subst e2;rw [hy,wF] at hX;obtain ⟨b,hb,tb,cc,af,hz',hv⟩:=hX;refine ⟨rfl,_,ka _ _ _ hv,?_,⟨_,0,rfl⟩⟩;simp only [NB,JC,List.length_nil];exact ⟨_,0,rfl,ye _,(fun x hx=>by cases hx),(fun hb=>by cases hb),fun hb=>⟨fun _=>rfl,fun h0=>absurd h0 (Nat.lt_irrefl 0)⟩⟩
 ·cases hr
end
end
section
open Go Go.RowKit
section
variable {P:Program} {O:JD} {nt B:Nat} {F0:AL} {aa:Av} {w0:World} {D:Nat->Prop} {s:uA} {a:Act} {w w':World} {ι:Ix} {Θ:lH} {o:Oper}
theorem B6 (d:Nat) {t e:TypeId} (ht:P.underlying t=some (.slice e)) (A:Option Addr) (n c:Nat):(Op.equalIn (d + 1) t (.slice A n c) (.slice none 0 0)).run P w=.ok A.isNone w:=by
 unfold Op.equalIn;simp only [Sem.run_bind,run_underlying ht,Result.andThen_ok];cases A <;> rfl
theorem eql_ptr (d:Nat) {t e:TypeId} (ht:P.underlying t=some (.pointer e)) (A:Option Addr):(Op.equalIn (d + 1) t (.pointer A) (.pointer none)).run P w=.ok A.isNone w:=by
 unfold Op.equalIn;simp only [Sem.run_bind,run_underlying ht,Result.andThen_ok];cases A <;> rfl
theorem qU (R:fB P O nt B F0 aa w0 D s a w ι Θ) {t t':TypeId} {neg ptr:Bool} (ht:if ptr then ∃ e,P.underlying t=some (.pointer e) else ∃ e,P.underlying t=some (.slice e)) {X Y:Operand} {x y:iB} (hx:opd X=some x) (hy:opd Y=some y)
  (ho:o.op=.binOp (if neg then .neq else .eql) t X Y t') {call} {z:wA} {e:tC} (hr:(K.eqn neg ptr x y).run call s=some (z,e)):e=.none/\nP P aa a w ι Θ o z:=by
 have hX:=(R.opd hx).1;have hY:=(R.opd hy).1;have key:∀ (u v:Value) (r:Bool),a.eval X=u->a.eval Y=v->u.oneCell'=true->u≠.nilIface->(∀ op,(Go.binOp op t u v).run P w=(match op with | .eql=>(do pure (.bool (<- Op.equal t u v)):Sem Value) | .neq=>(do pure (.bool (!(<- Op.equal t u v))):Sem Value) | _=>Go.binOp op t u v).run P w)->(Op.equal t u v).run P w=.ok r w →
   (execOp a.eval o).run P w=.ok (.value (.bool (r != neg))) w:=fun u v r hu hv h1 hn hb he=>by
  cases neg with
  | false =>
   simp only [yC,if_false] at ho;have:=hb .eql;simp only [Sem.run_bind,he,Result.andThen_ok,Sem.run_pure] at this;rw [uB ho hu hv h1 hn this];simp
  | true =>
   simp only [if_true] at ho;have:=hb .neq;simp only [Sem.run_bind,he,Result.andThen_ok,Sem.run_pure] at this;rw [uB ho hu hv h1 hn this];simp
 have le:∀ A n c,ptr=false->a.eval X=.slice A n c->a.eval Y=.slice none 0 0->(execOp a.eval o).run P w=.ok (.value (.bool (A.isNone != neg))) w:=fun A n c hp hu hv=>by
  subst hp;simp only [yC,if_false] at ht;obtain ⟨e,ht⟩:=ht;exact key _ _ _ hu hv rfl (by simp) (fun op=>by cases op <;> simp [Go.binOp]) (B6 9999 ht A n c)
 have lz:∀ A,ptr=true->a.eval X=.pointer A->a.eval Y=.pointer none->(execOp a.eval o).run P w=.ok (.value (.bool (A.isNone != neg))) w:=fun A hp hu hv=>by
  subst hp;simp only [if_true] at ht;obtain ⟨e,ht⟩:=ht;exact key _ _ _ hu hv rfl (by simp) (fun op=>by cases op <;> simp [Go.binOp]) (eql_ptr 9999 ht A)
 have xU:∀ {b:Bool},(execOp a.eval o).run P w=.ok (.value (.bool (b != neg))) w->nP P aa a w ι Θ o ⟨.bool (b != neg),.no⟩:=fun h=>⟨_,h,by rw [rB],trivial⟩
 simp only [K.run] at hr;split at hr
 ·rename_i l bj;rw [bj,NB] at hY;simp only [JC] at hY;obtain ⟨A,c,hv,_,_,hn,_⟩:=hY;obtain ⟨rfl,h0,rfl⟩:=hn trivial;rw [h0] at hv;cases hi:aG false (x.get s) with
  | none=>rw [hi] at hr; cases hr
  | some b =>
   rw [hi] at hr;injection hr with hr; injection hr with e1 e2; subst e1; subst e2;refine ⟨rfl,xU ?_⟩;unfold aG at hi;split at hi <;> first | (exact absurd ‹false=true› (by decide)) | skip
   ·rename_i l' _ nc;injection hi with hi; subst hi;rw [nc,NB] at hX;simp only [JC] at hX;obtain ⟨A,c,hu,_,_,fj,dr⟩:=hX;have:=le _ _ _ rfl hu hv;rw [(fj trivial).1] at this; exact this
   ·rename_i l' _ nc;split at hi
    ·cases hi
    ·rename_i jb;injection hi with hi; subst hi;rw [nc,NB] at hX;simp only [JC] at hX;obtain ⟨A,c,hu,_,_,fj,dr⟩:=hX;have:=le _ _ _ rfl hu hv;obtain ⟨_,_,rfl,_⟩:=(dr trivial).2 (by cases l' with | nil=>simp at jb | cons=>simp);exact this
   ·rename_i l' _ nc;injection hi with hi; subst hi;rw [nc] at hX;obtain ⟨a',c,hu,_⟩:=hX;exact le _ _ _ rfl hu hv
   ·rename_i nc;injection hi with hi; subst hi;rw [nc] at hX;obtain ⟨b,_,_,_,_,_,hu⟩:=wF.1 hX;exact le _ _ _ rfl hu hv
   ·cases hi
 ·rename_i bj;rw [bj,sX] at hY;cases hi:aG true (x.get s) with
  | none=>rw [hi] at hr; cases hr
  | some b =>
   rw [hi] at hr;injection hr with hr; injection hr with e1 e2; subst e1; subst e2;refine ⟨rfl,xU ?_⟩;unfold aG at hi;split at hi <;> first | (exact absurd ‹true=false› (by decide)) | skip
   ·rename_i nc;injection hi with hi; subst hi;rw [nc,sX] at hX;exact lz _ rfl hX hY
   ·rename_i nc;injection hi with hi; subst hi;rw [nc] at hX;obtain ⟨b,_,hu⟩:=xE.1 hX;exact lz _ rfl hu hY
   ·rename_i nc;injection hi with hi; subst hi;rw [nc] at hX;obtain ⟨b,off,hu,_⟩:=bI.1 hX;exact lz _ rfl hu hY
   ·rename_i nc;injection hi with hi; subst hi;rw [nc] at hX;obtain ⟨b,off,hu,_⟩:=hX;exact lz _ rfl hu hY
   ·cases hi
 ·cases hr
def KindEq (P:Program) (d:Nat) (t:TypeId) (w:World):Nat->Value->Value->Prop
 | 0,.int j a,.int j' b=>j=j'->(Op.equalIn (d + 1) t (.int j a) (.int j' b)).run P w=.ok (decide (a=b)) w
 | 1,.string a,.string b=>(Op.equalIn (d + 1) t (.string a) (.string b)).run P w=.ok (decide (a=b)) w
 | 2,.bool a,.bool b=>(Op.equalIn (d + 1) t (.bool a) (.bool b)).run P w=.ok (decide (a=b)) w
 | _,_,_=>True
theorem HZ (d:Nat) {t:TypeId} {k:Nat} (hk:HV P t=some k) {xs ys:Array Value} {i:Nat} {u v:Value} (hu:xs[i]?=some u) (hv:ys[i]?=some v) :
  (part t xs i).run P w=.ok u w/\(part t ys i).run P w=.ok v w/\KindEq P d t w k u v:=by
 unfold HV at hk;split at hk
 ·rename_i j ht _;injection hk with hk;subst hk;refine ⟨by simp [part,isAgg,run_underlying ht,hu],by simp [part,isAgg,run_underlying ht,hv],?_⟩;cases u <;> cases v <;> first | trivial | skip
  rename_i j1 a j2 b;rintro rfl;rw [run_equalIn_int w d t j1 j a b ht];rfl
 ·rename_i ht _;injection hk with hk;subst hk;refine ⟨by simp [part,isAgg,run_underlying ht,hu],by simp [part,isAgg,run_underlying ht,hv],?_⟩;cases u <;> cases v <;> first | trivial | skip
  rename_i a b;show (Op.equalIn (d + 1) t (.string a) (.string b)).run P w=_;rw [run_equalIn_string w d t a b ht,sK]
 ·rename_i ht _;injection hk with hk;subst hk;refine ⟨by simp [part,isAgg,run_underlying ht,hu],by simp [part,isAgg,run_underlying ht,hv],?_⟩;cases u <;> cases v <;> first | trivial | skip
  rename_i a b;show (Op.equalIn (d + 1) t (.bool a) (.bool b)).run P w=_;rw [run_equalIn_bool' w d t a b ht];cases a <;> cases b <;> rfl
 ·cases hk
theorem J9 {k:Nat} {ks:List Nat} {x y:AV} {xs ys:List AV} {r:Bool} (h:BH (k :: ks) (x :: xs) (y :: ys)=some r) {av:Av} {u v:Value} (hu:IA ι av w x u) (hv:IA ι av w y v) (d:Nat) {t:TypeId} (hk:HV P t=some k) {us vs:Array Value} {i:Nat} (hi:us[i]?=some u) (hj:vs[i]?=some v) :
  ∃ b,(part t us i).run P w=.ok u w/\(part t vs i).run P w=.ok v w/\(Op.equalIn (d + 1) t u v).run P w=.ok b w/\(if b then BH ks xs ys=some r else r=false):=by
 obtain ⟨h1,h2,h3⟩:=HZ (w:=w) d hk hi hj;unfold BH at h;split at h
 ·rename_i e _ _; cases e
 ·rename_i j a r1 j' b r2 e1 e2 e3;injection e1 with e1 e1'; injection e2 with e2 e2'; injection e3 with e3 e3';subst e1; subst e1'; subst e2; subst e2'; subst e3; subst e3';simp only [IA,JC] at hu hv;subst hu; subst hv;split at h
  ·rename_i bt;refine ⟨_,h1,h2,h3 bt,?_⟩;by_cases df:a=b
   ·rw [if_pos df] at h; rw [if_pos (by simpa using df)]; exact h
   ·rw [if_neg df] at h; injection h with h; rw [if_neg (by simpa using df)]; exact h.symm
  ·cases h
 ·rename_i a r1 b r2 e1 e2 e3;injection e1 with e1 e1'; injection e2 with e2 e2'; injection e3 with e3 e3';subst e1; subst e1'; subst e2; subst e2'; subst e3; subst e3';simp only [IA,JC] at hu hv;subst hu; subst hv;refine ⟨_,h1,h2,h3,?_⟩;by_cases df:a=b
  ·rw [if_pos df] at h; rw [if_pos (by simpa using df)]; exact h
  ·rw [if_neg df] at h; injection h with h; rw [if_neg (by simpa using df)]; exact h.symm
 ·rename_i a r1 b r2 e1 e2 e3;injection e1 with e1 e1'; injection e2 with e2 e2'; injection e3 with e3 e3';subst e1; subst e1'; subst e2; subst e2'; subst e3; subst e3';simp only [IA,JC] at hu hv;subst hu; subst hv;refine ⟨_,h1,h2,h3,?_⟩;by_cases df:a=b
  ·rw [if_pos df] at h; rw [if_pos (by simpa using df)]; exact h
  ·rw [if_neg df] at h; injection h with h; rw [if_neg (by simpa using df)]; exact h.symm
 ·cases h
theorem A5:∀ {ks:List Nat} {xs ys:List AV} {r:Bool},BH ks xs ys=some r->ks≠[]->∃ x ir y rz,xs=x :: ir/\ys=y :: rz
 | [],_,_,_,h,h'=>absurd rfl h'
 | k :: ks,xs,ys,r,h,_=>by
  cases xs with
  | nil=>simp [BH] at h
  | cons x xs =>
   cases ys with
   | nil=>unfold BH at h; split at h <;> simp_all
   | cons y ys=>exact ⟨x,xs,y,ys,rfl,rfl⟩
theorem PN:∀ {k1 k2:List Nat} {xs ys:List AV} {r:Bool},BH (k1++k2) xs ys=some r->∃ r1,BH k1 (xs.take k1.length) (ys.take k1.length)=some r1/\(if r1 then BH k2 (xs.drop k1.length) (ys.drop k1.length)=some r else r=false)
 | [],k2,xs,ys,r,h=>⟨true,by simp [BH],by simpa using h⟩
 | k :: k1,k2,xs,ys,r,h=>by
  obtain ⟨x,ir,y,rz,rfl,rfl⟩:=A5 h (by simp);simp only [List.cons_append] at h;simp only [yD,List.take_succ_cons,List.drop_succ_cons];unfold BH at h;split at h
  ·rename_i e _ _; cases e
  ·rename_i j a r1 j' b r2 e1 e2 e3;injection e1 with e1 e1'; injection e2 with e2 e2'; injection e3 with e3 e3';subst e1; subst e1'; subst e2; subst e2'; subst e3; subst e3';split at h
   ·rename_i bt;subst bt;split at h
    ·rename_i df;simp only [BH,if_true,if_pos df];exact PN h
    ·rename_i df;injection h with h;exact ⟨false,by simp [BH,df],by simpa using h.symm⟩
   ·cases h
  ·rename_i a r1 b r2 e1 e2 e3;injection e1 with e1 e1'; injection e2 with e2 e2'; injection e3 with e3 e3';subst e1; subst e1'; subst e2; subst e2'; subst e3; subst e3';split at h
   ·rename_i df;simp only [BH,if_pos df];exact PN h
   ·rename_i df;injection h with h;exact ⟨false,by simp [BH,df],by simpa using h.symm⟩
  ·rename_i a r1 b r2 e1 e2 e3;injection e1 with e1 e1'; injection e2 with e2 e2'; injection e3 with e3 e3';subst e1; subst e1'; subst e2; subst e2'; subst e3; subst e3';split at h
   ·rename_i df;simp only [BH,if_pos df];exact PN h
   ·rename_i df;injection h with h;exact ⟨false,by simp [BH,df],by simpa using h.symm⟩
  ·cases h
def nX (P:Program) (ι:Ix) (av:Av) (w:World) (n:Nat) (t:TypeId) (ks:List Nat):Prop :=
 ∀ (d:Nat) (us vs:Array Value) (off:Nat) (xs ys:List AV) (r:Bool),QA ι av w xs ((us.toList.drop off).take ks.length)->QA ι av w ys ((vs.toList.drop off).take ks.length)->BH ks xs ys=some r →
  ∃ a b,(part t us off).run P w=.ok a w/\(part t vs off).run P w=.ok b w/\(Op.equalIn (d + n) t a b).run P w=.ok r w
theorem RJ {av:Av} {xs:List AV} {us:List Value} {off k m:Nat} (h:QA ι av w xs ((us.drop off).take (k + m))):QA ι av w (xs.take k) ((us.drop off).take k)/\QA ι av w (xs.drop k) ((us.drop (off + k)).take m):=by
 constructor
 ·have:=wE k h
  rwa [List.take_take,Nat.min_eq_left (Nat.le_add_right ..)] at this
 ·have:=PD k h
  rwa [List.drop_take,Nat.add_sub_cancel_left,List.drop_drop] at this
theorem CS {av:Av} {n:Nat} (ih:∀ t ks,BE P n t=some ks->nX P ι av w n t ks) (d:Nat) {us vs:Array Value}:∀ {fs:List Field} {i:Nat} {ks:List Nat} {xs ys:List AV} {r:Bool},AN (BE P n) i fs=some ks->BH ks xs ys=some r->QA ι av w xs ((us.toList.drop i).take ks.length)->QA ι av w ys ((vs.toList.drop i).take ks.length) →
  (Op.eqFields (d + n) us vs fs).run P w=.ok r w
 | [],i,ks,xs,ys,r,hk,h,_,_=>by
  injection hk with hk;subst hk;cases xs <;> cases ys <;> simp [BH] at h
  subst h;simp [Op.eqFields]
 | f :: fs,i,ks,xs,ys,r,hk,h,hx,hy=>by
  unfold AN at hk;obtain ⟨l,hl,hk⟩:=y7.1 hk;split at hk
  ·rename_i hn;obtain ⟨l',wn,rfl⟩:=yf.1 hk;obtain ⟨r1,h1,h2⟩:=PN h;rw [yb] at hx hy;obtain ⟨x1,x2⟩:=RJ hx;obtain ⟨y1,y2⟩:=RJ hy;obtain ⟨a,b,p1,p2,p3⟩:=ih _ _ hl d us vs i _ _ _ x1 y1 h1;unfold Op.eqFields;rw [if_pos hn.1,hn.2];simp only [Sem.run_bind,p1,p2,p3,Result.andThen_ok,Sem.run_ite];cases r1 with
   | true =>
    simp only [if_true] at h2;simp only [Bool.not_true,yC,if_false];exact CS ih d wn h2 x2 y2
   | false =>
    simp only [yC,if_false] at h2;simp [h2]
  ·cases hk
theorem IU {av:Av} {n:Nat} {e:TypeId} {l:List Nat} (ih:nX P ι av w n e l) (hc:P.cellsOf e=l.length) (d:Nat) {us vs:Array Value}:∀ {m i:Nat} {xs ys:List AV} {r:Bool},BH (yo m l).flatten xs ys=some r->QA ι av w xs ((us.toList.drop (i * l.length)).take (yo m l).flatten.length)->QA ι av w ys ((vs.toList.drop (i * l.length)).take (yo m l).flatten.length) →
  (Op.eqItems (d + n) e (P.cellsOf e) us vs (List.range' i m)).run P w=.ok r w
 | 0,i,xs,ys,r,h,_,_=>by
  cases xs <;> cases ys <;> simp [BH] at h
  subst h;simp [Op.eqItems]
 | m + 1,i,xs,ys,r,h,hx,hy=>by
  rw [List.replicate_succ,yy] at h hx hy;obtain ⟨r1,h1,h2⟩:=PN h;rw [yb] at hx hy;obtain ⟨x1,x2⟩:=RJ hx;obtain ⟨y1,y2⟩:=RJ hy;rw [<- yB] at x2 y2;obtain ⟨a,b,p1,p2,p3⟩:=ih d us vs (i * l.length) _ _ _ x1 y1 h1;rw [List.range'_succ];unfold Op.eqItems;rw [hc];simp only [Sem.run_bind,p1,p2,p3,Result.andThen_ok,Sem.run_ite];cases r1 with
  | true =>
   simp only [if_true] at h2;simp only [Bool.not_true,yC,if_false];have:=IU ih hc d (m:=m) (i:=i + 1) h2 x2 y2;rw [hc] at this;exact this
  | false =>
   simp only [yC,if_false] at h2;simp [h2]
theorem kP {t:TypeId} {z:Nat} (hA:DG P t=some true) (hz:nB P t=some z) (us:Array Value) (off:Nat):(part t us off).run P w=.ok (.agg (us.extract off (off + z))) w/\(us.extract off (off + z)).toList=(us.toList.drop off).take z :=
 ⟨by simp [part,QN hA,AB hz],by rw [Array.toList_extract,List.extract_eq_take_drop,Nat.add_sub_cancel_left]⟩
theorem sQ {t:TypeId} {z:Nat} (h:nB P t=some z):∃ i,P.info? t=some i:=by
 unfold nB at h;cases hh:P.info? t with
 | none=>rw [hh] at h; cases h
 | some i=>exact ⟨i,rfl⟩
theorem bS {av:Av} {n:Nat} (ih:∀ t ks,BE P n t=some ks->nX P ι av w n t ks) (d:Nat) {t:TypeId} {ks:List Nat} (hk:BE P (n + 1) t=some ks) (hA:DG P t=some true) {us vs:Array Value} {xs ys:List AV} {r:Bool}
  (hx:QA ι av w xs (us.toList.take ks.length)) (hy:QA ι av w ys (vs.toList.take ks.length)) (h:BH ks xs ys=some r):nB P t=some ks.length/\(Op.equalIn (d + n + 1) t (.agg us) (.agg vs)).run P w=.ok r w:=by
 unfold BE at hk;split at hk
 ·rename_i k od;unfold DG at hA;unfold HV at od;split at od <;> first | (cases od; done) | (rename_i ht _; rw [ht] at hA; injection hA with hA; cases hA) | (rename_i ht; rw [ht] at hA; injection hA with hA; cases hA)
 ·split at hk
  ·rename_i m e ht;obtain ⟨l,hl,hk⟩:=y7.1 hk;split at hk
   ·rename_i hc;injection hk with hk;subst hk;obtain ⟨i,hi⟩:=sQ hc.2.1;refine ⟨hc.2.2,?_⟩;have:=run_equalIn_array (P:=P) w (d + n) us vs ht hi;rw [List.range_eq_range'] at this;exact this.trans (IU (ih _ _ hl) hc.1 d h (by simpa using hx) (by simpa using hy))
   ·cases hk
  ·rename_i fs ht;split at hk
   ·cases hk
   ·rename_i bd;obtain ⟨l,hl,hk⟩:=y7.1 hk;split at hk
    ·rename_i hc;injection hk with hk;subst hk;refine ⟨hc,?_⟩;have hf:P.fieldsOf t=fs:=by simp [Program.fieldsOf,ht]
     have:=run_equalIn_struct (P:=P) w (d + n) t us vs (by rw [hf]; exact ht) (by simpa using bd);rw [hf] at this;exact this.trans (CS ih d hl h (by simpa using hx) (by simpa using hy))
    ·cases hk
  ·cases hk
theorem nR {av:Av}:∀ (n:Nat) (t:TypeId) (ks:List Nat),BE P n t=some ks->nX P ι av w n t ks
 | 0,_,_,h=>by cases h
 | n + 1,t,ks,hk=>by
  intro d us vs off xs ys r hx hy h;have se:=hk;unfold BE at hk;split at hk
  ·rename_i k od;injection hk with hk;subst hk;obtain ⟨x,ir,y,rz,rfl,rfl⟩:=A5 h (by simp);obtain ⟨u,wa,e1,hu,_,ti⟩:=hx;obtain ⟨v,dq,e2,hv,_,br⟩:=hy;have l1:wa=[]:=by
    have:=congrArg List.length e1;simp at this;exact yN (by omega)
   have l2:dq=[]:=by
    have:=congrArg List.length e2;simp at this;exact yN (by omega)
   have g1:us[off]?=some u:=by
    have:=congrArg (fun l=>l[0]?) e1;simpa [yz,yw] using this
   have g2:vs[off]?=some v:=by
    have:=congrArg (fun l=>l[0]?) e2;simpa [yz,yw] using this
   obtain ⟨b,p1,p2,p3,p4⟩:=J9 (P:=P) h hu hv (d + n) od g1 g2;refine ⟨u,v,p1,p2,?_⟩;have:b=r:=by
    cases b with
    | true =>
     simp only [if_true] at p4;subst l1;subst l2;cases ir with
     | nil=>cases rz with
      | nil=>simp [BH] at p4; exact p4.symm
      | cons=>simp [BH] at p4
     | cons=>simp [BH] at p4
    | false=>simpa using p4.symm
   rw [<- this];exact p3
  ·rename_i hnk;have hA:DG P t=some true:=by
    split at hk
    ·rename_i ht; simp [DG,ht]
    ·rename_i ht; simp [DG,ht]
    ·cases hk
   have:=bS (fun t ks h=>nR n t ks h) d se hA (us:=us.extract off (off + ks.length)) (vs:=vs.extract off (off + ks.length)) (xs:=xs) (ys:=ys) (r:=r)
    (by rw [Array.toList_extract,List.extract_eq_take_drop,Nat.add_sub_cancel_left,List.take_take,Nat.min_self]; exact hx)
    (by rw [Array.toList_extract,List.extract_eq_take_drop,Nat.add_sub_cancel_left,List.take_take,Nat.min_self]; exact hy) h
   exact ⟨_,_,(kP hA this.1 us off).1,(kP hA this.1 vs off).1,this.2⟩
theorem E6 (R:fB P O nt B F0 aa w0 D s a w ι Θ) {t t':TypeId} {neg:Bool} {ks:List Nat} (ht:LO P t=some ks) {X Y:Operand} {x y:iB} (hx:opd X=some x) (hy:opd Y=some y)
  (ho:o.op=.binOp (if neg then .neq else .eql) t X Y t') {call} {z:wA} {e:tC} (hr:(K.eqa neg ks x y).run call s=some (z,e)):e=.none/\nP P aa a w ι Θ o z:=by
 have hX:=(R.opd hx).1;have hY:=(R.opd hy).1;simp only [K.run] at hr;split at hr
 ·rename_i xa ya nc bj;rw [nc,mV] at hX;rw [bj,mV] at hY;obtain ⟨us,hu,ti⟩:=hX;obtain ⟨vs,hv,br⟩:=hY;cases hq:BH ks xa ya with
  | none=>rw [hq] at hr; cases hr
  | some r =>
   rw [hq] at hr;injection hr with hr; injection hr with e1 e2; subst e1; subst e2;unfold LO at ht;split at ht
   ·cases ht
   ·rename_i hg;have he:(Op.equal t (.agg us) (.agg vs)).run P w=.ok r w:=by
     have main:BE P 8 t=some ks->DG P t=some true->(Op.equal t (.agg us) (.agg vs)).run P w=.ok r w:=fun hk hA =>
      by
       obtain ⟨r1,h1,h2⟩:=PN (k1:=ks) (k2:=[]) (by simpa using hq);have e:r1=r:=by
        cases r1 with
        | true =>
         simp only [if_true] at h2;unfold BH at h2;split at h2 <;> first | (injection h2) | (rename_i e _ _; cases e) | cases h2
        | false=>simpa using h2.symm
       subst e;exact (bS (fun t ks h=>nR 7 t ks h) 9992 hk hA (us:=us) (vs:=vs) (wE _ ti) (wE _ br) h1).2
     split at ht
     ·rename_i am; exact main ht (by simp [DG,am])
     ·rename_i am; exact main ht (by simp [DG,am])
     ·cases ht
    have rp:∀ op,(eqGuard op t X Y (.agg us) (.agg vs)).run P w=.ok () w:=fun op=>by
     have:P.eqGuardType P.depth t=false:=by simpa using hg
     unfold eqGuard;cases op <;> simp [this]
    refine ⟨rfl,.bool (r != neg),?_,by rw [rB],trivial⟩;cases neg with
    | false =>
     simp only [yC,if_false] at ho;simp [execOp,ho,hu,hv,rp,Go.binOp,he]
    | true =>
     simp only [if_true] at ho;simp [execOp,ho,hu,hv,rp,Go.binOp,he]
 ·cases hr
end
end
section
open Go Go.RowKit
section
variable {P:Program} {O:JD} {nt B:Nat} {F0:AL} {aa:Av} {w0:World} {D:Nat->Prop} {s:uA} {a:Act} {w w':World} {ι:Ix} {Θ:lH} {o:Oper}
theorem AU {av avb:Av} {x:AV} {v:Value} (h:UA ι av avb w x v) (hx:x.leaf=true):IA ι av w x v/\v.oneCell'=true:=by
 cases x <;> first
  | (simp [AV.leaf] at hx; done)
  | (refine ⟨h,?_⟩; simp only [UA,IA,JC] at h; subst h; rfl)
  | (refine ⟨h,?_⟩; obtain ⟨b,_,rfl⟩:=h; rfl)
  | (refine ⟨h,?_⟩; obtain ⟨b,_,_,_,_,_,rfl⟩:=h; rfl)
  | (refine ⟨h,?_⟩; simp only [UA,IA,JC] at h; obtain ⟨b,off,rfl,_⟩:=h; rfl)
theorem J6 {av avb:Av} {x:AV} {v:Value} (h:UA ι av avb w x v) (hx:x.whole=true):QA ι av w x.cells v.cells.toList:=by
 cases x with
 | agg cs=>obtain ⟨us,rfl,hc⟩:=h; exact hc
 | _ =>
  obtain ⟨h1,h2⟩:=AU h hx;cases v <;> first | exact ⟨_,[],rfl,h1,h2,rfl⟩ | (simp [Value.oneCell'] at h2; done)
theorem NZ (off:Nat):∀ (l:List Value) (k:Nat) (cells:Array Value),off + k + l.length<=cells.size →
  ((l.zipIdx k).foldl (fun cs (p:Value × Nat)=>cs.setIfInBounds (off + p.2) p.1) cells).toList=cells.toList.take (off + k)++l++cells.toList.drop (off + k + l.length)
 | [],k,cells,_=>by simp
 | v :: l,k,cells,h=>by
  simp only [yD] at h;rw [List.zipIdx_cons,List.foldl_cons,NZ off l (k + 1) _ (by simp; omega)];simp only [Array.toList_setIfInBounds,yD];have hk:off + k<cells.toList.length:=by simp; omega
  rw [show off + (k + 1)=off + k + 1 from by omega,List.take_succ_eq_append_getElem (by simpa using hk)];rw [List.take_set_of_le (ye _),List.getElem_set_self,List.drop_set_of_lt (by omega)];simp [yl,show off + k + 1 + l.length=off + k + (l.length + 1) from by omega]
theorem tQ {pl:Nat->Option (Nat × Nat)} {av avb:Av} (tc:avb=avb):∀ {ps:List (Nat × Operand)} {ys:List (Nat × iB)} {zs:List (Nat × Nat × iB)} {cs ds:List AV} {us:Array Value},
  (∀ (X:Operand) (y:iB),opd X=some y->UA ι av avb w (y.get s) (a.eval X))->opds ps=some ys->zN pl ys=some zs->(∀ p∈zs,(p.2.2.get s).whole=true) →
  rQ cs (zs.map fun p=>(p.1,p.2.1,(p.2.2.get s).cells))=some ds->QA ι av w cs us.toList->∃ wa,Instr.fill pl us (ps.map fun p=>(p.1,a.eval p.2))=some wa/\QA ι av w ds wa.toList
 | [],ys,zs,cs,ds,us,_,hy,hz,_,hf,hc=>by
  injection hy with hy; subst hy;injection hz with hz; subst hz;injection hf with hf; subst hf;exact ⟨us,rfl,hc⟩
 | (i,X) :: ps,ys,zs,cs,ds,us,ib,hy,hz,hl,hf,hc=>by
  unfold opds at hy;split at hy
  ·rename_i x l hx hr;injection hy with hy; subst hy;unfold zN at hz;split at hz
   ·rename_i off z l' hp tt;injection hz with hz; subst hz;simp only [yu,rQ] at hf;split at hf
    ·rename_i ba;have rb:=J6 (ib X x hx) (hl _ (yv));have ea:=XB rb;have hlu:=XB hc;simp only [yG] at ea hlu;have ac:(a.eval X).cells.size=z:=by rw [ea]; exact ba.1
     have fw:((a.eval X).cells.zipIdx.foldl (fun cs (p:Value × Nat)=>cs.setIfInBounds (off + p.2) p.1) us).toList=us.toList.take off++(a.eval X).cells.toList++us.toList.drop (off + z):=by
      rw [<- Array.foldl_toList,Array.toList_zipIdx,NZ off _ 0 us (by simp [ac]; omega)];simp [ac]
     have fc:QA ι av w (cs.take off++(x.get s).cells++cs.drop (off + z)) (((a.eval X).cells.zipIdx.foldl (fun cs (p:Value × Nat)=>cs.setIfInBounds (off + p.2) p.1) us)).toList:=by
      rw [fw];exact aF (aF (wE off hc) rb) (PD (off + z) hc)
     obtain ⟨wa,h1,h2⟩:=tQ tc ib hr tt (fun p hp=>hl p (yE _ hp)) hf fc;refine ⟨wa,?_,h2⟩;simp only [yu,Instr.fill,hp];rw [if_neg (by simp [ac]; omega)];exact h1
    ·cases hf
   ·cases hz
  ·cases hy
theorem lX (R:fB P O nt B F0 aa w0 D s a w ι Θ) {t:TypeId} {ps:Array (Nat × Operand)} {ys:List (Nat × iB)} {zs:List (Nat × Nat × iB)} {zero:List AV} {pl:Nat->Option (Nat × Nat)} {z:Value} (jy:UH z.cells.toList=some zero)
  (hb:P.built t (ps.map fun (i,x)=>(i,a.eval x)).toList=Instr.fill pl z.cells (ps.map fun (i,x)=>(i,a.eval x)).toList) (hy:opds ps.toList=some ys) (hp:zN pl ys=some zs) (ho:o.op=.build t ps)
  {call} {x:wA} {e:tC} (hr:(K.build zero zs).run call s=some (x,e)):e=.none/\nP P aa a w ι Θ o x:=by
 simp only [K.run] at hr;split at hr
 ·rename_i zb;cases hf:rQ zero (zs.map fun p=>(p.1,p.2.1,(p.2.2.get s).cells)) with
  | none=>rw [hf] at hr; cases hr
  | some ds =>
   rw [hf] at hr;injection hr with hr; injection hr with e1 e2; subst e1; subst e2;obtain ⟨wa,h1,h2⟩:=tQ (pl:=pl) (ι:=ι) (av:=QB aa ι Θ) (avb:=EB ι Θ) (w:=w) (s:=s) (a:=a) rfl (fun X y h=>(R.opd h).1) hy hp (fun p hp=>by
    have:=y8.1 zb p hp;exact this) hf (uG jy _ _)
   have h3:P.built t (ps.map fun (i,x)=>(i,a.eval x)).toList=some wa:=by
    rw [hb,Array.toList_map];exact h1
   exact ⟨rfl,.agg wa,by simp only [execOp,ho,Sem.run_bind,run_build w t _ wa h3,Result.andThen_ok,Sem.run_pure],⟨wa,rfl,h2⟩,trivial⟩
 ·cases hr
def Ix.add (ι:Ix) (d n b z:Nat):Ix:=⟨fun t' n'=>if t'=d/\n'=n then some b else ι t' n',ι.ob,fun b'=>if b'=b then z else ι.z b'⟩
section
variable (R:fB P O nt B F0 aa w0 D s a w ι Θ)
include R
theorem fB.low {b o:Nat} (h:QB aa ι Θ b o):b<w.heap.size:=by
 have h1:=R.kept.size;have h2:=R.base;rcases h with h | (⟨t,n,h⟩ | ⟨t,n,H,h,hb⟩) | ⟨k,ow,h,rfl,_⟩
 ·have:=R.out _ _ h; omega
 ·exact (R.mine _ _ _ h).2.1
 ·exact ((R.obs _ _ _ h).1 _ hb).2.1
 ·obtain ⟨_,_,_,_,cur,h5,_⟩:=R.tok _ _ h;exact dA h5
theorem fB.lowB:B<=w.heap.size:=by
 have h1:=R.kept.size;have h2:=R.base;omega
theorem fB.new {d:Nat} (hd:d<nt) (hD:¬ D d) {r:List wA} {cur:Array Value} (ty:TypeId) (oa:QC ι Θ (QB aa ι Θ) w r cur) {x:AV} {v:Value}
  (hx:∀ ι':Ix,ι' d s.next=some w.heap.size->ι'.z w.heap.size=cur.size->UA ι' (QB aa ι' Θ) (EB ι' Θ) (w.alloc (.cells cur ty)) x v) :
  ∃ ι',fB P O nt B F0 aa w0 (fun t=>D t\/t=d) ((s.setRow d s.next r).put (some d) ⟨x,.no⟩) (a.put (some d) v) (w.alloc (.cells cur ty)) ι' Θ:=by
 have dd:ι d s.next=none:=by
  cases h:ι d s.next with
  | none=>rfl
  | some b =>
   rcases (R.mine _ _ _ h).2.2 with h1 | h1
   ·omega
   ·exact absurd h1.2 hD
 have ed:ι.ob d s.next=none:=by
  cases h:ι.ob d s.next with
  | none=>rfl
  | some b =>
   rcases (R.obs _ _ _ h).2 with h1 | h1
   ·omega
   ·exact absurd h1.2 hD
 have wc:∀ t n b,ι t n=some b->(ι.add d s.next w.heap.size cur.size) t n=some b:=fun t n b h=>by
  show (if t=d/\n=s.next then some w.heap.size else ι t n)=some b;split
  ·rename_i e; rw [e.1,e.2,dd] at h; cases h
  ·exact h
 have td:∀ t n b,(ι.add d s.next w.heap.size cur.size) t n=some b->b<w.heap.size->ι t n=some b:=fun t n b h hb=>by
  have h':(if t=d/\n=s.next then some w.heap.size else ι t n)=some b:=h;split at h'
  ·injection h' with h'; omega
  ·exact h'
 have fc:(ι.add d s.next w.heap.size cur.size) d s.next=some w.heap.size:=by
  show (if d=d/\s.next=s.next then some w.heap.size else ι d s.next)=_;rw [if_pos ⟨rfl,rfl⟩]
 have zg:∀ b o,b<w.heap.size->EB (ι.add d s.next w.heap.size cur.size) Θ b o->EB ι Θ b o:=fun b o hb h=>h.imp (fun h=>h.imp (fun ⟨t,n,h⟩=>⟨t,n,td t n b h hb⟩) id) id
 have hAx:∀ b o,b<w.heap.size->QB aa (ι.add d s.next w.heap.size cur.size) Θ b o->QB aa ι Θ b o:=fun b o hb h=>h.imp id (zg b o hb)
 have zf:∀ b,b<w.heap.size->(w.alloc (.cells cur ty)).heap[b]?=w.heap[b]?:=fun b hb=>Below.heap_alloc w _ b hb
 have hA:TA (QB aa ι Θ) (QB aa (ι.add d s.next w.heap.size cur.size) Θ) w (w.alloc (.cells cur ty)):=TA.grown zf hAx;have hB:TA (EB ι Θ) (EB (ι.add d s.next w.heap.size cur.size) Θ) w (w.alloc (.cells cur ty)):=TA.grown zf zg;have rl:=R.lowB;have tb:Ix.Le ι (ι.add d s.next w.heap.size cur.size):=⟨wc,fun t n b h=>by
  have:=(R.mine t n b h).2.1;show (if b=w.heap.size then cur.size else ι.z b)=ι.z b;rw [if_neg (by omega)]⟩
 have hzn:(ι.add d s.next w.heap.size cur.size).z w.heap.size=cur.size:=if_pos rfl;refine ⟨ι.add d s.next w.heap.size cur.size,fB.put (s:=s.setRow d s.next r) ⟨R.defers,R.size,fun t=>UA.held tb hA hB _ _ (R.env t),R.ann,fun t n r' hr=>?_,fun t n b h=>?_,fun t n t' n' b h h'=>?_,fun k o h=>?_,R.tinj,fun k o t n h h'=>?_,R.out,fun p h=>⟨wc _ _ _ (R.pin p h).1,(R.pin p h).2.imp (fun g=>⟨g.1,(tb.z _ _ _ (R.pin p h).1).trans g.2⟩) id⟩,R.kept.alloc _,R.base,fun t n S h=>?_,fun t n H h=>?_,fun t=>UA.held tb hA hB _ _ (R.gen t),R.gann⟩ hd (hx _ fc hzn) trivial⟩
 ·simp only [uA.setRow] at hr;split at hr
  ·rename_i e;injection hr with hr;subst hr;refine ⟨by show ι.ob t n=none; rw [e.1,e.2]; exact ed,w.heap.size,cur,ty,by rw [e.1,e.2]; exact fc,tP rfl,oa.held tb hA (fun _ _ h=>h),.inl rl,hzn.symm⟩
  ·obtain ⟨h0,b,ra,uf,h1,h2,h3,h4,h5⟩:=R.rows t n r' hr;exact ⟨h0,b,ra,uf,wc _ _ _ h1,(zf b (dA h2)).trans h2,h3.held tb hA (fun _ _ h=>h),h4,h5.trans (tb.z _ _ _ h1).symm⟩
 ·have h':(if t=d/\n=s.next then some w.heap.size else ι t n)=some b:=h;split at h'
  ·rename_i e;injection h' with h';subst h';exact ⟨.inl rl,by simp,.inr ⟨e.2,.inr e.1⟩⟩
  ·obtain ⟨h2,h3,h4⟩:=R.mine t n b h';exact ⟨h2,by simp; omega,h4.imp id fun ⟨e,d⟩=>⟨e,.inl d⟩⟩
 ·have g:(if t=d/\n=s.next then some w.heap.size else ι t n)=some b:=h;have g':(if t'=d/\n'=s.next then some w.heap.size else ι t' n')=some b:=h';split at g <;> split at g'
  ·rename_i e e'; exact ⟨e.1.trans e'.1.symm,e.2.trans e'.2.symm⟩
  ·injection g with g; have:=(R.mine _ _ _ g').2.1; omega
  ·injection g' with g'; have:=(R.mine _ _ _ g).2.1; omega
  ·exact R.inj t n t' n' b g g'
 ·obtain ⟨h1,h2,h3,h4,ra,h5,h6⟩:=R.tok k o h;exact ⟨h1,h2,h3,h4,ra,(zf _ (dA h5)).trans h5,h6⟩
 ·obtain ⟨_,_,_,_,ra,h5,_⟩:=R.tok k o h;exact R.apart k o t n h (td t n _ h' (dA h5))
 ·obtain ⟨p,H,h1,h2,h3,h4⟩:=R.objs t n S h;exact ⟨p,H,wc _ _ _ h1,h2,O.keep h3 (fun b hH=>zf b (O.lt h3 hH)) (by simp),h4.keep (fun t n b H h g=>⟨wc _ _ _ h,H,g⟩) fun x hx=>(zf _ (dA hx)).trans hx⟩
 ·obtain ⟨h1,h2⟩:=R.obs t n H h;refine ⟨fun b hb=>?_,h2.imp id fun ⟨e,d⟩=>⟨e,.inl d⟩⟩;obtain ⟨g1,g2,g3,g4⟩:=h1 b hb;exact ⟨g1,by simp; omega,fun t' n' h'=>g3 t' n' (td t' n' b h' g2),g4⟩
end
end
end
section
open Go Go.RowKit
section
variable {P:Program} {O:JD} {nt B:Nat} {F0:AL} {aa:Av} {w0:World} {D:Nat->Prop} {s:uA} {a:Act} {w w':World} {ι:Ix} {Θ:lH} {o:Oper}
def SC (P:Program) (O:JD) (nt B:Nat) (F0:AL) (aa:Av) (w0:World) (D:Nat->Prop) (s:uA) (a:Act) (w:World):Prop:=∃ ι Θ,fB P O nt B F0 aa w0 D s a w ι Θ
theorem QC.of {av:Av}:∀ {r:List wA} {cur:List Value},QA ι av w (r.map (·.v)) cur->(∀ (j:Nat) (x:wA) (u:Value),r[j]?=some x->cur[j]?=some u->QH Θ x.a u)->QC ι Θ av w r cur.toArray:=by
 intro r cur h ha;refine ⟨by have:=XB h; simp at this; simp [this],fun j x hx=>?_⟩;obtain ⟨u,hu,h1,hr⟩:=rH h (j:=j) (x:=x.v) (by simp [hx]);exact ⟨u,by simpa using hu,h1,hr,ha j x u hx hu⟩
theorem op_alloc (R:fB P O nt B F0 aa w0 D s a w ι Θ) {t:TypeId} {zero:List AV} (hz:FG P t=some zero) (ho:o.op=.alloc t) {d:Nat} (ja:o.dst=some d) (hd:d<nt) (hD:¬ D d) {call} {xe:wA × tC} (hr:(K.alloc zero).run call s=some xe) {g} {s':uA} (he:kA.eff ⟨o.dst,.alloc zero,g⟩ s xe=some s') :
  ∃ v w',(execOp a.eval o).run P w=.ok (.value v) w'/\SC P O nt B F0 aa w0 (fun t=>D t\/t=d) s' (a.put o.dst v) w':=by
 obtain ⟨z,i,hi,sk,ka,hl⟩:=mE hz w;simp only [K.run] at hr;injection hr with hr;subst hr;simp only [kA.eff,ja] at he;injection he with he;subst he;refine ⟨.pointer (some ⟨w.heap.size,0,none⟩),w.alloc (.cells z.cells t),by simp [execOp,ho,Instr.alloc,ka,newVar,newRow],?_⟩;rw [ja];have wb:=uG (ι:=ι) hl (QB aa ι Θ) w;have oa:QC ι Θ (QB aa ι Θ) w (zero.map fun v=>⟨v,tF v⟩) z.cells.toList.toArray:=QC.of (by
  rw [y5,show ((fun x:wA=>x.v) ∘ fun v=>(⟨v,tF v⟩:wA))=id from rfl,List.map_id];exact wb) (fun j x u hx hu=>by
  rw [yh] at hx;cases xk:zero[j]? with
  | none=>rw [xk] at hx; cases hx
  | some v =>
   rw [xk] at hx;injection hx with hx;subst hx;obtain ⟨u',bm,_,hr⟩:=rH wb xk;rw [hu] at bm;injection bm with bm;subst bm;show QH Θ (tF v) u;unfold tF;split
   ·simp only [IA,JC] at hr;obtain ⟨A,c,rfl,_,_,hn,_⟩:=hr;obtain ⟨rfl,h0,rfl⟩:=hn trivial;exact ⟨none,0,by rw [h0]⟩
   ·trivial)
 rw [yM] at oa;exact let ⟨ι',h⟩:=R.new hd hD t oa (x:=.ptr d s.next 0) (v:=.pointer (some ⟨w.heap.size,0,none⟩)) (fun ι' h _=>⟨_,h,rfl⟩); ⟨ι',Θ,h⟩
theorem op_boxE (R:fB P O nt B F0 aa w0 D s a w ι Θ) {t:TypeId} {z:Nat} {X:Operand} {x:iB} (hx:opd X=some x) (ho:o.op=.box t X) {d:Nat} (ja:o.dst=some d) (hd:d<nt) (hD:¬ D d) {call} {xe:wA × tC} (hr:(K.box z x).run call s=some xe) {g} {s':uA} (he:kA.eff ⟨o.dst,.box z x,g⟩ s xe=some s') :
  ∃ v w',(execOp a.eval o).run P w=.ok (.value v) w'/\SC P O nt B F0 aa w0 (fun t=>D t\/t=d) s' (a.put o.dst v) w':=by
 have hX:=R.opd hx;have ka:(execOp a.eval o).run P w=.ok (.value (.pointer (some ⟨w.heap.size,0,none⟩))) (w.alloc (.cells (a.eval X).cells t)):=by simp [execOp,ho,Instr.box,newVar,newRow]
 have key:∀ (r:List wA),QC ι Θ (QB aa ι Θ) w r (a.eval X).cells->SC P O nt B F0 aa w0 (fun t=>D t\/t=d) ((s.setRow d s.next r).put (some d) ⟨.ptr d s.next 0,.no⟩) (a.put (some d) (.pointer (some ⟨w.heap.size,0,none⟩))) (w.alloc (.cells (a.eval X).cells t)):=fun r h =>
  let ⟨ι',h⟩:=R.new hd hD t h (x:=.ptr d s.next 0) (v:=.pointer (some ⟨w.heap.size,0,none⟩)) (fun ι' h _=>⟨_,h,rfl⟩); ⟨ι',Θ,h⟩
 simp only [K.run] at hr;split at hr
 ·rename_i cs hv;split at hr
  ·injection hr with hr;subst hr;simp only [kA.eff,ja] at he;injection he with he;subst he;refine ⟨_,_,ka,?_⟩;rw [ja];refine key _ ?_;rw [hv] at hX;obtain ⟨us,hu,hc⟩:=hX.1;rw [hu];have:=QC.of (Θ:=Θ) (r:=cs.map fun v=>(⟨v,.no⟩:wA)) (cur:=us.toList) (ι:=ι) (w:=w) (av:=QB aa ι Θ) (by rw [y5,show ((fun x:wA=>x.v) ∘ fun v=>(⟨v,.no⟩:wA))=id from rfl,List.map_id]; exact hc) (fun j x u hx _=>by
    rw [yh] at hx;cases xk:cs[j]? with
    | none=>rw [xk] at hx; cases hx
    | some v=>rw [xk] at hx; injection hx with hx; subst hx; trivial)
   simpa [Value.cells] using this
  ·cases hr
 ·rename_i hv;split at hr
  ·rename_i zn;injection hr with hr;subst hr;simp only [kA.eff,ja] at he;injection he with he;subst he;refine ⟨_,_,ka,?_⟩;rw [ja];refine key _ ?_;obtain ⟨h1,h2⟩:=AU hX.1 zn;have hc:(a.eval X).cells=#[a.eval X]:=by
    generalize a.eval X=u at *
    cases u <;> first | rfl | (simp [Value.oneCell'] at h2; done)
   rw [hc];refine ⟨ye _,fun j y hy=>?_⟩;cases j with
   | zero =>
    simp only [List.getElem?_cons_zero] at hy;injection hy with hy;subst hy;exact ⟨a.eval X,rfl,h2,h1,hX.2⟩
   | succ j=>simp at hy
  ·cases hr
theorem JN (zero:List Value) (av:Av) {zs:List AV} (hz:QA ι av w zs zero) (c:Nat):QA ι av w (yo c zs).flatten (yo c zero).flatten:=by
 induction c with
 | zero=>simp [QA]
 | succ c ih=>rw [List.replicate_succ,List.replicate_succ,yy,yy]; exact aF hz ih
theorem GN (zero:Array Value) (c:Nat):((Array.range (c * zero.size)).map (zero[· % zero.size]!)).toList=(yo c zero.toList).flatten:=by
 apply List.ext_getElem?;intro j;have ea:(yo c zero.toList).flatten.length=c * zero.size:=by simp
 rcases Nat.lt_or_ge j (c * zero.size) with h | h
 ·have ub:0<zero.size:=by
   rcases yH zero.size with h0 | h0
   ·rw [h0] at h; simp at h
   ·exact h0
  have hm:=Nat.mod_lt j ub;have e1:((Array.range (c * zero.size)).map (zero[· % zero.size]!)).toList[j]?=some zero[j % zero.size]:=by
   simp [h,hm]
  rw [e1];clear e1 ea
  induction c generalizing j with
  | zero=>simp at h
  | succ c ih =>
   rw [List.replicate_succ,yy];rcases Nat.lt_or_ge j zero.size with h1 | h1
   ·rw [yL (by simpa using h1)];have:j % zero.size=j:=Nat.mod_eq_of_lt h1;simp [this,h1]
   ·rw [yJ (by simpa using h1)];have h2:j - zero.size<c * zero.size:=by rw [yB] at h; omega
    have h3:(j - zero.size) % zero.size=j % zero.size:=by
     conv=>rhs; rw [show j=(j - zero.size) + zero.size from by omega,Nat.add_mod_right]
    have:=ih (j - zero.size) h2 (Nat.mod_lt _ ub);simp only [yG] at this ⊢;rw [<- this];simp [h3]
 ·rw [List.getElem?_eq_none (by simpa using h),List.getElem?_eq_none (by omega)]
theorem op_mks (R:fB P O nt B F0 aa w0 D s a w ι Θ) {t e:TypeId} {i:TypeInfo} {zero:List AV} (ht:P.underlying t=some (.slice e)) (hi:P.info? e=some i) (hz:FG P e=some zero) (ac:zero.length=i.size) {X Y:Operand} {x y:iB} (hx:opd X=some x) (hy:opd Y=some y) (ho:o.op=.makeSlice t X Y) {d:Nat} (ja:o.dst=some d) (hd:d<nt) (hD:¬ D d)
  {call} {xe:wA × tC} (hr:(K.mks i.size i.bytes zero x y).run call s=some xe) {g} {s':uA} (he:kA.eff ⟨o.dst,.mks i.size i.bytes zero x y,g⟩ s xe=some s') :
  ∃ v w',(execOp a.eval o).run P w=.ok (.value v) w'/\SC P O nt B F0 aa w0 (fun t=>D t\/t=d) s' (a.put o.dst v) w':=by
 obtain ⟨z,i',xc,sk,pg,hl⟩:=mE hz w;rw [hi] at xc;injection xc with xc;subst xc;have hX:=(R.opd hx).1;have hY:=(R.opd hy).1;simp only [K.run] at hr;split at hr
 ·rename_i l c pw hcn;obtain ⟨k1,n1,h1,sr,tr⟩:=mI pw;obtain ⟨k2,n2,h2,h20,h21⟩:=mI hcn;rw [h1,PA] at hX;rw [h2,PA] at hY;split at hr
  ·rename_i ba;obtain ⟨xp,ze,jd,_⟩:=ba;injection hr with hr;subst hr;simp only [kA.eff,ja] at he;injection he with he;subst he;have rg:z.cells.size=i.size:=by
    have:=eE hl;simp only [yG] at this;omega
   have hc2:n2=(c:Int):=by omega
   have mq:(i.bytes:Int) * n2<=281474976710656:=by
    rw [hc2,<- Int.natCast_mul,Nat.mul_comm];omega
   have ai:madeCells z.cells (c * i.size)=(yo c z.cells.toList).flatten.toArray:=by
    have h:=GN z.cells c;rw [rg] at h;unfold madeCells;rw [<- rg] at h;rw [<- rg];have h':=congrArg List.toArray h;rw [yM] at h';exact h'
   have ka:(execOp a.eval o).run P w=.ok (.value (.slice (some ⟨w.heap.size,0,none⟩) l c)) (w.alloc (.cells (yo c z.cells.toList).flatten.toArray e)):=by
    have:=run_make (P:=P) w t e i z ht hi sk k1 k2 n1 n2 sr (by omega) mq (by omega);rw [tr,h21,ai] at this;simp [execOp,ho,hX,hY,this]
   refine ⟨_,_,ka,?_⟩;rw [ja];have oa:QC ι Θ (QB aa ι Θ) w ((yo c zero).flatten.map fun v=>(⟨v,.no⟩:wA)) (yo c z.cells.toList).flatten.toArray:=QC.of (by
    rw [y5,show ((fun x:wA=>x.v) ∘ fun v=>(⟨v,.no⟩:wA))=id from rfl,List.map_id];exact JN _ _ (uG hl _ _) c) (fun j x u hx _=>by
    rw [yh] at hx;cases xk:(yo c zero).flatten[j]? with
    | none=>rw [xk] at hx; cases hx
    | some v=>rw [xk] at hx; injection hx with hx; subst hx; trivial)
   exact let ⟨ι',h⟩:=R.new hd hD e oa (x:=.ref d s.next i.size 0 l c) (v:=.slice (some ⟨w.heap.size,0,none⟩) l c) (fun ι' h hz=>⟨_,h,xp,c,ye _,by rw [hz,yn]; simp [List.length_flatten,rg],rfl⟩); ⟨ι',Θ,h⟩
  ·cases hr
 ·cases hr
end
end
section
open Go Go.RowKit
section
variable {P:Program} {O:JD} {nt B:Nat} {F0:AL} {aa:Av} {w0:World} {D:Nat->Prop} {s:uA} {a:Act} {w w':World} {ι:Ix} {Θ:lH} {o:Oper}
theorem fB.alloc (R:fB P O nt B F0 aa w0 D s a w ι Θ) (ob:Obj):fB P O nt B F0 aa w0 D s a (w.alloc ob) ι Θ :=
 R.grow (fun b hb=>Below.heap_alloc w _ b hb) (by simp) (R.kept.alloc _)
theorem sF {av:Av}:∀ {xs:List AV} {us:List Value},QA ι av w xs us->(∀ x∈xs,x.free0=true)->KA av w xs us
 | [],_,h,_=>by simpa [KA,QA] using h
 | x :: r,_,h,hf=>by
  simp only [QA] at h;obtain ⟨u,wa,rfl,h0,h1,h⟩:=h;refine ⟨u,wa,rfl,?_,h1,sF h fun y hy=>hf y (yE _ hy)⟩;have hx:=hf x (yv);cases x <;> first | exact h0 | (simp [AV.free0] at hx; done)
theorem aR (sz:Nat):∀ (ps:List (Nat × iB)) (k:Nat) (A Z:List AV),ps.map (·.1)=List.range' k ps.length->A.length=k * sz->Z.length=ps.length * sz->(∀ p∈ps,(p.2.get s).cells.length=sz) →
  rQ (A++Z) (ps.map fun p=>(p.1 * sz,sz,(p.2.get s).cells))=some (A++(ps.map fun p=>(p.2.get s).cells).flatten)
 | [],k,A,Z,_,_,hz,_=>by
  have:Z=[]:=yN (by simpa using hz);subst this;simp [rQ]
 | (i,y) :: ps,k,A,Z,hp,hA,hZ,hl=>by
  simp only [yu,yD,List.range'_succ] at hp;injection hp with h1 h2;subst h1;have hy:(y.get s).cells.length=sz:=hl (_,y) (yv);simp only [yD] at hZ;have hZ2:sz<=Z.length:=by rw [hZ,yB]; omega
  simp only [yu,rQ];rw [if_pos ⟨hy,by simp [hA]; omega⟩];have e1:(A++Z).take (i * sz)=A:=by rw [<- hA]; exact List.take_left
  have e2:(A++Z).drop (i * sz + sz)=Z.drop sz:=by rw [List.drop_append,<- hA,yj (by omega),List.nil_append]; congr 1; omega
  rw [e1,e2];have:=aR sz ps (i + 1) (A++(y.get s).cells) (Z.drop sz) h2 (by rw [yb,hA,hy,yB]) (by rw [yr,hZ,yB]; omega) (fun p hp=>hl p (yE _ hp));rw [this];simp
theorem lP (sz:Nat):∀ (ps:List (Nat × iB)),zN (fun i=>some (i * sz,sz)) ps=some (ps.map fun p=>(p.1 * sz,sz,p.2))
 | []=>rfl
 | (i,x) :: r=>by simp [zN,lP sz r]
theorem op_bsl (R:fB P O nt B F0 aa w0 D s a w ι Θ) {t e:TypeId} {n z:Nat} {zero:List AV} (ht:P.underlying t=some (.slice e)) (hz:FG P e=some zero) (hs:nB P e=some z) (ac:zero.length=z) (ub:0<z) (sw:n * z<=16777216) {ps:Array (Nat × Operand)} {ys:List (Nat × iB)} (hy:opds ps.toList=some ys) (ho:o.op=.buildSlice t n ps)
  {call} {x:wA} {ef:tC} (hr:(K.bsl zero n ys).run call s=some (x,ef)):ef=.none/\∃ v w',(execOp a.eval o).run P w=.ok (.value v) w'/\fB P O nt B F0 aa w0 D s a w' ι Θ/\UA ι (QB aa ι Θ) (EB ι Θ) w' x.v v/\QH Θ x.a v:=by
 obtain ⟨zv,i',xc,sk,pg,hl⟩:=mE hz w;have hisz:i'.size=z:=by simp [nB,xc] at hs; exact hs
 have rg:zv.cells.size=z:=by
  have:=eE hl;simp only [yG] at this;omega
 simp only [K.run] at hr;split at hr
 ·rename_i ba;obtain ⟨bg,zb⟩:=ba;injection hr with hr; injection hr with e1 e2; subst e1; subst e2;have ic:∀ p∈ys,(p.2.get s).free=true/\(p.2.get s).cells.length=zero.length:=fun p hp=>by
   have:=y8.1 zb p hp;simpa using this
  have hn:ys.length=n:=by
   have:=congrArg List.length bg;simpa using this
  have zh:=aR (s:=s) z ys 0 [] (yo n zero).flatten (by rw [bg,List.range_eq_range',hn]) (by simp) (by simp [hn,ac]) (fun p hp=>by rw [(ic p hp).2,ac]);rw [List.nil_append,List.nil_append] at zh;have fu:∀ p∈ys,(p.2.get s).whole=true:=fun p hp=>by
   have:=(ic p hp).1;generalize p.2.get s=v at this;cases v <;> first | rfl | (simp [AV.free,AV.free0] at this; done)
  have hp:=lP z ys;have ai:((Array.range (n * z)).map (((if n * z=0 then (#[]:Array Value) else zv.cells)[· % (if n * z=0 then (#[]:Array Value) else zv.cells).size]!))).toList=(yo n zv.cells.toList).flatten:=by
   rcases yH n with h0 | h0
   ·subst h0; simp
   ·have:¬ n * z=0:=by have:=Nat.mul_pos h0 ub; omega
    simp only [if_neg this];rw [<- rg];exact GN zv.cells n
  obtain ⟨wa,h1,h2⟩:=tQ (pl:=fun i=>some (i * z,z)) (ι:=ι) (av:=QB aa ι Θ) (avb:=EB ι Θ) (w:=w) (s:=s) (a:=a) rfl (fun X y h=>(R.opd h).1) hy hp (fun p hp=>by
   obtain ⟨q,hq,rfl⟩:=List.mem_map.1 hp;exact fu q hq) (by rw [y5]; exact zh) (us:=(Array.range (n * z)).map (((if n * z=0 then (#[]:Array Value) else zv.cells)[· % (if n * z=0 then (#[]:Array Value) else zv.cells).size]!))) (by
    rw [ai];exact JN _ _ (uG hl _ _) n)
  have ka:(execOp a.eval o).run P w=.ok (.value (.slice (some ⟨w.heap.size,0,none⟩) n n)) (w.alloc (.cells wa e)):=by
   have h3:Instr.fill (fun i=>some (i * z,z)) ((Array.range (n * z)).map (((if n * z=0 then (#[]:Array Value) else zv.cells)[· % (if n * z=0 then (#[]:Array Value) else zv.cells).size]!))) (ps.map fun (i,x)=>(i,a.eval x)).toList=some wa:=by
    rw [Array.toList_map];exact h1
   have tb:¬ (n * z > 2 ^ 24):=by omega
   by_cases h0:n * z=0
   ·simp only [if_pos h0] at h3;simp only [execOp,ho,Instr.buildSlice,Sem.run_bind,run_underlying ht,Result.andThen_ok,AB hs,if_neg tb,if_pos h0,Sem.run_pure,h3,newRow,run_newObj_alloc]
   ·simp only [if_neg h0] at h3;simp only [execOp,ho,Instr.buildSlice,Sem.run_bind,run_underlying ht,Result.andThen_ok,AB hs,if_neg tb,if_neg h0,Sem.run_pure,pg,h3,newRow,run_newObj_alloc]
  refine ⟨rfl,_,_,ka,R.alloc _,?_,⟨_,_,rfl⟩⟩;have R':=R.alloc (.cells wa e);have hA:TA (QB aa ι Θ) (QB aa ι Θ) w (w.alloc (.cells wa e)):=TA.grown (fun b hb=>Below.heap_alloc w _ b hb) fun _ _ _ h=>h
  rw [NB];simp only [JC];have ea:(ys.map fun p=>(p.2.get s).cells).length=n:=by simp [hn]
  refine ⟨_,n,by rw [ea],by rw [ea]; exact ye _,fun x hx y hy=>?_,(fun h=>by cases h),fun _=>⟨fun h=>(by cases h),fun _=>⟨w.heap.size,0,rfl,?_⟩⟩⟩
  ·obtain ⟨p,hp,rfl⟩:=List.mem_map.1 hx;obtain ⟨q,hq,rfl⟩:=List.mem_map.1 hy;rw [(ic p hp).2,(ic q hq).2]
  ·rw [qD];have de:∀ x∈(ys.map fun p=>(p.2.get s).cells).flatten,x.free0=true:=fun x hx=>by
    obtain ⟨l,hl,hx⟩:=List.mem_flatten.1 hx;obtain ⟨p,hp,rfl⟩:=List.mem_map.1 hl;have:=(ic p hp).1;generalize p.2.get s=v at this hx;cases v <;> first | (simp [AV.cells] at hx; subst hx; exact this) | exact y8.1 this x hx
   refine EH (KA.held hA _ _ (sF h2 de)) fun j u hu=>⟨?_,fun h=>?_⟩
   ·rw [yn,cell_of_row _ w.heap.size j wa e (0,0) (tP rfl)];simpa using hu
   ·have:=R.low h;omega
 ·cases hr
theorem set_run {t:TypeId} {z:Nat} (hz:nB P t=some z) {b off:Nat} {cur:Array Value} {ty:TypeId} (hb:w.heap[b]?=some (.cells cur ty (0,0))) {v:Value} (hv:v.cells.size=z) (tb:off + z<=cur.size) (h1:∀ u∈v.cells.toList,u.oneCell'=true) :
  (Instr.storeAt t (.pointer (some ⟨b,off,none⟩)) v).run P w=.ok () (w.setRow b (cur.toList.take off++v.cells.toList++cur.toList.drop (off + z)).toArray):=by
 have bd:=run_storeCells_at P b off ty v.cells.toList 0 cur w hb (by simp [hv]; omega) h1;simp only [Nat.add_zero,yG,hv] at bd;simp [Instr.storeAt,Instr.sureAddr,storeVar,AB hz,hv,bd]
theorem fB.set (R:fB P O nt B F0 aa w0 D s a w ι Θ) {t n b:Nat} {cur:Array Value} {ty:TypeId} (hb:ι t n=some b) (sd:ι.ob t n=none) (na:w.heap[b]?=some (.cells cur ty (0,0))) {r:List wA} {new:Array Value} (oa:QC ι Θ (QB aa ι Θ) w r new) (xg:B<=b\/F0.r b) (hnz:new.size=ι.z b) :
  fB P O nt B F0 aa w0 D (s.setRow t n r) a (w.setRow b new) ι Θ:=by
 have jb:∀ b',b'≠b->(w.setRow b new).heap[b']?=w.heap[b']?:=fun b' h=>setRow_other w b b' new h
 have kc:(w.setRow b new).heap[b]?=some (.cells new ty (0,0)):=setRow_heap w b cur new ty (0,0) na;have hB:TA (EB ι Θ) (EB ι Θ) w (w.setRow b new):=⟨fun b' o u hc hn=>by
  have:b'≠b:=fun e=>hn (.inl (.inl ⟨t,n,e ▸ hb⟩))
  exact ⟨(World.cell?_of_block (w:=w) (a:=⟨b',o,none⟩) (jb b' this)).trans hc,hn⟩⟩
 have hA:TA (QB aa ι Θ) (QB aa ι Θ) w (w.setRow b new):=⟨fun b' o u hc hn=>by
  have:b'≠b:=fun e=>hn (.inr (.inl (.inl ⟨t,n,e ▸ hb⟩)))
  exact ⟨(World.cell?_of_block (w:=w) (a:=⟨b',o,none⟩) (jb b' this)).trans hc,hn⟩⟩
 have co:=R.mine t n b hb;refine ⟨R.defers,R.size,fun t=>UA.held (Ix.Le.refl _) hA hB _ _ (R.env t),R.ann,fun t' n' r' hr=>?_,fun t n b h=>?_,R.inj,fun k o h=>?_,R.tinj,R.apart,R.out,R.pin,?_,R.base,fun t' n' S h=>?_,fun t n H h=>(R.obs t n H h).grow (by simp),fun t=>UA.held (Ix.Le.refl _) hA hB _ _ (R.gen t),R.gann⟩
 ·simp only [uA.setRow] at hr;split at hr
  ·rename_i e;injection hr with hr;subst hr;exact ⟨by rw [e.1,e.2]; exact sd,b,new,ty,by rw [e.1,e.2]; exact hb,kc,oa.held (Ix.Le.refl _) hA (fun _ _ h=>h),xg,hnz⟩
  ·rename_i e;obtain ⟨h0,b',ra,uf,h1,h2,h3,h4⟩:=R.rows t' n' r' hr;have:b'≠b:=fun e'=>e (R.inj _ _ _ _ _ (e' ▸ h1) hb)
   exact ⟨h0,b',ra,uf,h1,(jb b' this).trans h2,h3.held (Ix.Le.refl _) hA (fun _ _ h=>h),h4⟩
 ·obtain ⟨h1,h2,h3⟩:=R.mine t n b h;exact ⟨h1,by simpa using h2,h3⟩
 ·obtain ⟨h1,h2,h3,h4,ra,h5,h6⟩:=R.tok k o h;have:o.g≠b:=fun e=>R.apart k o t n h (e ▸ hb)
  exact ⟨h1,h2,h3,h4,ra,(jb _ this).trans h5,h6⟩
 ·refine R.kept.setRow (fun ia=>?_) _;rcases co.1 with h | h
  ·have:=R.base; omega
  ·exact h
 ·obtain ⟨p,H,h1,h2,h3,h4⟩:=R.objs t' n' S h;have xj:∀ b',H b'->b'≠b:=fun b' hH e=>by
   subst e;have:=((R.obs _ _ _ h2).1 _ hH).2.2.1 t n hb;rw [this.1,this.2,h2] at sd;cases sd
  exact ⟨p,H,h1,h2,O.keep h3 (fun b' hH=>jb b' (xj b' hH)) (by simp),h4.keep (fun t n b H h g=>⟨h,H,g⟩) fun x hx=>(jb p (xj p (O.main h3))).trans hx⟩
theorem QC.splice {av:Av} {r:List wA} {cur:Array Value} (h:QC ι Θ av w r cur) {off z:Nat} {m:List wA} {us:Array Value} (hm:QC ι Θ av w m us) (fd:us.size=m.length) (hz:m.length=z) (tb:off + z<=r.length):QC ι Θ av w (r.take off++m++r.drop (off + z)) (cur.toList.take off++us.toList++cur.toList.drop (off + z)).toArray:=by
 obtain ⟨h1,h2⟩:=h;obtain ⟨m1,m2⟩:=hm;have hl:r.length<=cur.toList.length:=by simpa using h1
 refine ⟨by simp only [yb,ym,yr,yF,yG,fd] at *; omega,fun j x hx=>?_⟩;have ht:(r.take off).length=off:=by rw [ym]; omega
 have ru:(cur.toList.take off).length=off:=by rw [ym]; omega
 simp only [List.getElem?_toArray];rcases Nat.lt_or_ge j off with hj | hj
 ·rw [yl,yL (by omega),yz] at hx;rw [yl,yL (by omega),yz];rw [if_pos hj] at hx ⊢;obtain ⟨u,hu,h⟩:=h2 j x hx;exact ⟨u,by simpa using hu,h⟩
 ·rcases Nat.lt_or_ge j (off + z) with hj2 | hj2
  ·rw [yl,yJ (by omega),yL (by omega),ht] at hx;rw [yl,yJ (by omega),yL (by simp [fd]; omega),ru];obtain ⟨u,hu,h⟩:=m2 _ x hx;exact ⟨u,by simpa using hu,h⟩
  ·rw [yl,yJ (by omega),yJ (by omega),ht,yw] at hx;rw [yl,yJ (by omega),yJ (by simp [fd]; omega),ru,yw];obtain ⟨u,hu,h⟩:=h2 _ x hx;refine ⟨u,?_,h⟩;have:us.toList.length=m.length:=by simpa using fd
   rw [this];simpa using hu
theorem op_store (R:fB P O nt B F0 aa w0 D s a w ι Θ) {t:TypeId} {agg:Bool} {z:Nat} (hz:nB P t=some z) (hag:agg=true\/z=1) {X Y:Operand} {x y:iB} (hx:opd X=some x) (hy:opd Y=some y) (ho:o.op=.store t X Y) (hd:∀ d,o.dst=some d->d<nt) {cl:Cl} {call} {xe:wA × tC} (hr:(K.store cl agg z x y).run call s=some xe) {g} {s':uA} (he:kA.eff ⟨o.dst,.store cl agg z x y,g⟩ s xe=some s') :
  ∃ w',(execOp a.eval o).run P w=.ok .skip w'/\SC P O nt B F0 aa w0 D s' (a.put o.dst undef) w':=by
 have hX:=(R.opd hx).1;have hY:=R.opd hy;simp only [K.run] at hr;split at hr
 ·rename_i t' n off nc;rw [nc,xE] at hX;obtain ⟨b,hb,hv⟩:=hX;split at hr
  ·cases hm:s.mem t' n with
   | none=>rw [hm] at hr; cases hr
   | some r =>
    rw [hm,J] at hr;cases hs:gA agg z off r (y.get s) (y.an s) with
    | none=>rw [hs] at hr; cases hr
    | some r' =>
     rw [hs] at hr;injection hr with hr;subst hr;simp only [kA.eff] at he;injection he with he;subst he;obtain ⟨pf,b',cur,ty,gb,na,oa,xg,rh⟩:=R.rows t' n r hm;rw [hb] at gb;injection gb with gb;subst gb;have xU:∀ (m:List wA) (us:Array Value),r'=r.take off++m++r.drop (off + z)->m.length=z->off + z<=r.length->(a.eval Y).cells=us->us.size=m.length->QC ι Θ (QB aa ι Θ) w m us->∃ w',(execOp a.eval o).run P w=.ok .skip w'/\SC P O nt B F0 aa w0 D ((s.setRow t' n r').put o.dst ⟨.undef,.no⟩) (a.put o.dst undef) w':=fun m us h1 h2 h3 h4 h4' h5=>by
      have ac:(a.eval Y).cells.size=z:=by rw [h4,h4',h2]
      have dg:∀ u∈(a.eval Y).cells.toList,u.oneCell'=true:=fun u hu=>by
       rw [h4] at hu;obtain ⟨j,hj,rfl⟩:=List.getElem_of_mem hu;have ju:j<m.length:=by simp at hj; omega
       obtain ⟨u',bm,h6,_⟩:=h5.2 j m[j] (yg ju);have:us[j]?=some (us.toList[j]):=by simp at hj ⊢
       rw [this] at bm;injection bm with bm;rw [bm];exact h6
      have ka:=set_run (P:=P) hz na ac (Nat.le_trans h3 oa.1) dg;refine ⟨w.setRow b (cur.toList.take off++(a.eval Y).cells.toList++cur.toList.drop (off + z)).toArray,by simp only [execOp,ho,hv,Sem.run_bind,ka,Result.andThen_ok,Sem.run_pure],ι,Θ,fB.putN ?_ hd trivial trivial⟩;rw [h4];subst h1;exact R.set hb pf na (oa.splice h5 h4' h2 h3) xg (by
       rw [<- rh];have h6:=oa.1;simp only [yF,yb,ym,yr,yG];omega)
     cases agg with
     | true =>
      simp only [gA,if_true] at hs;split at hs
      ·rename_i cs bj;split at hs
       ·rename_i ba;injection hs with hs;rw [bj] at hY;obtain ⟨us,hu,hc⟩:=hY.1;refine xU (cs.map (⟨·,.no⟩)) us hs.symm (by simpa using ba.1) ba.2 (by rw [hu]; rfl) (by have:=XB hc; simpa using this) ?_;have:=QC.of (Θ:=Θ) (r:=cs.map fun v=>(⟨v,.no⟩:wA)) (cur:=us.toList) (ι:=ι) (w:=w) (av:=QB aa ι Θ) (by rw [y5,show ((fun x:wA=>x.v) ∘ fun v=>(⟨v,.no⟩:wA))=id from rfl,List.map_id]; exact hc) (fun j x u hx _=>by
         rw [yh] at hx;cases xk:cs[j]? with
         | none=>rw [xk] at hx; cases hx
         | some v=>rw [xk] at hx; injection hx with hx; subst hx; trivial)
        simpa using this
       ·cases hs
      ·cases hs
     | false =>
      have gf:z=1:=by rcases hag with h | h; cases h; exact h
      subst gf;simp only [gA,yC,if_false] at hs;split at hs
      ·rename_i ba;injection hs with hs;obtain ⟨h1,h2⟩:=AU hY.1 ba.1;have hc:(a.eval Y).cells=#[a.eval Y]:=by
        generalize a.eval Y=u at *
        cases u <;> first | rfl | (simp [Value.oneCell'] at h2; done)
       refine xU [⟨y.get s,y.an s⟩] #[a.eval Y] ?_ rfl (by have:=ba.2; omega) hc rfl ⟨ye _,fun j x hx=>?_⟩
       ·rw [<- hs,List.set_eq_take_append_cons_drop,if_pos ba.2];simp
       ·cases j with
        | zero=>simp at hx; subst hx; exact ⟨a.eval Y,rfl,h2,h1,hY.2⟩
        | succ j=>simp at hx
      ·cases hs
  ·cases hr
 ·cases hr
theorem BQ {av:Av}:∀ {xs:List AV} {us:List Value},QA ι av w xs us->∀ u∈us,u.oneCell'=true
 | [],us,h,u,hu=>by simp only [QA] at h; subst h; cases hu
 | x :: r,us,h,u,hu=>by
  simp only [QA] at h;obtain ⟨u',wa,rfl,_,h1,h⟩:=h;rcases yA.1 hu with rfl | hu
  ·exact h1
  ·exact BQ h u hu
theorem op_clr (R:fB P O nt B F0 aa w0 D s a w ι Θ) {t e:TypeId} {zero:List AV} (ht:P.underlying t=some (.slice e)) (hz:FG P e=some zero) {X:Operand} {x:iB} (hx:opd X=some x) (ho:o.op=.call { callee:=.builtin .clear,args:=#[X],argTypes:=#[t] }) (hd:∀ d,o.dst=some d->d<nt) {cl:Cl} {call} {xe:wA × tC} (hr:(K.clr cl zero x).run call s=some xe) {g} {s':uA} (he:kA.eff ⟨o.dst,.clr cl zero x,g⟩ s xe=some s') :
  ∃ v w',(execOp a.eval o).run P w=.ok (.value v) w'/\SC P O nt B F0 aa w0 D s' (a.put o.dst v) w':=by
 obtain ⟨z,i',xc,sk,pg,hl⟩:=mE hz w;have hX:=(R.opd hx).1;simp only [K.run] at hr;split at hr
 ·rename_i nl hy;rw [hy,NB] at hX;simp only [JC] at hX;obtain ⟨A,c,hv,_⟩:=hX;injection hr with hr;subst hr;simp only [kA.eff] at he;injection he with he;subst he;refine ⟨.tuple #[],w,?_,ι,Θ,R.putN hd trivial trivial⟩;cases A <;> simp [execOp,ho,resolve,invoke,builtin,Builtin.clear_,run_underlying ht,hv]
 ·rename_i t' n sz off ln cap hy;rw [hy] at hX;obtain ⟨b,hb,_,c,_,_,hv⟩:=hX;split at hr
  ·rename_i ba;obtain ⟨_,jy,pw⟩:=ba;cases hm:s.mem t' n with
   | none=>rw [hm] at hr; cases hr
   | some r =>
    rw [hm,J] at hr;unfold K6 at hr;split at hr
    ·rename_i tb;injection hr with hr;subst hr;simp only [kA.eff] at he;injection he with he;subst he;obtain ⟨pf,b',cur,ty,gb,na,oa,xg,rh⟩:=R.rows t' n r hm;rw [hb] at gb;injection gb with gb;subst gb;have rg:z.cells.size=zero.length:=by
      have:=eE hl;simp only [yG] at this;omega
     have du:(Builtin.zeroCells z.cells ln).toList=(yo ln z.cells.toList).flatten:=GN z.cells ln;have kv:=JN (ι:=ι) (w:=w) z.cells.toList (QB aa ι Θ) (uG hl _ _) ln;have ea:(yo ln z.cells.toList).flatten.length=ln * zero.length:=by simp [rg]
     have dg:∀ u∈(yo ln z.cells.toList).flatten,u.oneCell'=true:=BQ kv;have bd:=run_storeCells_at P b off ty (yo ln z.cells.toList).flatten 0 cur w na (by have:=oa.1; omega) dg;simp only [Nat.add_zero,ea] at bd;obtain ⟨m,rfl⟩:∃ m,ln=m + 1:=⟨ln - 1,by omega⟩;have ka:(execOp a.eval o).run P w=.ok (.value (.tuple #[])) (w.setRow b (cur.toList.take off++(yo (m + 1) z.cells.toList).flatten++cur.toList.drop (off + (m + 1) * zero.length)).toArray):=by
      simp [execOp,ho,resolve,invoke,builtin,Builtin.clear_,run_underlying ht,hv,pg,du,bd]
     refine ⟨_,_,ka,ι,Θ,fB.putN ?_ hd trivial trivial⟩;have mj:QC ι Θ (QB aa ι Θ) w (HA (yo (m + 1) zero)) (yo (m + 1) z.cells.toList).flatten.toArray:=QC.of (by
      unfold HA;rw [y5,show ((fun x:wA=>x.v) ∘ fun v=>(⟨v,.no⟩:wA))=id from rfl,List.map_id];exact kv) (fun j x u hx _=>by
      unfold HA at hx;rw [yh] at hx;cases xk:(yo (m + 1) zero).flatten[j]? with
      | none=>rw [xk] at hx; cases hx
      | some v=>rw [xk] at hx; injection hx with hx; subst hx; trivial)
     have ac:(yo (m + 1) z.cells.toList).flatten.toArray.size=(HA (yo (m + 1) zero)).length:=by simp [HA,rg]
     have hzl2:(HA (yo (m + 1) zero)).length=(m + 1) * zero.length:=by simp [HA]
     have:=oa.splice mj ac hzl2 tb;exact R.set hb pf na this xg (by
      rw [<- rh];have h6:=oa.1;simp only [yF,yb,ym,yr,yG,ea];omega)
    ·cases hr
  ·cases hr
 ·cases hr
end
end
section
section
variable {call:LA} {s s':uA}
def wU (s s':uA) (l:List iB):Prop:=∀ o∈l,o.get s=o.get s'/\o.an s=o.an s'
def K.reads (k:K) (t:Nat):Prop:=match k.cl with
 | none=>False
 | some .imm=>False
 | some (.root r)=>t=r
 | some (.out L)=>L.contains t=false
 | some .any=>True
theorem pZ {cl:Cl} (hm:cl.okMem=true->∀ t n,s.mem t n=s'.mem t n) (v:AV):pN s cl v=pN s' cl v:=by
 cases v <;> simp only [pN]
 split
 ·rename_i sa; rw [hm sa]
 ·rfl
theorem lL {cl:Cl} (hm:cl.okMem=true->∀ t n,s.mem t n=s'.mem t n):∀ (l:List AV),UC s cl l=UC s' cl l
 | []=>rfl
 | x :: r=>by simp only [UC,pZ hm x,lL hm r]
section
variable {cl:Cl} (hm:cl.okMem=true->∀ t n,s.mem t n=s'.mem t n) (kb:s.obj=s'.obj) (v:AV)
include cl hm kb v
theorem eP:dQ s cl v=dQ s' cl v:=by
 unfold dQ;split
 ·split
  ·rename_i sa; rw [hm sa]
  ·rfl
 ·rfl
 ·rfl
 ·rw [kb]
 ·rfl
theorem uZ:SD s cl v=SD s' cl v:=by
 have:=eP hm kb v;cases v <;> simp only [SD,lL hm] <;> exact this
end
theorem bE {cl:Cl} (hm:cl.okMem=true->∀ t n,s.mem t n=s'.mem t n) (kb:s.obj=s'.obj):∀ {xs:List iB},wU s s' xs->BC s cl xs=BC s' cl xs
 | [],_=>rfl
 | x :: r,h=>by
  have h1:=h x (yv);have h2:=bE hm kb (xs:=r) fun o ho=>h o (yE _ ho)
  unfold BC;rw [h2,h1.1];rw [uZ hm kb]
theorem fQ {cl:Cl} {t n:Nat} (hm:cl.okMem=true->∀ t n,s.mem t n=s'.mem t n) (kb:s.obj=s'.obj):∀ {xs:List iB},wU s s' xs->pH s cl t n xs=pH s' cl t n xs
 | [],_=>rfl
 | x :: r,h=>by
  have h1:=h x (yv);have h2:=fQ (t:=t) (n:=n) hm kb (xs:=r) fun o ho=>h o (yE _ ho)
  unfold pH;rw [h2,h1.1];have:wT s cl t n (x.get s')=wT s' cl t n (x.get s'):=by
   unfold wT;split
   ·rfl
   ·rw [eP hm kb]
   ·rfl
   ·rw [eP hm kb]
  rw [this]
theorem IG {xs:List iB} (h:wU s s' xs):WE s xs=WE s' xs:=by
 induction xs with
 | nil=>rfl
 | cons x r ih =>
  have h1:=h x (yv);unfold WE at ih ⊢;rw [List.filterMap_cons,List.filterMap_cons,h1.1,ih fun o ho=>h o (yE _ ho)]
section
variable {cl:Cl} (hm:cl.okMem=true->∀ t n,s.mem t n=s'.mem t n) (v:AV)
include cl hm v
theorem DH:v.elems s cl=v.elems s' cl:=by
 cases v <;> simp only [AV.elems]
 split
 ·rename_i sa; rw [hm sa]
 ·rfl
theorem O1:v.raws s cl=v.raws s' cl:=by
 cases v <;> simp only [AV.raws]
 case ref t n sz off len c =>
  split
  ·rename_i h; rw [hm h t n]
  ·rfl
end
theorem gL {d:Nat} {o:Option iB} (h:wU s s' o.toList):iH s d o=iH s' d o:=by
 cases o with
 | none=>rfl
 | some o=>simp only [iH]; rw [(h o (by simp)).1]
theorem r7 {s s':uA} (hm:∀ t n,s.mem t n=s'.mem t n) (v:AV):v.frz s=v.frz s':=by
 have e:s.mem=s'.mem:=funext fun t=>funext fun n=>hm t n
 have h1:∀ v:AV,v.frz1 s=v.frz1 s':=fun v=>by cases v <;> simp only [AV.frz1,e]
 have ol:AV.frz1 s=AV.frz1 s':=funext h1;have h0:∀ v:AV,v.frz0 s=v.frz0 s':=fun v=>by cases v <;> simp only [AV.frz0,lY,e,ol]
 have ff:AV.frz0 s=AV.frz0 s':=funext h0;cases v <;> simp only [AV.frz,h0,ff]
theorem KN (k:K) (h:wU s s' k.opds) (hm:∀ t n,k.reads t->s.mem t n=s'.mem t n) (kb:XQ k=true->s.obj=s'.obj):k.run call s=k.run call s':=by
 cases k with
 | mv x=>have h1:=h x (by simp [K.opds]); simp only [K.run,h1.1,h1.2]
 | pick c a b =>
  have h1:=h c (by simp [K.opds]); have h2:=h a (by simp [K.opds]); have h3:=h b (by simp [K.opds]);simp only [K.run,h1.1,h2.1,h2.2,h3.1,h3.2]
 | alloc z=>rfl
 | box z x=>have h1:=h x (by simp [K.opds]); simp only [K.run,h1.1,h1.2]
 | build z ps =>
  have h1:∀ p∈ps,p.2.2.get s=p.2.2.get s':=fun p hp=>(h p.2.2 (List.mem_map.2 ⟨p,hp,rfl⟩)).1
  have e1:ps.all (fun p=>(p.2.2.get s).whole)=ps.all (fun p=>(p.2.2.get s').whole):=by
   rw [Bool.eq_iff_iff,y8,y8];exact ⟨fun h p hp=>by rw [<- h1 p hp]; exact h p hp,fun h p hp=>by rw [h1 p hp]; exact h p hp⟩
  have e2:(ps.map fun p=>(p.1,p.2.1,(p.2.2.get s).cells))=ps.map fun p=>(p.1,p.2.1,(p.2.2.get s').cells):=yK fun p hp=>by rw [h1 p hp]
  simp only [K.run,e1,e2]
 | bsl z n ps =>
  have h1:∀ p∈ps,p.2.get s=p.2.get s':=fun p hp=>(h p.2 (List.mem_map.2 ⟨p,hp,rfl⟩)).1
  have e1:ps.all (fun p=>(p.2.get s).free&&decide ((p.2.get s).cells.length=z.length))=ps.all (fun p=>(p.2.get s').free&&decide ((p.2.get s').cells.length=z.length)):=by
   rw [Bool.eq_iff_iff,y8,y8];exact ⟨fun h p hp=>by rw [<- h1 p hp]; exact h p hp,fun h p hp=>by rw [h1 p hp]; exact h p hp⟩
  have e2:(ps.map fun p=>(p.2.get s).cells)=ps.map fun p=>(p.2.get s').cells:=yK fun p hp=>by rw [h1 p hp]
  simp only [K.run,e1,e2]
 | load cl g z x =>
  have h1:=h x (by simp [K.opds]);simp only [K.run,h1.1];split
  ·rename_i t n off _;split
   ·rename_i sa;rw [hm t n];cases cl with
    | any=>trivial
    | imm=>simp [Cl.okPtr] at sa
    | root r=>simp [Cl.okPtr] at sa; exact sa.symm
    | out L=>show L.contains t=false; simpa [Cl.okPtr] using sa
   ·rfl
  ·rfl
  ·rfl
  ·rfl
 | clr cl z x =>
  have h1:=h x (by simp [K.opds]);simp only [K.run,h1.1];split
  ·rfl
  ·rename_i t n sz off ln _ _;split
   ·rename_i sa;have sa:=sa.1;rw [hm t n];cases cl with
    | any=>trivial
    | imm=>simp [Cl.okPtr] at sa
    | root r=>simp [Cl.okPtr] at sa; exact sa.symm
    | out L=>show L.contains t=false; simpa [Cl.okPtr] using sa
   ·rfl
  ·rfl
 | store cl g z x y =>
  have h1:=h x (by simp [K.opds]); have h2:=h y (by simp [K.opds]);simp only [K.run,h1.1,h2.1,h2.2];split
  ·rename_i t n off _;split
   ·rename_i sa;rw [hm t n];cases cl with
    | any=>trivial
    | imm=>simp [Cl.okPtr] at sa
    | root r=>simp [Cl.okPtr] at sa; exact sa.symm
    | out L=>show L.contains t=false; simpa [Cl.okPtr] using sa
   ·rfl
  ·rfl
 | mm b x y=>have h1:=h x (by simp [K.opds]); have h2:=h y (by simp [K.opds]); simp only [K.run,h1.1,h2.1]
 | bin op b x y=>have h1:=h x (by simp [K.opds]); have h2:=h y (by simp [K.opds]); simp only [K.run,h1.1,h2.1]
 | eqa n ks x y=>have h1:=h x (by simp [K.opds]); have h2:=h y (by simp [K.opds]); simp only [K.run,h1.1,h2.1]
 | eqn n p x y=>have h1:=h x (by simp [K.opds]); have h2:=h y (by simp [K.opds]); simp only [K.run,h1.1,h2.1]
 | un op x=>have h1:=h x (by simp [K.opds]); simp only [K.run,h1.1]
 | conv o x=>have h1:=h x (by simp [K.opds]); simp only [K.run,h1.1]
 | rstr x=>have h1:=h x (by simp [K.opds]); simp only [K.run,h1.1]
 | bstr cl x =>
  have h1:=h x (by simp [K.opds]);have h3:=DH (cl:=cl) (s:=s) (s':=s') (fun sa t n=>hm t n (by cases cl <;> simp [Cl.okMem] at sa; trivial)) (x.get s');simp only [K.run,h1.1,h3]
 | aslc cl l z x lo hi =>
  have h1:=h x (by simp [K.opds]);have h2:∀ d,iH s d lo=iH s' d lo:=fun d=>gL fun o ho=>h o (by simp only [K.opds,yA,yI]; exact .inr (.inl ho))
  have h3:∀ d,iH s d hi=iH s' d hi:=fun d=>gL fun o ho=>h o (by simp only [K.opds,yA,yI]; exact .inr (.inr ho))
  simp only [K.run,h1.1,h2,h3];split
  ·rename_i t n o _;cases hc:cl.okMem with
   | true=>rw [hm t n (by cases cl <;> simp [Cl.okMem] at hc; trivial)]
   | false =>
    simp only [yC,and_false,if_false];cases iH s' 0 lo <;> try rfl
    cases iH s' l hi <;> try rfl
    cases s.mem t n <;> cases s'.mem t n <;> rfl
  ·rfl
 | mkf f xs =>
  have h1:∀ x∈xs,x.get s=x.get s':=fun x hx=>(h x hx).1
  have e1:xs.all (fun x=>(x.get s).capOk)=xs.all (fun x=>(x.get s').capOk):=by
   rw [Bool.eq_iff_iff,y8,y8];exact ⟨fun h p hp=>by rw [<- h1 p hp]; exact h p hp,fun h p hp=>by rw [h1 p hp]; exact h p hp⟩
  have e2:xs.map (·.get s)=xs.map (·.get s'):=yK h1;simp only [K.run,e1,e2]
 | callv cl x xs =>
  have h0:=h x (by simp [K.opds]);have hx:wU s s' xs:=fun o ho=>h o (by simp [K.opds,ho])
  have dz:cl.okMem=true->∀ t n,s.mem t n=s'.mem t n:=fun sa t n=>hm t n (by cases cl <;> simp [Cl.okMem] at sa; trivial)
  have h1:=bE (cl:=cl) (s:=s) (s':=s') dz (kb rfl) (xs:=xs) hx;have h2:=IG (xs:=xs) hx;have h3:∀ l,UC s cl l=UC s' cl l:=lL dz;simp only [K.run,h0.1,h1,h2,h3]
 | callr cl f xs =>
  have dz:cl.okMem=true->∀ t n,s.mem t n=s'.mem t n:=fun sa t n=>hm t n (by cases cl <;> simp [Cl.okMem] at sa; trivial)
  have h1:∀ t n,pH s cl t n xs=pH s' cl t n xs:=fun t n=>fQ dz (kb rfl) (xs:=xs) h
  have h2:sJ s xs=sJ s' xs:=by
   cases xs with
   | nil=>rfl
   | cons x r=>simp only [sJ,(h x (by simp [K.opds])).1]
  simp only [K.run,h1,h2];split
  ·rename_i t n _;split
   ·rename_i sa;rw [hm t n (by cases cl with
     | any=>trivial
     | imm=>simp [Cl.okPtr] at sa
     | root r=>simp [Cl.okPtr] at sa; exact sa.symm
     | out L=>show L.contains t=false; simpa [Cl.okPtr] using sa)]
   ·rfl
  ·rfl
 | callh nt x xs=>rfl
 | nxt x=>rfl
 | slz x=>have h1:=h x (by simp [K.opds]); simp only [K.run,h1.1]
 | ent x=>have h1:=h x (by simp [K.opds]); simp only [K.run,h1.1,kb rfl]
 | rng x=>have h1:=h x (by simp [K.opds]); simp only [K.run,h1.1,kb rfl]
 | mks z b zs x y=>have h1:=h x (by simp [K.opds]); have h2:=h y (by simp [K.opds]); simp only [K.run,h1.1,h2.1]
 | slc st z x lo hi mx =>
  have h1:=h x (by simp [K.opds]);have h2:∀ d,iH s d lo=iH s' d lo:=fun d=>gL fun o ho=>h o (by simp only [K.opds,yA,yI]; exact .inr (.inl ho))
  have h3:∀ d,iH s d hi=iH s' d hi:=fun d=>gL fun o ho=>h o (by simp only [K.opds,yA,yI]; exact .inr (.inr (.inl ho)))
  simp only [K.run,h1.1,h2,h3]
 | faddr f x=>have h1:=h x (by simp [K.opds]); simp only [K.run,h1.1]
 | field g f z x=>have h1:=h x (by simp [K.opds]); simp only [K.run,h1.1]
 | aaddr l z x i=>have h1:=h x (by simp [K.opds]); have h2:=h i (by simp [K.opds]); simp only [K.run,h1.1,h2.1]
 | iaddr z x i=>have h1:=h x (by simp [K.opds]); have h2:=h i (by simp [K.opds]); simp only [K.run,h1.1,h2.1]
 | index x i=>have h1:=h x (by simp [K.opds]); have h2:=h i (by simp [K.opds]); simp only [K.run,h1.1,h2.1]
 | ext x i=>have h1:=h x (by simp [K.opds]); simp only [K.run,h1.1]
 | call cl f xs =>
  have h1:=bE (cl:=cl) (s:=s) (s':=s') (fun sa t n=>hm t n (by cases cl <;> simp [Cl.okMem] at sa; trivial)) (kb rfl) (xs:=xs) h;have h2:=IG (xs:=xs) h;simp only [K.run,h1,h2,kb rfl]
 | callf cl f z xs =>
  have h1:=bE (cl:=cl) (s:=s) (s':=s') (fun sa t n=>hm t n (by cases cl <;> simp [Cl.okMem] at sa; trivial)) (kb rfl) (xs:=xs) h;have h2:=IG (xs:=xs) h;simp only [K.run,h1,h2,kb rfl]
 | callo cl f z xs =>
  have h1:=bE (cl:=cl) (s:=s) (s':=s') (fun sa t n=>hm t n (by cases cl <;> simp [Cl.okMem] at sa; trivial)) (kb rfl) (xs:=xs) h;have h2:=IG (xs:=xs) h;simp only [K.run,h1,h2]
 | calln cl f z L x xs =>
  have hx:=h x yv;have ec:wU s s' xs:=fun o ho=>h o (yE _ ho)
  have h1:=bE (cl:=cl) (s:=s) (s':=s') (fun sa t n=>hm t n (by cases cl <;> simp [Cl.okMem] at sa; trivial)) (kb rfl) ec;have h2:=IG ec;have h3:=DH (cl:=cl) (s:=s) (s':=s') (fun sa t n=>hm t n (by cases cl <;> simp [Cl.okMem] at sa; trivial));simp only [K.run,h1,h2,h3,hx.1,hx.2]
 | callq cl f xs =>
  by_cases sa:cl.okMem=true
  ·have bc:∀ t n,s.mem t n=s'.mem t n:=fun t n=>hm t n (by cases cl <;> simp [Cl.okMem] at sa; trivial)
   have e:(xs.map fun x=>(x.get s).frz s)=xs.map fun x=>(x.get s').frz s':=yK fun x hx=>by rw [(h x hx).1,r7 bc]
   simp only [K.run,e]
  ·simp [K.run,sa]
 | len st x=>have h1:=h x (by simp [K.opds]); simp only [K.run,h1.1]
 | app cl e z b x y =>
  have h1:=h x (by simp [K.opds]); have h2:=h y (by simp [K.opds]);have h3:=DH (cl:=cl) (s:=s) (s':=s') (fun sa t n=>hm t n (by cases cl <;> simp [Cl.okMem] at sa; trivial)) (y.get s');simp only [K.run,h1.1,h1.2,h2.1,h3]
 | mkm=>rfl
 | bad=>rfl
 | mkb T e=>rfl
 | mget ok ty z x k=>have h1:=h x (by simp [K.opds]); have h2:=h k (by simp [K.opds]); simp only [K.run,h1.1,h2.1,kb rfl]
 | mset ty x k v=>have h1:=h x (by simp [K.opds]); have h2:=h k (by simp [K.opds]); have h3:=h v (by simp [K.opds]); simp only [K.run,h1.1,h2.1,h3.1,kb rfl]
 | mlen x=>have h1:=h x (by simp [K.opds]); simp only [K.run,h1.1,kb rfl]
 | appf cl e z b x y =>
  have h1:=h x (by simp [K.opds]); have h2:=h y (by simp [K.opds]);have h3:∀ v:AV,v.elems s cl=v.elems s' cl:=fun v=>DH (cl:=cl) (s:=s) (s':=s') (fun sa t n=>hm t n (by cases cl <;> simp [Cl.okMem] at sa; trivial)) v
  simp only [K.run,h1.1,h1.2,h2.1,h3]
 | appm cl e z b x y =>
  have h1:=h x (by simp [K.opds]); have h2:=h y (by simp [K.opds]);have h3:∀ v:AV,v.elems s cl=v.elems s' cl:=fun v=>DH (cl:=cl) (s:=s) (s':=s') (fun sa t n=>hm t n (by cases cl <;> simp [Cl.okMem] at sa; trivial)) v
  simp only [K.run,h1.1,h1.2,h2.1,h3]
 | appn cl e z b x y =>
  have h1:=h x (by simp [K.opds]); have h2:=h y (by simp [K.opds]);have h3:∀ v:AV,v.raws s cl=v.raws s' cl:=fun v=>O1 (cl:=cl) (s:=s) (s':=s') (fun sa t n=>hm t n (by cases cl <;> simp [Cl.okMem] at sa; trivial)) v
  simp only [K.run,h1.1,h1.2,h2.1,h3]
 | bslr sz z n ps =>
  have h1:∀ p∈ps,p.2.get s=p.2.get s':=fun p hp=>(h p.2 (List.mem_map.2 ⟨p,hp,rfl⟩)).1
  have e1:ps.all (fun p=>(p.2.get s).whole&&decide ((p.2.get s).cells.length=z.length))=ps.all (fun p=>(p.2.get s').whole&&decide ((p.2.get s').cells.length=z.length)):=by
   rw [Bool.eq_iff_iff,y8,y8];exact ⟨fun h p hp=>by rw [<- h1 p hp]; exact h p hp,fun h p hp=>by rw [h1 p hp]; exact h p hp⟩
  have e2:(ps.map fun p=>(p.2.get s).cells)=ps.map fun p=>(p.2.get s').cells:=yK fun p hp=>by rw [h1 p hp]
  simp only [K.run,e1,e2]
 | nilchk x=>have h1:=h x (by simp [K.opds]); simp only [K.run,h1.1]
structure bX (f:An->An):Prop where
 no:f .no=.no
 ex:f .ex=.ex
 own:∀ k e,f (.own k e)≠.ex
def uA.mapAn (s:uA) (f:An->An):uA:=⟨fun t=>⟨(s.env t).v,f (s.env t).a⟩,fun t n=>(s.mem t n).map (·.map fun x=>⟨x.v,f x.a⟩),s.next,s.obj,fun t=>⟨(s.gh t).v,f (s.gh t).a⟩⟩
def wA.mapAn (f:An->An) (x:wA):wA:=⟨x.v,f x.a⟩
def tC.mapAn (f:An->An):tC->tC
 | .new r=>.new (r.map (wA.mapAn f))
 | .set t n r=>.set t n (r.map (wA.mapAn f))
 | .ob2 t n S r=>.ob2 t n S (r.map (wA.mapAn f))
 | e=>e
theorem bA (f:An->An) (o:iB):o.get (s.mapAn f)=o.get s:=by cases o <;> rfl
theorem T2 {f:An->An} (hf:bX f) (b:Bool) (a:An):ZA b (f a)=f (ZA b a):=by
 cases b with
 | true=>exact hf.ex.symm
 | false=>rfl
theorem M6 {f:An->An} (hf:bX f) (b:Bool) (a:An):SX b (f a)=SX b a:=by
 unfold SX;rw [T2 hf];cases h:ZA b a with
 | no=>rw [hf.no]
 | ex=>rw [hf.ex]
 | own k e =>
  cases h2:f (.own k e) with
  | ex=>exact absurd h2 (hf.own k e)
  | no=>rfl
  | own k' e'=>rfl
theorem aK {f:An->An} (hf:bX f) (o:iB):o.an (s.mapAn f)=f (o.an s):=by
 cases o with
 | t n=>rfl
 | c v=>cases v <;> first | exact hf.no.symm | (rename_i b l; cases b; exact hf.no.symm; exact hf.ex.symm)
theorem TL (f:An->An) (r:List wA) (sz off len:Nat):rG (r.map (wA.mapAn f)) sz off len=rG r sz off len:=by
 unfold rG;have h1:(r.map (wA.mapAn f)).all (fun x=>x.v.free0)=r.all (fun x=>x.v.free0):=by rw [List.all_map]; rfl
 simp only [y9,h1];congr 1;congr 1;apply yK;intro i _;rw [<- List.map_drop,<- List.map_take,y5];rfl
theorem rN (f:An->An) (cl:Cl) (v:AV):v.elems (s.mapAn f) cl=v.elems s cl:=by
 cases v <;> simp only [AV.elems]
 rename_i t n sz off len cap;split
 ·simp only [uA.mapAn];cases s.mem t n with
  | none=>rfl
  | some r=>exact TL f r sz off len
 ·rfl
theorem aZ (f:An->An) (cl:Cl) (v:AV):pN (s.mapAn f) cl v=pN s cl v:=by
 cases v <;> simp only [pN]
 rename_i t n off;split
 ·simp only [uA.mapAn];cases s.mem t n with
  | none=>rfl
  | some r =>
   simp only [yp,<- List.map_drop,List.all_map,y5];rfl
 ·rfl
theorem zL (f:An->An) (cl:Cl):∀ (l:List AV),UC (s.mapAn f) cl l=UC s cl l
 | []=>rfl
 | x :: r=>by simp only [UC,aZ f cl x,zL f cl r]
theorem rP (f:An->An) (cl:Cl) (v:AV):dQ (s.mapAn f) cl v=dQ s cl v:=by
 unfold dQ;split
 ·rename_i t n sz off len cap;split
  ·simp only [uA.mapAn];cases s.mem t n with
   | none=>rfl
   | some r=>simp only [yp,J]; rw [show (fun x:wA=>(⟨x.v,f x.a⟩:wA))=wA.mapAn f from rfl,TL]
  ·rfl
 ·rfl
 ·rfl
 ·rfl
 ·rfl
theorem iZ (f:An->An) (cl:Cl) (v:AV):SD (s.mapAn f) cl v=SD s cl v:=by
 have:=rP (s:=s) f cl v;cases v <;> simp only [SD,zL] <;> exact this
theorem nE (f:An->An) (cl:Cl):∀ (xs:List iB),BC (s.mapAn f) cl xs=BC s cl xs
 | []=>rfl
 | x :: r=>by
  unfold BC;rw [nE f cl r,bA];rw [iZ]
theorem gQ (f:An->An) (cl:Cl) (t n:Nat):∀ (xs:List iB),pH (s.mapAn f) cl t n xs=pH s cl t n xs
 | []=>rfl
 | x :: r=>by
  unfold pH;rw [gQ f cl t n r,bA];have:wT (s.mapAn f) cl t n (x.get s)=wT s cl t n (x.get s):=by
   unfold wT;split
   ·rfl
   ·rw [rP]
   ·rfl
   ·rw [rP]
  rw [this]
theorem UV (f:An->An) (xs:List iB):sJ (s.mapAn f) xs=sJ s xs:=by
 cases xs with
 | nil=>rfl
 | cons x r=>simp only [sJ,bA]
theorem BZ {f:An->An} (hf:bX f) (v:AV):f (tF v)=tF v:=by
 unfold tF;split
 ·exact hf.ex
 ·exact hf.no
theorem OG (f:An->An) (xs:List iB):WE (s.mapAn f) xs=WE s xs:=by
 unfold WE;simp only [bA]
theorem kU (f:An->An) (d:Nat) (o:Option iB):iH (s.mapAn f) d o=iH s d o:=by
 cases o with
 | none=>rfl
 | some o=>simp only [iH,bA]
theorem E7 (f:An->An) (hf:bX f) (g:Bool) (z off:Nat) (r:List wA):EA g z off (r.map (wA.mapAn f))=(EA g z off r).map (wA.mapAn f):=by
 unfold EA;cases g with
 | true =>
  simp only [if_true,y9];split
  ·simp only [yp,wA.mapAn,hf.no,<- List.map_drop,<- List.map_take,y5];rfl
  ·rfl
 | false=>simp
theorem d9 (f:An->An) (hf:bX f) (z:List AV) (off ln:Nat) (r:List wA):K6 z off ln (r.map (wA.mapAn f))=(K6 z off ln r).map (·.map (wA.mapAn f)):=by
 have h:(HA (yo ln z)).map (wA.mapAn f)=HA (yo ln z):=by
  unfold HA;rw [y5];refine yK fun v _=>?_
  simp [wA.mapAn,hf.no]
 unfold K6;rw [y9];split
 ·simp only [yp,List.map_append,List.map_take,List.map_drop,h]
 ·rfl
theorem SZ (f:An->An) (hf:bX f) (g:Bool) (z off:Nat) (r:List wA) (v:AV) (a:An):gA g z off (r.map (wA.mapAn f)) v (f a)=(gA g z off r v a).map (·.map (wA.mapAn f)):=by
 unfold gA;cases g with
 | true =>
  simp only [if_true,y9];cases v <;> try rfl
  simp only;split
  ·simp only [yp,List.map_append,List.map_take,List.map_drop,y5];congr 3;apply yK;intro x _;simp [wA.mapAn,hf.no]
  ·rfl
 | false =>
  simp only [yC,if_false,y9];split
  ·simp [wA.mapAn,List.map_set]
  ·rfl
theorem t7 (f:An->An) (v:AV):v.frz (s.mapAn f)=v.frz s:=by
 have hm:∀ t n,(s.mapAn f).mem t n=(s.mem t n).map (·.map (wA.mapAn f)):=fun _ _=>rfl
 have hr:∀ (r:List wA) sz off len,cN (r.map (wA.mapAn f)) sz off len=cN r sz off len:=fun r sz off len=>by
  simp only [cN,y9];congr 2;exact yK fun i _=>by
   rw [<- List.map_drop,<- List.map_take,y5];rfl
 have h1:∀ v:AV,v.frz1 (s.mapAn f)=v.frz1 s:=fun v=>by
  cases v <;> simp only [AV.frz1,hm]
  rename_i t n sz off len cap;cases s.mem t n with
  | none=>rfl
  | some r=>simp only [yp,J,TL]
 have ol:AV.frz1 (s.mapAn f)=AV.frz1 s:=funext h1;have h0:∀ v:AV,v.frz0 (s.mapAn f)=v.frz0 s:=fun v=>by
  cases v <;> simp only [AV.frz0,hm]
  rename_i t n sz off len cap;cases s.mem t n with
  | none=>rfl
  | some r=>simp only [yp,J,TL,lY,hr,ol]
 have ff:AV.frz0 (s.mapAn f)=AV.frz0 s:=funext h0;cases v <;> simp only [AV.frz,h0,ff]
theorem H7 {f:An->An} (hf:bX f) (k:K) (hk:d8 k=false):k.run call (s.mapAn f)=(k.run call s).map fun p=>(p.1.mapAn f,p.2.mapAn f):=by
  cases k with
  | mv x=>simp [K.run,bA,aK hf,wA.mapAn,tC.mapAn]
  | callh nt x xs=>rfl
  | nxt x=>rfl
  | slz x =>
    simp only [K.run,bA];split <;> simp [wA.mapAn,tC.mapAn,hf.ex]
  | ent x =>
    simp only [K.run,bA,show (s.mapAn f).obj=s.obj from rfl];split
    · split
      · split
        · split
          · split
            · split <;> simp [wA.mapAn,tC.mapAn,hf.no]
            · rfl
          · rfl
        · rfl
      · rfl
    · rfl
  | rng x =>
    simp only [K.run,bA,show (s.mapAn f).obj=s.obj from rfl];split
    · split <;> simp [wA.mapAn,tC.mapAn,hf.no]
    · rfl
  | pick c a b =>
    simp only [K.run,bA,aK hf];split
    · rename_i t _
      cases t <;> simp [wA.mapAn,tC.mapAn]
    · rfl
  | alloc z =>
    simp only [K.run,yp,wA.mapAn,tC.mapAn,hf.no,y5];congr 3;apply yK;intro v _;simp only [Function.comp,wA.mapAn,tF];split <;> simp [hf.no,hf.ex]
  | box z x =>
    simp only [K.run,bA,aK hf];split
    · split
      · simp [wA.mapAn,tC.mapAn,hf.no,Function.comp_def]
      · rfl
    · split
      · simp [wA.mapAn,tC.mapAn,hf.no]
      · rfl
  | build z ps =>
    simp only [K.run,bA];split
    · rw [Option.map_map]
      congr 1;funext cs;simp [wA.mapAn,tC.mapAn,hf.no]
    · rfl
  | bsl z n ps =>
    simp only [K.run,bA];split
    · simp [wA.mapAn,tC.mapAn,hf.ex]
    · rfl
  | load cl g z x =>
    simp only [K.run,bA];split
    · rename_i t n off _
      split
      · simp only [uA.mapAn]
        cases s.mem t n with
        | none=>rfl
        | some r =>
          simp only [yp,J];rw [show (fun x:wA=>(⟨x.v,f x.a⟩:wA))=wA.mapAn f from rfl,E7 f hf];cases EA g z off r <;> rfl
      · rfl
    · split
      · rfl
      · rename_i cs _ _ _
        cases lE g z cs <;> simp [wA.mapAn,tC.mapAn,hf.no]
    · split
      · rfl
      · rename_i cs _ _ _
        cases lE g z cs <;> simp [wA.mapAn,tC.mapAn,hf.no]
    · rfl
  | clr cl z x =>
    simp only [K.run,bA];split
    · simp [wA.mapAn,tC.mapAn,hf.no]
    · rename_i t n sz off ln _ _
      split
      · simp only [uA.mapAn]
        cases s.mem t n with
        | none=>rfl
        | some r =>
          simp only [yp,J];rw [show (fun x:wA=>(⟨x.v,f x.a⟩:wA))=wA.mapAn f from rfl,d9 f hf];cases K6 z off ln r <;> simp [wA.mapAn,tC.mapAn,hf.no]
      · rfl
    · rfl
  | store cl g z x y =>
    simp only [K.run,bA,aK hf];split
    · rename_i t n off _
      split
      · simp only [uA.mapAn]
        cases s.mem t n with
        | none=>rfl
        | some r =>
          simp only [yp,J];rw [show (fun x:wA=>(⟨x.v,f x.a⟩:wA))=wA.mapAn f from rfl,SZ f hf];cases gA g z off r (y.get s) (y.an s) <;> simp [wA.mapAn,tC.mapAn,hf.no]
      · rfl
    · rfl
  | mm b x y=>simp only [K.run,bA]; cases mmC b (x.get s) (y.get s) <;> simp [wA.mapAn,tC.mapAn,hf.no]
  | bin op b x y=>simp only [K.run,bA]; cases J8 op b (x.get s) (y.get s) <;> simp [wA.mapAn,tC.mapAn,hf.no]
  | eqa n ks x y =>
    simp only [K.run,bA];split
    · rename_i a b _ _
      cases BH ks a b <;> simp [wA.mapAn,tC.mapAn,hf.no]
    · rfl
  | eqn n p x y =>
    simp only [K.run,bA];split
    · cases aG false (x.get s) <;> simp [wA.mapAn,tC.mapAn,hf.no]
    · cases aG true (x.get s) <;> simp [wA.mapAn,tC.mapAn,hf.no]
    · rfl
  | un op x=>simp only [K.run,bA]; split <;> simp [wA.mapAn,tC.mapAn,hf.no]
  | conv o x=>simp only [K.run,bA]; split <;> simp [wA.mapAn,tC.mapAn,hf.no]
  | rstr x=>simp only [K.run,bA]; split <;> simp [wA.mapAn,tC.mapAn,hf.no]
  | bstr cl x =>
    simp only [K.run,bA,rN];split
    · rename_i l _
      cases bytesOf l <;> simp [wA.mapAn,tC.mapAn,hf.no]
    · rfl
  | aslc cl l z x lo hi =>
    simp only [K.run,bA,kU];split
    · rename_i t n o _
      simp only [uA.mapAn];cases iH s 0 lo <;> try rfl
      cases iH s l hi <;> try rfl
      cases s.mem t n with
      | none=>rfl
      | some r =>
        simp only [yp,y9];split
        · split <;> simp [wA.mapAn,tC.mapAn,hf.no]
        · rfl
    · rfl
  | mkf g xs =>
    simp only [K.run,bA];split <;> simp [wA.mapAn,tC.mapAn,hf.no]
  | callv cl x xs =>
    simp only [K.run,bA,nE,OG,zL];split
    · split
      · rename_i vs ws _ _ _
        rename_i g cs _ _ _ _ _ _;cases call _ _ none with
        | none=>rfl
        | some r =>
          simp only [J];split
          · split <;> simp [wA.mapAn,tC.mapAn,hf.no]
          · rfl
      · rfl
    · rfl
  | callr cl g xs =>
    simp only [K.run,gQ,UV];split
    · rename_i t n _
      split
      · simp only [uA.mapAn]
        cases s.mem t n with
        | none=>rfl
        | some r =>
          simp only [yp];cases pH s cl t n xs with
          | none=>rfl
          | some vs =>
            simp only [List.all_map,y5,y9];have e1:r.all ((fun x:wA=>x.v.free0) ∘ fun x=>(⟨x.v,f x.a⟩:wA))=r.all (fun x=>x.v.free0):=rfl;have e2:r.map ((fun x:wA=>x.v) ∘ fun x=>(⟨x.v,f x.a⟩:wA))=r.map (·.v):=rfl;rw [e1,e2];split
            · cases call g (.undef :: .undef :: vs) (some (.agg (r.map (·.v)))) with
              | none=>rfl
              | some q =>
                simp only [J];split
                · split <;> simp [wA.mapAn,tC.mapAn,hf.no,Function.comp_def,BZ hf]
                · rfl
            · rfl
      · rfl
    · rfl
  | mks z b zs x y =>
    simp only [K.run,bA];split
    · split
      · simp only [yp,wA.mapAn,tC.mapAn,hf.no,y5]
        congr 3;apply yK;intro v _;simp [wA.mapAn,hf.no]
      · rfl
    · rfl
  | slc st z x lo hi mx =>
    simp only [K.run,bA,kU];split
    · rfl
    · split
      · rfl
      · split <;> first
          | rfl
          | (split
             · split <;> (try split) <;> simp [wA.mapAn,tC.mapAn,hf.no]
             · rfl)
  | faddr o x=>simp only [K.run,bA]; split <;> simp [wA.mapAn,tC.mapAn,hf.no]
  | field g o z x =>
    simp only [K.run,bA];split
    · rename_i cs _
      cases lE g z (cs.drop o) <;> simp [wA.mapAn,tC.mapAn,hf.no]
    · rfl
  | aaddr l z x i =>
    simp only [K.run,bA];split
    · split
      · split <;> simp [wA.mapAn,tC.mapAn,hf.no]
      · rfl
    · rfl
  | iaddr z x i =>
    simp only [K.run,bA];split
    · split
      · rename_i k _ _ _ l _
        cases l[k]? with
        | none=>rfl
        | some cs=>simp only [J]; split <;> simp [wA.mapAn,tC.mapAn,hf.no]
      · rename_i k _ _ l _
        cases l[k]? with
        | none=>rfl
        | some cs=>simp only [J]; split <;> simp [wA.mapAn,tC.mapAn,hf.no]
      · split <;> simp [wA.mapAn,tC.mapAn,hf.no]
      · rfl
    · rfl
  | index x i =>
    simp only [K.run,bA];split
    · rename_i k b _ _
      cases b[k]? <;> simp [wA.mapAn,tC.mapAn,hf.no]
    · rfl
  | ext x i =>
    simp only [K.run,bA];split
    · rename_i vs _
      cases vs[i]? <;> simp [wA.mapAn,tC.mapAn,hf.no]
    · rfl
  | call cl g xs =>
    simp only [K.run,nE,OG];cases BC s cl xs with
    | none=>rfl
    | some vs =>
      simp only [J];split
      · cases call g vs none with
        | none=>rfl
        | some r =>
          simp only [J];split
          · split <;> simp [wA.mapAn,tC.mapAn,hf.no]
          · split <;> simp [wA.mapAn,tC.mapAn,hf.no]
      · rename_i t n _
        simp only [show (s.mapAn f).obj=s.obj from rfl];cases call g vs (s.obj t n) with
        | none=>rfl
        | some r =>
          simp only [J];split
          · rfl
          · split <;> simp [wA.mapAn,tC.mapAn,hf.no]
      · rfl
  | callf cl g z xs =>
    simp only [K.run,nE,OG];cases BC s cl xs with
    | none=>rfl
    | some vs =>
      simp only [J];split
      · rename_i t n _
        simp only [show (s.mapAn f).obj=s.obj from rfl];cases call g (.undef :: vs) (s.obj t n) with
        | none=>rfl
        | some r =>
          simp only [J];split
          · split
            · split
              · simp [wA.mapAn,tC.mapAn,hf.no]
              · simp [wA.mapAn,tC.mapAn,hf.no,HA,Function.comp_def]
            · rfl
          · rfl
      · rfl
  | callo cl g z xs =>
    simp only [K.run,nE,OG];split
    · rename_i vs _ _
      cases call g (.undef :: vs) none with
      | none=>rfl
      | some r =>
        simp only [J];split
        · rename_i b l
          split
          · split
            · simp [wA.mapAn,tC.mapAn,hf.ex]
            · split
              · rfl
              · simp [wA.mapAn,tC.mapAn,hf.no,HA,Function.comp_def]
          · rfl
        · rfl
    · rfl
  | calln cl g z L x xs =>
    simp only [K.run,nE,OG,bA,rN,aK hf,M6 hf];split
    · rename_i vs _ _
      split
      · split
        · split
          · rename_i l _
            split
            · cases call g (.undef :: .sl false l :: vs) (some (.int .i64 z)) with
              | none=>rfl
              | some r =>
                simp only [J];split
                · split
                  · simp [wA.mapAn,tC.mapAn,hf.no,HA,Function.comp_def]
                  · rfl
                · rfl
            · rfl
          · rfl
        · rename_i b _
          split
          · cases call g (.undef :: .sl b [] :: vs) (some (.int .i64 z)) with
            | none=>rfl
            | some r =>
              simp only [J];split
              · split
                · simp [wA.mapAn,tC.mapAn,hf.no,HA,Function.comp_def]
                · rfl
              · rfl
          · rfl
        · rfl
      · rfl
    · rfl
  | callq cl g xs =>
    have e:(xs.map fun x=>(x.get (s.mapAn f)).frz (s.mapAn f))=xs.map fun x=>(x.get s).frz s:=yK fun x _=>by rw [bA,t7]
    simp only [K.run,e];split
    · cases call g (xs.map fun x=>(x.get s).frz s) none with
      | none=>rfl
      | some r =>
        simp only [J];split
        · split <;> simp [wA.mapAn,tC.mapAn,hf.no]
        · rfl
    · rfl
  | len st x=>simp only [K.run,bA]; split <;> (try split) <;> simp [wA.mapAn,tC.mapAn,hf.no]
  | app cl e z b x y=>simp [d8] at hk
  | mkm=>simp [K.run,wA.mapAn,tC.mapAn,hf.no]
  | bad=>simp [K.run]
  | mkb T e=>simp [K.run,wA.mapAn,tC.mapAn,hf.no]
  | mget ok ty z x k =>
    simp only [K.run,bA,show (s.mapAn f).obj=s.obj from rfl];split
    · split
      · split <;> simp [wA.mapAn,tC.mapAn,hf.no]
      · rfl
    · rfl
  | mset ty x k v =>
    simp only [K.run,bA,show (s.mapAn f).obj=s.obj from rfl];split
    · split
      · split <;> simp [wA.mapAn,tC.mapAn,hf.no]
      · rfl
    · rfl
  | mlen x =>
    simp only [K.run,bA,show (s.mapAn f).obj=s.obj from rfl];split
    · split <;> simp [wA.mapAn,tC.mapAn,hf.no]
    · rfl
  | appf cl e z b x y =>
    simp only [K.run,bA,aK hf,rN];split
    · split
      · rename_i bb _ _ _ _ _
        rw [T2 hf];cases hx:ZA bb (x.an s) with
        | no=>simp [hf.no]
        | ex =>
          simp only [hf.ex];split
          · simp [wA.mapAn,tC.mapAn,hf.ex]
          · simp [wA.mapAn,tC.mapAn,hf.no,Function.comp_def,HA]
        | own k e =>
          simp only;have:=hf.own k e;split
          · contradiction
          · rfl
      · rfl
    · rfl
  | appm cl e z b x y=>simp [d8] at hk
  | appn cl e z b x y=>simp [d8] at hk
  | bslr sz z n ps =>
    simp only [K.run,bA];split
    · simp [wA.mapAn,tC.mapAn,hf.no,Function.comp_def,HA]
    · rfl
  | nilchk x=>simp only [K.run,bA]; split <;> simp [wA.mapAn,tC.mapAn,hf.no]
end
end
section
open Go Go.RowKit
section
variable {P:Program} {O:JD} {nt B:Nat} {F0:AL} {aa:Av} {w0:World} {D:Nat->Prop} {s:uA} {a:Act} {w w':World} {ι:Ix} {Θ:lH} {o:Oper}
theorem R0 {α:Type} (sz:Nat):∀ (len:Nat) (L:List α),len * sz<=L.length->((List.range len).map fun i=>(L.drop (i * sz)).take sz).flatten=L.take (len * sz)
 | 0,L,_=>by simp
 | len + 1,L,h=>by
  have h1:len * sz<=L.length:=by rw [yB] at h; omega
  rw [y0,List.map_append,List.flatten_append,R0 sz len L h1];simp only [yu,List.map_nil,yy,List.flatten_nil,yt];rw [yB,List.take_add]
theorem eF {av:Av} {r:List wA} {cur:Array Value} (oa:QC ι Θ av w r cur) {b:Nat} {ty:TypeId} (hb:w.heap[b]?=some (.cells cur ty (0,0))) {sz off len:Nat} {m:List (List AV)} (h:rG r sz off len=some m) :
  m.length=len/\(∀ c∈m,c.length=sz)/\∃ us,KA av w m.flatten us/\∀ (j:Nat) (u:Value),us[j]?=some u->w.cell? ⟨b,off + j,none⟩=some u:=by
 unfold rG at h;split at h
 ·rename_i hc;injection h with h;subst h;have de:∀ x∈r.map (·.v),x.free0=true:=fun x hx=>by
   obtain ⟨y,hy,rfl⟩:=List.mem_map.1 hx;exact y8.1 hc.2 y hy
  have fi:((List.range len).map fun i=>((r.drop (off + i * sz)).take sz).map (·.v)).flatten=((r.map (·.v)).drop off).take (len * sz):=by
   rw [<- R0 sz len _ (by simp; omega)];congr 1;apply yK;intro i _;rw [List.drop_drop,List.map_take,List.map_drop]
  have wb:=wE (len * sz) (PD off oa.rep);refine ⟨by simp,fun c pp=>?_,((cur.toList.take r.length).drop off).take (len * sz),?_,fun j u hu=>?_⟩
  ·obtain ⟨i,hi,rfl⟩:=List.mem_map.1 pp;have xc:i<len:=by simpa using hi
   have:(i + 1) * sz<=len * sz:=yO _ xc;rw [yB] at this;simp;omega
  ·rw [fi];exact sF wb fun x hx=>de x (List.mem_of_mem_drop (List.mem_of_mem_take hx))
  ·rw [cell_of_row w b (off + j) cur ty (0,0) hb];rw [yz] at hu;split at hu
   ·rw [yw,yz] at hu;split at hu
    ·simpa using hu
    ·cases hu
   ·cases hu
 ·cases h
theorem LI (R:fB P O nt B F0 aa w0 D s a w ι Θ) {v:Value} {y:AV} (hY:UA ι (QB aa ι Θ) (EB ι Θ) w y v) {cl:Cl} {m:List (List AV)} (h:y.elems s cl=some m) {sz:Nat} (ub:0<sz) (ac:∀ c∈m,c.length=sz) :
  ∃ us,KA (QB aa ι Θ) w m.flatten us/\Sl (fun _=>False) w sz v m.length us:=by
 have gn:m.flatten.length=m.length * sz:=by
  clear h hY
  induction m with
  | nil=>simp
  | cons c r ih=>rw [yy,yb,ac c (by simp),ih (fun c hc=>ac c (by simp [hc])),yD,yB]; omega
 have ea:∀ {av:Av} {us:List Value},KA av w m.flatten us->us.length=m.length * sz:=fun h=>by
  have:=XB (OC (ι:=ι) h);omega
 cases y with
 | sl nil l =>
  injection h with h;subst h;rw [NB] at hY;simp only [JC] at hY;obtain ⟨A,c,hv,hc,_,hn,hs⟩:=hY;rcases yH l.length with h0 | h0
  ·have:l=[]:=yN h0;subst this;exact ⟨[],rfl,by simp,A,c,hv,hc,fun h=>by simp at h⟩
  ·cases nil with
   | true=>have:=(hn rfl).2.1; omega
   | false =>
    obtain ⟨b,off,rfl,oa⟩:=(hs rfl).2 h0;obtain ⟨us,hl,fd⟩:=eH (qD.1 oa);refine ⟨us,hl,ea hl,_,c,hv,hc,fun _=>⟨b,off,rfl,?_,fun h=>h,fun j u hu=>(fd j u hu).1⟩⟩;have hp:0<us.length:=by rw [ea hl]; exact Nat.mul_pos h0 ub
    exact ED (fd 0 us[0] (yg hp)).1
 | bl l =>
  injection h with h;subst h;obtain ⟨a',c,hv,hc,_,hs⟩:=hY;rcases yH l.length with h0 | h0
  ·have:l=[]:=yN h0;subst this;exact ⟨[],rfl,by simp,some a',c,hv,hc,fun h=>by simp at h⟩
  ·obtain ⟨b,off,rfl,oa⟩:=hs h0;obtain ⟨us,hl,fd⟩:=IM (tH.1 oa);refine ⟨us,hl,ea hl,_,c,hv,hc,fun _=>⟨b,off,rfl,?_,fun h=>h,fun j u hu=>(fd j u hu).1⟩⟩;have hp:0<us.length:=by rw [ea hl]; exact Nat.mul_pos h0 ub
   exact ED (fd 0 us[0] (yg hp)).1
 | ref t n sz' off len cap =>
  simp only [AV.elems] at h;split at h
  ·cases hm:s.mem t n with
   | none=>rw [hm] at h; cases h
   | some r =>
    rw [hm,J] at h;obtain ⟨b,hb,tb,cc,af,_,hv⟩:=wF.1 hY;obtain ⟨pf,b',cur,ty,gb,na,oa,_⟩:=R.rows t n r hm;rw [hb] at gb;injection gb with gb;subst gb;obtain ⟨h1,h2,us,hl,fd⟩:=eF oa na h;subst h1;exact ⟨us,hl,ea hl,_,cc,hv,Nat.le_trans tb af,fun _=>⟨b,off,rfl,dA na,fun h=>h,fd⟩⟩
  ·cases h
 | _=>simp [AV.elems] at h
theorem bN {av:Av} {r:List wA} {cur:Array Value} (oa:QC ι Θ av w r cur) {b:Nat} {ty:TypeId} (hb:w.heap[b]?=some (.cells cur ty (0,0))) {sz off len:Nat} {m:List (List AV)} (h:cN r sz off len=some m) :
  m.length=len/\(∀ c∈m,c.length=sz)/\∃ us,QA ι av w m.flatten us/\∀ (j:Nat) (u:Value),us[j]?=some u->w.cell? ⟨b,off + j,none⟩=some u:=by
 unfold cN at h;split at h
 ·rename_i hc;injection h with h;subst h;have fi:((List.range len).map fun i=>((r.drop (off + i * sz)).take sz).map (·.v)).flatten=((r.map (·.v)).drop off).take (len * sz):=by
   rw [<- R0 sz len _ (by simp; omega)];congr 1;apply yK;intro i _;rw [List.drop_drop,List.map_take,List.map_drop]
  have wb:=wE (len * sz) (PD off oa.rep);refine ⟨by simp,fun c pp=>?_,((cur.toList.take r.length).drop off).take (len * sz),?_,fun j u hu=>?_⟩
  ·obtain ⟨i,hi,rfl⟩:=List.mem_map.1 pp;have xc:i<len:=by simpa using hi
   have:(i + 1) * sz<=len * sz:=yO _ xc;rw [yB] at this;simp;omega
  ·rw [fi];exact wb
  ·rw [cell_of_row w b (off + j) cur ty (0,0) hb];rw [yz] at hu;split at hu
   ·rw [yw,yz] at hu;split at hu
    ·simpa using hu
    ·cases hu
   ·cases hu
 ·cases h
theorem d6 (R:fB P O nt B F0 aa w0 D s a w ι Θ) {v:Value} {y:AV} (hY:UA ι (QB aa ι Θ) (EB ι Θ) w y v) {cl:Cl} {m:List (List AV)} (h:y.raws s cl=some m) {sz:Nat} (ub:0<sz) (ac:∀ c∈m,c.length=sz) :
  ∃ us,QA ι (QB aa ι Θ) w m.flatten us/\Sl (fun _=>False) w sz v m.length us:=by
 have gn:m.flatten.length=m.length * sz:=by
  clear h hY
  induction m with
  | nil=>simp
  | cons c r ih=>rw [yy,yb,ac c (by simp),ih (fun c hc=>ac c (by simp [hc])),yD,yB]; omega
 have ea:∀ {av:Av} {us:List Value},QA ι av w m.flatten us->us.length=m.length * sz:=fun h=>by
  have:=XB h;omega
 have old:∀ (hm:y.elems s cl=some m),∃ us,QA ι (QB aa ι Θ) w m.flatten us/\Sl (fun _=>False) w sz v m.length us:=fun hm=>by
  obtain ⟨us,h1,h2⟩:=LI R hY hm ub ac;exact ⟨us,OC h1,h2⟩
 cases y with
 | sl nil l=>exact old h
 | bl l=>exact old h
 | ref t n sz' off len cap =>
  simp only [AV.raws] at h;split at h
  ·cases hm:s.mem t n with
   | none=>rw [hm] at h; cases h
   | some r =>
    rw [hm,J] at h;obtain ⟨b,hb,tb,cc,af,_,hv⟩:=wF.1 hY;obtain ⟨pf,b',cur,ty,gb,na,oa,_⟩:=R.rows t n r hm;rw [hb] at gb;injection gb with gb;subst gb;obtain ⟨h1,h2,us,hl,fd⟩:=bN oa na h;subst h1;exact ⟨us,hl,ea hl,_,cc,hv,Nat.le_trans tb af,fun _=>⟨b,off,rfl,dA na,fun h=>h,fd⟩⟩
  ·cases h
 | _=>simp [AV.raws] at h
theorem AY {t e:TypeId} {i:TypeInfo} {z:Value} (ht:P.underlying t=some (.slice e)) (hi:P.info? e=some i) (ty:TypeId) {g n c:Nat} {cur:Array Value} (hg:w.heap[g]?=some (.cells cur e (0,0))) (fe:cur.size=c * i.size) (_hz:i.zero=some z)
  {src:Value} {m:Nat} {news:List Value} (hs:Sl (fun _=>False) w i.size src m news) (h1:∀ u∈news,u.oneCell'=true) (tb:n + m<=c) :
  (Builtin.append_ #[t,t] ty #[.slice (some ⟨g,0,none⟩) n c,src]).run P w=.ok (.slice (some ⟨g,0,none⟩) (n + m) c) (w.setRow g (cur.toList.take (n * i.size)++news++cur.toList.drop (n * i.size + news.length)).toArray):=by
 obtain ⟨hl,A,c',rfl,hc,rb⟩:=hs;have eg:n * i.size + news.length<=cur.size:=by rw [hl,fe,<- Nat.add_mul]; exact yO _ tb
 cases A with
 | none =>
  have hm:m=0:=by
   rcases yH m with h | h
   ·exact h
   ·obtain ⟨b,off,hA,_⟩:=rb h; cases hA
  subst hm;have ou:news=[]:=yN (by simpa using hl);subst ou;simp only [Nat.add_zero] at tb;have so:w.setRow g (cur.toList.take (n * i.size)++[]++cur.toList.drop (n * i.size + ([]:List Value).length)).toArray=w:=by
   simp only [yt,List.length_nil,Nat.add_zero,yR,yM];exact setRow_self w g cur e (0,0) hg
  rw [so];simp [Builtin.append_,run_underlying ht,sizeOf,typeInfo,hi,Builtin.lenOf,Builtin.firstCells,tb,storeCells]
 | some a =>
  refine run_append_room (P:=P) w t ty e i ht hi g n c cur hg a m c' news hl (fun j u hu=>?_) h1 tb eg;have hm:0<m:=by
   rcases yH m with h | h
   ·subst h; have:=(yq.1 hu).1; omega
   ·exact h
  obtain ⟨b,off,hA,_,_,md⟩:=rb hm;injection hA with hA;subst hA;rw [Addr.add_lit];exact md j u hu
theorem TS {t e:TypeId} {i:TypeInfo} (ht:P.underlying t=some (.slice e)) (hi:P.info? e=some i) (ty:TypeId) {A:Option Addr} {n c:Nat} (tb:n<=c) {src:Value} {news:List Value} (hs:Sl (fun _=>False) w i.size src 0 news) :
  (Builtin.append_ #[t,t] ty #[.slice A n c,src]).run P w=.ok (.slice A n c) w:=by
 obtain ⟨hl,A',c',rfl,hc,rb⟩:=hs;cases A' <;> cases A <;> simp [Builtin.append_,run_underlying ht,sizeOf,typeInfo,hi,Builtin.lenOf,Builtin.firstCells,tb,storeCells,loadCells,loadCellsFrom]
def grewW (w:World) (xs news:List Value) (z:Value) (e:TypeId) (need c:Nat):World:=w.drew.alloc (.cells (xs.toArray++news.toArray++Builtin.zeroCells z.cells (grownCap w need c e - need)) e)
theorem RS {t e:TypeId} {i:TypeInfo} {z:Value} (ht:P.underlying t=some (.slice e)) (hi:P.info? e=some i) (hz:i.zero=some z) (ty:TypeId) {A:Option Addr} {n c:Nat} {xs:List Value} (ec:xs.length=n * i.size) (hA:A=none->n=0/\c=0) (hx:∀ a,A=some a->∀ j u,xs[j]?=some u->w.cell? (a.add j)=some u)
  {src:Value} {m:Nat} {news:List Value} (hs:Sl (fun _=>False) w i.size src m news) (ia:c<n + m) (hnc:n<=c) (h63:n + m<=140737488355328) (ze:(n + m) * i.bytes<=140737488355328) :
  (Builtin.append_ #[t,t] ty #[.slice A n c,src]).run P w=.ok (.slice (some ⟨w.heap.size,0,none⟩) (n + m) (grownCap w (n + m) c e)) (grewW w xs news z e (n + m) c):=by
 obtain ⟨hl,A',c',rfl,hc,rb⟩:=hs;have hm:0<m:=by omega
 obtain ⟨b,off,rfl,_,_,md⟩:=rb hm;have pb:∀ j u,news[j]?=some u->w.cell? ((⟨b,off,none⟩:Addr).add j)=some u:=fun j u hu=>by rw [Addr.add_lit]; exact md j u hu
 cases A with
 | none =>
  obtain ⟨rfl,rfl⟩:=hA rfl;have ay:xs=[]:=yN (by simpa using ec);subst ay;have:=run_append_nil (P:=P) w t ty e i z ht hi hz ⟨b,off,none⟩ m c' news hl pb hm (by omega) (by rw [yn] at ze; omega);simpa [grewW] using this
 | some a =>
  exact run_append_grow (P:=P) w t ty e i z ht hi hz a n c xs ec (hx a rfl) ⟨b,off,none⟩ m c' news hl pb ia (by omega) (growslice_fits (by omega) ze)
section
variable (R:fB P O nt B F0 aa w0 D s a w ι Θ)
include R
theorem fB.fam (Θ':lH) (f:An->An) (tc:∀ b o,EB ι Θ' b o->EB ι Θ b o) (jr:∀ A v,QH Θ A v->QH Θ' (f A) v)
  (tok:∀ k o,Θ' k=some o->B<=o.g/\0<o.sz/\o.n<=o.c/\o.c<=maxLen/\∃ cur,w.heap[o.g]?=some (.cells cur o.e (0,0))/\(cur.size=o.c * o.sz/\nB P o.e=some o.sz)) (tinj:∀ k k' o o',Θ' k=some o->Θ' k'=some o'->o.g=o'.g->k=k') (apart:∀ k o t n,Θ' k=some o->ι t n≠some o.g)
  (apob:∀ k o t n H,Θ' k=some o->ι.ob t n=some H->¬ H o.g) :
  fB P O nt B F0 aa w0 D (s.mapAn f) a w ι Θ':=by
 have hB:TA (EB ι Θ) (EB ι Θ') w w:=TA.less tc;have hA:TA (QB aa ι Θ) (QB aa ι Θ') w w:=TA.less fun b o h=>h.imp id (tc b o)
 refine ⟨R.defers,R.size,fun t=>UA.held (Ix.Le.refl _) hA hB _ _ (R.env t),fun t=>jr _ _ (R.ann t),fun t n r hr=>?_,R.mine,R.inj,tok,tinj,apart,R.out,R.pin,R.kept,R.base,R.objs,fun t n H h=>?_,fun t=>UA.held (Ix.Le.refl _) hA hB _ _ (R.gen t),fun t=>jr _ _ (R.gann t)⟩
 ·simp only [uA.mapAn] at hr;cases hm:s.mem t n with
  | none=>rw [hm] at hr; cases hr
  | some r0 =>
   rw [hm] at hr;injection hr with hr;subst hr;obtain ⟨h0,b,cur,ty,h1,h2,⟨h3,h4⟩,h8⟩:=R.rows t n r0 hm;refine ⟨h0,b,cur,ty,h1,h2,⟨by simpa using h3,fun j x hx=>?_⟩,h8⟩;rw [yh] at hx;cases hj:r0[j]? with
   | none=>rw [hj] at hx; cases hx
   | some y =>
    rw [hj] at hx;injection hx with hx;subst hx;obtain ⟨u,hu,h5,h6,h7⟩:=h4 j y hj;exact ⟨u,hu,h5,IA.held (Ix.Le.refl _) hA _ _ h6,jr _ _ h7⟩
 ·obtain ⟨h1,h2⟩:=R.obs t n H h;exact ⟨fun b hb=>let ⟨g1,g2,g3,_,g5⟩:=h1 b hb; ⟨g1,g2,g3,fun k o hk e=>apob k o t n H hk h (e ▸ hb),g5⟩,h2⟩
theorem fB.spare {k:Nat} {ow:Ow} (hk:Θ k=some ow) {cur new:Array Value} (fe:w.heap[ow.g]?=some (.cells cur ow.e (0,0))) (ac:new.size=cur.size) (sf:∀ j,j<ow.n * ow.sz->new[j]?=cur[j]?) :
  fB P O nt B F0 aa w0 D s a (w.setRow ow.g new) ι Θ:=by
 have jb:∀ b',b'≠ow.g->(w.setRow ow.g new).heap[b']?=w.heap[b']?:=fun b' h=>setRow_other w ow.g b' new h
 have kc:(w.setRow ow.g new).heap[ow.g]?=some (.cells new ow.e (0,0)):=setRow_heap w ow.g cur new ow.e (0,0) fe;have wd:∀ b o u,w.cell? ⟨b,o,none⟩=some u->(b=ow.g->o<ow.n * ow.sz)->(w.setRow ow.g new).cell? ⟨b,o,none⟩=some u:=fun b o u hc ia=>by
  by_cases hb:b=ow.g
  ·subst hb;rw [cell_of_row _ ow.g o new ow.e (0,0) kc,sf o (ia rfl),<- cell_of_row w ow.g o cur ow.e (0,0) fe];exact hc
  ·exact (World.cell?_of_block (w:=w) (a:=⟨b,o,none⟩) (jb b hb)).trans hc
 have hB:TA (EB ι Θ) (EB ι Θ) w (w.setRow ow.g new):=⟨fun b o u hc hn=>⟨wd b o u hc fun e=>by
  rcases Nat.lt_or_ge o (ow.n * ow.sz) with h | h
  ·exact h
  ·exact absurd (.inr ⟨k,ow,hk,e.symm,h⟩) hn,hn⟩⟩
 have hA:TA (QB aa ι Θ) (QB aa ι Θ) w (w.setRow ow.g new):=⟨fun b o u hc hn=>⟨wd b o u hc fun e=>by
  rcases Nat.lt_or_ge o (ow.n * ow.sz) with h | h
  ·exact h
  ·exact absurd (.inr (.inr ⟨k,ow,hk,e.symm,h⟩)) hn,hn⟩⟩
 refine ⟨R.defers,R.size,fun t=>UA.held (Ix.Le.refl _) hA hB _ _ (R.env t),R.ann,fun t n r hr=>?_,fun t n b h=>?_,R.inj,fun j o h=>?_,R.tinj,R.apart,R.out,R.pin,?_,R.base,fun t n S h=>?_,fun t n H h=>(R.obs t n H h).grow (by simp),fun t=>UA.held (Ix.Le.refl _) hA hB _ _ (R.gen t),R.gann⟩
 ·obtain ⟨h0,b,ra,ty,h1,h2,h3,h8⟩:=R.rows t n r hr;have:b≠ow.g:=fun e=>R.apart k ow t n hk (e ▸ h1)
  exact ⟨h0,b,ra,ty,h1,(jb b this).trans h2,h3.held (Ix.Le.refl _) hA (fun _ _ h=>h),h8⟩
 ·obtain ⟨h1,h2,h3⟩:=R.mine t n b h;exact ⟨h1,by simpa using h2,h3⟩
 ·obtain ⟨h1,h2,h3,h4,ra,h5,h6⟩:=R.tok j o h;by_cases hg:o.g=ow.g
  ·have:=R.tinj _ _ _ _ h hk hg;subst this;rw [hk] at h;injection h with h;subst h;rw [fe] at h5;injection h5 with h5;injection h5 with h5;subst h5;exact ⟨h1,h2,h3,h4,new,kc,ac.trans h6.1,h6.2⟩
  ·exact ⟨h1,h2,h3,h4,ra,(jb _ hg).trans h5,h6⟩
 ·have:=(R.tok k ow hk).1;have hb:=R.base;exact R.kept.setRow (fun ia=>by omega) _
 ·obtain ⟨p,H,h1,h2,h3,h4⟩:=R.objs t n S h;have xj:∀ b',H b'->b'≠ow.g:=fun b' hH e=>(((R.obs _ _ _ h2).1 _ hH).2.2.2.1 k ow hk) e.symm
  exact ⟨p,H,h1,h2,O.keep h3 (fun b' hH=>jb b' (xj b' hH)) (by simp),h4.keep (fun t n b H h g=>⟨h,H,g⟩) fun x hx=>(jb p (xj p (O.main h3))).trans hx⟩
theorem fB.fresh {d:Nat} (hd:Θ d=none) {cur:Array Value} {e:TypeId} {n c sz:Nat} (fe:cur.size=c * sz) (ac:0<sz) (hn:n<=c) (hc:c<=maxLen) (htz:nB P e=some sz) :
  fB P O nt B F0 aa w0 D s a (w.drew.alloc (.cells cur e)) ι (fun j=>if j=d then some ⟨w.heap.size,n,c,sz,e⟩ else Θ j):=by
 have zf:∀ b,b<w.heap.size->(w.drew.alloc (.cells cur e)).heap[b]?=w.heap[b]?:=fun b hb=>Below.heap_alloc w.drew _ b hb
 have zg:∀ b o,b<w.heap.size->EB ι (fun j=>if j=d then some ⟨w.heap.size,n,c,sz,e⟩ else Θ j) b o->EB ι Θ b o:=fun b o hb h=>h.imp id fun ⟨k,ow,h,h1,h2⟩=>by
  by_cases e:k=d
  ·simp only [if_pos e] at h; injection h with h; subst h; simp only at h1; omega
  ·simp only [if_neg e] at h; exact ⟨k,ow,h,h1,h2⟩
 have hB:TA (EB ι Θ) (EB ι (fun j=>if j=d then some ⟨w.heap.size,n,c,sz,e⟩ else Θ j)) w (w.drew.alloc (.cells cur e)):=TA.grown zf zg;have hA:TA (QB aa ι Θ) (QB aa ι (fun j=>if j=d then some ⟨w.heap.size,n,c,sz,e⟩ else Θ j)) w (w.drew.alloc (.cells cur e)):=TA.grown zf fun b o hb h=>h.imp id (zg b o hb)
 have hΘ:∀ k o,Θ k=some o->(fun j=>if j=d then some ⟨w.heap.size,n,c,sz,e⟩ else Θ j) k=some o:=fun k o h=>by
  by_cases e:k=d
  ·subst e; rw [hd] at h; cases h
  ·simp only [if_neg e]; exact h
 have jr:∀ A v,QH Θ A v->QH (fun j=>if j=d then some ⟨w.heap.size,n,c,sz,e⟩ else Θ j) A v:=fun A v h=>by
  cases A with
  | no=>trivial
  | ex=>exact h
  | own k e'=>exact h.imp id fun ⟨ow,h1,h2⟩=>⟨ow,hΘ _ _ h1,h2⟩
 have uo:w.heap.size<=(w.drew.alloc (.cells cur e)).heap.size:=by
  have:(w.drew.alloc (.cells cur e)).heap.size=w.drew.heap.size + 1:=World.size_alloc _ _;have h4:w.drew.heap.size=w.heap.size:=rfl;omega
 refine ⟨R.defers,R.size,fun t=>UA.held (Ix.Le.refl _) hA hB _ _ (R.env t),fun t=>jr _ _ (R.ann t),fun t n r hr=>?_,fun t n b h=>?_,R.inj,fun j o h=>?_,fun k k' o o' h h' hg=>?_,fun k o t n h h'=>?_,R.out,R.pin,R.kept.drew.alloc _,R.base,fun t n S h=>?_,fun t n H h=>?_,fun t=>UA.held (Ix.Le.refl _) hA hB _ _ (R.gen t),fun t=>jr _ _ (R.gann t)⟩
 ·obtain ⟨h0,b,ra,ty,h1,h2,h3,h8⟩:=R.rows t n r hr;exact ⟨h0,b,ra,ty,h1,(zf b (dA h2)).trans h2,h3.held (Ix.Le.refl _) hA hΘ,h8⟩
 ·obtain ⟨h1,h2,h3⟩:=R.mine t n b h;exact ⟨h1,by omega,h3⟩
 ·by_cases e':j=d
  ·simp only [if_pos e'] at h;injection h with h;subst h;exact ⟨R.lowB,ac,hn,hc,cur,tP rfl,fe,htz⟩
  ·simp only [if_neg e'] at h;obtain ⟨h1,h2,h3,h4,ra,h5,h6⟩:=R.tok j o h;exact ⟨h1,h2,h3,h4,ra,(zf _ (dA h5)).trans h5,h6⟩
 ·by_cases e1:k=d <;> by_cases e2:k'=d
  ·rw [e1,e2]
  ·simp only [if_pos e1] at h; simp only [if_neg e2] at h';injection h with h; subst h;obtain ⟨_,_,_,_,ra,h5,_⟩:=R.tok _ _ h';have:=dA h5;simp only at hg; omega
  ·simp only [if_neg e1] at h; simp only [if_pos e2] at h';injection h' with h'; subst h';obtain ⟨_,_,_,_,ra,h5,_⟩:=R.tok _ _ h;have:=dA h5;simp only at hg; omega
  ·simp only [if_neg e1] at h; simp only [if_neg e2] at h';exact R.tinj _ _ _ _ h h' hg
 ·by_cases e':k=d
  ·simp only [if_pos e'] at h;injection h with h;subst h;have:=(R.mine _ _ _ h').2.1;simp only at this; omega
  ·simp only [if_neg e'] at h;exact R.apart k o t n h h'
 ·obtain ⟨p,H,h1,h2,h3,h4⟩:=R.objs t n S h;exact ⟨p,H,h1,h2,O.keep h3 (fun b' hH=>zf b' (O.lt h3 hH)) uo,h4.keep (fun t n b H h g=>⟨h,H,g⟩) fun x hx=>(zf _ (dA hx)).trans hx⟩
 ·obtain ⟨h1,h2⟩:=R.obs t n H h;refine ⟨fun b hb=>?_,h2⟩;obtain ⟨g1,g2,g3,g4,g5⟩:=h1 b hb;refine ⟨g1,by omega,g3,fun k o hk=>?_,g5⟩;by_cases e':k=d
  ·simp only [if_pos e'] at hk;injection hk with hk;subst hk;simp only;omega
  ·simp only [if_neg e'] at hk;exact g4 k o hk
end
end
end
end Go.Proofs.YtbhbeakhognieaaGreatDoor
