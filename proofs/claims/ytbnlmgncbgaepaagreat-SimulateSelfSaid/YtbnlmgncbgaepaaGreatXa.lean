/- A part of the proof. -/
import Derived.Calls
import Derived.Orders
import Derived.Below
import Derived.Scope
import Derived.Test.YtbnlmgncbgaepaaGreatRows
import Derived.WalkKit
import Derived.WalkSpells
import Derived.WalkLawsBesides
import Derived.Handy
import Derived.Maps.AppendAt
import Derived.Lib.FrozenHead
import Derived.Laws.Cells
import Derived.ChangeKeysEq
import Derived.Laws.Tables
set_option linter.all false
set_option maxRecDepth 100000
set_option maxHeartbeats 8000000
open Option renaming bind_some → V, bind_eq_some_iff → y8, map_eq_some_iff → yh, map_some → yA
open List renaming range_succ → J, map_map → y0, getElem?_eq_getElem → y4, all_eq_true → y5, getElem?_eq_some_iff → y9, drop_eq_getElem_cons → yb, getElem?_map → yc, drop_eq_nil_of_le → ye, mem_cons → yf, map_cons → yg, mem_of_getElem? → yj, mem_cons_self → yk, length_append → yl, map_nil → yn, length_map → yo, mem_cons_of_mem → yp, map_congr_left → yq, mem_append → yt, take_of_length_le → yx, mem_map → yy, flatten_cons → yz, getElem_of_mem → yB, length_take → yC, replicate → yD, length_cons → yE, getElem?_append_left → yF, eq_nil_of_length_eq_zero → yM, getElem?_take → yO, nil_append → yP, getElem?_append_right → yR, map_append → yS, getElem?_drop → yT, append_assoc → yU, getElem?_eq_none → yW
open Nat renaming le_refl → ym, succ_mul → yw, zero_add → yG, eq_zero_or_pos → yK, mul_le_mul_right → yX
open Bool renaming false_eq_true → yr
open Array renaming toArray_toList → yQ, length_toList → yV, getD_eq_getD_getElem? → yZ
namespace Go.Proofs.YtbnlmgncbgaepaaGreat
open Go
inductive AV where
 | int (k:IntKind) (n:Int)
 | bool (b:Bool)
 | str (s:ByteArray)
 | nilP
 | ptr (t n off:Nat)
 | ip (cs:List AV)
 | bp (cs:List AV)
 | sl (nil:Bool) (l:List (List AV))
 | bl (l:List (List AV))
 | ref (t n sz off len cap:Nat)
 | mp (t n:Nat)
 | fn (f:Nat) (caps:List AV)
 | agg (cs:List AV)
 | tup (vs:List AV)
 | undef
 deriving Inhabited
inductive An where
 | no
 | ex
 | own (k:Nat) (e:TypeId)
structure qA where
 v:AV
 a:An
inductive LB where
 | t (n:Nat)
 | c (v:AV)
 deriving Inhabited
inductive Cl where
 | any
 | imm
 | root (t:Nat)
 /-- in no box of these slots -/
 | out (L:List Nat)
inductive KTy where
 | none
 | some (k:IntKind)
 | agg (l:List (Option IntKind))
instance:Inhabited KTy:=⟨.none⟩
inductive K where
 | mv (x:LB)
 | pick (c a b:LB)
 | alloc (zero:List AV)
 | box (size:Nat) (x:LB)
 | build (zero:List AV) (parts:List (Nat × Nat × LB))
 | bsl (zero:List AV) (n:Nat) (parts:List (Nat × LB))
 | load (cl:Cl) (agg:Bool) (size:Nat) (x:LB)
 | store (cl:Cl) (agg:Bool) (size:Nat) (x y:LB)
 | bin (op:BinOp) (bl:Bool) (x y:LB)
 | mm (mx:Bool) (x y:LB)
 | eqa (neg:Bool) (ks:List Nat) (x y:LB)
 | eqn (neg ptr:Bool) (x y:LB)
 | un (op:UnOp) (x:LB)
 | conv (k:Option IntKind) (x:LB)
 | rstr (x:LB)
 | bstr (cl:Cl) (x:LB)
 | mks (size bytes:Nat) (zero:List AV) (len cap:LB)
 | slc (str:Bool) (size:Nat) (x:LB) (lo hi mx:Option LB)
 | aslc (cl:Cl) (len size:Nat) (x:LB) (lo hi:Option LB)
 | faddr (off:Nat) (x:LB)
 | field (agg:Bool) (off size:Nat) (x:LB)
 | iaddr (size:Nat) (x i:LB)
 | aaddr (len size:Nat) (x i:LB)
 | index (x i:LB)
 | ext (x:LB) (i:Nat)
 | call (cl:Cl) (f:Nat) (xs:List LB)
 | callf (cl:Cl) (f:Nat) (sz:Nat) (xs:List LB)
 | mkf (f:Nat) (xs:List LB)
 | callv (cl:Cl) (x:LB) (xs:List LB)
 | callr (cl:Cl) (f:Nat) (xs:List LB)
 | callh (nt:Nat) (x:LB) (xs:List LB)
 | len (str:Bool) (x:LB)
 | app (cl:Cl) (e:TypeId) (size bytes:Nat) (x y:LB)
 | appf (cl:Cl) (e:TypeId) (size bytes:Nat) (x y:LB)
 | appm (cl:Cl) (e:TypeId) (size bytes:Nat) (x y:LB)
 | appn (cl:Cl) (e:TypeId) (size bytes:Nat) (x y:LB)
 | bslr (size:Nat) (zero:List AV) (n:Nat) (parts:List (Nat × LB))
 | mkm
 | mkb (T e:TypeId)
 | mget (ok:Bool) (ty:KTy) (zero:AV) (x k:LB)
 | mset (ty:KTy) (x k v:LB)
 | mlen (x:LB)
 | rng (x:LB)
 | slz (x:LB)
 | ent (x:LB)
 | nxt (x:LB)
 | nilchk (x:LB)
 | bad
 deriving Inhabited
instance:Inhabited Cl:=⟨.any⟩
structure UA where
 dst:Option Nat
 op:K
 guard:Option (Nat × Bool)
inductive C where
 | skip
 | seq (a b:C)
 | reg (ops:List UA)
 | cond (c:LB) (t e:C)
 | block (id:Nat) (b:C)
 | loop (b:C)
 | exit (id:Nat)
 | ret
inductive Ex where
 | nrm
 | exit (id:Nat)
 | ret
structure aA where
 env:Nat->qA
 mem:Nat->Nat->Option (List qA)
 next:Nat
 obj:Nat->Nat->Option AV
 /-- the slots of the calls that wait -/
 gh:Nat->qA
def An.strip (k:Nat):An->An
 | .own j e=>if j=k then .no else .own j e
 | a=>a
def qA.strip (k:Nat) (x:qA):qA:=⟨x.v,x.a.strip k⟩
def aA.strip (s:aA) (k:Nat):aA:=⟨fun t=>(s.env t).strip k,fun t n=>(s.mem t n).map (·.map (qA.strip k)),s.next,s.obj,fun t=>(s.gh t).strip k⟩
def aA.stripA (s:aA):An->aA
 | .own k _=>s.strip k
 | _=>s
def aA.put (s:aA) (d:Option Nat) (x:qA):aA:=match d with
 | some d=>{ s with env:=fun t=>if t=d then x else s.env t }
 | none=>s
def aA.setRow (s:aA) (t n:Nat) (r:List qA):aA:={ s with mem:=fun t' n'=>if t'=t/\n'=n then some r else s.mem t' n' }
def aA.setObj (s:aA) (t n:Nat) (S:AV):aA:={ s with obj:=fun t' n'=>if t'=t/\n'=n then some S else s.obj t' n' }
def sA (l:List (List AV)):List qA:=l.flatten.map (⟨·,.no⟩)
def AV.kill0 (t n:Nat):AV->AV
 | .ptr t' n' o=>if t'=t/\n'=n then .undef else .ptr t' n' o
 | .ref t' n' z o l c=>if t'=t/\n'=n then .undef else .ref t' n' z o l c
 | .mp t' n'=>if t'=t/\n'=n then .undef else .mp t' n'
 | v=>v
def AV.kill1 (t n:Nat):AV->AV
 | .agg cs=>.agg (cs.map (AV.kill0 t n))
 | v=>v.kill0 t n
def AV.kill (t n:Nat):AV->AV
 | .agg cs=>.agg (cs.map (AV.kill0 t n))
 | .tup vs=>.tup (vs.map (AV.kill1 t n))
 | .fn f vs=>.fn f (vs.map (AV.kill0 t n))
 | v=>v.kill0 t n
def qA.kill (t n:Nat) (x:qA):qA:=⟨x.v.kill t n,x.a⟩
def aA.kill (s:aA) (t n:Nat):aA:=⟨fun j=>(s.env j).kill t n,fun t' n'=>if t'=t/\n'=n then none else (s.mem t' n').map (·.map (qA.kill t n)),s.next,s.obj,fun j=>(s.gh j).kill t n⟩
def aA.killO (s:aA):Option (Nat × Nat)->aA
 | none=>s
 | some p=>s.kill p.1 p.2
def LB.get (s:aA):LB->AV
 | .t n=>(s.env n).v
 | .c v=>v
def LB.an (s:aA):LB->An
 | .t n=>(s.env n).a
 | .c (.sl true _)=>.ex
 | .c _=>.no
def AV.cells:AV->List AV
 | .agg cs=>cs
 | v=>[v]
def AV.leaf:AV->Bool
 | .agg _ | .tup _ | .bp _ | .bl _ | .fn .. | .undef=>false
 | _=>true
def AV.whole:AV->Bool
 | .agg _=>true
 | v=>v.leaf
def AV.free0:AV->Bool
 | .ptr .. | .bp _ | .bl _ | .ref .. | .mp .. | .fn .. | .undef | .agg _ | .tup _=>false
 | _=>true
def AV.free:AV->Bool
 | .agg cs=>cs.all AV.free0
 | v=>v.free0
def aE (row:List qA) (sz off len:Nat):Option (List (List AV)) :=
 if off + len * sz<=row.length/\row.all (fun x=>x.v.free0) then some ((List.range len).map fun i=>((row.drop (off + i * sz)).take sz).map (·.v)) else none
def Cl.okMem:Cl->Bool
 | .any=>true
 | _=>false
def AV.elems (s:aA) (cl:Cl):AV->Option (List (List AV))
 | .sl _ l=>some l
 | .bl l=>some l
 | .ref t n sz off len _=>if cl.okMem then (s.mem t n).bind fun r=>aE r sz off len else none
 | _=>none
def jH (row:List qA) (sz off len:Nat):Option (List (List AV)) :=
 if off + len * sz<=row.length then some ((List.range len).map fun i=>((row.drop (off + i * sz)).take sz).map (·.v)) else none
def AV.raws (s:aA) (cl:Cl):AV->Option (List (List AV))
 | .sl _ l=>some l
 | .bl l=>some l
 | .ref t n sz off len _=>if cl.okMem then (s.mem t n).bind fun r=>jH r sz off len else none
 | _=>none
def AV.noName (t n:Nat):AV->Bool
 | .ptr t' n' _ | .ref t' n' _ _ _ _ | .mp t' n'=>!(decide (t'=t)&&decide (n'=n))
 | .agg _ | .tup _ | .fn ..=>false
 | _=>true
def KR:AV->Option Nat
 | .int _ n=>if 0<=n then some n.toNat else none
 | _=>none
def WJ (s:aA) (d:Nat):Option LB->Option Nat
 | none=>some d
 | some o=>KR (o.get s)
def QR (cells:List AV):List (Nat × Nat × List AV)->Option (List AV)
 | []=>some cells
 | (off,size,v) :: r=>if v.length=size/\off + size<=cells.length then QR (cells.take off++v++cells.drop (off + size)) r else none
def kR (k:IntKind) (r:BitVec k.bits):AV:=.int k (k.wrap r.toNat)
def shN (k:IntKind) (b:Int):Nat:=min b.toNat k.bits
def AS (op:BinOp) (bl:Bool):AV->AV->Option AV
 | .int k a,.int k' b=>match op with
  | .shl=>if 0<=b then some (.int k (k.wrap (a * 2 ^ shN k b))) else none
  | .shr=>if 0<=b then some (.int k (a.fdiv (2 ^ shN k b))) else none
  | _=>if k=k' then (match op with
  | .and=>some (kR k (BitVec.ofInt k.bits a &&& BitVec.ofInt k.bits b))
  | .or=>some (kR k (BitVec.ofInt k.bits a ||| BitVec.ofInt k.bits b))
  | .xor=>some (kR k (BitVec.ofInt k.bits a ^^^ BitVec.ofInt k.bits b))
  | .andNot=>some (kR k (BitVec.ofInt k.bits a &&& ~~~ BitVec.ofInt k.bits b))
  | .add=>some (.int k (k.wrap (a + b)))
  | .sub=>some (.int k (k.wrap (a - b)))
  | .mul=>some (.int k (k.wrap (a * b)))
  | .quo=>if b=0 then none else some (.int k (k.wrap (a.tdiv b)))
  | .rem=>if b=0 then none else some (.int k (a.tmod b))
  | .eql=>some (.bool (decide (a=b)))
  | .neq=>some (.bool (!decide (a=b)))
  | .lss=>some (.bool (decide (a<b)))
  | .leq=>some (.bool (decide (a<=b)))
  | .gtr=>some (.bool (decide (b<a)))
  | .geq=>some (.bool (decide (b<=a)))
  | _=>none) else none
 | .str a,.str b=>match op with
  | .add=>if a.size + b.size<=9223372036854775807 then some (.str (a++b)) else none
  | .eql=>some (.bool (decide (a=b)))
  | .neq=>some (.bool (!decide (a=b)))
  | .lss=>some (.bool (Op.bytesLess a.toList b.toList))
  | .gtr=>some (.bool (!(Op.bytesLess a.toList b.toList||decide (a=b))))
  | .leq=>some (.bool (Op.bytesLess a.toList b.toList||decide (a=b)))
  | .geq=>some (.bool (!Op.bytesLess a.toList b.toList))
  | _=>none
 | .bool a,.bool b=>if bl then (match op with
  | .eql=>some (.bool (a == b))
  | .neq=>some (.bool (!(a == b)))
  | _=>none) else none
 | _,_=>none
def mmC (mx:Bool):AV->AV->Option AV
 | .int k a,.int k' b=>if k=k' then some (.int k (if mx then max a b else min a b)) else none
 | _,_=>none
def zL:List Nat->List AV->List AV->Option Bool
 | [],[],[]=>some true
 | 0 :: ks,.int k a :: r,.int k' b :: r'=>if k=k' then (if a=b then zL ks r r' else some false) else none
 | 1 :: ks,.str a :: r,.str b :: r'=>if a=b then zL ks r r' else some false
 | 2 :: ks,.bool a :: r,.bool b :: r'=>if a=b then zL ks r r' else some false
 | _,_,_=>none
def AR:Bool->AV->Option Bool
 | false,.sl true _=>some true
 | false,.sl false l=>if l.isEmpty then none else some false
 | false,.bl _=>some false
 | false,.ref ..=>some false
 | true,.nilP=>some true
 | true,.ptr ..=>some false
 | true,.ip _=>some false
 | true,.bp _=>some false
 | _,_=>none
inductive nD where
 | none
 | new (r:List qA)
 | set (t n:Nat) (r:List qA)
 | app (a:An) (k:Nat)
 | obj (t n:Nat) (S:AV)
 | mk (S:AV)
 | rn (k:Option (Nat × Nat)) (r:List qA)
 | ob2 (t n:Nat) (S:AV) (r:List qA)
def Cl.okPtr:Cl->Nat->Bool
 | .any,_=>true
 | .imm,_=>false
 | .root r,t=>r == t
 | .out L,t=>!L.contains t
def MA (agg:Bool) (size off:Nat) (row:List qA):Option qA :=
 if agg then (if off + size<=row.length then some ⟨.agg (((row.drop off).take size).map (·.v)),.no⟩ else none)
 else row[off]?
def IG (agg:Bool) (size:Nat) (cs:List AV):Option AV :=
 if agg then (if size<=cs.length then some (.agg (cs.take size)) else none) else cs[0]?
def DR (s:aA) (cl:Cl):AV->Option AV
 | .ref t n sz off len _=>if cl.okMem then ((s.mem t n).bind fun r=>aE r sz off len).map .bl else none
 | .bl l=>some (.bl l)
 | .bp l=>some (.bp l)
 | .ptr t n off=>if off=0/\cl.okMem/\(s.obj t n).isSome then some (.ptr 0 0 0) else none
 | v=>if v.free then some v else none
def eP (s:aA) (cl:Cl):AV->Option AV
 | .ptr t n off=>if cl.okMem then match s.mem t n with
  | some r=>if (r.drop off).all (fun x=>x.v.free0) then some (.bp ((r.drop off).map (·.v))) else none
  | none=>none else none
 | .bp l=>some (.bp l)
 | .nilP=>some .nilP
 | _=>none
def OD (s:aA) (cl:Cl):List AV->Option (List AV)
 | []=>some []
 | x :: r=>match eP s cl x,OD s cl r with
  | some v,some vs=>some (v :: vs)
  | _,_=>none
def qG (s:aA) (cl:Cl):AV->Option AV
 | .fn f cs=>(OD s cl cs).map (.fn f)
 | v=>DR s cl v
def tF:AV->Option (Nat × Nat)
 | .ptr t n _=>some (t,n)
 | .ref t n _ _ _ _=>some (t,n)
 | _=>none
def UG (s:aA) (cl:Cl) (t n:Nat):AV->Option AV
 | .ptr t' n' off=>if t'=t/\n'=n then some (.ptr 0 0 off) else none
 | .ref t' n' sz off len cap=>if t'=t/\n'=n then some (.ref 0 0 sz off len cap) else DR s cl (.ref t' n' sz off len cap)
 | .fn f cs=>if cs.isEmpty then some (.fn f []) else none
 | v=>DR s cl v
def bD (s:aA) (cl:Cl) (t n:Nat):List LB->Option (List AV)
 | []=>some []
 | x :: r=>match UG s cl t n (x.get s),bD s cl t n r with
  | some v,some vs=>some (v :: vs)
  | _,_=>none
def zC (s:aA):List LB->Option (Nat × Nat)
 | []=>none
 | x :: _=>tF (x.get s)
def AV.capOk:AV->Bool
 | .ptr .. | .bp _ | .nilP=>true
 | _=>false
def bytesOf:List (List AV)->Option (List UInt8)
 | []=>some []
 | c :: r=>match c,bytesOf r with
  | [.int .u8 n],some l=>some (UInt8.ofNat n.toNat :: l)
  | _,_=>none
def TJ (s:aA) (xs:List LB):List (Nat × Nat):=xs.filterMap fun x=>match x.get s with
 | .ptr t n _=>some (t,n)
 | _=>none
def EE (s:aA) (cl:Cl):List LB->Option (List AV)
 | []=>some []
 | x :: r=>match qG s cl (x.get s),EE s cl r with
  | some v,some vs=>some (v :: vs)
  | _,_=>none
def AV.isUn:AV->Bool
 | .undef=>true
 | _=>false
def AV.back:AV->Bool
 | .tup vs=>vs.all fun v=>v.free||v.isUn
 | v=>v.free
def AV.isObj:AV->Bool
 | .ptr 0 0 0=>true
 | _=>false
def AV.backN:AV->Bool
 | .tup vs=>vs.all fun v=>v.free||v.isObj
 | v=>v.isObj
def AV.named (d n:Nat):AV->AV
 | .tup vs=>.tup (vs.map fun v=>if v.isObj then .ptr d n 0 else v)
 | .mp _ _=>.mp d n
 | v=>if v.isObj then .ptr d n 0 else v
def lB (size:Nat) (l:List (List AV)):Bool:=l.all (·.length == size)
def eB (bytes n:Nat):Bool:=decide (n * bytes<=140737488355328)&&decide (n<=140737488355328)
theorem EA {b n:Nat}:eB b n=true ↔ n * b<=140737488355328/\n<=140737488355328:=by simp [eB]
theorem elsOk_nil (z:Nat):lB z []=true:=rfl
theorem AQ (z:Nat) (c:List AV) (l:List (List AV)):lB z (c :: l)=(decide (c.length=z)&&lB z l):=rfl
theorem SZ (z:Nat) (l m:List (List AV)):lB z (l++m)=(lB z l&&lB z m):=by simp [lB]
theorem cC {α:Type} (z:Nat) (f:α->List AV) (l:List α) (h:∀ x,(f x).length=z):lB z (l.map f)=true:=by simp [lB,h]
theorem EV {z:Nat} {l:List (List AV)} (h:lB z l=true) (n:Nat):lB z (l.take n)=true:=by
 simp only [lB,y5] at h ⊢;exact fun x hx=>h x (List.mem_of_mem_take hx)
theorem J6 {z:Nat} {l:List (List AV)} (h:lB z l=true) (n:Nat):lB z (l.drop n)=true:=by
 simp only [lB,y5] at h ⊢;exact fun x hx=>h x (List.mem_of_mem_drop hx)
def AV.scal:AV->Bool
 | .int .. | .bool _ | .str _=>true
 | _=>false
def AV.flat:AV->Bool
 | .agg cs=>cs.all AV.scal
 | v=>v.scal
def OG (L:List (List AV)):AV:=.tup [.undef,.sl false L]
def ZI:AV->Option (List (List AV))
 | .tup [.undef,.sl false L]=>some L
 | _=>none
theorem XE (L:List (List AV)):ZI (OG L)=some L:=rfl
def bldAV (T e:TypeId) (s:ByteArray):AV:=.tup [.undef,.undef,.int .i64 (T:Nat),.int .i64 (e:Nat),.str s]
def bldOf:AV->Option (TypeId × TypeId × ByteArray)
 | .tup [.undef,.undef,.int _ T,.int _ e,.str s]=>some (T.toNat,e.toNat,s)
 | _=>none
def XZ (tm nm N:Nat) (seen:List Nat):AV:=.tup [.undef,.undef,.undef,.mp tm nm,.int .i64 N,.sl false (seen.map fun i:Nat=>[.int .i64 i])]
def CZ:List (List AV)->List Nat
 | [.int _ i] :: r=>i.toNat :: CZ r
 | _=>[]
def BV:AV->Option (Nat × Nat × Nat × List Nat)
 | .tup [.undef,.undef,.undef,.mp tm nm,.int _ N,.sl false l]=>some (tm,nm,N.toNat,CZ l)
 | _=>none
theorem NV:∀ l:List Nat,CZ (l.map fun i:Nat=>[AV.int .i64 i])=l
 | []=>rfl
 | i :: r=>by simp [CZ,NV r]
theorem qV (tm nm N:Nat) (seen:List Nat):BV (XZ tm nm N seen)=some (tm,nm,N,seen):=by simp [BV,XZ,NV]
def J4 (S:AV):Bool:=(BV S).isNone
def noItO:Option AV->Bool
 | none=>true
 | some S=>J4 S
noncomputable def B0 (f:Nat->Option (AV × Option AV)) (z:Option (AV × Option AV)):List Nat->Option (AV × Option AV)
 | []=>z
 | [i]=>f i
 | i :: j :: r=>open Classical in if ∀ x∈j :: r,f x=f i then f i else none
def PI:List (Option IntKind)->List AV->Bool
 | [],[]=>true
 | .some k :: r,.int k' _ :: cs=>decide (k=k')&&PI r cs
 | .none :: r,.str _ :: cs=>PI r cs
 | _,_=>false
def NF:KTy->AV->Bool
 | .some k,.int k' _=>decide (k=k')
 | .none,.str _=>true
 | .agg l,.agg cs=>PI l cs
 | _,_=>false
def AI (ty:KTy) (L:List (List AV)):Bool:=L.all fun e=>match e with
 | [k,v]=>NF ty k&&v.flat
 | _=>false
def HQ:List AV->List AV->Bool
 | [],[]=>true
 | .int k a :: r,.int k' b :: r'=>(decide (k=k')&&decide (a=b))&&HQ r r'
 | .str a :: r,.str b :: r'=>decide (a=b)&&HQ r r'
 | _,_=>false
def TO:AV->AV->Bool
 | .int k a,.int k' b=>decide (k=k')&&decide (a=b)
 | .str a,.str b=>decide (a=b)
 | .agg a,.agg b=>HQ a b
 | _,_=>false
def DI:List (List AV)->AV->Option AV
 | [],_=>none
 | e :: r,k=>match e with
  | [k',v]=>if TO k' k then some v else DI r k
  | _=>DI r k
def lG:List (List AV)->AV->AV->List (List AV)
 | [],k,v=>[[k,v]]
 | e :: r,k,v=>match e with
  | [k',_]=>if TO k' k then [k,v] :: r else e :: lG r k v
  | _=>e :: lG r k v
abbrev RV:=AV × Option AV
abbrev AB:=Nat->List AV->Option AV->Option RV
abbrev LpT:=C->aA->(Ex->aA->Option RV)->Option RV
abbrev HpT:=Nat->List qA->aA->(qA->aA->Option RV)->Option RV
structure LH where
 l:LpT
 h:HpT
instance:CoeFun LH (fun _=>LpT):=⟨LH.l⟩
def mA (agg:Bool) (size off:Nat) (row:List qA) (x:AV) (a:An):Option (List qA) :=
 if agg then match x with
  | .agg cs=>if cs.length=size/\off + size<=row.length then some (row.take off++cs.map (⟨·,.no⟩)++row.drop (off + size)) else none
  | _=>none
 else if x.leaf/\off<row.length then some (row.set off ⟨x,a⟩) else none
def AC:Bool->An->An
 | true,_=>.ex
 | false,a=>a
def KB:AV->An
 | .sl true _=>.ex
 | _=>.no
def K.run (call:AB) (s:aA):K->Option (qA × nD)
 | .mv x=>some (⟨x.get s,x.an s⟩,.none)
 | .pick c a b=>match c.get s with
  | .bool t=>some (if t then ⟨a.get s,a.an s⟩ else ⟨b.get s,b.an s⟩,.none)
  | _=>none
 | .alloc zero=>some (⟨.ptr 0 0 0,.no⟩,.new (zero.map fun v=>⟨v,KB v⟩))
 | .box size x=>match x.get s with
  | .agg cs=>if cs.length=size then some (⟨.ptr 0 0 0,.no⟩,.new (cs.map (⟨·,.no⟩))) else none
  | v=>if v.leaf then some (⟨.ptr 0 0 0,.no⟩,.new [⟨v,x.an s⟩]) else none
 | .build zero parts=>if parts.all (fun p=>(p.2.2.get s).whole) then
   (QR zero (parts.map fun p=>(p.1,p.2.1,(p.2.2.get s).cells))).map fun cs=>(⟨.agg cs,.no⟩,.none) else none
 | .bsl zero n parts=>if parts.map (·.1)=List.range n/\parts.all (fun p=>(p.2.get s).free&&decide ((p.2.get s).cells.length=zero.length)) then
   some (⟨.sl false (parts.map fun p=>(p.2.get s).cells),.ex⟩,.none) else none
 | .load cl agg size x=>match x.get s with
  | .ptr t n off=>if cl.okPtr t then ((s.mem t n).bind (MA agg size off)).map fun x=>(x,.none) else none
  | .ip cs=>match cl with
   | .root _=>none
   | _=>(IG agg size cs).map fun v=>(⟨v,.no⟩,.none)
  | .bp cs=>match cl with
   | .root _=>none
   | _=>(IG agg size cs).map fun v=>(⟨v,.no⟩,.none)
  | _=>none
 | .store cl agg size x y=>match x.get s with
  | .ptr t n off=>if cl.okPtr t then ((s.mem t n).bind fun r=>mA agg size off r (y.get s) (y.an s)).map fun r=>(⟨.undef,.no⟩,.set t n r) else none
  | _=>none
 | .bin op t x y=>(AS op t (x.get s) (y.get s)).map fun v=>(⟨v,.no⟩,.none)
 | .mm mx x y=>(mmC mx (x.get s) (y.get s)).map fun v=>(⟨v,.no⟩,.none)
 | .eqa neg ks x y=>match x.get s,y.get s with
  | .agg a,.agg b=>(zL ks a b).map fun t=>(⟨.bool (t != neg),.no⟩,.none)
  | _,_=>none
 | .eqn neg ptr x y=>match ptr,y.get s with
  | false,.sl true _=>(AR false (x.get s)).map fun t=>(⟨.bool (t != neg),.no⟩,.none)
  | true,.nilP=>(AR true (x.get s)).map fun t=>(⟨.bool (t != neg),.no⟩,.none)
  | _,_=>none
 | .un op x=>match op,x.get s with
  | .not,.bool b=>some (⟨.bool (!b),.no⟩,.none)
  | .neg,.int k n=>some (⟨.int k (k.wrap (0 - n)),.no⟩,.none)
  | _,_=>none
 | .conv k x=>match k,x.get s with
  | some k,.int _ n=>some (⟨.int k (k.wrap n),.no⟩,.none)
  | none,.str b=>some (⟨.str b,.no⟩,.none)
  | _,_=>none
 | .rstr x=>match x.get s with
  | .int _ n=>some (⟨.str (Utf8.encode n),.no⟩,.none)
  | _=>none
 | .bstr cl x=>match (x.get s).elems s cl with
  | some l=>(bytesOf l).map fun bs=>(⟨.str ⟨bs.toArray⟩,.no⟩,.none)
  | none=>none
 | .aslc cl ln size x lo hi=>match x.get s with
  | .ptr t n o=>match WJ s 0 lo,WJ s ln hi,s.mem t n with
   | some l,some h,some r=>if l<=h/\h<=ln/\0<size/\o + ln * size<=r.length/\cl.okMem=true then
     (if h=l then some (⟨.sl false [],.no⟩,.none) else some (⟨.ref t n size (o + l * size) (h - l) (ln - l),.no⟩,.none)) else none
   | _,_,_=>none
  | _=>none
 | .mkf f xs=>if xs.all (fun x=>(x.get s).capOk) then some (⟨.fn f (xs.map (·.get s)),.no⟩,.none) else none
 | .callv cl x xs=>match x.get s with
  | .fn f cs=>match EE s cl xs,OD s cl cs,TJ s xs with
   | some vs,some ws,[]=>(call f (vs++ws) none).bind fun r=>match r.2 with
    | none=>if r.1.back then some (⟨r.1,.no⟩,.none) else none
    | some _=>none
   | _,_,_=>none
  | _=>none
 | .callr cl f xs=>match zC s xs with
  | some (t,n)=>if cl.okPtr t then (match s.mem t n,bD s cl t n xs with
   | some r,some vs=>if r.all (fun x=>x.v.free0) then (call f (.undef :: .undef :: vs) (some (.agg (r.map (·.v))))).bind fun q=>match q.2 with
     | some (.agg cs)=>if q.1.back/\cs.length=r.length/\cs.all AV.free0=true then some (⟨q.1,.no⟩,.set t n (cs.map fun v=>⟨v,KB v⟩)) else none
     | _=>none else none
   | _,_=>none) else none
  | none=>none
 | .callh ..=>none
 | .bad=>none
 | .mks size bytes zero ln cap=>match KR (ln.get s),KR (cap.get s) with
  | some l,some c=>if l<=c/\c * bytes<=140737488355328/\c<=140737488355328/\zero.length=size then some (⟨.ref 0 0 size 0 l c,.no⟩,.new ((List.replicate c zero).flatten.map (⟨·,.no⟩))) else none
  | _,_=>none
 | .slc str size x lo hi mx=>match mx with
  | some _=>none
  | none =>
   match WJ s 0 lo with
   | none=>none
   | some l=>match x.get s with
    | .sl b e=>match WJ s e.length hi with
     | some h=>if l<=h/\h<=e.length/\lB size e=true/\str=false then some (⟨.sl b ((e.take h).drop l),.no⟩,.none) else none
     | _=>none
    | .bl e=>match WJ s e.length hi with
     | some h=>if l<=h/\h<=e.length/\lB size e=true/\str=false then some (⟨.bl ((e.take h).drop l),.no⟩,.none) else none
     | _=>none
    | .ref t n sz off ln cap=>match WJ s ln hi with
     | some h=>if l<=h/\h<=cap/\sz=size/\str=false then (if h=l/\¬ (l=0/\0<cap) then some (⟨.sl false [],.no⟩,.none) else some (⟨.ref t n sz (off + l * sz) (h - l) (cap - l),.no⟩,.none)) else none
     | _=>none
    | .str b=>match WJ s b.size hi with
     | some h=>if l<=h/\h<=b.size/\str=true then some (⟨.str (b.extract l h),.no⟩,.none) else none
     | _=>none
    | _=>none
 | .faddr off x=>match x.get s with
  | .ptr t n o=>some (⟨.ptr t n (o + off),.no⟩,.none)
  | .ip cs=>some (⟨.ip (cs.drop off),.no⟩,.none)
  | .bp cs=>some (⟨.bp (cs.drop off),.no⟩,.none)
  | _=>none
 | .field agg off size x=>match x.get s with
  | .agg cs=>(IG agg size (cs.drop off)).map fun v=>(⟨v,.no⟩,.none)
  | _=>none
 | .aaddr ln size x i=>match KR (i.get s) with
  | some k=>if k<ln then (match x.get s with
   | .ptr t n o=>some (⟨.ptr t n (o + k * size),.no⟩,.none)
   | .ip cs=>some (⟨.ip (cs.drop (k * size)),.no⟩,.none)
   | .bp cs=>some (⟨.bp (cs.drop (k * size)),.no⟩,.none)
   | _=>none) else none
  | none=>none
 | .iaddr size x i=>match KR (i.get s) with
  | some k=>match x.get s with
   | .sl _ l=>l[k]?.bind fun cs=>if cs.length=size then some (⟨.ip cs,.no⟩,.none) else none
   | .bl l=>l[k]?.bind fun cs=>if cs.length=size then some (⟨.bp cs,.no⟩,.none) else none
   | .ref t n sz off ln _=>if k<ln/\sz=size then some (⟨.ptr t n (off + k * sz),.no⟩,.none) else none
   | _=>none
  | none=>none
 | .index x i=>match KR (i.get s),x.get s with
  | some k,.str b=>b[k]?.map fun u=>(⟨.int .u8 u.toNat,.no⟩,.none)
  | _,_=>none
 | .ext x i=>match x.get s with
  | .tup vs=>vs[i]?.map fun v=>(⟨v,.no⟩,.none)
  | _=>none
 | .call cl f xs=>(EE s cl xs).bind fun vs=>match TJ s xs with
  | []=>(call f vs none).bind fun r=>match r.2 with
   | none=>if r.1.back then some (⟨r.1,.no⟩,.none) else none
   | some S=>if r.1.backN/\cl.okMem/\J4 S=true then some (⟨r.1,.no⟩,.mk S) else none
  | [(t,n)]=>(call f vs (s.obj t n)).bind fun r=>match r.2 with
   | none=>none
   | some S=>if r.1.back/\(s.obj t n).isSome/\J4 S=true then some (⟨r.1,.no⟩,.obj t n S) else none
  | _=>none
 | .callf cl f sz xs=>(EE s cl xs).bind fun vs=>match TJ s xs with
  | [(t,n)]=>(call f (.undef :: vs) (s.obj t n)).bind fun r=>match r with
   | (.sl false l,some S)=>if (s.obj t n).isSome=true/\lB sz l=true/\l.all (fun c=>c.all AV.scal)=true/\J4 S=true then
     (if l.isEmpty then some (⟨.sl false [],.no⟩,.obj t n S) else some (⟨.ref 0 0 sz 0 l.length l.length,.no⟩,.ob2 t n S (sA l))) else none
   | _=>none
  | _=>none
 | .len str x=>match x.get s with
  | .sl _ l=>if str then none else some (⟨.int .i64 l.length,.no⟩,.none)
  | .bl l=>if str then none else some (⟨.int .i64 l.length,.no⟩,.none)
  | .ref _ _ _ _ ln _=>if str then none else some (⟨.int .i64 ln,.no⟩,.none)
  | .str b=>if str then some (⟨.int .i64 b.size,.no⟩,.none) else none
  | _=>none
 | .app cl e size bytes x y=>match x.get s,(y.get s).elems s cl with
  | .sl b l,some m=>if eB bytes (l.length + m.length)=true/\lB size (l++m)=true then
    (match AC b (x.an s) with
    | .no=>none
    | .own k e'=>if e'=e then some (⟨.sl (b&&m.isEmpty) (l++m),.own 0 e⟩,.app (.own k e') 0) else none
    | .ex=>some (⟨.sl (b&&m.isEmpty) (l++m),.own 0 e⟩,.app .ex 0)) else none
  | _,_=>none
 | .appf cl e size bytes x y=>match x.get s,(y.get s).elems s cl with
  | .sl b l,some m=>if eB bytes (l.length + m.length)=true/\lB size (l++m)=true then
    (match AC b (x.an s) with
    | .ex=>if m.isEmpty then some (⟨.sl b l,.ex⟩,.none) else some (⟨.ref 0 0 size 0 (l.length + m.length) (l.length + m.length),.no⟩,.new (sA (l++m)))
    | _=>none) else none
  | _,_=>none
 | .appm cl e size bytes x y=>match x.get s,(y.get s).elems s cl with
  | .sl b l,some m=>if eB bytes (l.length + m.length)=true/\lB size (l++m)=true then
    (match AC b (x.an s) with
    | .ex=>if m.isEmpty then some (⟨.sl b l,.ex⟩,.none) else some (⟨.ref 0 0 size 0 (l.length + m.length) (l.length + m.length),.no⟩,.new (sA (l++m)))
    | _=>none) else none
  | .ref t n sz off ln _,some m=>match (AV.ref t n sz off ln 0).elems s cl with
   | some l=>if off=0/\sz=size/\eB bytes (ln + m.length)=true/\lB size m=true/\t≠0 then
     some (⟨.ref 0 0 size 0 (ln + m.length) (ln + m.length),.no⟩,.rn (some (t,n)) (sA (l++m))) else none
   | none=>none
  | _,_=>none
 | .appn cl e size bytes x y=>match x.get s,(y.get s).raws s cl with
  | .sl b l,some m=>if eB bytes (l.length + m.length)=true/\lB size (l++m)=true/\0<m.length then
    (match AC b (x.an s) with
    | .ex=>some (⟨.ref 0 0 size 0 (l.length + m.length) (l.length + m.length),.no⟩,.new (sA (l++m)))
    | _=>none) else none
  | .ref t n sz off ln _,some m=>match (AV.ref t n sz off ln 0).raws s cl with
   | some l=>if off=0/\sz=size/\eB bytes (ln + m.length)=true/\lB size m=true/\t≠0/\(l++m).flatten.all (AV.noName t n)=true then
     some (⟨.ref 0 0 size 0 (ln + m.length) (ln + m.length),.no⟩,.rn (some (t,n)) (sA (l++m))) else none
   | none=>none
  | _,_=>none
 | .bslr size zero n parts=>if parts.map (·.1)=List.range n/\parts.all (fun p=>(p.2.get s).whole&&decide ((p.2.get s).cells.length=zero.length))/\0<n/\zero.length=size then
   some (⟨.ref 0 0 size 0 n n,.no⟩,.new (sA (parts.map fun p=>(p.2.get s).cells))) else none
 | .mkm=>some (⟨.mp 0 0,.no⟩,.mk (OG []))
 | .mkb T e=>some (⟨.ptr 0 0 0,.no⟩,.mk (bldAV T e ⟨#[]⟩))
 | .mget ok ty zero x k=>match x.get s with
  | .mp t n=>match (s.obj t n).bind ZI with
   | some L=>if AI ty L=true/\NF ty (k.get s)=true/\zero.flat=true then
     some (⟨if ok then .tup [(DI L (k.get s)).getD zero,.bool (DI L (k.get s)).isSome] else (DI L (k.get s)).getD zero,.no⟩,.none) else none
   | none=>none
  | _=>none
 | .mset ty x k v=>match x.get s with
  | .mp t n=>match (s.obj t n).bind ZI with
   | some L=>if AI ty L=true/\NF ty (k.get s)=true/\(v.get s).flat=true then
     some (⟨.undef,.no⟩,.obj t n (OG (lG L (k.get s) (v.get s)))) else none
   | none=>none
  | _=>none
 | .mlen x=>match x.get s with
  | .mp t n=>match (s.obj t n).bind ZI with
   | some L=>some (⟨.int .i64 L.length,.no⟩,.none)
   | none=>none
  | _=>none
 | .rng x=>match x.get s with
  | .mp t n=>match (s.obj t n).bind ZI with
   | some L=>some (⟨.ptr 0 0 0,.no⟩,.mk (XZ t n L.length []))
   | none=>none
  | _=>none
 | .nxt _=>none
 | .ent x=>match x.get s with
  | .ptr t n 0=>match (s.obj t n).bind BV with
   | some (tm,nm,N,seen)=>match (s.obj tm nm).bind ZI,seen.getLast? with
    | some L,some i=>if L.length=N then (match L[i]? with
      | some [y,v]=>if y.flat&&v.flat then some (⟨.tup [y,v],.no⟩,.none) else none
      | _=>none) else none
    | _,_=>none
   | none=>none
  | _=>none
 | .slz x=>match x.get s with
  | .sl b _=>some (⟨.sl b [],.ex⟩,.none)
  | .bl _=>some (⟨.sl false [],.ex⟩,.none)
  | .ref ..=>some (⟨.sl false [],.ex⟩,.none)
  | _=>none
 | .nilchk x=>match x.get s with
  | .ptr t n o=>some (⟨.ptr t n o,.no⟩,.none)
  | .ip cs=>some (⟨.ip cs,.no⟩,.none)
  | .bp cs=>some (⟨.bp cs,.no⟩,.none)
  | _=>none
def UA.eff (o:UA) (s:aA):qA × nD->Option aA
 | (x,.none)=>some (s.put o.dst x)
 | (x,.new r)=>match o.dst with
  | none=>none
  | some d=>some ((s.setRow d s.next r).put (some d) ⟨match x.v with | .ref _ _ sz off l c=>.ref d s.next sz off l c | _=>.ptr d s.next 0,.no⟩)
 | (x,.set t n r)=>some ((s.setRow t n r).put o.dst x)
 | (x,.app a _)=>match o.dst with
  | none=>none
  | some d=>some (((s.stripA a).strip d).put (some d) ⟨x.v,match x.a with | .own _ e=>.own d e | a=>a⟩)
 | (x,.obj t n S)=>some ((s.setObj t n S).put o.dst x)
 | (x,.mk S)=>match o.dst with
  | none=>none
  | some d=>some ((s.setObj d s.next S).put (some d) ⟨x.v.named d s.next,.no⟩)
 | (x,.ob2 t n S r)=>match o.dst with
  | none=>none
  | some d=>some (((s.setObj t n S).setRow d s.next r).put (some d) ⟨match x.v with | .ref _ _ sz off l c=>.ref d s.next sz off l c | _=>.ptr d s.next 0,.no⟩)
 | (x,.rn k r)=>match o.dst with
  | none=>none
  | some d=>some (((s.killO k).setRow d s.next r).put (some d) ⟨match x.v with | .ref _ _ sz off l c=>.ref d s.next sz off l c | _=>.ptr d s.next 0,.no⟩)
def UA.step (call:AB) (o:UA) (s:aA):Option aA :=
 match o.guard with
 | none=>(o.op.run call s).bind (o.eff s)
 | some (t,want)=>match (s.env t).v with
  | .bool b=>if b=want then (o.op.run call s).bind (o.eff s) else some (s.put o.dst ⟨.tup [],.no⟩)
  | .tup []=>some (s.put o.dst ⟨.tup [],.no⟩)
  | _=>none
def aA.enter (s:aA) (nt:Nat):aA:={ s with next:=s.next + 1,gh:=fun t=>if t<nt then s.env t else s.gh (t - nt) }
def aA.leave (s:aA) (nt:Nat):aA:={ s with env:=fun t=>if t<nt then s.gh t else ⟨.undef,.no⟩,gh:=fun t=>s.gh (t + nt) }
def kN (s:aA) (xs:List LB):List qA:=xs.map fun x=>⟨x.get s,x.an s⟩
def XM (lh:LH) (d:Option Nat) (nt:Nat) (x:LB) (xs:List LB) (s:aA) (k:aA->Option RV):Option RV:=match x.get s with
 | .fn f cs=>lh.h f (kN s xs++cs.map (⟨·,.no⟩)) (s.enter nt) fun y s'=>k ((s'.leave nt).put d y)
 | _=>none
noncomputable def jW (d:Option Nat) (x:LB) (s:aA) (k:aA->Option RV):Option RV:=match x.get s with
 | .ptr t n 0=>match (s.obj t n).bind BV with
  | some (tm,nm,N,seen)=>match (s.obj tm nm).bind ZI with
   | some L=>if L.length=N then B0 (fun i=>match L[i]? with
     | some [y,v]=>if y.flat&&v.flat then k ((s.setObj t n (XZ tm nm N (seen++[i]))).put d ⟨.tup [.bool true,y,v],.no⟩) else none
     | _=>none) (k (s.put d ⟨.tup [.bool false],.no⟩)) ((List.range N).filter fun i=>!seen.contains i) else none
   | none=>none
  | none=>none
 | _=>none
def fK (s:aA) (d:Option Nat) (g:Option (Nat × Bool)) (a:Option RV) (k:aA->Option RV):Option RV:=match g with
 | none=>a
 | some (t,want)=>match (s.env t).v with
  | .bool b=>if b=want then a else k (s.put d ⟨.tup [],.no⟩)
  | .tup []=>k (s.put d ⟨.tup [],.no⟩)
  | _=>none
noncomputable def UA.stepK (call:AB) (lh:LH) (o:UA) (s:aA) (k:aA->Option RV):Option RV:=match o.op with
 | .callh nt x xs=>fK s o.dst o.guard (XM lh o.dst nt x xs s k) k
 | .nxt x=>fK s o.dst o.guard (jW o.dst x s k) k
 | _=>(o.step call s).bind k
noncomputable def LG (call:AB) (lh:LH):List UA->aA->(aA->Option RV)->Option RV
 | [],s,k=>k s
 | o :: r,s,k=>o.stepK call lh s fun s=>LG call lh r s k
noncomputable def C.run (call:AB) (lp:LH):C->aA->(Ex->aA->Option RV)->Option RV
 | .skip,s,k=>k .nrm s
 | .seq a b,s,k=>a.run call lp s fun e s=>match e with
  | .nrm=>b.run call lp s k
  | e=>k e s
 | .reg ops,s,k=>LG call lp ops s fun s=>k .nrm { s with next:=s.next + 1 }
 | .cond c t e,s,k=>match c.get s with
  | .bool b=>if b then t.run call lp s k else e.run call lp s k
  | _=>none
 | .block id b,s,k=>b.run call lp s fun e s=>match e with
  | .exit j=>if j=id then k .nrm s else k (.exit j) s
  | e=>k e s
 | .loop b,s,k=>lp b s k
 | .exit id,s,k=>k (.exit id) s
 | .ret,s,k=>k .ret s
inductive ResC where
 | tmp (t:Nat)
 | cell (t:Nat) (agg:Bool) (size:Nat)
structure zB where
 code:C
 res:List ResC
 np:Nat
 mu:List Nat:=[]
def gS (s:aA):List ResC->Option (List AV)
 | []=>some []
 | .tmp t :: r=>(gS s r).map ((s.env t).v :: ·)
 | .cell t agg size :: r=>match (s.env t).v with
  | .ptr t n off=>((s.mem t n).bind (MA agg size off)).bind fun x=>(gS s r).map (x.v :: ·)
  | _=>none
def KU:List AV->AV
 | [v]=>v
 | vs=>.tup vs
def objAt:List AV->Option (Nat × Nat)
 | []=>none
 | .ptr t n 0 :: _=>some (t,n)
 | _ :: r=>objAt r
def GJ (t n:Nat):AV->AV
 | .ptr t' n' o=>if t'=t/\n'=n/\o=0 then .ptr 0 0 0 else .undef
 | v=>v
def AV.frz1 (s:aA):AV->AV
 | .ref t n sz off len c=>match (s.mem t n).bind fun r=>aE r sz off len with
  | some l=>.sl false l
  | none=>.ref t n sz off len c
 | v=>v
def U1 (s:aA) (row:List qA) (sz off len:Nat):Option (List (List AV)):=(jH row sz off len).bind fun l =>
 if (l.map fun c=>c.map (AV.frz1 s)).flatten.all AV.free0=true then some (l.map fun c=>c.map (AV.frz1 s)) else none
def AV.frz0 (s:aA):AV->AV
 | .ref t n sz off len c=>match (s.mem t n).bind fun r=>aE r sz off len with
  | some l=>.sl false l
  | none=>match (s.mem t n).bind fun r=>U1 s r sz off len with
   | some l=>.sl false l
   | none=>.ref t n sz off len c
 | v=>v
def AV.frz (s:aA):AV->AV
 | .agg cs=>.agg (cs.map (AV.frz0 s))
 | v=>v.frz0 s
def SV (S0:Option AV) (s:aA) (vs:List AV):Option RV :=
 match S0 with
 | some _=>if vs.all AV.free then (s.obj 0 0).map fun S=>(KU vs,some S) else none
 | none=>if vs.all AV.free then some (KU vs,none) else match objAt vs with
  | some (t,n)=>match s.obj t n with
   | some S=>if (vs.map (GJ t n)).all (fun v=>v.free||v.isObj) then some (KU (vs.map (GJ t n)),some S) else none
   | none=>none
  | none=>none
def KN (f:zB) (S0:Option AV):Ex->aA->Option RV
 | .exit _,_=>none
 | _,s=>(gS s f.res).bind fun vs=>SV S0 s (vs.map (AV.frz s))
def aA.init (args:List AV) (S0:Option AV):aA:=⟨fun t=>⟨args.getD t .undef,.no⟩,fun _ _=>none,1,fun t n=>if t=0/\n=0 then S0 else none,fun _=>⟨.undef,.no⟩⟩
def aA.initR (args:List AV) (cs:List AV):aA:=⟨fun t=>⟨args.getD t .undef,.no⟩,fun t n=>if t=0/\n=0 then some (cs.map fun v=>⟨v,KB v⟩) else none,1,fun _ _=>none,fun _=>⟨.undef,.no⟩⟩
def aA.drop0 (s:aA):aA:={ s with mem:=fun t n=>if t=0/\n=0 then none else s.mem t n }
def JI (n:Nat) (s:aA) (vs:List AV):Option RV :=
 if vs.all AV.free then (s.mem 0 0).bind fun r =>
  if (r.map fun x=>AV.frz0 s.drop0 x.v).all AV.free0=true/\r.length=n then some (KU vs,some (.agg (r.map fun x=>AV.frz0 s.drop0 x.v))) else none
 else none
def DL (f:zB) (n:Nat):Ex->aA->Option RV
 | .exit _,_=>none
 | _,s=>(gS s f.res).bind fun vs=>JI n s (vs.map (AV.frz s.drop0))
def WQ:List AV->Option (List AV)
 | .undef :: .undef :: r=>some r
 | _=>none
def uM (lp:LpT) (b:C) (k:Ex->aA->Option RV):Ex->aA->Option RV
 | .nrm,s=>lp b s k
 | e,s=>k e s
def kK:List AV->Bool
 | .undef :: _=>true
 | _=>false
def kQ (s:aA):List ResC->Option (List qA)
 | []=>some []
 | .tmp t :: r=>(kQ s r).map (s.env t :: ·)
 | .cell t agg size :: r=>match (s.env t).v with
  | .ptr t n off=>((s.mem t n).bind (MA agg size off)).bind fun x=>(kQ s r).map (⟨x.v,.no⟩ :: ·)
  | _=>none
def AV.tupOk:AV->Bool
 | .bp _ | .bl _ | .fn .. | .tup _=>false
 | _=>true
def AN:List qA->Option qA
 | [x]=>some x
 | l=>if l.all (fun x=>x.v.tupOk) then some ⟨.tup (l.map (·.v)),.no⟩ else none
def WM (f:zB) (k:qA->aA->Option RV):Ex->aA->Option RV
 | .exit _,_=>none
 | _,s=>((kQ s f.res).bind AN).bind fun x=>k x s
def aA.initH (s:aA) (args:List qA):aA:={ s with env:=fun t=>args.getD t ⟨.undef,.no⟩ }
mutual
noncomputable def oE (T:Nat->Option zB) (ext:AB):Nat->AB
 | 0,f,args,S0=>match T f with
  | none=>ext f args S0
  | some _=>none
 | n + 1,f,args,S0=>match T f with
  | none=>ext f args S0
  | some c=>match WQ args,S0 with
   | some rest,some (.agg cs)=>if rest.length=c.np/\kK rest=false then c.code.run (oE T ext n) ⟨fL T ext n,mM T ext n⟩ (aA.initR rest cs) (DL c cs.length) else none
   | some _,_=>none
   | none,_=>if args.length=c.np/\kK args=false/\noItO S0=true then c.code.run (oE T ext n) ⟨fL T ext n,mM T ext n⟩ (aA.init args S0) (KN c S0) else none
noncomputable def fL (T:Nat->Option zB) (ext:AB):Nat->LpT
 | 0,_,_,_=>none
 | n + 1,b,s,k=>b.run (oE T ext n) ⟨fL T ext n,mM T ext n⟩ s (uM (fL T ext n) b k)
noncomputable def mM (T:Nat->Option zB) (ext:AB):Nat->HpT
 | 0,_,_,_,_=>none
 | n + 1,f,args,s,k=>match T f with
  | none=>none
  | some c=>if args.length=c.np then c.code.run (oE T ext n) ⟨fL T ext n,mM T ext n⟩ (s.initH args) (WM c k) else none
end
section
def EX:Value->Option AV
 | .int k n=>some (.int k n)
 | .bool b=>some (.bool b)
 | .string s=>some (.str s)
 | .pointer none=>some .nilP
 | .slice none 0 0=>some (.sl true [])
 | _=>none
def BK:List Value->Option (List AV)
 | []=>some []
 | v :: r=>match EX v,BK r with
  | some x,some l=>some (x :: l)
  | _,_=>none
def avC:Value->Option AV
 | .agg cs=>(BK cs.toList).map .agg
 | v=>EX v
def opd:Operand->Option LB
 | .tmp t=>some (.t t)
 | .const v=>(avC v).map .c
 | .func f=>some (.c (.fn f []))
 | _=>none
section
variable (P:Program)
def DJ (t:TypeId):Option Bool:=(P.underlying t).map fun | .struct _=>true | .array ..=>true | _=>false
def uC (t:TypeId):Option Nat:=(P.info? t).map (·.size)
def aL (t:TypeId):Option (List AV):=((P.info? t).bind (·.zero)).bind fun z=>BK z.cells.toList
def tScal (t:TypeId):Bool:=match P.underlying t with | some (.int _)=>true | some .string=>true | some .bool=>true | _=>false
def opds:List (Nat × Operand)->Option (List (Nat × LB))
 | []=>some []
 | (i,x) :: r=>match opd x,opds r with
  | some x,some l=>some ((i,x) :: l)
  | _,_=>none
def HH:List Operand->Option (List LB)
 | []=>some []
 | x :: r=>match opd x,HH r with
  | some x,some l=>some (x :: l)
  | _,_=>none
def JU:Option Operand->Option (Option LB)
 | none=>some none
 | some x=>(opd x).map some
def dP (pl:Nat->Option (Nat × Nat)):List (Nat × LB)->Option (List (Nat × Nat × LB))
 | []=>some []
 | (i,x) :: r=>match pl i,dP pl r with
  | some (off,z),some l=>some ((off,z,x) :: l)
  | _,_=>none
def mX (t:TypeId):Option Nat:=match P.underlying t,uC P t with
 | some (.int _),some 1=>some 0
 | some .string,some 1=>some 1
 | some .bool,some 1=>some 2
 | _,_=>none
def SP (r:TypeId->Option (List Nat)) (i:Nat):List Field->Option (List Nat)
 | []=>some []
 | f :: fs=>(r f.type).bind fun l=>if f.name≠"_"/\f.offset=i then (SP r (i + l.length) fs).map (l++·) else none
def sH:Nat->TypeId->Option (List Nat)
 | 0,_=>none
 | n + 1,t=>match mX P t with
  | some k=>some [k]
  | none=>match P.underlying t with
   | some (.array m e)=>(sH n e).bind fun l=>if P.cellsOf e=l.length/\uC P e=some l.length/\uC P t=some (List.replicate m l).flatten.length then some (List.replicate m l).flatten else none
   | some (.struct fs)=>if P.stoodInHeld t then none else (SP (sH n) 0 fs.toList).bind fun l=>if uC P t=some l.length then some l else none
   | _=>none
def TQ (t:TypeId):Option (List Nat):=if P.eqGuardType P.depth t then none else match P.underlying t with
 | some (.array ..)=>sH P 8 t
 | some (.struct _)=>sH P 8 t
 | _=>none
def scalK (t:TypeId):Option (Option IntKind):=match P.underlying t with
 | some (.int k)=>some (some k)
 | some .string=>some none
 | _=>none
def keysT (t:TypeId):Option (List (Option IntKind)):=match P.underlying t with
 | some (.array n e)=>(scalK P e).map (List.replicate n)
 | some (.struct fs)=>fs.toList.mapM fun f=>scalK P f.type
 | _=>none
def JK:Option IntKind->Nat
 | some _=>0
 | none=>1
def qW (t:TypeId):Option KTy:=match P.underlying t with
 | some (.int k)=>some (.some k)
 | some .string=>some .none
 | _=>(keysT P t).bind fun l=>if TQ P t=some (l.map JK)/\l≠[] then some (.agg l) else none
def isBld:List AV->Bool
 | [.nilP,.sl true []]=>true
 | _=>false
def bldEl (e:TypeId):Option TypeId:=if (aL P e).map isBld=some true then (match P.underlying e with
  | some (.struct fs)=>(fs[1]?).bind fun f=>match P.underlying f.type with
   | some (.slice el)=>some el
   | _=>none
  | _=>none) else none
def isZ:Option Operand->Bool
 | some (.const (.int .i64 n))=>decide (n=0)
 | _=>false
def D6 (cl:Cl) (mu:Option Bool) (o:Go.Op) (nest:Bool:=false):Option K :=
 match o with
 | .move x | .assign x=>(opd x).map .mv
 | .pick c a b=>match opd c,opd a,opd b with
  | some c,some a,some b=>some (.pick c a b)
  | _,_,_=>none
 | .alloc e=>match mu with
  | none=>(aL P e).map .alloc
  | some _=>(bldEl P e).map (.mkb e)
 | .box e x=>match uC P e,opd x with
  | some z,some x=>some (.box z x)
  | _,_=>none
 | .build t ps=>match P.underlying t,aL P t,opds ps.toList with
  | some (.struct fs),some z,some ps=>(match fs.toList.mapM (fun f=>(P.info? f.type).map fun i=>(f.offset,i.size)) with
   | some pl=>(dP (pl.toArray[·]?) ps).map (.build z)
   | none=>none)
  | some (.array _ e),some z,some ps=>(match P.info? e with
   | some ie=>(dP (fun i=>some (i * ie.size,ie.size)) ps).map (.build z)
   | none=>none)
  | _,_,_=>none
 | .buildSlice t n ps=>match P.underlying t,opds ps.toList with
  | some (.slice e),some ps=>match aL P e,uC P e with
   | some z,some k=>if z.length=k/\0<k/\n * k<=16777216 then (match mu with | none=>some (.bsl z n ps) | some _=>some (.bslr k z n ps)) else none
   | _,_=>none
  | _,_=>none
 | .load t x=>match DJ P t,uC P t,opd x with
  | some a,some z,some x=>some (.load cl a z x)
  | _,_,_=>none
 | .store t x y=>match DJ P t,uC P t,opd x,opd y with
  | some a,some z,some x,some y=>if a||z == 1 then some (.store cl a z x y) else none
  | _,_,_,_=>none
 | .binOp op t x y _=>match opd x,opd y with
  | some x,some y=>if tScal P t then some (.bin op (match P.underlying t with | some .bool=>true | _=>false) x y) else
   match op with
   | .eql=>(match P.underlying t with
    | some (.slice _)=>some (.eqn false false x y)
    | some (.pointer _)=>some (.eqn false true x y)
    | _=>(TQ P t).map fun ks=>.eqa false ks x y)
   | .neq=>(match P.underlying t with
    | some (.slice _)=>some (.eqn true false x y)
    | some (.pointer _)=>some (.eqn true true x y)
    | _=>(TQ P t).map fun ks=>.eqa true ks x y)
   | _=>none
  | _,_=>none
 | .unOp op t x=>if tScal P t then (opd x).map (.un op) else none
 | .convert s d x=>match P.underlying s,P.underlying d,opd x with
  | some (.int _),some (.int k),some x=>some (.conv (some k) x)
  | some .string,some .string,some x=>some (.conv none x)
  | some (.int _),some .string,some x=>some (.rstr x)
  | some (.slice e),some .string,some x=>(match P.underlying e with
   | some (.int .u8)=>if uC P e=some 1 then some (.bstr cl x) else none
   | _=>none)
  | _,_,_=>none
 | .makeSlice t l c=>match P.underlying t,opd l,opd c with
  | some (.slice e),some l,some c=>match aL P e,P.info? e with
   | some z,some i=>if z.length=i.size/\0<i.size then some (.mks i.size i.bytes z l c) else none
   | _,_=>none
  | _,_,_=>none
 | .entry x=>(opd x).map .ent
 | .slice t x lo hi mx0=>match opd x,JU lo,JU hi,JU mx0 with
  | some x,some l,some h,some m=>match P.underlying t with
   | some .string=>some (.slc true 1 x l h m)
   | some (.slice e)=>(match lo,isZ hi&&isZ mx0 with
    | none,true=>(uC P e).map fun _=>.slz x
    | _,_=>(uC P e).map fun k=>.slc false k x l h m)
   | some (.array n e)=>(match m with
    | none=>(uC P e).map fun k=>.aslc cl n k x l h
    | some _=>none)
   | _=>none
  | _,_,_,_=>none
 | .fieldAddr t x i=>match P.underlying t,opd x with
  | some (.struct fs),some x=>match fs[i]? with
   | some f=>match uC P f.type with
    | some (_ + 1)=>some (.faddr f.offset x)
    | _=>none
   | none=>none
  | _,_=>none
 | .field t x i=>match P.underlying t,opd x with
  | some (.struct fs),some x=>match fs[i]? with
   | some f=>match DJ P f.type,uC P f.type with
    | some a,some z=>some (.field a f.offset z x)
    | _,_=>none
   | none=>none
  | _,_=>none
 | .indexAddr t x i=>match P.underlying t,opd x,opd i with
  | some (.slice e),some x,some i=>(uC P e).map fun k=>.iaddr k x i
  | some (.array n e),some x,some i=>(uC P e).map fun k=>.aaddr n k x i
  | _,_,_=>none
 | .index t x i=>match P.underlying t,opd x,opd i with
  | some .string,some x,some i=>some (.index x i)
  | _,_,_=>none
 | .range t x=>match P.underlying t with
  | some (.map _ _)=>(opd x).map .rng
  | _=>none
 | .makeMap t r=>match r,P.underlying t with
  | none,some (.map kT _)=>(qW P kT).map fun _=>.mkm
  | _,_=>none
 | .lookup t x i ok=>match P.underlying t,opd x,opd i with
  | some (.map kT eT),some x,some i=>match qW P kT,((P.info? eT).bind (·.zero)).bind avC with
   | some ty,some z=>some (.mget ok ty z x i)
   | _,_=>none
  | _,_,_=>none
 | .mapUpdate t m k v=>match P.underlying t,opd m,opd k,opd v with
  | some (.map kT _),some m,some k,some v=>(qW P kT).map fun ty=>.mset ty m k v
  | _,_,_,_=>none
 | .insert t m k v=>match P.underlying t,opd m,opd k,opd v with
  | some (.map kT _),some m,some k,some v=>(qW P kT).map fun ty=>.mset ty m k v
  | _,_,_,_=>none
 | .extract x i=>(opd x).map fun x=>.ext x i
 | .nilCheck x=>(opd x).map .nilchk
 | .call { callee:=.value (.func f),args:=xs,.. }=>match mu with
  | some false=>(match P.funcs[f]? with
   | some fn=>(match fn.resultTypes.toList with
    | [t]=>(match P.underlying t with
     | some (.slice e)=>(match uC P e,HH xs.toList with
      | some z,some xs=>if 0<z then some (.callf cl f z xs) else none
      | _,_=>none)
     | _=>none)
    | _=>none)
   | none=>none)
  | some true=>(HH xs.toList).map (.callr cl f)
  | none=>(HH xs.toList).map (.call cl f)
 | .makeFunc (.func f) fs xs=>if fs.size=0 then (HH xs.toList).map (.mkf f) else none
 | .call { callee:=.value (.tmp t),args:=xs,.. }=>(HH xs.toList).map (.callv cl (.t t))
 | .call { callee:=.builtin .len,args:=xs,argTypes:=ts }=>match HH xs.toList,ts.toList with
  | some [x],[t]=>(match P.underlying t with
   | some .string=>some (.len true x)
   | some (.slice _)=>some (.len false x)
   | some (.map _ _)=>some (.mlen x)
   | _=>none)
  | _,_=>none
 | .call { callee:=.builtin .max,args:=xs,.. }=>match xs.toList with
  | [X,Y]=>(match opd X,opd Y with
   | some x,some y=>some (.mm true x y)
   | _,_=>none)
  | _=>none
 | .call { callee:=.builtin .min,args:=xs,.. }=>match xs.toList with
  | [X,Y]=>(match opd X,opd Y with
   | some x,some y=>some (.mm false x y)
   | _,_=>none)
  | _=>none
 | .call { callee:=.builtin .append,args:=xs,argTypes:=ts }=>match HH xs.toList,ts.toList with
  | some [x,y],[t,t']=>if t=t' then match P.underlying t with
   | some (.slice e)=>match P.info? e,aL P e with
    | some i,some z=>if z.length=i.size/\0<i.size then some (match mu with | some true=>(if nest then .appn cl e i.size i.bytes x y else .appm cl e i.size i.bytes x y) | some false=>.appf cl e i.size i.bytes x y | none=>.app cl e i.size i.bytes x y) else none
    | _,_=>none
   | _=>none else none
  | _,_=>none
 | _=>none
def U3 (cl:Cl) (mu:Option Bool) (bad nest:Bool) (o:Go.Op):Option K:=match D6 P cl mu o nest with
 | some k=>some k
 | none=>if bad then some .bad else none
def nY (nt:Nat) (hs:Nat->Bool) (o:Go.Op):Option K:=match o with
 | .call { callee:=.value (.func f),args:=xs,.. }=>if hs (1000000 + f) then (HH xs.toList).map (.callh nt (.c (.fn f []))) else none
 | .call { callee:=.value (.tmp t),args:=xs,.. }=>if hs (2000000 + t) then (HH xs.toList).map (.callh nt (.t t)) else none
 | .next x false=>(opd x).map .nxt
 | _=>none
def kP (boxes:List Nat) (ops:List Oper):Nat->Operand->Option Nat
 | 0,_=>none
 | n + 1,.tmp t=>if boxes.contains t then some t else
  match ops.find? (fun o=>o.dst == some t) with
  | some o=>match o.op with
   | .fieldAddr _ x _=>kP boxes ops n x
   | .move x=>kP boxes ops n x
   | .nilCheck x=>kP boxes ops n x
   | _=>none
  | none=>none
 | _ + 1,_=>none
def isS:K->Bool
 | .store .. | .callr ..=>true
 | _=>false
def isH:K->Bool
 | .callh ..=>true
 | .nxt _=>true
 | _=>false
def w7:K->Bool
 | .alloc _ | .box .. | .mks .. | .appf .. | .appm .. | .appn .. | .bslr .. | .callf ..=>true
 | _=>false
def isM:K->Bool
 | .appm ..=>true
 | .appn ..=>true
 | .callh ..=>true
 | .nxt _=>true
 | _=>false
def ZS:K->Bool
 | .call .. | .callf .. | .callv .. | .callr .. | .mkm | .mkb .. | .mget .. | .mset .. | .mlen _ | .rng _ | .ent _=>true
 | _=>false
def isR:K->Bool
 | .mget .. | .mlen _ | .ent _=>true
 | _=>false
def isT:K->Bool
 | .app .. | .appm .. | .appn ..=>true
 | _=>false
def K.cl:K->Option Cl
 | .load cl ..=>some cl
 | .store cl ..=>some cl
 | .call cl ..=>some cl
 | .callf cl ..=>some cl
 | .callv cl ..=>some cl
 | .callr cl ..=>some cl
 | .bstr cl _=>some cl
 | .aslc cl ..=>some cl
 | .app cl ..=>some cl
 | .appf cl ..=>some cl
 | .appm cl ..=>some cl
 | .appn cl ..=>some cl
 | _=>none
def RI (a b:UA):Bool :=
 !isM a.op&&!isM b.op&&(!isT a.op||!isT b.op)&&(!ZS a.op||!ZS b.op||(isR a.op&&isR b.op)) &&
 (match a.op.cl,b.op.cl with
  | some c,some d=>!(isS a.op||isS b.op)||(match c,d with
   | .imm,_=>true
   | _,.imm=>true
   | .root r,.root r'=>r != r'
   | .root r,.out L=>L.contains r
   | .out L,.root r=>L.contains r
   | _,_=>false)
  | _,_=>true) &&
 (!w7 a.op||(match b.op.cl with | none=>true | some .imm=>true | some (.root r)=>a.dst != some r | some (.out L)=>(match a.dst with | some d=>L.contains d | none=>false) | some .any=>false)) &&
 (!w7 b.op||(match a.op.cl with | none=>true | some .imm=>true | some (.root r)=>b.dst != some r | some (.out L)=>(match b.dst with | some d=>L.contains d | none=>false) | some .any=>false)) &&
 (!w7 a.op||!w7 b.op||a.dst != b.dst)
def isMv (o:UA):Bool:=match o.op,o.guard with
 | .mv (.t _),none=>true
 | _,_=>false
def isN:K->Bool
 | .appm ..=>true
 | .appn ..=>true
 | _=>false
def aO (a b:UA):Bool:=RI a b||((isMv a&&isN b.op)||(isMv b&&isN a.op))
def TP (ops:List Oper):List Nat :=
 (ops.foldl (fun acc o=>acc.push (o.after.foldl (fun s e=>if Region.binds .any e then s ||| 2 ^ e.on ||| acc.getD e.on 0 else s) 0)) (#[]:Array Nat)).toList
def K.opds:K->List LB
 | .mv x | .box _ x | .load _ _ _ x | .un _ x | .conv _ x | .rstr x | .bstr _ x | .faddr _ x | .field _ _ _ x | .ext x _ | .len _ x | .nilchk x | .rng x | .nxt x | .slz x | .ent x=>[x]
 | .pick c a b=>[c,a,b]
 | .alloc _ | .mkm | .mkb .. | .bad=>[]
 | .mget _ _ _ x k=>[x,k]
 | .mset _ x k v=>[x,k,v]
 | .mlen x=>[x]
 | .build _ ps=>ps.map (·.2.2)
 | .bsl _ _ ps=>ps.map (·.2)
 | .bslr _ _ _ ps=>ps.map (·.2)
 | .store _ _ _ x y | .bin _ _ x y | .mm _ x y | .eqa _ _ x y | .eqn _ _ x y | .mks _ _ _ x y | .iaddr _ x y | .aaddr _ _ x y | .index x y | .app _ _ _ _ x y | .appf _ _ _ _ x y | .appm _ _ _ _ x y | .appn _ _ _ _ x y=>[x,y]
 | .slc _ _ x lo hi mx=>x :: (lo.toList++(hi.toList++mx.toList))
 | .aslc _ _ _ x lo hi=>x :: (lo.toList++hi.toList)
 | .mkf _ xs=>xs
 | .callv _ x xs=>x :: xs
 | .callr _ _ xs=>xs
 | .callh _ x xs=>x :: xs
 | .call _ _ xs=>xs
 | .callf _ _ _ xs=>xs
def UA.looks (o:UA):List Nat:=o.op.opds.filterMap (fun | .t n=>some n | _=>none)++(match o.guard with | some (t,_)=>[t] | none=>[])
def UA.clear (a b:UA):Bool:=match a.dst with
 | some d=>!b.looks.contains d&&b.dst != some d
 | none=>true
def NJ (a b:UA):Bool:=a.clear b&&b.clear a
def GK (o:Oper):List Nat:=o.after.toList.filterMap fun e=>if Region.binds .any e then some e.on else none
def bfOk (ops:List Oper) (bf:List Nat):Bool:=(List.range ops.length).all fun i=>match ops[i]? with
 | some o=>(GK o).all (fun e=>decide (e<i))&&(List.range i).all fun r=>!(bf.getD i 0).testBit r||(GK o).any fun e=>e == r||(decide (r<e)&&(bf.getD e 0).testBit r)
 | none=>false
def GS (ops:List Oper) (cs:List UA):Bool :=
 let bf:=TP ops
 bfOk ops bf&&(List.range ops.length).all fun j=>(List.range j).all fun i =>
  (bf.getD j 0).testBit i||(match cs[i]?,cs[j]? with
   | some x,some y=>NJ x y&&aO x y
   | _,_=>false)
def RR (cs:List UA):Bool:=(List.range cs.length).all fun j=>match cs[j]? with
 | some y=>!((w7 y.op||ZS y.op)&&y.dst.isSome)||(List.range cs.length).all fun i=>i == j||(match cs[i]? with | some x=>x.dst != y.dst | none=>false)
 | none=>false
def turns (o:Oper):Bool:=match o.op with | .store ..=>true | .alloc _=>true | .box ..=>true | .makeSlice ..=>true | .call { callee:=.builtin .append,.. }=>true | _=>false
def fixed (ops:List Oper) (o:Oper):Bool:=match o.dst with
 | none=>false
 | some d=>match ops.findIdx? (fun p=>p.dst == some d) with
  | none=>false
  | some i=>let bf:=TP ops
   (List.range ops.length).all fun j=>i == j||!(match ops[j]? with | some p=>turns p | none=>false)||(bf.getD j 0).testBit i||(bf.getD i 0).testBit j
def claim (boxes:List Nat) (adv:Bool) (out:Option (List Nat)) (ops:List Oper) (draw:Bool) (o:Oper):Cl :=
 if !draw then .any else
 if adv then (match o.op with
  | .load _ x=>(match kP boxes ops 10 x with | some t=>.root t | none=>if fixed ops o then .any else .imm)
  | .store _ x _=>(match kP boxes ops 10 x,out with | some t,_=>.root t | none,some L=>.out (L++ops.filterMap fun p=>if turns p then p.dst else none) | none,none=>.any)
  | .call { callee:=.value (.func _),args:=xs,.. }=>(match (xs[0]?).bind (kP (boxes.filter (· == 0)) ops 10) with | some t=>.root t | none=>if fixed ops o||!(ops.any turns) then .any else .imm)
  | _=>if fixed ops o||!(ops.any turns) then .any else .imm) else
 if ops.any (fun o=>match o.op with | .store ..=>true | .alloc _=>true | .box ..=>true | .makeSlice ..=>true | _=>false) then
  match o.op with
  | .load _ x=>(match kP boxes ops 10 x with | some t=>.root t | none=>.imm)
  | .store _ x _=>(match kP boxes ops 10 x with | some t=>.root t | none=>.any)
  | _=>.imm
 else .any
def dstOk (nt:Nat):Option Nat->Bool
 | some d=>decide (d<nt)
 | none=>true
def cR (boxes:List Nat) (nt:Nat) (all:List Oper) (draw:Bool):List Oper->Option (List UA)
 | []=>some []
 | o :: r=>match (match nY nt (fun c=>boxes.contains (nt + 1 + c)) o.op with | some k=>some k | none=>(U3 P (claim boxes (boxes.any (nt<·)) (if boxes.contains (nt + 1 + 6000000) then some (boxes.filter (·<nt)) else none) all draw o) (match o.dst with | some d=>if boxes.contains (nt + 1 + (2 * d + 1)) then some true else if boxes.contains (nt + 1 + 2 * d) then some false else none | none=>none) (boxes.contains (nt + 1 + 4000000)) (boxes.contains (nt + 1 + 5000000)) o.op).filter (fun k=>!isH k)),cR boxes nt all draw r with
  | some k,some l =>
   if dstOk nt o.dst then
    match o.guard with
    | none=>some (⟨o.dst,k,none⟩ :: l)
    | some (g,want)=>match (all[g]?).bind (·.dst) with
     | some t=>some (⟨o.dst,k,some (t,want)⟩ :: l)
     | none=>none
   else none
  | _,_=>none
def comp (boxes:List Nat) (nt:Nat):Code->Option C
 | .skip=>some .skip
 | .seq a b=>match comp boxes nt a,comp boxes nt b with
  | some a,some b=>some (.seq a b)
  | _,_=>none
 | .region _ ops draw=>match cR P boxes nt ops.toList draw ops.toList with
  | some cs=>if RR cs&&(!draw||GS ops.toList cs) then some (.reg cs) else none
  | none=>none
 | .cond c t e=>match opd c,comp boxes nt t,comp boxes nt e with
  | some c,some t,some e=>some (.cond c t e)
  | _,_,_=>none
 | .block id b=>(comp boxes nt b).map (.block id)
 | .loop b=>(comp boxes nt b).map .loop
 | .exit id=>some (.exit id)
 | .scope b=>comp boxes nt b
 | .ret=>some .ret
 | _=>none
def FM:Code->List Nat
 | .seq a b=>FM a++FM b
 | .region _ ops _=>ops.toList.filterMap fun o=>match o.op with | .alloc _=>o.dst | .box ..=>o.dst | _=>none
 | .cond _ t e=>FM t++FM e
 | .block _ b=>FM b
 | .loop b=>FM b
 | .scope b=>FM b
 | _=>[]
def SL:List ResultVar->Option (List ResC)
 | []=>some []
 | .tmp t :: r=>(SL r).map (.tmp t :: ·)
 | .cell t ty :: r=>match DJ P ty,uC P ty,SL r with
  | some a,some z,some l=>some (.cell t a z :: l)
  | _,_,_=>none
def rU (mu:List Nat) (fn:Func):Option zB:=match fn.body with
 | none=>none
 | some b=>match comp P (FM b++(if mu.contains 3000000 then [0] else [])++mu.map (fn.ntmps + 1 + ·)) fn.ntmps b,SL P fn.results.toList with
  | some c,some r=>if fn.params.size + fn.nfree<=fn.ntmps then some ⟨c,r,fn.params.size + fn.nfree,mu⟩ else none
  | _,_=>none
end
end
section
open Go.RowKit
structure ID (F:Nat->Prop) (w w':World):Prop where
 os:w'.os=w.os
 tape:w'.tape=w.tape
 output:w'.output=w.output
 size:w.heap.size<=w'.heap.size
 block:∀ k,k<w.heap.size->¬ F k->w'.heap[k]?=w.heap[k]?
section
variable {F G:Nat->Prop} {w w1 w2:World}
theorem ID.refl (F:Nat->Prop) (w:World):ID F w w:=⟨rfl,rfl,rfl,ym _,fun _ _ _=>rfl⟩
theorem ID.trans (h:ID F w w1) (k:ID G w1 w2) (hG:∀ i,i<w.heap.size->G i->F i):ID F w w2 :=
 ⟨k.os.trans h.os,k.tape.trans h.tape,k.output.trans h.output,Nat.le_trans h.size k.size,fun i hi hF =>
  (k.block i (Nat.lt_of_lt_of_le hi h.size) (fun g=>hF (hG i hi g))).trans (h.block i hi hF)⟩
theorem ID.mono (h:ID F w w1) (hG:∀ i,i<w.heap.size->F i->G i):ID G w w1 :=
 ⟨h.os,h.tape,h.output,h.size,fun i hi hg=>h.block i hi fun hf=>hg (hG i hi hf)⟩
theorem ID.of_below (h:Below w.heap.size w w1) (F:Nat->Prop):ID F w w1:=⟨h.os,h.tape,h.output,h.size,fun k hk _=>h.block k hk⟩
theorem ID.below (h:ID (fun _=>False) w w1):Below w.heap.size w w1:=⟨h.os,h.tape,h.output,h.size,fun k hk=>h.block k hk id⟩
theorem ID.alloc (h:ID F w w1) (o:Obj):ID F w (w1.alloc o) :=
 ⟨h.os,h.tape,h.output,by have:=h.size; simp; omega,fun k hk hF=>(Below.heap_alloc w1 o k (Nat.lt_of_lt_of_le hk h.size)).trans (h.block k hk hF)⟩
theorem ID.drew (h:ID F w w1):ID F w w1.drew:=⟨h.os,h.tape,h.output,h.size,h.block⟩
theorem ID.trans_below (h:ID F w w1) (k:Below w1.heap.size w1 w2):ID F w w2:=h.trans (ID.of_below k (fun _=>False)) (fun _ _ h=>h.elim)
theorem ID.grown (h:ID F w w1) {row:Option Nat} (hg:w1.grownBy w2 row) (hr:∀ k,k<w.heap.size->row=some k->F k):ID F w w2 :=
 ⟨hg.os.trans h.os,hg.tape.trans h.tape,hg.output.trans h.output,Nat.le_trans h.size hg.size,fun k hk hF =>
  (hg.block k (Nat.lt_of_lt_of_le hk h.size) (fun e=>hF (hr k hk e.symm))).trans (h.block k hk hF)⟩
theorem ID.cell (h:ID F w w1) {a:Addr} (ha:a.block<w.heap.size) (hF:¬ F a.block):w1.cell? a=w.cell? a:=World.cell?_of_block (w:=w) (h.block _ ha hF)
theorem ID.frozen (h:ID F w w1) {a:Addr} (ha:a.block<w.heap.size) (hF:¬ F a.block):w1.frozen? a=w.frozen? a:=World.frozen?_of_block (w:=w) (h.block _ ha hF)
end
theorem MO {p:Prop} (h:p):Hid p:=h
theorem OA {w:World} {k:Nat} {o:Obj} (h:w.heap[k]?=some o):k<w.heap.size:=by
 rcases Nat.lt_or_ge k w.heap.size with h' | h'
 ·exact h'
 ·rw [Array.getElem?_eq_none h'] at h; cases h
theorem ID.at_ {F:Nat->Prop} {w w1:World} (h:ID F w w1) {a:Addr} {v:Value} (hc:w.cell? a=some v) (hF:¬ F a.block):w1.cell? a=some v:=(h.cell (World.block_lt_of_cell? w a hc) hF).trans hc
theorem ID.fz {F:Nat->Prop} {w w1:World} (h:ID F w w1) {a:Addr} (hc:w.frozen? a=false) (hl:a.block<w.heap.size) (hF:¬ F a.block):w1.frozen? a=false:=(h.frozen hl hF).trans hc
theorem XQ {w:World} {o:Obj} {n:Nat} (h:n=w.heap.size):(w.alloc o).heap[n]?=some o:=by rw [h]; exact heap_alloc_new w o
def Sl (av:Nat->Prop) (w:World) (sz:Nat) (v:Value) (n:Nat) (cs:List Value):Prop :=
 cs.length=n * sz/\∃ A c,v=.slice A n c/\n<=c ∧
  (0<n->∃ b off,A=some ⟨b,off,none⟩/\b<w.heap.size/\¬ av b/\∀ j u,cs[j]?=some u->w.cell? ⟨b,off + j,none⟩=some u)
section
variable {av gb:Nat->Prop} {w w':World} {sz n:Nat} {v:Value} {cs:List Value}
theorem Sl.nil (av:Nat->Prop) (w:World) (sz:Nat):Sl av w sz (.slice none 0 0) 0 []:=⟨by simp,none,0,rfl,ym _,fun h=>absurd h (by omega)⟩
theorem Sl.keep {F:Nat->Prop} (h:Sl av w sz v n cs) (hk:ID F w w') (hF:∀ b,b<w.heap.size->F b->av b):Sl av w' sz v n cs:=by
 obtain ⟨hl,A,c,rfl,hc,hn⟩:=h;refine ⟨hl,A,c,rfl,hc,fun h0=>?_⟩;obtain ⟨b,off,rfl,hb,sd,sb⟩:=hn h0;exact ⟨b,off,rfl,Nat.lt_of_lt_of_le hb hk.size,sd,fun j u hu=>(hk.cell (a:=⟨b,off + j,none⟩) hb (fun f=>sd (hF b hb f))).trans (sb j u hu)⟩
theorem Sl.below (h:Sl av w sz v n cs) (hk:Below w.heap.size w w'):Sl av w' sz v n cs:=h.keep (ID.of_below hk (fun _=>False)) (fun _ _ h=>h.elim)
theorem Sl.len (h:Sl av w sz v n cs):cs.length=n * sz:=h.1
theorem Sl.zero (av:Nat->Prop) (w:World) (sz:Nat) (A:Option Addr) (c:Nat):Sl av w sz (.slice A 0 c) 0 []:=⟨by simp,A,c,rfl,Nat.zero_le _,fun h=>absurd h (by omega)⟩
end
theorem ID.setRow {F:Nat->Prop} {w w1:World} (h:ID F w w1) {B:Nat} (hF:B<w.heap.size->F B) (cs:Array Value):ID F w (w1.setRow B cs) :=
 ⟨h.os,h.tape,h.output,by have:=h.size; simpa using this,fun k hk hn=>(setRow_other w1 B k cs (fun e=>hn (e ▸ hF (e ▸ hk)))).trans (h.block k hk hn)⟩
/-! maps -/
def xL {κ β:Type} [DecidableEq κ]:List (κ × β)->κ->Option β
 | [],_=>none
 | p :: l,k=>if k=p.1 then some p.2 else xL l k
def wY {κ β:Type} [DecidableEq κ]:List (κ × β)->κ->β->List (κ × β)
 | [],k,v=>[(k,v)]
 | p :: l,k,v=>if k=p.1 then (k,v) :: l else p :: wY l k v
section
variable {κ β:Type} [DecidableEq κ]
end
structure GO (P:Program) (T:TypeId) {κ:Type} [DecidableEq κ] (ke:κ->Value):Prop where
 check:∀ (empty:Bool) (k:κ) (w:World),(Instr.checkKey empty 10000 T (ke k)).run P w=.ok () w
 find:∀ (k:κ) (es:List MapEntry) (L:List (κ × Value)) (w:World),es.map (fun e=>(e.key,e.val))=L.map (fun p=>(ke p.1,p.2)) →
  (Instr.findKey T (ke k) es).run P w=.ok (((L.map (·.1)).idxOf? k).bind fun i=>(L[i]?).map fun p=>(i,p.2)) w
 same:∀ (k:κ),Instr.sameBits 10000 (ke k) (ke k)=true
def QO {κ:Type} (ke:κ->Value) (w:World) (m:Nat) (L:List (κ × Value)):Prop :=
 ∃ es clock,w.heap[m]?=some (.map es clock)/\es.toList.map (fun e=>(e.key,e.val))=L.map (fun p=>(ke p.1,p.2))
theorem idx_get {κ β:Type} [DecidableEq κ] (L:List (κ × β)) (k:κ):(((L.map (·.1)).idxOf? k).bind fun i=>(L[i]?).map fun p=>(i,p.2)).map (·.2)=xL L k:=by
 induction L with
 | nil=>simp [xL]
 | cons p l ih =>
  unfold xL;simp only [yg,List.idxOf?_cons];by_cases h:p.1=k
  ·subst h; simp
  ·have h':(p.1 == k)=false:=by simpa using h
   have h2:¬ k=p.1:=fun e=>h e.symm
   rw [h',if_neg h2,<- ih];cases hi:List.idxOf? k (List.map (fun x=>x.1) l) with
   | none=>simp
   | some i=>simp [Function.comp_def]
section
theorem QO.keep {κ:Type} {ke:κ->Value} {w:World} {m:Nat} {L:List (κ × Value)} {F:Nat->Prop} {w':World} (h:QO ke w m L) (hk:ID F w w') (hF:¬ F m):QO ke w' m L:=by
 obtain ⟨es,clock,h1,h2⟩:=h;exact ⟨es,clock,(hk.block m (OA h1) hF).trans h1,h2⟩
theorem QO.lt {κ:Type} {ke:κ->Value} {w:World} {m:Nat} {L:List (κ × Value)} (h:QO ke w m L):m<w.heap.size:=by
 obtain ⟨es,clock,h1,h2⟩:=h;exact OA h1
theorem idx_set {κ β:Type} [DecidableEq κ] (L:List (κ × β)) (k:κ) (v:β):wY L k v=match (L.map (·.1)).idxOf? k with | some i=>L.set i (k,v) | none=>L++[(k,v)]:=by
 induction L with
 | nil=>simp [wY]
 | cons p l ih =>
  unfold wY;simp only [yg,List.idxOf?_cons];by_cases h:p.1=k
  ·subst h; simp
  ·have h':(p.1 == k)=false:=by simpa using h
   have h2:¬ k=p.1:=fun e=>h e.symm
   rw [h',if_neg h2,ih];cases hi:List.idxOf? k (List.map (fun x=>x.1) l) <;> simp
variable {κ:Type} [DecidableEq κ] {P:Program} {T kT eT:TypeId} {ke:κ->Value} {w:World} {m:Nat} {L:List (κ × Value)}
theorem QO.lookup (h:QO ke w m L) (K:GO P kT ke) (hT:P.underlying T=some (.map kT eT)) {z:Value} (hz:(zeroValue eT).run P w=.ok z w) (k:κ) :
  (Instr.lookup T (.map (some m)) (ke k) false).run P w=.ok ((xL L k).getD z) w:=by
 obtain ⟨es,clock,h1,h2⟩:=h;have hg:(getObj m).run P w=.ok (.map es clock) w:=by simp [getObj,Sem.run,h1]
 have hf:=K.find k es.toList L w h2;have hi:=idx_get L k;simp only [Instr.lookup,Sem.run_bind,run_underlying hT,Result.andThen_ok,hg,Sem.run_pure,K.check,hf];rw [<- hi];cases hq:((L.map (·.1)).idxOf? k).bind fun i=>(L[i]?).map fun p=>(i,p.2) with
 | none=>simp [hz]
 | some x=>obtain ⟨i,v⟩:=x; simp
theorem QO.lookup_ok (h:QO ke w m L) (K:GO P kT ke) (hT:P.underlying T=some (.map kT eT)) {z:Value} (hz:(zeroValue eT).run P w=.ok z w) (k:κ) :
  (Instr.lookup T (.map (some m)) (ke k) true).run P w=.ok (.tuple #[(xL L k).getD z,.bool (xL L k).isSome]) w:=by
 obtain ⟨es,clock,h1,h2⟩:=h;have hg:(getObj m).run P w=.ok (.map es clock) w:=by simp [getObj,Sem.run,h1]
 have hf:=K.find k es.toList L w h2;have hi:=idx_get L k;simp only [Instr.lookup,Sem.run_bind,run_underlying hT,Result.andThen_ok,hg,Sem.run_pure,K.check,hf];rw [<- hi];cases hq:((L.map (·.1)).idxOf? k).bind fun i=>(L[i]?).map fun p=>(i,p.2) with
 | none=>simp [hz]
 | some x=>obtain ⟨i,v⟩:=x; simp
theorem ID.setObj {F:Nat->Prop} {w w1:World} (h:ID F w w1) {m:Nat} (hF:F m) (o:Obj):ID F w { w1 with heap:=w1.heap.setIfInBounds m o } :=
 ⟨h.os,h.tape,h.output,by have:=h.size; simpa using this,fun k hk hn=>by
  have:m≠k:=fun e=>hn (e ▸ hF)
  show (w1.heap.setIfInBounds m o)[k]?=_;rw [Array.getElem?_setIfInBounds_ne this];exact h.block k hk hn⟩
end
end
section
open Go Go.RowKit
abbrev Av:=Nat->Nat->Prop
structure Ix where
 f:Nat->Nat->Option Nat
 ob:Nat->Nat->Option (Nat->Prop)
 z:Nat->Nat
instance:CoeFun Ix (fun _=>Nat->Nat->Option Nat):=⟨Ix.f⟩
def Ix.none:Ix:=⟨fun _ _=>.none,fun _ _=>.none,fun _=>0⟩
structure Ix.Le (ι ι':Ix):Prop where
 f:∀ t n b,ι t n=some b->ι' t n=some b
 z:∀ t n b,ι t n=some b->ι'.z b=ι.z b
theorem Ix.Le.refl (ι:Ix):Ix.Le ι ι:=⟨fun _ _ _ h=>h,fun _ _ _ _=>rfl⟩
def AV.scalV:AV->Value
 | .int k n=>.int k n
 | .bool b=>.bool b
 | .str s=>.string s
 | _=>Go.undef
def AV.flatV:AV->Value
 | .agg cs=>.agg (cs.map AV.scalV).toArray
 | v=>v.scalV
def entV:List AV->Value × Value
 | [k,v]=>(k.flatV,v.flatV)
 | _=>(Go.undef,Go.undef)
def RZ (es:Array MapEntry) (clock:Nat):Prop:=clock=es.size/\∀ i (h:i<es.size),es[i].born=i
theorem it_none {S:AV} (h:(BV S).isSome=true):ZI S=none/\bldOf S=none:=by
 unfold BV at h;split at h
 ·exact ⟨rfl,rfl⟩
 ·cases h
def MapO (L:List (List AV)) (H:Nat->Prop) (p:Nat) (w:World):Prop:=(∀ b,H b ↔ b=p)/\∃ es clock,w.heap[p]?=some (.map es clock)/\es.toList.map (fun e=>(e.key,e.val))=L.map entV/\RZ es clock
def b6 (T e:TypeId) (s:ByteArray) (H:Nat->Prop) (p:Nat) (w:World):Prop :=
 ∃ v q,w.heap[p]?=some (.cells #[q,v] T (0,0))/\(q=.pointer none\/q=.pointer (some ⟨p,0,none⟩))/\w.ownsRowF 0 e 1 v s.size (Go.Lib.strCells s)/\v.ownBlock≠some p/\∀ b,H b ↔ b=p\/v.ownBlock=some b
theorem b6.keep {T e:TypeId} {s:ByteArray} {H:Nat->Prop} {p:Nat} {w w':World} (h:b6 T e s H p w) (hb:∀ b,H b->w'.heap[b]?=w.heap[b]?):b6 T e s H p w':=by
 obtain ⟨v,q,h1,h2,h3,h4,h5⟩:=h;refine ⟨v,q,(hb p ((h5 p).2 (.inl rfl))).trans h1,h2,⟨h3.1,?_⟩,h4,h5⟩;rcases h3.2 with hn | ⟨g,cap,cur,fz,rfl,hbg,hg,rest⟩
 ·exact .inl hn
 ·exact .inr ⟨g,cap,cur,fz,rfl,hbg,(hb g ((h5 g).2 (.inr rfl))).trans hg,rest⟩
theorem b6.lt {T e:TypeId} {s:ByteArray} {H:Nat->Prop} {p b:Nat} {w:World} (h:b6 T e s H p w) (hb:H b):b<w.heap.size:=by
 obtain ⟨v,q,h1,h2,h3,h4,h5⟩:=h;rcases (h5 b).1 hb with rfl | hv
 ·exact OA h1
 ·exact (h3.lt b hv).2
structure xQ where
 at_:AV->(Nat->Prop)->Nat->World->Prop
 keep:∀ {S H p w w'},at_ S H p w->(∀ b,H b->w'.heap[b]?=w.heap[b]?)->w.heap.size<=w'.heap.size->at_ S H p w'
 main:∀ {S H p w},at_ S H p w->H p
 lt:∀ {S H p w b},at_ S H p w->H b->b<w.heap.size
structure AH extends xQ where
 maps:∀ L H p w,at_ (OG L) H p w ↔ MapO L H p w
 blds:∀ T e s H p w,at_ (bldAV T e s) H p w ↔ b6 T e s H p w
 iters:∀ S H p w,(BV S).isSome=true->(at_ S H p w ↔ ((∀ b,H b ↔ b=p)/\p<w.heap.size))
def xQ.ofAt (O:xQ) (A:AV) (H:Nat->Prop) (p:Nat) (w:World):Prop:=match ZI A with
 | some L=>MapO L H p w
 | none=>match bldOf A with
  | some (T,e,s)=>b6 T e s H p w
  | none=>if (BV A).isSome=true then (∀ b,H b ↔ b=p)/\p<w.heap.size else O.at_ A H p w
def xQ.of (O:xQ):AH where
 at_:=O.ofAt
 keep:=fun {A H p w w'} h hb hs=>by
  unfold xQ.ofAt at h ⊢
  split at h
  ·obtain ⟨h1,es,clock,h2,h3⟩:=h
   exact ⟨h1,es,clock,(hb p ((h1 p).2 rfl)).trans h2,h3⟩
  ·split at h
   ·exact h.keep hb
   ·split at h
    ·rename_i hi
     simp only [hi,if_true]
     exact ⟨h.1,Nat.lt_of_lt_of_le h.2 hs⟩
    ·rename_i hi
     simp only [hi,if_false]
     exact O.keep h hb hs
 main:=fun {A H p w} h=>by
  unfold xQ.ofAt at h
  split at h
  ·exact (h.1 p).2 rfl
  ·split at h
   ·obtain ⟨v,q,h1,h2,h3,h4,h5⟩:=h
    exact (h5 p).2 (.inl rfl)
   ·split at h
    ·exact (h.1 p).2 rfl
    ·exact O.main h
 lt:=fun {A H p w b} h hb=>by
  unfold xQ.ofAt at h
  split at h
  ·obtain ⟨h1,es,clock,h2,h3⟩:=h
   rw [(h1 b).1 hb]
   exact OA h2
  ·split at h
   ·exact h.lt hb
   ·split at h
    ·rw [(h.1 b).1 hb]; exact h.2
    ·exact O.lt h hb
 maps:=fun L H p w=>Iff.rfl
 blds:=fun T e s H p w=>Iff.rfl
 iters:=fun S H p w h=>by
  unfold xQ.ofAt
  rw [(it_none h).1,(it_none h).2]
  simp only [h,if_true]
def c7:xQ where
 at_:=fun _ _ _ _=>False
 keep:=fun h _ _=>h.elim
 main:=fun h=>h.elim
 lt:=fun h _=>h.elim
mutual
/-- v reads as x in w,and nothing that it reads lies in av -/
def bE (av:Av) (w:World):AV->Value->Prop
 | .int k n,v=>v=.int k n
 | .bool b,v=>v=.bool b
 | .str s,v=>v=.string s
 | .nilP,v=>v=.pointer none
 | .ip cs,v=>∃ b off,v=.pointer (some ⟨b,off,none⟩)/\UE av w cs b off
 | .sl nil l,v=>∃ A c,v=.slice A l.length c/\l.length<=c/\(∀ x∈l,∀ y∈l,x.length=y.length)/\(nil=true->A=none/\l.length=0/\c=0)/\(nil=false->(A=none->c=0)/\(0<l.length->∃ b off,A=some ⟨b,off,none⟩/\OC av w l b off))
 | .agg cs,v=>∃ us,v=.agg us/\MC av w cs us.toList
 | .tup xs,v=>∃ us,v=.tuple us/\ZN av w xs us.toList
 | .ptr ..,_=>False
 | .bp ..,_=>False
 | .bl ..,_=>False
 | .ref ..,_=>False
 | .mp ..,_=>False
 | .fn ..,_=>False
 | .undef,_=>True
def MC (av:Av) (w:World):List AV->List Value->Prop
 | [],us=>us=[]
 | x :: r,us=>∃ u ta,us=u :: ta/\bE av w x u/\u.oneCell'=true/\MC av w r ta
def ZN (av:Av) (w:World):List AV->List Value->Prop
 | [],us=>us=[]
 | x :: r,us=>∃ u ta,us=u :: ta/\bE av w x u/\ZN av w r ta
def UE (av:Av) (w:World):List AV->Nat->Nat->Prop
 | [],_,_=>True
 | x :: r,b,off=>(∃ u,w.cell? ⟨b,off,none⟩=some u/\bE av w x u/\u.oneCell'=true)/\¬ av b off/\UE av w r b (off + 1)
def OC (av:Av) (w:World):List (List AV)->Nat->Nat->Prop
 | [],_,_=>True
 | cs :: r,b,off=>UE av w cs b off/\OC av w r b (off + cs.length)
end
structure BA (av gb:Av) (w w':World):Prop where
 cell:∀ b o u,w.cell? ⟨b,o,none⟩=some u->¬ av b o->w'.cell? ⟨b,o,none⟩=some u/\¬ gb b o
mutual
theorem bE.held {av gb:Av} {w w':World} (h:BA av gb w w'):∀ (x:AV) (v:Value),bE av w x v->bE gb w' x v
 | .int _ _,_,hr=>by simpa [bE] using hr
 | .bool _,_,hr=>by simpa [bE] using hr
 | .str _,_,hr=>by simpa [bE] using hr
 | .nilP,_,hr=>by simpa [bE] using hr
 | .ip cs,_,hr=>by
  simp only [bE] at hr ⊢
  obtain ⟨b,off,rfl,hc⟩:=hr
  exact ⟨b,off,rfl,UE.held h cs b off hc⟩
 | .sl nil l,_,hr=>by
  simp only [bE] at hr ⊢
  obtain ⟨A,c,rfl,hc,hu,hn,hs⟩:=hr
  refine ⟨A,c,rfl,hc,hu,hn,fun hf=>⟨(hs hf).1,fun h0=>?_⟩⟩
  obtain ⟨b,off,rfl,la⟩:=(hs hf).2 h0
  exact ⟨b,off,rfl,OC.held h l b off la⟩
 | .agg cs,_,hr=>by
  simp only [bE] at hr ⊢
  obtain ⟨us,rfl,hc⟩:=hr
  exact ⟨us,rfl,MC.held h cs _ hc⟩
 | .tup xs,_,hr=>by
  simp only [bE] at hr ⊢
  obtain ⟨us,rfl,hc⟩:=hr
  exact ⟨us,rfl,ZN.held h xs _ hc⟩
 | .ptr ..,_,hr=>by simp [bE] at hr
 | .bp ..,_,hr=>by simp [bE] at hr
 | .bl ..,_,hr=>by simp [bE] at hr
 | .ref ..,_,hr=>by simp [bE] at hr
 | .mp ..,_,hr=>by simp [bE] at hr
 | .fn ..,_,hr=>by simp [bE] at hr
 | .undef,_,hr=>trivial
theorem MC.held {av gb:Av} {w w':World} (h:BA av gb w w'):∀ (xs:List AV) (us:List Value),MC av w xs us->MC gb w' xs us
 | [],_,hr=>by simpa [MC] using hr
 | x :: r,_,hr=>by
  simp only [MC] at hr ⊢
  obtain ⟨u,ta,rfl,hx,h1,hr⟩:=hr
  exact ⟨u,ta,rfl,bE.held h x u hx,h1,MC.held h r ta hr⟩
theorem ZN.held {av gb:Av} {w w':World} (h:BA av gb w w'):∀ (xs:List AV) (us:List Value),ZN av w xs us->ZN gb w' xs us
 | [],_,hr=>by simpa [ZN] using hr
 | x :: r,_,hr=>by
  simp only [ZN] at hr ⊢
  obtain ⟨u,ta,rfl,hx,hr⟩:=hr
  exact ⟨u,ta,rfl,bE.held h x u hx,ZN.held h r ta hr⟩
theorem UE.held {av gb:Av} {w w':World} (h:BA av gb w w'):∀ (cs:List AV) (b off:Nat),UE av w cs b off->UE gb w' cs b off
 | [],_,_,_=>by simp [UE]
 | x :: r,b,off,hr=>by
  simp only [UE] at hr ⊢
  obtain ⟨⟨u,hc,hx,h1⟩,ha,hr⟩:=hr
  obtain ⟨pf,jv⟩:=h.cell b off u hc ha
  exact ⟨⟨u,pf,bE.held h x u hx,h1⟩,jv,UE.held h r b (off + 1) hr⟩
theorem OC.held {av gb:Av} {w w':World} (h:BA av gb w w'):∀ (l:List (List AV)) (b off:Nat),OC av w l b off->OC gb w' l b off
 | [],_,_,_=>by simp [OC]
 | cs :: r,b,off,hr=>by
  simp only [OC] at hr ⊢
  exact ⟨UE.held h cs b off hr.1,OC.held h r b (off + cs.length) hr.2⟩
end
theorem BA.refl (av:Av) (w:World):BA av av w w:=⟨fun _ _ _ hc ha=>⟨hc,ha⟩⟩
theorem BA.less {av gb:Av} {w:World} (h:∀ b o,gb b o->av b o):BA av gb w w:=⟨fun _ _ _ hc ha=>⟨hc,fun hx=>ha (h _ _ hx)⟩⟩
def xC (av PC:Av) (w:World):List AV->Nat->Nat->Prop
 | [],_,_=>True
 | x :: r,b,off=>(∃ u,w.cell? ⟨b,off,none⟩=some u/\bE av w x u/\u.oneCell'=true)/\¬ PC b off/\xC av PC w r b (off + 1)
def tM (av PC:Av) (w:World):List (List AV)->Nat->Nat->Prop
 | [],_,_=>True
 | cs :: r,b,off=>xC av PC w cs b off/\tM av PC w r b (off + cs.length)
theorem xC.held {av gb PC avB':Av} {w w':World} (h:BA av gb w w') (hB:BA PC avB' w w'):∀ (cs:List AV) (b off:Nat),xC av PC w cs b off->xC gb avB' w' cs b off
 | [],_,_,_=>by simp [xC]
 | x :: r,b,off,hr=>by
  simp only [xC] at hr ⊢;obtain ⟨⟨u,hc,hx,h1⟩,ha,hr⟩:=hr;obtain ⟨pf,jv⟩:=hB.cell b off u hc ha;exact ⟨⟨u,pf,bE.held h x u hx,h1⟩,jv,xC.held h hB r b (off + 1) hr⟩
theorem tM.held {av gb PC avB':Av} {w w':World} (h:BA av gb w w') (hB:BA PC avB' w w'):∀ (l:List (List AV)) (b off:Nat),tM av PC w l b off->tM gb avB' w' l b off
 | [],_,_,_=>by simp [tM]
 | cs :: r,b,off,hr=>by
  simp only [tM] at hr ⊢;exact ⟨xC.held h hB cs b off hr.1,tM.held h hB r b (off + cs.length) hr.2⟩
def NA (ι:Ix) (av:Av) (w:World):AV->Value->Prop
 | .ptr t n off,v=>∃ b,ι t n=some b/\v=.pointer (some ⟨b,off,none⟩)
 | .ref t n sz off len cap,v=>∃ b,ι t n=some b/\len<=cap/\∃ c,cap<=c/\off + c * sz<=ι.z b/\v=.slice (some ⟨b,off,none⟩) len c
 | .mp t n,v=>∃ b,ι t n=some b/\v=.map (some b)
 | .undef,_=>True
 | x,v=>bE av w x v
def JA (ι:Ix) (av:Av) (w:World):List AV->List Value->Prop
 | [],us=>us=[]
 | x :: r,us=>∃ u ta,us=u :: ta/\NA ι av w x u/\u.oneCell'=true/\JA ι av w r ta
def KO (ι:Ix) (av:Av) (w:World):AV->Value->Prop
 | .agg cs,v=>∃ us,v=.agg us/\JA ι av w cs us.toList
 | x,v=>NA ι av w x v
def ZG (ι:Ix) (av:Av) (w:World):List AV->List Value->Prop
 | [],us=>us=[]
 | x :: r,us=>∃ u ta,us=u :: ta/\KO ι av w x u/\ZG ι av w r ta
def cU (ι:Ix) (av PC:Av) (w:World):AV->Value->Prop
 | .bp cs,v=>∃ b off,v=.pointer (some ⟨b,off,none⟩)/\xC av PC w cs b off
 | x,v=>NA ι av w x v
def XG (ι:Ix) (av PC:Av) (w:World):List AV->List Value->Prop
 | [],us=>us=[]
 | x :: r,us=>∃ u ta,us=u :: ta/\cU ι av PC w x u/\XG ι av PC w r ta
def qB (ι:Ix) (av PC:Av) (w:World):AV->Value->Prop
 | .bp cs,v=>∃ b off,v=.pointer (some ⟨b,off,none⟩)/\xC av PC w cs b off
 | .bl l,v=>∃ a c,v=.slice (some a) l.length c/\l.length<=c/\(∀ x∈l,∀ y∈l,x.length=y.length)/\(0<l.length->∃ b off,a=⟨b,off,none⟩/\tM av PC w l b off)
 | .agg cs,v=>∃ us,v=.agg us/\JA ι av w cs us.toList
 | .tup xs,v=>∃ us,v=.tuple us/\ZG ι av w xs us.toList
 | .fn f cs,v=>∃ us,v=.func (.func f) #[] us/\XG ι av PC w cs us.toList
 | .undef,_=>True
 | x,v=>NA ι av w x v
theorem NA.held {ι ι':Ix} {av gb:Av} {w w':World} (hι:Ix.Le ι ι') (h:BA av gb w w') (x:AV) (v:Value) (hr:NA ι av w x v):NA ι' gb w' x v:=by
 cases x <;> first
  | exact bE.held h _ v hr
  | (obtain ⟨b,hb,h1,c,h2,h3,hv⟩:=hr; exact ⟨b,hι.f _ _ _ hb,h1,c,h2,by rw [hι.z _ _ _ hb]; exact h3,hv⟩)
  | (obtain ⟨b,hb,hv⟩:=hr; exact ⟨b,hι.f _ _ _ hb,hv⟩)
  | trivial
theorem JA.held {ι ι':Ix} {av gb:Av} {w w':World} (hι:Ix.Le ι ι') (h:BA av gb w w'):∀ (xs:List AV) (us:List Value),JA ι av w xs us->JA ι' gb w' xs us
 | [],_,hr=>by simpa [JA] using hr
 | x :: r,_,hr=>by
  simp only [JA] at hr ⊢;obtain ⟨u,ta,rfl,hx,h1,hr⟩:=hr;exact ⟨u,ta,rfl,NA.held hι h x u hx,h1,JA.held hι h r ta hr⟩
theorem KO.held {ι ι':Ix} {av gb:Av} {w w':World} (hι:Ix.Le ι ι') (h:BA av gb w w') (x:AV) (v:Value) (hr:KO ι av w x v):KO ι' gb w' x v:=by
 cases x with
 | agg cs=>obtain ⟨us,hv,hc⟩:=hr; exact ⟨us,hv,JA.held hι h _ _ hc⟩
 | int=>exact NA.held hι h (.int _ _) v hr
 | bool=>exact NA.held hι h (.bool _) v hr
 | str=>exact NA.held hι h (.str _) v hr
 | nilP=>exact NA.held hι h .nilP v hr
 | ptr t n o=>exact NA.held hι h (.ptr t n o) v hr
 | ip cs=>exact NA.held hι h (.ip cs) v hr
 | bp cs=>exact NA.held hι h (.bp cs) v hr
 | sl n l=>exact NA.held hι h (.sl n l) v hr
 | bl l=>exact NA.held hι h (.bl l) v hr
 | ref a b c d e f=>exact NA.held hι h (.ref a b c d e f) v hr
 | mp t n=>exact NA.held hι h (.mp t n) v hr
 | fn f cs=>exact NA.held hι h (.fn f cs) v hr
 | tup cs=>exact NA.held hι h (.tup cs) v hr
 | undef=>trivial
theorem ZG.held {ι ι':Ix} {av gb:Av} {w w':World} (hι:Ix.Le ι ι') (h:BA av gb w w'):∀ (xs:List AV) (us:List Value),ZG ι av w xs us->ZG ι' gb w' xs us
 | [],_,hr=>by simpa [ZG] using hr
 | x :: r,_,hr=>by
  simp only [ZG] at hr ⊢;obtain ⟨u,ta,rfl,hx,hr⟩:=hr;exact ⟨u,ta,rfl,KO.held hι h x u hx,ZG.held hι h r ta hr⟩
theorem cU.held {ι ι':Ix} {av gb PC avB':Av} {w w':World} (hι:Ix.Le ι ι') (h:BA av gb w w') (hB:BA PC avB' w w') (x:AV) (v:Value) (hr:cU ι av PC w x v):cU ι' gb avB' w' x v:=by
 match x,hr with
 | .bp cs,⟨b,off,hv,hc⟩=>exact ⟨b,off,hv,xC.held h hB _ b off hc⟩
 | .int k n,hr=>exact NA.held hι h (.int k n) v hr
 | .bool b,hr=>exact NA.held hι h (.bool b) v hr
 | .str s,hr=>exact NA.held hι h (.str s) v hr
 | .nilP,hr=>exact NA.held hι h .nilP v hr
 | .ptr t n off,hr=>exact NA.held hι h (.ptr t n off) v hr
 | .ip cs,hr=>exact NA.held hι h (.ip cs) v hr
 | .sl n l,hr=>exact NA.held hι h (.sl n l) v hr
 | .mp t n,hr=>exact NA.held hι h (.mp t n) v hr
 | .ref t n sz off len cap,hr=>exact NA.held hι h (.ref t n sz off len cap) v hr
 | .undef,hr=>trivial
 | .agg cs,hr=>exact NA.held hι h (.agg cs) v hr
 | .tup cs,hr=>exact NA.held hι h (.tup cs) v hr
theorem XG.held {ι ι':Ix} {av gb PC avB':Av} {w w':World} (hι:Ix.Le ι ι') (h:BA av gb w w') (hB:BA PC avB' w w'):∀ (xs:List AV) (us:List Value),XG ι av PC w xs us->XG ι' gb avB' w' xs us
 | [],_,hr=>by simpa [XG] using hr
 | x :: r,_,hr=>by
  simp only [XG] at hr ⊢;obtain ⟨u,ta,rfl,hx,hr⟩:=hr;exact ⟨u,ta,rfl,cU.held hι h hB x u hx,XG.held hι h hB r ta hr⟩
theorem qB.held {ι ι':Ix} {av gb PC avB':Av} {w w':World} (hι:Ix.Le ι ι') (h:BA av gb w w') (hB:BA PC avB' w w') (x:AV) (v:Value) (hr:qB ι av PC w x v):qB ι' gb avB' w' x v:=by
 match x,hr with
 | .bp cs,⟨b,off,hv,hc⟩=>exact ⟨b,off,hv,xC.held h hB _ b off hc⟩
 | .bl l,⟨a,c,hv,hl,hu,hc⟩ =>
  refine ⟨a,c,hv,hl,hu,fun h0=>?_⟩;obtain ⟨b,off,ha,hr⟩:=hc h0;exact ⟨b,off,ha,tM.held h hB _ b off hr⟩
 | .agg cs,⟨us,hv,hc⟩=>exact ⟨us,hv,JA.held hι h _ _ hc⟩
 | .undef,_=>trivial
 | .int k n,hr=>exact NA.held hι h (.int k n) v hr
 | .bool b,hr=>exact NA.held hι h (.bool b) v hr
 | .str s,hr=>exact NA.held hι h (.str s) v hr
 | .nilP,hr=>exact NA.held hι h .nilP v hr
 | .ptr t n off,hr=>exact NA.held hι h (.ptr t n off) v hr
 | .ip cs,hr=>exact NA.held hι h (.ip cs) v hr
 | .sl n l,hr=>exact NA.held hι h (.sl n l) v hr
 | .mp t n,hr=>exact NA.held hι h (.mp t n) v hr
 | .ref t n sz off len cap,hr=>exact NA.held hι h (.ref t n sz off len cap) v hr
 | .tup vs,⟨us,hv,hc⟩=>exact ⟨us,hv,ZG.held hι h _ _ hc⟩
 | .fn f cs,⟨us,hv,hc⟩=>exact ⟨us,hv,XG.held hι h hB _ _ hc⟩
end
section
open Go Go.RowKit
structure OO where
 b:Nat->Prop
 p:Option Nat
 r:Nat->Prop
 z:Nat
 /-- what the slots of the calls that wait di -/
 g:Nat->Value
instance:CoeFun OO (fun _=>Nat->Prop):=⟨OO.b⟩
structure Ow where
 g:Nat
 n:Nat
 c:Nat
 sz:Nat
 e:TypeId
abbrev dL:=Nat->Option Ow
def Ix.has (ι:Ix) (b:Nat):Prop:=(∃ t n,ι t n=some b)\/∃ t n H,ι.ob t n=some H/\H b
def PC (ι:Ix) (Θ:dL):Av:=fun b o=>ι.has b\/(∃ k ow,Θ k=some ow/\ow.g=b/\ow.n * ow.sz<=o)
def SC (aa:Av) (ι:Ix) (Θ:dL):Av:=fun b o=>aa b o\/PC ι Θ b o
def exV (v:Value):Prop:=∃ A n,v=.slice A n n
def qM (Θ:dL):An->Value->Prop
 | .no,_=>True
 | .ex,v=>exV v
 | .own k e,v=>exV v\/∃ ow,Θ k=some ow/\ow.e=e/\v=.slice (some ⟨ow.g,0,none⟩) ow.n ow.c
def uE (ι:Ix) (Θ:dL) (av:Av) (w:World) (r:List qA) (cur:Array Value):Prop :=
 r.length<=cur.size/\∀ (j:Nat) (x:qA),r[j]?=some x->∃ u,cur[j]?=some u/\u.oneCell'=true/\NA ι av w x.v u/\qM Θ x.a u
def ObOk (B:Nat) (F0:OO) (D:Nat->Prop) (next:Nat) (w:World) (ι:Ix) (Θ:dL) (t n:Nat) (H:Nat->Prop):Prop :=
 (∀ b,H b->(B<=b\/F0 b)/\b<w.heap.size/\(∀ t' n',ι t' n'=some b->t'=t/\n'=n)/\(∀ k o,Θ k=some o->o.g≠b)/\∀ t' n' H',ι.ob t' n'=some H'->H' b->t'=t/\n'=n)/\(n<next\/n=next/\D t)
def N1 (ι:Ix) (S:AV) (p:Nat) (w:World):Prop:=∀ tm nm N seen,BV S=some (tm,nm,N,seen)->∃ m H,ι tm nm=some m/\ι.ob tm nm=some H/\w.heap[p]?=some (.mapIter (some m) N seen.toArray N)
theorem N1.no {ι:Ix} {S:AV} {p:Nat} {w:World} (h:J4 S=true):N1 ι S p w:=fun tm nm N seen e=>by
 unfold J4 at h;rw [e] at h;cases h
theorem N1.keep {ι ι':Ix} {S:AV} {p:Nat} {w w':World} (h:N1 ι S p w) (hι:∀ t n b H,ι t n=some b->ι.ob t n=some H->ι' t n=some b/\∃ H',ι'.ob t n=some H') (hp:∀ x,w.heap[p]?=some x->w'.heap[p]?=some x):N1 ι' S p w':=fun tm nm N seen e=>by
 obtain ⟨m,H,h1,h2,h3⟩:=h tm nm N seen e;obtain ⟨g1,H',g2⟩:=hι _ _ _ _ h1 h2;exact ⟨m,H',g1,g2,hp _ h3⟩
structure iC (P:Program) (O:AH) (nt B:Nat) (F0:OO) (aa:Av) (w0:World) (D:Nat->Prop) (s:aA) (a:Act) (w:World) (ι:Ix) (Θ:dL):Prop where
 defers:a.defers=[]
 size:a.tmps.size=nt
 env:∀ t,qB ι (SC aa ι Θ) (PC ι Θ) w (s.env t).v (a.tmps.getD t undef)
 ann:∀ t,qM Θ (s.env t).a (a.tmps.getD t undef)
 rows:∀ t n r,s.mem t n=some r->ι.ob t n=none/\∃ b cur ty,ι t n=some b/\w.heap[b]?=some (.cells cur ty (0,0))/\uE ι Θ (SC aa ι Θ) w r cur/\(B<=b\/F0.r b)/\cur.size=ι.z b
 mine:∀ t n b,ι t n=some b->(B<=b\/F0 b)/\b<w.heap.size/\(n<s.next\/n=s.next/\D t)
 inj:∀ t n t' n' b,ι t n=some b->ι t' n'=some b->t=t'/\n=n'
 tok:∀ k o,Θ k=some o->B<=o.g/\0<o.sz/\o.n<=o.c/\o.c<=maxLen/\∃ cur,w.heap[o.g]?=some (.cells cur o.e (0,0))/\(cur.size=o.c * o.sz/\uC P o.e=some o.sz)
 tinj:∀ k k' o o',Θ k=some o->Θ k'=some o'->o.g=o'.g->k=k'
 apart:∀ k o t n,Θ k=some o->ι t n≠some o.g
 out:∀ b o,aa b o->b<B
 pin:∀ p,F0.p=some p->ι 0 0=some p/\((F0.r p/\ι.z p=F0.z)\/∃ H,ι.ob 0 0=some H)
 kept:ID F0.b w0 w
 base:B=w0.heap.size
 objs:∀ t n S,s.obj t n=some S->∃ p H,ι t n=some p/\ι.ob t n=some H/\O.at_ S H p w/\N1 ι S p w
 obs:∀ t n H,ι.ob t n=some H->ObOk B F0 D s.next w ι Θ t n H
 gen:∀ t,qB ι (SC aa ι Θ) (PC ι Θ) w (s.gh t).v (F0.g t)
 gann:∀ t,qM Θ (s.gh t).a (F0.g t)
section
variable {P:Program} {O:AH} {nt B:Nat} {F0:OO} {aa:Av} {w0:World} {D:Nat->Prop} {s:aA} {a:Act} {w w':World} {ι:Ix} {Θ:dL}
theorem WI {w:World} {b o:Nat} {u:Value} (h:w.cell? ⟨b,o,none⟩=some u):b<w.heap.size:=World.block_lt_of_cell? w ⟨b,o,none⟩ (by exact h)
theorem BA.grown {av gb:Av} (hb:∀ b,b<w.heap.size->w'.heap[b]?=w.heap[b]?) (ha:∀ b o,b<w.heap.size->gb b o->av b o):BA av gb w w' :=
 ⟨fun b o _ hc hn=>⟨(World.cell?_of_block (w:=w) (a:=⟨b,o,none⟩) (hb b (WI hc))).trans hc,fun h=>hn (ha b o (WI hc) h)⟩⟩
theorem uE.held {ι ι':Ix} {Θ Θ':dL} {av gb:Av} {r:List qA} {cur:Array Value} (h:uE ι Θ av w r cur) (hι:Ix.Le ι ι') (hh:BA av gb w w') (hΘ:∀ k o,Θ k=some o->Θ' k=some o):uE ι' Θ' gb w' r cur:=by
 refine ⟨h.1,fun j x hx=>?_⟩;obtain ⟨u,hu,h1,hr,ha⟩:=h.2 j x hx;refine ⟨u,hu,h1,NA.held hι hh _ _ hr,?_⟩;cases hxa:x.a with
 | no=>trivial
 | ex=>rw [hxa] at ha; exact ha
 | own k e =>
  rw [hxa] at ha;rcases ha with ha | ⟨ow,h1,h2⟩
  ·exact .inl ha
  ·exact .inr ⟨ow,hΘ _ _ h1,h2⟩
theorem ObOk.grow {t n:Nat} {H:Nat->Prop} {next:Nat} (h:ObOk B F0 D next w ι Θ t n H) (hs:w.heap.size<=w'.heap.size):ObOk B F0 D next w' ι Θ t n H :=
 ⟨fun b hb=>let ⟨h1,h2,h3⟩:=h.1 b hb; ⟨h1,Nat.lt_of_lt_of_le h2 hs,h3⟩,h.2⟩
theorem iC.grow (R:iC P O nt B F0 aa w0 D s a w ι Θ) (hb:∀ b,b<w.heap.size->w'.heap[b]?=w.heap[b]?) (hs:w.heap.size<=w'.heap.size) (hw:ID F0.b w0 w'):iC P O nt B F0 aa w0 D s a w' ι Θ:=by
 have hA:BA (SC aa ι Θ) (SC aa ι Θ) w w':=BA.grown hb fun _ _ _ h=>h
 have hB:BA (PC ι Θ) (PC ι Θ) w w':=BA.grown hb fun _ _ _ h=>h
 refine ⟨R.defers,R.size,fun t=>qB.held (Ix.Le.refl _) hA hB _ _ (R.env t),R.ann,fun t n r hr=>?_,fun t n b h=>?_,R.inj,fun k o h=>?_,R.tinj,R.apart,R.out,R.pin,hw,R.base,fun t n S h=>?_,fun t n H h=>(R.obs t n H h).grow hs,fun t=>qB.held (Ix.Le.refl _) hA hB _ _ (R.gen t),R.gann⟩
 ·obtain ⟨h0,b,cur,ty,h1,h2,h3,h4⟩:=R.rows t n r hr;exact ⟨h0,b,cur,ty,h1,(hb b (OA h2)).trans h2,h3.held (Ix.Le.refl _) hA (fun _ _ h=>h),h4⟩
 ·obtain ⟨h1,h2,h3⟩:=R.mine t n b h;exact ⟨h1,by omega,h3⟩
 ·obtain ⟨h1,h2,h3,h4,cur,h5,h6⟩:=R.tok k o h;exact ⟨h1,h2,h3,h4,cur,(hb _ (OA h5)).trans h5,h6⟩
 ·obtain ⟨p,H,h1,h2,h3,h4⟩:=R.objs t n S h;exact ⟨p,H,h1,h2,O.keep h3 (fun b hH=>hb b (O.lt h3 hH)) hs,h4.keep (fun t n b H h g=>⟨h,H,g⟩) fun x hx=>(hb _ (OA hx)).trans hx⟩
theorem C3 {a:Act} {d t:Nat} {v:Value} (hd:d<a.tmps.size):(a.put (some d) v).tmps.getD t undef=if t=d then v else a.tmps.getD t undef:=by
 simp only [Act.put,yZ,Array.getElem?_setIfInBounds];by_cases h:d=t
 ·subst h; simp [hd]
 ·have h':¬ t=d:=fun e=>h e.symm
  simp [h,h']
theorem iC.put (R:iC P O nt B F0 aa w0 D s a w ι Θ) {d:Nat} (hd:d<nt) {x:qA} {v:Value} (hx:qB ι (SC aa ι Θ) (PC ι Θ) w x.v v) (ha:qM Θ x.a v):iC P O nt B F0 aa w0 D (s.put (some d) x) (a.put (some d) v) w ι Θ:=by
 have pq:d<a.tmps.size:=by rw [R.size]; exact hd
 refine ⟨R.defers,by simpa [Act.put] using R.size,fun t=>?_,fun t=>?_,R.rows,R.mine,R.inj,R.tok,R.tinj,R.apart,R.out,R.pin,R.kept,R.base,R.objs,R.obs,R.gen,R.gann⟩
 ·rw [C3 pq];simp only [aA.put];by_cases h:t=d
  ·simp only [if_pos h]; exact hx
  ·simp only [if_neg h]; exact R.env t
 ·rw [C3 pq];simp only [aA.put];by_cases h:t=d
  ·simp only [if_pos h]; exact ha
  ·simp only [if_neg h]; exact R.ann t
theorem iC.putN (R:iC P O nt B F0 aa w0 D s a w ι Θ) {d:Option Nat} (hd:∀ t,d=some t->t<nt) {x:qA} {v:Value} (hx:qB ι (SC aa ι Θ) (PC ι Θ) w x.v v) (ha:qM Θ x.a v):iC P O nt B F0 aa w0 D (s.put d x) (a.put d v) w ι Θ:=by
 cases d with
 | none=>exact R
 | some d=>exact R.put (hd d rfl) hx ha
theorem iC.more (R:iC P O nt B F0 aa w0 D s a w ι Θ) {D':Nat->Prop} (h:∀ t,D t->D' t):iC P O nt B F0 aa w0 D' s a w ι Θ :=
 ⟨R.defers,R.size,R.env,R.ann,R.rows,fun t n b hb=>let ⟨h1,h2,h3⟩:=R.mine t n b hb; ⟨h1,h2,h3.imp id fun ⟨e,d⟩=>⟨e,h t d⟩⟩,R.inj,R.tok,R.tinj,R.apart,R.out,R.pin,R.kept,R.base,R.objs,fun t n H hb=>⟨(R.obs t n H hb).1,(R.obs t n H hb).2.imp id fun ⟨e,d⟩=>⟨e,h t d⟩⟩,R.gen,R.gann⟩
structure Ix.Lk (t n:Nat) (ι ι':Ix):Prop where
 f:∀ t' n' b,¬ (t'=t/\n'=n)->ι t' n'=some b->ι' t' n'=some b
 z:∀ t n b,ι t n=some b->ι'.z b=ι.z b
theorem NA.kill {t n:Nat} {ι ι':Ix} {av gb:Av} (hι:Ix.Lk t n ι ι') (h:BA av gb w w') (x:AV) (v:Value) (hr:NA ι av w x v):NA ι' gb w' (x.kill0 t n) v:=by
 cases x with
 | ptr t' n' o =>
  obtain ⟨b,hb,hv⟩:=hr;simp only [AV.kill0];split
  ·trivial
  ·rename_i na; exact ⟨b,hι.f _ _ _ na hb,hv⟩
 | ref t' n' sz o l c =>
  obtain ⟨b,hb,h1,c',h2,h3,hv⟩:=hr;simp only [AV.kill0];split
  ·trivial
  ·rename_i na; exact ⟨b,hι.f _ _ _ na hb,h1,c',h2,by rw [hι.z _ _ _ hb]; exact h3,hv⟩
 | mp t' n' =>
  obtain ⟨b,hb,hv⟩:=hr;simp only [AV.kill0];split
  ·trivial
  ·rename_i na; exact ⟨b,hι.f _ _ _ na hb,hv⟩
 | undef=>trivial
 | _=>exact bE.held h _ v hr
theorem JA.kill {t n:Nat} {ι ι':Ix} {av gb:Av} (hι:Ix.Lk t n ι ι') (h:BA av gb w w'):∀ (xs:List AV) (us:List Value),JA ι av w xs us->JA ι' gb w' (xs.map (AV.kill0 t n)) us
 | [],_,hr=>by simpa [JA] using hr
 | x :: r,_,hr=>by
  simp only [JA] at hr;obtain ⟨u,ta,rfl,hx,h1,hr⟩:=hr;exact ⟨u,ta,rfl,NA.kill hι h x u hx,h1,JA.kill hι h r ta hr⟩
theorem KO.kill {t n:Nat} {ι ι':Ix} {av gb:Av} (hι:Ix.Lk t n ι ι') (h:BA av gb w w') (x:AV) (v:Value) (hr:KO ι av w x v):KO ι' gb w' (x.kill1 t n) v:=by
 cases x with
 | agg cs=>obtain ⟨us,hv,hc⟩:=hr; exact ⟨us,hv,JA.kill hι h _ _ hc⟩
 | ptr t' n' o =>
  have:=NA.kill hι h (.ptr t' n' o) v hr;show KO ι' gb w' (AV.kill0 t n (.ptr t' n' o)) v;simp only [AV.kill0] at this ⊢;split
  ·trivial
  ·rename_i na; rw [if_neg na] at this; exact this
 | ref t' n' sz o l c =>
  have:=NA.kill hι h (.ref t' n' sz o l c) v hr;show KO ι' gb w' (AV.kill0 t n (.ref t' n' sz o l c)) v;simp only [AV.kill0] at this ⊢;split
  ·trivial
  ·rename_i na; rw [if_neg na] at this; exact this
 | mp t' n' =>
  have:=NA.kill hι h (.mp t' n') v hr;show KO ι' gb w' (AV.kill0 t n (.mp t' n')) v;simp only [AV.kill0] at this ⊢;split
  ·trivial
  ·rename_i na; rw [if_neg na] at this; exact this
 | undef=>trivial
 | int=>exact NA.kill hι h (.int _ _) v hr
 | bool=>exact NA.kill hι h (.bool _) v hr
 | str=>exact NA.kill hι h (.str _) v hr
 | nilP=>exact NA.kill hι h .nilP v hr
 | ip=>exact NA.kill hι h (.ip _) v hr
 | sl n' l=>exact NA.kill hι h (.sl n' l) v hr
 | tup cs=>exact NA.kill hι h (.tup cs) v hr
 | bl cs=>exact NA.kill hι h (.bl cs) v hr
 | bp cs=>exact NA.kill hι h (.bp cs) v hr
 | fn f cs=>exact NA.kill hι h (.fn f cs) v hr
theorem ZG.kill {t n:Nat} {ι ι':Ix} {av gb:Av} (hι:Ix.Lk t n ι ι') (h:BA av gb w w'):∀ (xs:List AV) (us:List Value),ZG ι av w xs us->ZG ι' gb w' (xs.map (AV.kill1 t n)) us
 | [],_,hr=>by simpa [ZG] using hr
 | x :: r,_,hr=>by
  simp only [ZG] at hr;obtain ⟨u,ta,rfl,hx,hr⟩:=hr;exact ⟨u,ta,rfl,KO.kill hι h x u hx,ZG.kill hι h r ta hr⟩
theorem cU.kill {t n:Nat} {ι ι':Ix} {av gb PC avB':Av} (hι:Ix.Lk t n ι ι') (h:BA av gb w w') (hB:BA PC avB' w w') (x:AV) (v:Value) (hr:cU ι av PC w x v):cU ι' gb avB' w' (x.kill0 t n) v:=by
 cases x with
 | bp cs=>obtain ⟨b,off,hv,hc⟩:=hr; exact ⟨b,off,hv,xC.held h hB _ b off hc⟩
 | ptr t' n' o =>
  have:=NA.kill hι h (.ptr t' n' o) v hr;simp only [AV.kill0] at this ⊢;split
  ·trivial
  ·rename_i na; rw [if_neg na] at this; exact this
 | ref t' n' sz o l c =>
  have:=NA.kill hι h (.ref t' n' sz o l c) v hr;simp only [AV.kill0] at this ⊢;split
  ·trivial
  ·rename_i na; rw [if_neg na] at this; exact this
 | mp t' n' =>
  have:=NA.kill hι h (.mp t' n') v hr;simp only [AV.kill0] at this ⊢;split
  ·trivial
  ·rename_i na; rw [if_neg na] at this; exact this
 | undef=>trivial
 | int=>exact NA.kill hι h (.int _ _) v hr
 | bool=>exact NA.kill hι h (.bool _) v hr
 | str=>exact NA.kill hι h (.str _) v hr
 | nilP=>exact NA.kill hι h .nilP v hr
 | ip=>exact NA.kill hι h (.ip _) v hr
 | sl=>exact NA.kill hι h (.sl _ _) v hr
 | agg cs=>exact NA.kill hι h (.agg cs) v hr
 | tup cs=>exact NA.kill hι h (.tup cs) v hr
 | bl cs=>exact NA.kill hι h (.bl cs) v hr
 | fn f cs=>exact NA.kill hι h (.fn f cs) v hr
theorem XG.kill {t n:Nat} {ι ι':Ix} {av gb PC avB':Av} (hι:Ix.Lk t n ι ι') (h:BA av gb w w') (hB:BA PC avB' w w'):∀ (xs:List AV) (us:List Value),XG ι av PC w xs us->XG ι' gb avB' w' (xs.map (AV.kill0 t n)) us
 | [],_,hr=>by simpa [XG] using hr
 | x :: r,_,hr=>by
  simp only [XG] at hr;obtain ⟨u,ta,rfl,hx,hr⟩:=hr;exact ⟨u,ta,rfl,cU.kill hι h hB x u hx,XG.kill hι h hB r ta hr⟩
theorem qB.kill {t n:Nat} {ι ι':Ix} {av gb PC avB':Av} (hι:Ix.Lk t n ι ι') (h:BA av gb w w') (hB:BA PC avB' w w') (x:AV) (v:Value) (hr:qB ι av PC w x v):qB ι' gb avB' w' (x.kill t n) v:=by
 cases x with
 | bp cs=>obtain ⟨b,off,hv,hc⟩:=hr; exact ⟨b,off,hv,xC.held h hB _ b off hc⟩
 | bl l =>
  obtain ⟨a,c,hv,hl,hu,hc⟩:=hr;refine ⟨a,c,hv,hl,hu,fun h0=>?_⟩;obtain ⟨b,off,ha,hr⟩:=hc h0;exact ⟨b,off,ha,tM.held h hB _ b off hr⟩
 | agg cs=>obtain ⟨us,hv,hc⟩:=hr; exact ⟨us,hv,JA.kill hι h _ _ hc⟩
 | tup cs=>obtain ⟨us,hv,hc⟩:=hr; exact ⟨us,hv,ZG.kill hι h _ _ hc⟩
 | fn f cs=>obtain ⟨us,hv,hc⟩:=hr; exact ⟨us,hv,XG.kill hι h hB _ _ hc⟩
 | undef=>trivial
 | ptr t' n' o =>
  have:=NA.kill hι h (.ptr t' n' o) v hr;show qB ι' gb avB' w' (AV.kill0 t n (.ptr t' n' o)) v;simp only [AV.kill0] at this ⊢;split
  ·trivial
  ·rename_i na; rw [if_neg na] at this; exact this
 | ref t' n' sz o l c =>
  have:=NA.kill hι h (.ref t' n' sz o l c) v hr;show qB ι' gb avB' w' (AV.kill0 t n (.ref t' n' sz o l c)) v;simp only [AV.kill0] at this ⊢;split
  ·trivial
  ·rename_i na; rw [if_neg na] at this; exact this
 | mp t' n' =>
  have:=NA.kill hι h (.mp t' n') v hr;show qB ι' gb avB' w' (AV.kill0 t n (.mp t' n')) v;simp only [AV.kill0] at this ⊢;split
  ·trivial
  ·rename_i na; rw [if_neg na] at this; exact this
 | int=>exact NA.kill hι h (.int _ _) v hr
 | bool=>exact NA.kill hι h (.bool _) v hr
 | str=>exact NA.kill hι h (.str _) v hr
 | nilP=>exact NA.kill hι h .nilP v hr
 | ip=>exact NA.kill hι h (.ip _) v hr
 | sl=>exact NA.kill hι h (.sl _ _) v hr
theorem lV {v:Value} {x:AV} (h:EX v=some x) (av:Av) (w:World):bE av w x v/\v.oneCell'=true/\x.leaf=true/\(∀ n l,x=.sl n l->n=true/\v=.slice none 0 0):=by
 unfold EX at h;split at h <;> first
  | (injection h with h; subst h; simp [bE,Value.oneCell',AV.leaf]; done)
  | (cases h; done)
theorem BT {ι:Ix} {av PC:Av} {w:World} {x:AV} {v:Value} (h:bE av w x v) (hx:x.leaf=true):qB ι av PC w x v:=by
 cases x <;> first | exact h | (simp [AV.leaf] at hx; done) | (simp [bE] at h; done)
theorem CK {ι:Ix} {av:Av} {w:World} {x:AV} {v:Value} (h:bE av w x v):NA ι av w x v:=by
 cases x <;> first | exact h | simp [bE] at h
theorem MJ {ι:Ix}:∀ {vs:List Value} {xs:List AV} (_:BK vs=some xs) (av:Av) (w:World),JA ι av w xs vs
 | [],_,h,_,_=>by injection h with h; subst h; rfl
 | v :: r,_,h,av,w=>by
  unfold BK at h;cases hv:EX v with
  | none=>rw [hv] at h; cases h
  | some x =>
   rw [hv] at h;cases hr:BK r with
   | none=>rw [hr] at h; cases h
   | some l =>
    rw [hr] at h;injection h with h;subst h;have h1:=lV hv av w;exact ⟨v,r,rfl,CK h1.1,h1.2.1,MJ hr av w⟩
theorem p8 {v:Value} {x:AV} (h:avC v=some x) (ι:Ix) (av PC:Av) (w:World):qB ι av PC w x v:=by
 unfold avC at h;split at h
 ·rename_i cs;cases hc:BK cs.toList with
  | none=>rw [hc] at h; cases h
  | some l =>
   rw [hc] at h;injection h with h;subst h;exact ⟨cs,rfl,MJ hc av w⟩
 ·have:=lV h av w;exact BT this.1 this.2.2.1
theorem avC_nil {v:Value} {b:Bool} {l:List (List AV)} (h:avC v=some (.sl b l)):b=true/\v=.slice none 0 0:=by
 unfold avC at h;split at h
 ·rename_i cs;cases hc:BK cs.toList with
  | none=>rw [hc] at h; cases h
  | some l=>rw [hc] at h; injection h with h; cases h
 ·exact (lV h (fun _ _=>False) default).2.2.2 _ _ rfl
theorem iC.opd (R:iC P O nt B F0 aa w0 D s a w ι Θ) {x:Operand} {y:LB} (h:opd x=some y):qB ι (SC aa ι Θ) (PC ι Θ) w (y.get s) (a.eval x)/\qM Θ (y.an s) (a.eval x):=by
 unfold YtbnlmgncbgaepaaGreat.opd at h;split at h
 ·injection h with h;subst h;exact ⟨R.env _,R.ann _⟩
 ·rename_i v;cases hc:avC v with
  | none=>rw [hc] at h; cases h
  | some x =>
   rw [hc] at h;injection h with h;subst h;refine ⟨p8 hc _ _ _ _,?_⟩;cases x with
   | sl b l =>
    obtain ⟨rfl,hv⟩:=avC_nil hc;exact ⟨none,0,hv⟩
   | _=>trivial
 ·injection h with h;subst h;exact ⟨⟨#[],rfl,rfl⟩,trivial⟩
 ·cases h
end
end
section
open Go Go.RowKit
section
variable {P:Program} {O:AH} {nt B:Nat} {F0:OO} {aa:Av} {w0:World} {D:Nat->Prop} {s:aA} {a:Act} {w w':World} {ι:Ix} {Θ:dL}
theorem bP {t:TypeId} {b:Bool} (h:DJ P t=some b) (w:World):(isAgg t).run P w=.ok b w:=by
 unfold DJ at h;cases hu:P.underlying t with
 | none=>rw [hu] at h; cases h
 | some d =>
  rw [hu] at h;injection h with h;subst h;cases d <;> simp [isAgg,run_underlying hu]
theorem bC {t:TypeId} {z:Nat} (h:uC P t=some z) (w:World):(sizeOf t).run P w=.ok z w:=by
 unfold uC at h;cases hu:P.info? t with
 | none=>rw [hu] at h; cases h
 | some d =>
  rw [hu] at h;injection h with h;subst h;simp [sizeOf,typeInfo,hu]
theorem UH {t:TypeId} {l:List AV} (h:aL P t=some l) (w:World):∃ z i,P.info? t=some i/\i.zero=some z/\(zeroValue t).run P w=.ok z w/\BK z.cells.toList=some l:=by
 unfold aL at h;cases hu:P.info? t with
 | none=>rw [hu] at h; cases h
 | some d =>
  rw [hu] at h;cases hz:d.zero with
  | none=>simp [hz] at h
  | some z =>
   simp only [V,hz] at h;exact ⟨z,d,rfl,hz,by simp [zeroValue,typeInfo,hu,hz],h⟩
theorem zH:∀ {vs:List Value} {xs:List AV},BK vs=some xs->xs.length=vs.length
 | [],_,h=>by injection h with h; subst h; rfl
 | v :: r,_,h=>by
  unfold BK at h;cases hv:EX v with
  | none=>rw [hv] at h; cases h
  | some x =>
   rw [hv] at h;cases hr:BK r with
   | none=>rw [hr] at h; cases h
   | some l=>rw [hr] at h; injection h with h; subst h; simp [zH hr]
def dR (P:Program) (aa:Av) (a:Act) (w:World) (ι:Ix) (Θ:dL) (o:Oper) (x:qA):Prop :=
 ∃ v,(execOp a.eval o).run P w=.ok (.value v) w/\qB ι (SC aa ι Θ) (PC ι Θ) w x.v v/\qM Θ x.a v
section
variable {av avb:Av}
include av avb
theorem kB {k:IntKind} {n:Int} {v:Value}:qB ι av avb w (.int k n) v ↔ v=.int k n:=by simp [qB,NA,bE]
theorem PB {b:Bool} {v:Value}:qB ι av avb w (.bool b) v ↔ v=.bool b:=by simp [qB,NA,bE]
theorem gH {b:ByteArray} {v:Value}:qB ι av avb w (.str b) v ↔ v=.string b:=by simp [qB,NA,bE]
theorem wZ {v:Value}:qB ι av avb w .nilP v ↔ v=.pointer none:=by simp [qB,NA,bE]
theorem AG {t n off:Nat} {v:Value}:qB ι av avb w (.ptr t n off) v ↔ ∃ b,ι t n=some b/\v=.pointer (some ⟨b,off,none⟩):=Iff.rfl
theorem fH {t n sz off len cap:Nat} {v:Value}:qB ι av avb w (.ref t n sz off len cap) v ↔ ∃ b,ι t n=some b/\len<=cap/\∃ c,cap<=c/\off + c * sz<=ι.z b/\v=.slice (some ⟨b,off,none⟩) len c:=Iff.rfl
theorem LL {cs:List AV} {v:Value}:qB ι av avb w (.ip cs) v ↔ ∃ b off,v=.pointer (some ⟨b,off,none⟩)/\UE av w cs b off:=by simp [qB,NA,bE]
theorem tE {nil:Bool} {l:List (List AV)} {v:Value}:qB ι av avb w (.sl nil l) v ↔ bE av w (.sl nil l) v:=Iff.rfl
theorem qX {cs:List AV} {v:Value}:qB ι av avb w (.agg cs) v ↔ ∃ us,v=.agg us/\JA ι av w cs us.toList:=Iff.rfl
theorem repS_tup {cs:List AV} {v:Value}:qB ι av avb w (.tup cs) v ↔ ∃ us,v=.tuple us/\ZG ι av w cs us.toList:=Iff.rfl
end
theorem pD {av:Av}:∀ {xs:List AV} {us:List Value},JA ι av w xs us->us.length=xs.length
 | [],_,h=>by simp only [JA] at h; subst h; rfl
 | x :: r,_,h=>by
  simp only [JA] at h;obtain ⟨u,ta,rfl,_,_,h⟩:=h;simp [pD h]
theorem xF {av:Av}:∀ {xs:List AV} {us:List Value} (n:Nat),JA ι av w xs us->JA ι av w (xs.drop n) (us.drop n)
 | [],_,n,h=>by simp only [JA] at h; subst h; simp [JA]
 | x :: r,_,n,h=>by
  cases n with
  | zero=>exact h
  | succ n =>
   simp only [JA] at h;obtain ⟨u,ta,rfl,_,_,h⟩:=h;exact xF n h
theorem eG {av:Av}:∀ {xs:List AV} {us:List Value} (n:Nat),JA ι av w xs us->JA ι av w (xs.take n) (us.take n)
 | [],_,n,h=>by simp only [JA] at h; subst h; simp [JA]
 | x :: r,_,n,h=>by
  cases n with
  | zero=>simp [JA]
  | succ n =>
   simp only [JA] at h;obtain ⟨u,ta,rfl,h0,h1,h⟩:=h;exact ⟨u,ta.take n,rfl,h0,h1,eG n h⟩
theorem CJ {av:Av}:∀ {xs:List AV} {us:List Value} (_:JA ι av w xs us) {j:Nat} {x:AV},xs[j]?=some x->∃ u,us[j]?=some u/\u.oneCell'=true/\NA ι av w x u
 | [],_,_,_,_,hx=>by simp at hx
 | y :: r,_,h,j,x,hx=>by
  simp only [JA] at h;obtain ⟨u,ta,rfl,h0,h1,h⟩:=h;cases j with
  | zero=>simp at hx; subst hx; exact ⟨u,rfl,h1,h0⟩
  | succ j=>exact CJ h (j:=j) (by simpa using hx)
theorem kH {av:Av}:∀ {xs ys:List AV} {us vs:List Value},JA ι av w xs us->JA ι av w ys vs->JA ι av w (xs++ys) (us++vs)
 | [],_,_,_,h,h'=>by simp only [JA] at h; subst h; exact h'
 | x :: r,_,_,_,h,h'=>by
  simp only [JA] at h;obtain ⟨u,ta,rfl,h0,h1,h⟩:=h;exact ⟨u,ta++_,rfl,h0,h1,kH h h'⟩
theorem LD {av:Av}:∀ {xs:List AV} {us:List Value},MC av w xs us->JA ι av w xs us
 | [],_,h=>by simpa [MC,JA] using h
 | x :: r,_,h=>by
  simp only [MC] at h;obtain ⟨u,ta,rfl,h0,h1,h⟩:=h;exact ⟨u,ta,rfl,CK h0,h1,LD h⟩
theorem UQ {av:Av}:∀ {cs:List AV} {b off:Nat},UE av w cs b off->∃ us,MC av w cs us/\∀ (j:Nat) (u:Value),us[j]?=some u->w.cell? ⟨b,off + j,none⟩=some u/\¬ av b (off + j)
 | [],_,_,_=>⟨[],rfl,fun j u h=>by simp at h⟩
 | x :: r,b,off,h=>by
  simp only [UE] at h;obtain ⟨⟨u,hc,hx,h1⟩,ha,hr⟩:=h;obtain ⟨us,hl,hj⟩:=UQ hr;refine ⟨u :: us,⟨u,us,rfl,hx,h1,hl⟩,fun j v hv=>?_⟩;cases j with
  | zero=>simp at hv; subst hv; exact ⟨hc,ha⟩
  | succ j =>
   have:=hj j v (by simpa using hv);rw [show off + (j + 1)=off + 1 + j from by omega];exact this
theorem FO {av avb:Av}:∀ {cs:List AV} {b off:Nat},xC av avb w cs b off->∃ us,MC av w cs us/\∀ (j:Nat) (u:Value),us[j]?=some u->w.cell? ⟨b,off + j,none⟩=some u/\¬ avb b (off + j)
 | [],_,_,_=>⟨[],rfl,fun j u h=>by simp at h⟩
 | x :: r,b,off,h=>by
  simp only [xC] at h;obtain ⟨⟨u,hc,hx,h1⟩,ha,hr⟩:=h;obtain ⟨us,hl,hj⟩:=FO hr;refine ⟨u :: us,⟨u,us,rfl,hx,h1,hl⟩,fun j v hv=>?_⟩;cases j with
  | zero=>simp at hv; subst hv; exact ⟨hc,ha⟩
  | succ j =>
   have:=hj j v (by simpa using hv);rw [show off + (j + 1)=off + 1 + j from by omega];exact this
theorem XK {av:Av}:∀ {cs:List AV} {us:List Value} {b off:Nat},MC av w cs us->(∀ (j:Nat) (u:Value),us[j]?=some u->w.cell? ⟨b,off + j,none⟩=some u/\¬ av b (off + j))->UE av w cs b off
 | [],_,_,_,_,_=>by simp [UE]
 | x :: r,_,b,off,h,hj=>by
  simp only [MC] at h;obtain ⟨u,ta,rfl,h0,h1,h⟩:=h;simp only [UE];have h2:=hj 0 u rfl;refine ⟨⟨u,h2.1,h0,h1⟩,h2.2,XK h fun j v hv=>?_⟩;have:=hj (j + 1) v (by simpa using hv);rw [show off + 1 + j=off + (j + 1) from by omega];exact this
theorem bL {av:Av}:∀ {cs ds:List AV} {b off:Nat},UE av w (cs++ds) b off ↔ UE av w cs b off/\UE av w ds b (off + cs.length)
 | [],ds,b,off=>by simp [UE]
 | x :: r,ds,b,off=>by
  simp only [List.cons_append,UE,bL (cs:=r),yE];rw [show off + (r.length + 1)=off + 1 + r.length from by omega];exact ⟨fun ⟨h1,h2,h3,h4⟩=>⟨⟨h1,h2,h3⟩,h4⟩,fun ⟨⟨h1,h2,h3⟩,h4⟩=>⟨h1,h2,h3,h4⟩⟩
theorem AF {av:Av}:∀ {l:List (List AV)} {b off:Nat},OC av w l b off ↔ UE av w l.flatten b off
 | [],b,off=>by simp [OC,UE]
 | cs :: r,b,off=>by
  simp only [OC,yz,bL,AF (l:=r)]
theorem nK {av avb:Av}:∀ {cs ds:List AV} {b off:Nat},xC av avb w (cs++ds) b off ↔ xC av avb w cs b off/\xC av avb w ds b (off + cs.length)
 | [],ds,b,off=>by simp [xC]
 | x :: r,ds,b,off=>by
  simp only [List.cons_append,xC,nK (cs:=r),yE];rw [show off + (r.length + 1)=off + 1 + r.length from by omega];exact ⟨fun ⟨h1,h2,h3,h4⟩=>⟨⟨h1,h2,h3⟩,h4⟩,fun ⟨⟨h1,h2,h3⟩,h4⟩=>⟨h1,h2,h3,h4⟩⟩
theorem BJ {av avb:Av}:∀ {l:List (List AV)} {b off:Nat},tM av avb w l b off ↔ xC av avb w l.flatten b off
 | [],b,off=>by simp [tM,xC]
 | cs :: r,b,off=>by
  simp only [tM,yz,nK,BJ (l:=r)]
theorem DP {sz:Nat}:∀ {l:List (List AV)} (_:∀ c∈l,c.length=sz) (k:Nat),l.flatten.drop (k * sz)=(l.drop k).flatten
 | [],_,k=>by simp
 | c :: r,h,k=>by
  cases k with
  | zero=>simp
  | succ k =>
   have hc:c.length=sz:=h c (by simp);rw [yz,List.drop_succ_cons,List.drop_append,hc,show (k + 1) * sz - sz=k * sz from by rw [yw]; omega,
    ye (by rw [hc,yw]; omega),yP]
   exact DP (fun c hc=>h c (by simp [hc])) k
theorem part_run {t:TypeId} {agg:Bool} {z:Nat} (hA:DJ P t=some agg) (hz:uC P t=some z) {av:Av} {cs:List AV} {us:Array Value} (h:JA ι av w cs us.toList) {off:Nat} {x:AV} {avb:Av}
  (hx:IG agg z (cs.drop off)=some x):∃ v,(part t us off).run P w=.ok v w/\qB ι av avb w x v:=by
 cases agg with
 | true =>
  simp only [IG,if_true] at hx;split at hx
  ·rename_i ab;injection hx with hx;subst hx;refine ⟨.agg (us.extract off (off + z)),by simp [part,bP hA,bC hz],_,rfl,?_⟩;have:=eG z (xF off h);have he:(us.extract off (off + z)).toList=(us.toList.drop off).take z:=by
    rw [Array.toList_extract,List.extract_eq_take_drop,Nat.add_sub_cancel_left]
   rw [he];exact this
  ·cases hx
 | false =>
  simp only [IG,yr,if_false,yT,Nat.add_zero] at hx;obtain ⟨u,hu,h1,hr⟩:=CJ h hx;have wq:us[off]?=some u:=by simpa using hu
  refine ⟨u,by simp [part,bP hA,wq],?_⟩;cases x <;> first | exact hr | (simp [NA,bE] at hr; obtain ⟨ta,rfl,_⟩:=hr; simp [Value.oneCell'] at h1) | (simp [NA,bE] at hr)
end
end
section
open Go Go.RowKit
section
variable {P:Program} {O:AH} {nt B:Nat} {F0:OO} {aa:Av} {w0:World} {D:Nat->Prop} {s:aA} {a:Act} {w w':World} {ι:Ix} {Θ:dL} {o:Oper}
theorem RepC_to_S {av avb:Av} {x:AV} {u:Value} (h:NA ι av w x u) (h1:u.oneCell'=true):qB ι av avb w x u:=by
 cases x <;> first | exact h | (simp [NA,bE] at h; obtain ⟨ta,rfl,_⟩:=h; simp [Value.oneCell'] at h1; done) | (simp [NA,bE] at h; done)
theorem val_mv (R:iC P O nt B F0 aa w0 D s a w ι Θ) {X:Operand} {y:LB} (h:opd X=some y) (ho:o.op=.move X\/o.op=.assign X):dR P aa a w ι Θ o ⟨y.get s,y.an s⟩ :=
 ⟨a.eval X,by rcases ho with ho | ho <;> simp [execOp,ho],(R.opd h).1,(R.opd h).2⟩
theorem val_pick (R:iC P O nt B F0 aa w0 D s a w ι Θ) {C X Y:Operand} {c x y:LB} (hc:opd C=some c) (hx:opd X=some x) (hy:opd Y=some y) (ho:o.op=.pick C X Y) {t:Bool} (ht:c.get s=.bool t) :
  dR P aa a w ι Θ o (if t then ⟨x.get s,x.an s⟩ else ⟨y.get s,y.an s⟩):=by
 have h:=(R.opd hc).1;rw [ht,PB] at h;cases t with
 | true=>exact ⟨a.eval X,by simp [execOp,ho,h,asBool],(R.opd hx).1,(R.opd hx).2⟩
 | false=>exact ⟨a.eval Y,by simp [execOp,ho,h,asBool],(R.opd hy).1,(R.opd hy).2⟩
theorem uE.rep {av:Av} {r:List qA} {cur:Array Value} (h:uE ι Θ av w r cur):JA ι av w (r.map (·.v)) (cur.toList.take r.length):=by
 obtain ⟨hl,hj⟩:=h;obtain ⟨l⟩:=cur;simp only [List.size_toArray] at hl;simp only [List.getElem?_toArray] at hj;simp only
 induction r generalizing l with
 | nil=>rfl
 | cons x r ih =>
  cases l with
  | nil=>simp at hl
  | cons u us =>
   obtain ⟨u',hu,h1,hr,_⟩:=hj 0 x rfl;simp at hu;subst hu;exact ⟨_,us.take r.length,rfl,hr,h1,ih us (by simpa using hl) fun j y hy=>hj (j + 1) y hy⟩
theorem rP {t:TypeId} {agg:Bool} {z:Nat} (hA:DJ P t=some agg) (hz:uC P t=some z) {av avb:Av} {cs:List AV} {us:List Value} (h:JA ι av w cs us) {b off:Nat} (od:∀ (j:Nat) (u:Value),us[j]?=some u->w.cell? ⟨b,off + j,none⟩=some u)
  {x:AV} (hx:IG agg z cs=some x):∃ v,(loadVar t ⟨b,off,none⟩).run P w=.ok v w/\qB ι av avb w x v/\(agg=false->w.cell? ⟨b,off,none⟩=some v):=by
 cases agg with
 | true =>
  simp only [IG,if_true] at hx;split at hx
  ·rename_i ab;injection hx with hx;subst hx;have ja:=pD h;have hl:(us.take z).length=z:=by rw [yC,ja]; omega
   have hr:=run_loadCells_list (P:=P) w ⟨b,off,none⟩ (us.take z) (fun j v hv=>by
    rw [Addr.add_lit];refine od j v ?_;rw [yO] at hv;split at hv
    ·exact hv
    ·cases hv)
   rw [hl] at hr;exact ⟨.agg (us.take z).toArray,by simp [loadVar,bP hA,bC hz,hr],⟨_,rfl,eG z h⟩,fun h=>by cases h⟩
  ·cases hx
 | false =>
  simp only [IG,yr,if_false] at hx;obtain ⟨u,hu,h1,hr⟩:=CJ h hx;have hc:=od 0 u hu;rw [Nat.add_zero] at hc;refine ⟨u,by simp [loadVar,bP hA,hc],RepC_to_S hr h1,fun _=>hc⟩
theorem val_load (R:iC P O nt B F0 aa w0 D s a w ι Θ) {t:TypeId} {agg:Bool} {z:Nat} (hA:DJ P t=some agg) (hz:uC P t=some z) {X:Operand} {y:LB} (h:opd X=some y) (ho:o.op=.load t X) {cl:Cl} {call} {x:qA} {e:nD}
  (hr:(K.load cl agg z y).run call s=some (x,e)):e=.none/\dR P aa a w ι Θ o x:=by
 have hX:=(R.opd h).1;simp only [K.run] at hr;split at hr
 ·rename_i t' n off hy;rw [hy,AG] at hX;obtain ⟨b,hb,hv⟩:=hX;split at hr
  ·cases hm:s.mem t' n with
   | none=>rw [hm] at hr; cases hr
   | some r =>
    rw [hm,V] at hr;obtain ⟨zl,b',cur,ty,ua,oa,la,_⟩:=R.rows t' n r hm;rw [hb] at ua;injection ua with ua;subst ua;have sb:∀ (j:Nat) (u:Value),((cur.toList.take r.length).drop off)[j]?=some u->w.cell? ⟨b,off + j,none⟩=some u:=fun j u hu=>by
     rw [cell_of_row w b (off + j) cur ty (0,0) oa];rw [yT,yO] at hu;split at hu
     ·simpa using hu
     ·cases hu
    cases hl:MA agg z off r with
    | none=>rw [hl] at hr; cases hr
    | some y' =>
     rw [hl] at hr;injection hr with hr;injection hr with h1 h2;subst h1; subst h2;refine ⟨rfl,?_⟩;have ec:=xF off la.rep;have hi:IG agg z ((r.map (·.v)).drop off)=some y'.v:=by
      cases agg with
      | true =>
       simp only [MA,if_true] at hl;split at hl
       ·rename_i ab;injection hl with hl;subst hl;simp only [IG,if_true,List.length_drop,yo];rw [if_pos (by omega)];simp [List.map_take,List.map_drop]
       ·cases hl
      | false =>
       simp only [MA,yr,if_false] at hl;simp [IG,yT,hl]
     obtain ⟨v,ia,hS,hc⟩:=rP (avb:=PC ι Θ) hA hz ec sb hi;refine ⟨v,by simp [execOp,ho,Instr.loadAt,Instr.sureAddr,hv,ia],hS,?_⟩;cases agg with
     | true =>
      simp only [MA,if_true] at hl;split at hl
      ·injection hl with hl; subst hl; trivial
      ·cases hl
     | false =>
      simp only [MA,yr,if_false] at hl;obtain ⟨u,hu,_,_,ha⟩:=la.2 off y' hl;have h3:=hc rfl;rw [cell_of_row w b off cur ty (0,0) oa,hu] at h3;injection h3 with h3;subst h3;exact ha
  ·cases hr
 ·rename_i cs hy;rw [hy,LL] at hX;obtain ⟨b,off,hv,nk⟩:=hX;obtain ⟨us,hl,od⟩:=UQ nk;split at hr
  ·cases hr
  ·cases hi:IG agg z cs with
   | none=>rw [hi] at hr; cases hr
   | some x' =>
    rw [hi] at hr;injection hr with hr;injection hr with h1 h2;subst h1; subst h2;obtain ⟨v,ia,hS,_⟩:=rP (avb:=PC ι Θ) hA hz (LD (ι:=ι) hl) (fun j u hu=>(od j u hu).1) hi;exact ⟨rfl,v,by simp [execOp,ho,Instr.loadAt,Instr.sureAddr,hv,ia],hS,trivial⟩
 ·rename_i cs hy;rw [hy] at hX;obtain ⟨b,off,hv,nk⟩:=hX;obtain ⟨us,hl,od⟩:=FO nk;split at hr
  ·cases hr
  ·cases hi:IG agg z cs with
   | none=>rw [hi] at hr; cases hr
   | some x' =>
    rw [hi] at hr;injection hr with hr;injection hr with h1 h2;subst h1; subst h2;obtain ⟨v,ia,hS,_⟩:=rP (avb:=PC ι Θ) hA hz (LD (ι:=ι) hl) (fun j u hu=>(od j u hu).1) hi;exact ⟨rfl,v,by simp [execOp,ho,Instr.loadAt,Instr.sureAddr,hv,ia],hS,trivial⟩
 ·cases hr
theorem xN (a b:ByteArray):(a.toList == b.toList)=decide (a=b):=by
 rw [ByteArray.toList_eq,ByteArray.toList_eq];obtain ⟨⟨x⟩⟩:=a;obtain ⟨⟨y⟩⟩:=b;rw [Bool.eq_iff_iff];simp
theorem DB {op:BinOp} {t t':TypeId} {X Y:Operand} {u v r:Value} (ho:o.op=.binOp op t X Y t') (hX:a.eval X=u) (hY:a.eval Y=v) (hu:u.oneCell'=true) (hn:u≠.nilIface) (hv:(Go.binOp op t u v).run P w=.ok r w):(execOp a.eval o).run P w=.ok (.value r) w:=by
 have hg:(eqGuard op t X Y u v).run P w=.ok () w:=by
  unfold eqGuard;cases u <;> first | exact absurd rfl hn | (simp [Value.oneCell'] at hu; done) | (simp; done) | (split <;> simp; done)
 simp [execOp,ho,hX,hY,hg,hv]
theorem val_mm (R:iC P O nt B F0 aa w0 D s a w ι Θ) {mx:Bool} {ts:Array TypeId} {X Y:Operand} {x y:LB} (hx:opd X=some x) (hy:opd Y=some y) (ho:o.op=.call { callee:=.builtin (if mx then .max else .min),args:=#[X,Y],argTypes:=ts }) {v:AV} (hr:mmC mx (x.get s) (y.get s)=some v) :
  dR P aa a w ι Θ o ⟨v,.no⟩:=by
 have hX:=(R.opd hx).1;have hY:=(R.opd hy).1;unfold mmC at hr;split at hr
 ·rename_i k n k' n' e1 e2;rw [e1,kB] at hX;rw [e2,kB] at hY;split at hr
  ·rename_i hk;subst hk;injection hr with hr;subst hr;cases mx with
   | true =>
    have e:(if n' > n then n' else n)=max n n':=by rw [Int.max_def]; split <;> split <;> omega
    exact ⟨.int k (max n n'),by simp [execOp,ho,resolve,invoke,builtin,Builtin.max_,Builtin.max2,hX,hY,e],by simp [kB],trivial⟩
   | false =>
    have e:(if n'<n then n' else n)=min n n':=by rw [Int.min_def]; split <;> split <;> omega
    exact ⟨.int k (min n n'),by simp [execOp,ho,resolve,invoke,builtin,Builtin.min_,Builtin.min2,hX,hY,e],by simp [kB],trivial⟩
  ·cases hr
 ·cases hr
theorem val_bin (R:iC P O nt B F0 aa w0 D s a w ι Θ) {op:BinOp} {t t':TypeId} {bl:Bool} (ht:bl=true->P.underlying t=some .bool) {X Y:Operand} {x y:LB} (hx:opd X=some x) (hy:opd Y=some y) (ho:o.op=.binOp op t X Y t') {v:AV} (hr:AS op bl (x.get s) (y.get s)=some v) :
  dR P aa a w ι Θ o ⟨v,.no⟩:=by
 have hX:=(R.opd hx).1;have hY:=(R.opd hy).1;unfold AS at hr;split at hr
 ·rename_i k n k' n' e1 e2;rw [e1,kB] at hX;rw [e2,kB] at hY;by_cases ae:op=.shl
  ·subst ae;simp only at hr;split at hr
   ·rename_i h0;injection hr with hr;subst hr;exact ⟨.int k (k.wrap (n * 2 ^ shN k n')),DB ho hX hY rfl (by simp) (by simp [Go.binOp,Op.shift,shN,Int.not_lt.2 h0]),by rw [kB],trivial⟩
   ·cases hr
  by_cases hsr:op=.shr
  ·subst hsr;simp only at hr;split at hr
   ·rename_i h0;injection hr with hr;subst hr;exact ⟨.int k (n.fdiv (2 ^ shN k n')),DB ho hX hY rfl (by simp) (by simp [Go.binOp,Op.shift,shN,Int.not_lt.2 h0]),by rw [kB],trivial⟩
   ·cases hr
  split at hr
  ·exact absurd rfl ae
  ·exact absurd rfl hsr
  split at hr
  ·rename_i hk;subst hk;cases op <;> simp only at hr
   case and=>injection hr with hr; subst hr; exact ⟨_,DB ho hX hY rfl (by simp) (by simp only [Go.binOp,ne_eq,not_true_eq_false,if_false]; rfl),by rw [kR,kB],trivial⟩
   case or=>injection hr with hr; subst hr; exact ⟨_,DB ho hX hY rfl (by simp) (by simp only [Go.binOp,ne_eq,not_true_eq_false,if_false]; rfl),by rw [kR,kB],trivial⟩
   case xor=>injection hr with hr; subst hr; exact ⟨_,DB ho hX hY rfl (by simp) (by simp only [Go.binOp,ne_eq,not_true_eq_false,if_false]; rfl),by rw [kR,kB],trivial⟩
   case andNot=>injection hr with hr; subst hr; exact ⟨_,DB ho hX hY rfl (by simp) (by simp only [Go.binOp,ne_eq,not_true_eq_false,if_false]; rfl),by rw [kR,kB],trivial⟩
   case add=>injection hr with hr; subst hr; exact ⟨.int k (k.wrap (n + n')),DB ho hX hY rfl (by simp) (by simp [Go.binOp,Op.intArith]),by rw [kB],trivial⟩
   case sub=>injection hr with hr; subst hr; exact ⟨.int k (k.wrap (n - n')),DB ho hX hY rfl (by simp) (by simp [Go.binOp,Op.intArith]),by rw [kB],trivial⟩
   case mul=>injection hr with hr; subst hr; exact ⟨.int k (k.wrap (n * n')),DB ho hX hY rfl (by simp) (by simp [Go.binOp,Op.intArith]),by rw [kB],trivial⟩
   case quo =>
    split at hr
    ·cases hr
    ·rename_i h0;injection hr with hr;subst hr;exact ⟨.int k (k.wrap (n.tdiv n')),DB ho hX hY rfl (by simp) (by simp [Go.binOp,Op.intDiv,h0]),by rw [kB],trivial⟩
   case rem =>
    split at hr
    ·cases hr
    ·rename_i h0;injection hr with hr;subst hr;exact ⟨.int k (n.tmod n'),DB ho hX hY rfl (by simp) (by simp [Go.binOp,Op.intDiv,h0]),by rw [kB],trivial⟩
   case eql=>injection hr with hr; subst hr; exact ⟨.bool (n == n'),DB ho hX hY rfl (by simp) (by simp [Go.binOp,Op.intCmp]),PB.2 (congrArg Value.bool (by first | rfl | (rw [Bool.eq_iff_iff]; simp))),trivial⟩
   case neq=>injection hr with hr; subst hr; exact ⟨.bool (n != n'),DB ho hX hY rfl (by simp) (by simp [Go.binOp,Op.intCmp]),PB.2 (congrArg Value.bool (by first | rfl | (rw [Bool.eq_iff_iff]; simp))),trivial⟩
   case lss=>injection hr with hr; subst hr; exact ⟨.bool (decide (n<n')),DB ho hX hY rfl (by simp) (by simp [Go.binOp,Op.intCmp]),PB.2 (congrArg Value.bool (by first | rfl | (rw [Bool.eq_iff_iff]; simp))),trivial⟩
   case leq=>injection hr with hr; subst hr; exact ⟨.bool (decide (n<=n')),DB ho hX hY rfl (by simp) (by simp [Go.binOp,Op.intCmp]),PB.2 (congrArg Value.bool (by first | rfl | (rw [Bool.eq_iff_iff]; simp))),trivial⟩
   case gtr=>injection hr with hr; subst hr; exact ⟨.bool (decide (n > n')),DB ho hX hY rfl (by simp) (by simp [Go.binOp,Op.intCmp]),PB.2 (congrArg Value.bool (by first | rfl | (rw [Bool.eq_iff_iff]; simp))),trivial⟩
   case geq=>injection hr with hr; subst hr; exact ⟨.bool (decide (n>=n')),DB ho hX hY rfl (by simp) (by simp [Go.binOp,Op.intCmp]),PB.2 (congrArg Value.bool (by first | rfl | (rw [Bool.eq_iff_iff]; simp))),trivial⟩
   all_goals cases hr
  ·cases hr
 ·rename_i n n' e1 e2;rw [e1,gH] at hX;rw [e2,gH] at hY;cases op <;> simp only at hr
  case add =>
   split at hr
   ·rename_i ab;injection hr with hr;subst hr;have hm:IntKind.i64.max=9223372036854775807:=by decide
    have:¬ ((n.size + n'.size:Nat):Int) > IntKind.i64.max:=by rw [hm]; omega
    exact ⟨.string (n++n'),DB ho hX hY rfl (by simp) (by simp only [Go.binOp,Op.stringOp,if_neg this]; simp),by rw [gH],trivial⟩
   ·cases hr
  case eql=>injection hr with hr; subst hr; exact ⟨.bool (n.toList == n'.toList),DB ho hX hY rfl (by simp) (by simp [Go.binOp,Op.stringOp]),PB.2 (congrArg Value.bool (by first | rfl | (rw [xN]))),trivial⟩
  case neq=>injection hr with hr; subst hr; exact ⟨.bool (!(n.toList == n'.toList)),DB ho hX hY rfl (by simp) (by simp [Go.binOp,Op.stringOp]),PB.2 (congrArg Value.bool (by first | rfl | (rw [xN]))),trivial⟩
  case lss=>injection hr with hr; subst hr; exact ⟨.bool (Op.bytesLess n.toList n'.toList),DB ho hX hY rfl (by simp) (by simp [Go.binOp,Op.stringOp]),PB.2 (congrArg Value.bool (by first | rfl | (rw [xN]))),trivial⟩
  case gtr=>injection hr with hr; subst hr; exact ⟨.bool (!(Op.bytesLess n.toList n'.toList||n.toList == n'.toList)),DB ho hX hY rfl (by simp) (by simp [Go.binOp,Op.stringOp]),by rw [PB,xN],trivial⟩
  case leq=>injection hr with hr; subst hr; exact ⟨.bool (Op.bytesLess n.toList n'.toList||n.toList == n'.toList),DB ho hX hY rfl (by simp) (by simp [Go.binOp,Op.stringOp]),by rw [PB,xN],trivial⟩
  case geq=>injection hr with hr; subst hr; exact ⟨.bool (!Op.bytesLess n.toList n'.toList),DB ho hX hY rfl (by simp) (by simp [Go.binOp,Op.stringOp]),by rw [PB],trivial⟩
  all_goals cases hr
 ·rename_i n n' e1 e2;rw [e1,PB] at hX;rw [e2,PB] at hY;split at hr
  case isFalse=>cases hr
  rename_i hb;have hq:(Op.equal t (.bool n) (.bool n')).run P w=.ok (n == n') w:=run_equalIn_bool' w 9999 t n n' (ht hb);cases op <;> simp only at hr
  case eql=>injection hr with hr; subst hr; exact ⟨.bool (n == n'),DB ho hX hY rfl (by simp) (by simp [Go.binOp,hq]),by rw [PB],trivial⟩
  case neq=>injection hr with hr; subst hr; exact ⟨.bool (!(n == n')),DB ho hX hY rfl (by simp) (by simp [Go.binOp,hq]),by rw [PB],trivial⟩
  all_goals cases hr
 ·cases hr
end
end
section
open Go Go.RowKit
section
variable {P:Program} {O:AH} {nt B:Nat} {F0:OO} {aa:Av} {w0:World} {D:Nat->Prop} {s:aA} {a:Act} {w w':World} {ι:Ix} {Θ:dL} {o:Oper}
theorem wM {av:Av}:∀ {cs:List AV} {b off:Nat} (k:Nat),UE av w cs b off->UE av w (cs.drop k) b (off + k)
 | [],_,_,k,_=>by simp [UE]
 | x :: r,b,off,0,h=>h
 | x :: r,b,off,k + 1,h=>by
  simp only [UE] at h;rw [List.drop_succ_cons,show off + (k + 1)=off + 1 + k from by omega];exact wM k h.2.2
theorem ZK {av avb:Av}:∀ {cs:List AV} {b off:Nat} (k:Nat),xC av avb w cs b off->xC av avb w (cs.drop k) b (off + k)
 | [],_,_,k,_=>by simp [xC]
 | x :: r,b,off,0,h=>h
 | x :: r,b,off,k + 1,h=>by
  simp only [xC] at h;rw [List.drop_succ_cons,show off + (k + 1)=off + 1 + k from by omega];exact ZK k h.2.2
section
variable (R:iC P O nt B F0 aa w0 D s a w ι Θ) {t:TypeId} {fs:Array Field} {f:Field} {i z:Nat}
include R t fs f i z
theorem val_faddr (ht:P.underlying t=some (.struct fs)) (hf:fs[i]?=some f) (hz:uC P f.type=some (z + 1)) {X:Operand} {y:LB} (h:opd X=some y) (ho:o.op=.fieldAddr t X i)
  {call} {x:qA} {e:nD} (hr:(K.faddr f.offset y).run call s=some (x,e)):e=.none/\dR P aa a w ι Θ o x:=by
 have hX:=(R.opd h).1;have ia:∀ b off,a.eval X=.pointer (some ⟨b,off,none⟩)->(execOp a.eval o).run P w=.ok (.value (.pointer (some ⟨b,off + f.offset,none⟩))) w:=fun b off hv=>by
  simp [execOp,ho,Instr.fieldAt,run_underlying ht,hf,hv,Instr.sureAddr,fieldPlace,bC hz,Addr.add_lit]
 simp only [K.run] at hr;split at hr
 ·rename_i t' n off hy;injection hr with hr; injection hr with h1 h2; subst h1; subst h2;rw [hy,AG] at hX;obtain ⟨b,hb,hv⟩:=hX;exact ⟨rfl,_,ia _ _ hv,⟨b,hb,rfl⟩,trivial⟩
 ·rename_i cs hy;injection hr with hr; injection hr with h1 h2; subst h1; subst h2;rw [hy,LL] at hX;obtain ⟨b,off,hv,hc⟩:=hX;exact ⟨rfl,_,ia _ _ hv,by rw [LL]; exact ⟨b,_,rfl,wM _ hc⟩,trivial⟩
 ·rename_i cs hy;injection hr with hr; injection hr with h1 h2; subst h1; subst h2;rw [hy] at hX;obtain ⟨b,off,hv,hc⟩:=hX;exact ⟨rfl,_,ia _ _ hv,⟨b,_,rfl,ZK _ hc⟩,trivial⟩
 ·cases hr
theorem val_field {agg:Bool} (ht:P.underlying t=some (.struct fs)) (hf:fs[i]?=some f) (hA:DJ P f.type=some agg) (hz:uC P f.type=some z) {X:Operand} {y:LB} (h:opd X=some y) (ho:o.op=.field t X i)
  {call} {x:qA} {e:nD} (hr:(K.field agg f.offset z y).run call s=some (x,e)):e=.none/\dR P aa a w ι Θ o x:=by
 have hX:=(R.opd h).1;simp only [K.run] at hr;split at hr
 ·rename_i cs hy;rw [hy,qX] at hX;obtain ⟨us,hv,hc⟩:=hX;cases hl:IG agg z (cs.drop f.offset) with
  | none=>rw [hl] at hr; cases hr
  | some v =>
   rw [hl] at hr;injection hr with hr; injection hr with h1 h2; subst h1; subst h2;obtain ⟨u,hu,hS⟩:=part_run (avb:=PC ι Θ) hA hz hc hl;exact ⟨rfl,u,by simp [execOp,ho,Instr.field,run_underlying ht,hf,hv,asAgg,hu],hS,trivial⟩
 ·cases hr
end
theorem ML {v:AV} {n:Nat} (h:KR v=some n):∃ k i,v=.int k i/\0<=i/\i.toNat=n:=by
 unfold KR at h;split at h
 ·rename_i k i;split at h
  ·injection h with h; exact ⟨k,i,rfl,by assumption,h⟩
  ·cases h
 ·cases h
theorem Rows_get {av:Av} {l:List (List AV)} {b off sz k:Nat} {cs:List AV} (h:OC av w l b off) (hu:∀ c∈l,c.length=sz) (hk:l[k]?=some cs):UE av w cs b (off + k * sz):=by
 have h1:=wM (k * sz) (AF.1 h);rw [DP hu] at h1;have da:k<l.length:=(y9.1 hk).1;have tb:l[k]=cs:=(y9.1 hk).2;rw [yb da,yz,bL,tb] at h1;exact h1.1
theorem RowsB_get {av avb:Av} {l:List (List AV)} {b off sz k:Nat} {cs:List AV} (h:tM av avb w l b off) (hu:∀ c∈l,c.length=sz) (hk:l[k]?=some cs):xC av avb w cs b (off + k * sz):=by
 have h1:=ZK (k * sz) (BJ.1 h);rw [DP hu] at h1;have da:k<l.length:=(y9.1 hk).1;have tb:l[k]=cs:=(y9.1 hk).2;rw [yb da,yz,nK,tb] at h1;exact h1.1
section
variable (R:iC P O nt B F0 aa w0 D s a w ι Θ)
include R
theorem val_iaddr {t e':TypeId} {z:Nat} (ht:P.underlying t=some (.slice e')) (hz:uC P e'=some z) {X I:Operand} {y i:LB} (h:opd X=some y) (hi:opd I=some i) (ho:o.op=.indexAddr t X I)
  {call} {x:qA} {e:nD} (hr:(K.iaddr z y i).run call s=some (x,e)):e=.none/\dR P aa a w ι Θ o x:=by
 have hX:=(R.opd h).1;have hI:=(R.opd hi).1;simp only [K.run] at hr;split at hr
 ·rename_i k hk;obtain ⟨kk,n,fc,h0,hn⟩:=ML hk;rw [fc,kB] at hI;have ia:∀ b off len cap,a.eval X=.slice (some ⟨b,off,none⟩) len cap->k<len->(execOp a.eval o).run P w=.ok (.value (.pointer (some ⟨b,off + k * z,none⟩))) w:=fun b off len cap hv da=>by
   have hc:0<=n/\n<(len:Int):=⟨h0,by omega⟩;simp [execOp,ho,Instr.indexAt,run_underlying ht,hv,hI,asIntOf,hc,bC hz,Addr.add_lit,hn]
  split at hr
  ·rename_i nl l hy;rw [hy,tE] at hX;simp only [bE] at hX;obtain ⟨A,c,hv,hc,hu,gu,hs⟩:=hX;cases hl:l[k]? with
   | none=>rw [hl] at hr; cases hr
   | some cs =>
    rw [hl,V] at hr;split at hr
    ·rename_i nk;injection hr with hr; injection hr with h1 h2; subst h1; subst h2;have da:k<l.length:=(y9.1 hl).1;have ma:cs∈l:=yj hl;have hnf:nl=false:=by
      cases nl with
      | false=>rfl
      | true=>have:=(gu rfl).2.1; omega
     obtain ⟨b,off,rfl,la⟩:=(hs hnf).2 (by omega);exact ⟨rfl,_,ia _ _ _ _ hv da,by rw [LL]; exact ⟨b,_,rfl,Rows_get la (fun c hc=>(hu c hc cs ma).trans nk) hl⟩,trivial⟩
    ·cases hr
  ·rename_i l hy;rw [hy] at hX;obtain ⟨a',c,hv,hc,hu,hs⟩:=hX;cases hl:l[k]? with
   | none=>rw [hl] at hr; cases hr
   | some cs =>
    rw [hl,V] at hr;split at hr
    ·rename_i nk;injection hr with hr; injection hr with h1 h2; subst h1; subst h2;have da:k<l.length:=(y9.1 hl).1;have ma:cs∈l:=yj hl;obtain ⟨b,off,rfl,la⟩:=hs (by omega);exact ⟨rfl,_,ia _ _ _ _ hv da,⟨b,_,rfl,RowsB_get la (fun c hc=>(hu c hc cs ma).trans nk) hl⟩,trivial⟩
    ·cases hr
  ·rename_i t' n' sz off ln cap hy;rw [hy,fH] at hX;obtain ⟨b,hb,ab,_,_,_,hv⟩:=hX;split at hr
   ·rename_i da;injection hr with hr; injection hr with h1 h2; subst h1; subst h2;obtain ⟨da,rfl⟩:=da;exact ⟨rfl,_,ia _ _ _ _ hv da,⟨b,hb,rfl⟩,trivial⟩
   ·cases hr
  ·cases hr
 ·cases hr
theorem val_aaddr {t e':TypeId} {n z:Nat} (ht:P.underlying t=some (.array n e')) (hz:uC P e'=some z) {X I:Operand} {y i:LB} (h:opd X=some y) (hi:opd I=some i) (ho:o.op=.indexAddr t X I)
  {call} {x:qA} {e:nD} (hr:(K.aaddr n z y i).run call s=some (x,e)):e=.none/\dR P aa a w ι Θ o x:=by
 have hX:=(R.opd h).1;have hI:=(R.opd hi).1;simp only [K.run] at hr;split at hr
 ·rename_i k hk;obtain ⟨kk,m,fc,h0,hn⟩:=ML hk;rw [fc,kB] at hI;split at hr
  ·rename_i da;have ia:∀ b off,a.eval X=.pointer (some ⟨b,off,none⟩)->(execOp a.eval o).run P w=.ok (.value (.pointer (some ⟨b,off + k * z,none⟩))) w:=fun b off hv=>by
    have hc:0<=m/\m<(n:Int):=⟨h0,by omega⟩;simp [execOp,ho,Instr.indexAt,run_underlying ht,hv,hI,asIntOf,hc,Instr.sureAddr,bC hz,Addr.add_lit,hn]
   split at hr
   ·rename_i t' n' off hy;injection hr with hr; injection hr with h1 h2; subst h1; subst h2;rw [hy,AG] at hX;obtain ⟨b,hb,hv⟩:=hX;exact ⟨rfl,_,ia _ _ hv,⟨b,hb,rfl⟩,trivial⟩
   ·rename_i cs hy;injection hr with hr; injection hr with h1 h2; subst h1; subst h2;rw [hy,LL] at hX;obtain ⟨b,off,hv,hc⟩:=hX;exact ⟨rfl,_,ia _ _ hv,by rw [LL]; exact ⟨b,_,rfl,wM _ hc⟩,trivial⟩
   ·rename_i cs hy;injection hr with hr; injection hr with h1 h2; subst h1; subst h2;rw [hy] at hX;obtain ⟨b,off,hv,hc⟩:=hX;exact ⟨rfl,_,ia _ _ hv,⟨b,_,rfl,ZK _ hc⟩,trivial⟩
   ·cases hr
  ·cases hr
 ·cases hr
theorem val_index {t:TypeId} (ht:P.underlying t=some .string) {X I:Operand} {y i:LB} (h:opd X=some y) (hi:opd I=some i) (ho:o.op=.index t X I)
  {call} {x:qA} {e:nD} (hr:(K.index y i).run call s=some (x,e)):e=.none/\dR P aa a w ι Θ o x:=by
 have hX:=(R.opd h).1;have hI:=(R.opd hi).1;simp only [K.run] at hr;split at hr
 ·rename_i k b hk hy;obtain ⟨kk,n,fc,h0,hn⟩:=ML hk;rw [fc,kB] at hI;rw [hy,gH] at hX;cases hb:b[k]? with
  | none=>rw [hb] at hr; cases hr
  | some u =>
   rw [hb] at hr;injection hr with hr; injection hr with h1 h2; subst h1; subst h2;exact ⟨rfl,.int .u8 u.toNat,by simp [execOp,ho,Instr.index,run_underlying ht,hX,hI,asIntOf,h0,hn,hb],by rw [kB],trivial⟩
 ·cases hr
end
theorem dY {av:Av}:∀ {xs:List AV} {us:List Value} (_:ZG ι av w xs us) {j:Nat} {x:AV},xs[j]?=some x->∃ u,us[j]?=some u/\KO ι av w x u
 | [],_,_,_,_,hx=>by simp at hx
 | y :: r,_,h,j,x,hx=>by
  simp only [ZG] at h;obtain ⟨u,ta,rfl,h0,h⟩:=h;cases j with
  | zero=>simp at hx; subst hx; exact ⟨u,rfl,h0⟩
  | succ j=>exact dY h (j:=j) (by simpa using hx)
theorem eH {av:Av} {x:AV} {u:Value} (h:bE av w x u):KO ι av w x u:=by
 cases x <;> first
  | (simp only [bE] at h; obtain ⟨us,hv,hc⟩:=h; exact ⟨us,hv,LD hc⟩)
  | exact CK (ι:=ι) h
theorem fY {av:Av}:∀ {xs:List AV} {us:List Value},ZN av w xs us->ZG ι av w xs us
 | [],_,h=>by simpa [ZN,ZG] using h
 | x :: r,_,h=>by
  simp only [ZN] at h;obtain ⟨u,ta,rfl,h0,h⟩:=h;exact ⟨u,ta,rfl,eH h0,fY h⟩
theorem gN {av avb:Av} {x:AV} {u:Value} (h:bE av w x u):qB ι av avb w x u:=by
 cases x <;> first
  | exact h
  | (simp only [bE] at h; obtain ⟨us,hv,hc⟩:=h; exact ⟨us,hv,LD hc⟩)
  | (simp only [bE] at h; obtain ⟨us,hv,hc⟩:=h; exact ⟨us,hv,fY hc⟩)
  | (simp [bE] at h; done)
theorem RepU_to_S {av avb:Av} {x:AV} {u:Value} (h:KO ι av w x u):qB ι av avb w x u:=by
 cases x <;> first
  | exact h
  | exact gN h
theorem ZD {av avb:Av} {x:AV} {u:Value} (h:NA ι av w x u):qB ι av avb w x u:=by
 cases x <;> first | exact h | exact gN h
section
variable (R:iC P O nt B F0 aa w0 D s a w ι Θ)
include R
theorem val_ext {i:Nat} {X:Operand} {y:LB} (h:opd X=some y) (ho:o.op=.extract X i)
  {call} {x:qA} {e:nD} (hr:(K.ext y i).run call s=some (x,e)):e=.none/\dR P aa a w ι Θ o x:=by
 have hX:=(R.opd h).1;simp only [K.run] at hr;split at hr
 ·rename_i vs hy;rw [hy,repS_tup] at hX;obtain ⟨us,hv,hc⟩:=hX;cases hb:vs[i]? with
  | none=>rw [hb] at hr; cases hr
  | some u =>
   rw [hb] at hr;injection hr with hr; injection hr with h1 h2; subst h1; subst h2;obtain ⟨u',hu,ec⟩:=dY hc hb;have wq:us[i]?=some u':=by simpa using hu
   exact ⟨rfl,u',by simp [execOp,ho,Instr.extract,hv,wq],RepU_to_S ec,trivial⟩
 ·cases hr
theorem N7 {X:Operand} {y:LB} (h:opd X=some y) (ho:o.op=.nilCheck X)
  {call} {x:qA} {e:nD} (hr:(K.nilchk y).run call s=some (x,e)):e=.none/\dR P aa a w ι Θ o x:=by
 have hX:=(R.opd h).1;simp only [K.run] at hr;split at hr
 ·rename_i t n off hy;injection hr with hr; injection hr with h1 h2; subst h1; subst h2;rw [hy] at hX;obtain ⟨b,hb,hv⟩:=AG.1 hX;exact ⟨rfl,.pointer (some ⟨b,off,none⟩),by simp [execOp,ho,hv],by rw [AG]; exact ⟨b,hb,rfl⟩,trivial⟩
 ·rename_i cs hy;injection hr with hr; injection hr with h1 h2; subst h1; subst h2;rw [hy] at hX;obtain ⟨b,off,hv,hc⟩:=LL.1 hX;exact ⟨rfl,.pointer (some ⟨b,off,none⟩),by simp [execOp,ho,hv],by rw [LL]; exact ⟨b,off,rfl,hc⟩,trivial⟩
 ·rename_i cs hy;injection hr with hr; injection hr with h1 h2; subst h1; subst h2;rw [hy] at hX;obtain ⟨b,off,hv,hc⟩:=hX;exact ⟨rfl,.pointer (some ⟨b,off,none⟩),by simp [execOp,ho,hv],⟨b,off,rfl,hc⟩,trivial⟩
 ·cases hr
theorem val_len {t:TypeId} {str:Bool} (ht:if str then P.underlying t=some .string else ∃ e,P.underlying t=some (.slice e)) {X:Operand} {y:LB} (h:opd X=some y) (ho:o.op=.call { callee:=.builtin .len,args:=#[X],argTypes:=#[t] })
  {call} {x:qA} {e:nD} (hr:(K.len str y).run call s=some (x,e)):e=.none/\dR P aa a w ι Θ o x:=by
 have hX:=(R.opd h).1;have ae:∀ A n c,str=false->a.eval X=.slice A n c->(execOp a.eval o).run P w=.ok (.value (.int .i64 n)) w:=fun A n c hs hv=>by
  subst hs;obtain ⟨e',ht⟩:=ht;simp [execOp,ho,resolve,invoke,builtin,Builtin.len_,run_underlying ht,hv,goInt]
 simp only [K.run] at hr;split at hr
 ·rename_i nl l hy;rw [hy,tE] at hX;simp only [bE] at hX;obtain ⟨A,c,hv,_⟩:=hX;cases str with
  | true=>simp at hr
  | false =>
   simp only [yr,if_false] at hr;injection hr with hr; injection hr with h1 h2; subst h1; subst h2;exact ⟨rfl,_,ae _ _ _ rfl hv,by rw [kB],trivial⟩
 ·rename_i l hy;rw [hy] at hX;obtain ⟨A,c,hv,_⟩:=hX;cases str with
  | true=>simp at hr
  | false =>
   simp only [yr,if_false] at hr;injection hr with hr; injection hr with h1 h2; subst h1; subst h2;exact ⟨rfl,_,ae _ _ _ rfl hv,by rw [kB],trivial⟩
 ·rename_i t' n sz off ln cap hy;rw [hy,fH] at hX;obtain ⟨b,_,_,_,_,_,hv⟩:=hX;cases str with
  | true=>simp at hr
  | false =>
   simp only [yr,if_false] at hr;injection hr with hr; injection hr with h1 h2; subst h1; subst h2;exact ⟨rfl,_,ae _ _ _ rfl hv,by rw [kB],trivial⟩
 ·rename_i b hy;rw [hy,gH] at hX;cases str with
  | false=>simp at hr
  | true =>
   simp only [if_true] at hr ht;injection hr with hr; injection hr with h1 h2; subst h1; subst h2;exact ⟨rfl,.int .i64 b.size,by simp [execOp,ho,resolve,invoke,builtin,Builtin.len_,run_underlying ht,hX,goInt],by rw [kB],trivial⟩
 ·cases hr
theorem val_un {op:UnOp} {t:TypeId} {X:Operand} {y:LB} (h:opd X=some y) (ho:o.op=.unOp op t X)
  {call} {x:qA} {e:nD} (hr:(K.un op y).run call s=some (x,e)):e=.none/\dR P aa a w ι Θ o x:=by
 have hX:=(R.opd h).1;simp only [K.run] at hr;split at hr
 ·rename_i b hy;injection hr with hr; injection hr with h1 h2; subst h1; subst h2;rw [hy,PB] at hX;exact ⟨rfl,.bool (!b),by simp [execOp,ho,Op.unary,hX],by rw [PB],trivial⟩
 ·rename_i k n hy;injection hr with hr; injection hr with h1 h2; subst h1; subst h2;rw [hy,kB] at hX;exact ⟨rfl,.int k (k.wrap (0 - n)),by simp [execOp,ho,Op.unary,Op.intArith,hX],by rw [kB],trivial⟩
 ·cases hr
theorem r6 {k:Option IntKind} {t t':TypeId} (hk:match k with | some k=>(∃ j,P.underlying t=some (.int j))/\P.underlying t'=some (.int k) | none=>P.underlying t=some .string/\P.underlying t'=some .string)
  {X:Operand} {y:LB} (h:opd X=some y) (ho:o.op=.convert t t' X) {call} {x:qA} {e:nD} (hr:(K.conv k y).run call s=some (x,e)):e=.none/\dR P aa a w ι Θ o x:=by
 have hX:=(R.opd h).1;simp only [K.run] at hr;split at hr
 ·rename_i k' j n hy;injection hr with hr; injection hr with h1 h2; subst h1; subst h2;rw [hy,kB] at hX;obtain ⟨⟨i,h1⟩,h2⟩:=hk;exact ⟨rfl,.int k' (k'.wrap n),by simp [execOp,ho,Go.convert,run_underlying h1,run_underlying h2,Conv.intToInt,hX],by rw [kB],trivial⟩
 ·rename_i b hy;injection hr with hr; injection hr with h1 h2; subst h1; subst h2;rw [hy,gH] at hX;exact ⟨rfl,.string b,by simp [execOp,ho,Go.convert,run_underlying hk.1,run_underlying hk.2,hX],by rw [gH],trivial⟩
 ·cases hr
end
end
end
section
open Go Go.RowKit
section
variable {P:Program} {O:AH} {nt B:Nat} {F0:OO} {aa:Av} {w0:World} {D:Nat->Prop} {s:aA} {a:Act} {w w':World} {ι:Ix} {Θ:dL} {o:Oper}
def IV (a:Act) (d:Nat):Option Operand->Option Value × Nat->Prop
 | none,(v,n)=>v=none/\n=d
 | some x,(v,n)=>v=some (a.eval x)/\∃ k i,a.eval x=.int k i/\0<=i/\i.toNat=n
theorem pN {t e:TypeId} {z:Nat} (ht:P.underlying t=some (.slice e)) (hz:uC P e=some z) {A:Option Addr} {n c:Nat} {L H:Option Operand} {l h:Nat} (hl:IV a 0 L (L.map a.eval,l)) (hh:IV a n H (H.map a.eval,h)) (h1:l<=h) (h2:h<=c) :
  (Instr.sliceAt t (.slice A n c) (L.map a.eval) (H.map a.eval) none).run P w=.ok (.slice (if c=l then A else A.map (·.add (l * z))) (h - l) (c - l)) w:=by
 cases L with
 | none =>
  obtain ⟨_,rfl⟩:=hl;cases H with
  | none =>
   obtain ⟨_,rfl⟩:=hh;simp [Instr.sliceAt,Instr.slice,Instr.sliceBounds,run_underlying ht,bC hz]
  | some x =>
   obtain ⟨_,k,i,hx,h0,rfl⟩:=hh;have:0<=i/\i<=(c:Int):=⟨h0,by omega⟩;simp [Instr.sliceAt,Instr.slice,Instr.sliceBounds,Instr.sliceBound,run_underlying ht,bC hz,hx,asIntOf,this]
 | some y =>
  obtain ⟨_,k',i',hy,we,rfl⟩:=hl;cases H with
  | none =>
   obtain ⟨_,rfl⟩:=hh;have:0<=i'/\i'<=(h:Int):=⟨we,by omega⟩;simp [Instr.sliceAt,Instr.slice,Instr.sliceBounds,Instr.sliceBound,run_underlying ht,bC hz,hy,asIntOf,this]
  | some x =>
   obtain ⟨_,k,i,hx,h0,rfl⟩:=hh;have h3:0<=i/\i<=(c:Int):=⟨h0,by omega⟩;have h4:0<=i'/\i'<=(i.toNat:Int):=⟨we,by omega⟩;have h5:i'<=max i 0:=by omega
   simp [Instr.sliceAt,Instr.slice,Instr.sliceBounds,Instr.sliceBound,run_underlying ht,bC hz,hx,hy,asIntOf,h3,h4,h5]
theorem xX {t:TypeId} (ht:P.underlying t=some .string) {b:ByteArray} {L H:Option Operand} {l h:Nat} (hl:IV a 0 L (L.map a.eval,l)) (hh:IV a b.size H (H.map a.eval,h)) (h1:l<=h) (h2:h<=b.size) :
  (Instr.sliceAt t (.string b) (L.map a.eval) (H.map a.eval) none).run P w=.ok (.string (b.extract l h)) w:=by
 cases L with
 | none =>
  obtain ⟨_,rfl⟩:=hl;cases H with
  | none =>
   obtain ⟨_,rfl⟩:=hh;simp [Instr.sliceAt,Instr.slice,Instr.sliceBounds,run_underlying ht]
  | some x =>
   obtain ⟨_,k,i,hx,h0,rfl⟩:=hh;have:0<=i/\i<=(b.size:Int):=⟨h0,by omega⟩;simp [Instr.sliceAt,Instr.slice,Instr.sliceBounds,Instr.sliceBound,run_underlying ht,hx,asIntOf,this]
 | some y =>
  obtain ⟨_,k',i',hy,we,rfl⟩:=hl;cases H with
  | none =>
   obtain ⟨_,rfl⟩:=hh;have:0<=i'/\i'<=(b.size:Int):=⟨we,by omega⟩;simp [Instr.sliceAt,Instr.slice,Instr.sliceBounds,Instr.sliceBound,run_underlying ht,hy,asIntOf,this]
  | some x =>
   obtain ⟨_,k,i,hx,h0,rfl⟩:=hh;have h3:0<=i/\i<=(b.size:Int):=⟨h0,by omega⟩;have h4:0<=i'/\i'<=(i.toNat:Int):=⟨we,by omega⟩;have h5:i'<=max i 0:=by omega
   simp [Instr.sliceAt,Instr.slice,Instr.sliceBounds,Instr.sliceBound,run_underlying ht,hx,hy,asIntOf,h3,h4,h5]
theorem cK (R:iC P O nt B F0 aa w0 D s a w ι Θ) {L:Option Operand} {l:Option LB} (h:JU L=some l) {d n:Nat} (hn:WJ s d l=some n):IV a d L (L.map a.eval,n):=by
 cases L with
 | none =>
  injection h with h;subst h;injection hn with hn;exact ⟨rfl,hn.symm⟩
 | some X =>
  simp only [JU] at h;cases hx:opd X with
  | none=>rw [hx] at h; cases h
  | some x =>
   rw [hx] at h;injection h with h;subst h;obtain ⟨k,i,hi,h0,hn⟩:=ML hn;have:=(R.opd hx).1;rw [hi,kB] at this;exact ⟨rfl,k,i,this,h0,hn⟩
theorem X5 {sz:Nat} {e:List (List AV)} (hu:∀ c∈e,c.length=sz) (l h:Nat):((e.take h).drop l).flatten=(e.flatten.take (h * sz)).drop (l * sz):=by
 rw [<- DP (fun c hc=>hu c (List.mem_of_mem_take hc)) l];congr 1;clear l
 induction e generalizing h with
 | nil=>simp
 | cons c r ih =>
  cases h with
  | zero=>simp
  | succ h =>
   have hc:c.length=sz:=hu c (by simp);rw [List.take_succ_cons,yz,yz,List.take_append,hc,ih (fun c hc=>hu c (by simp [hc])),
    yx (l:=c) (by rw [hc,yw]; omega),show (h + 1) * sz - sz=h * sz from by rw [yw]; omega]
theorem Q6 {av:Av} {cs:List AV} {b off:Nat} (k:Nat) (h:UE av w cs b off):UE av w (cs.take k) b off:=by
 rw [<- List.take_append_drop k cs,bL] at h;exact h.1
theorem i2 {av avb:Av} {cs:List AV} {b off:Nat} (k:Nat) (h:xC av avb w cs b off):xC av avb w (cs.take k) b off:=by
 rw [<- List.take_append_drop k cs,nK] at h;exact h.1
theorem val_slc (R:iC P O nt B F0 aa w0 D s a w ι Θ) {t:TypeId} {str:Bool} {z:Nat} (ht:if str then P.underlying t=some .string else ∃ e,P.underlying t=some (.slice e)/\uC P e=some z) {X:Operand} {L H:Option Operand} {x:LB} {l h:Option LB} (hx:opd X=some x) (hl:JU L=some l) (hh:JU H=some h)
  (ho:o.op=.slice t X L H none) {call} {y:qA} {e:nD} (hr:(K.slc str z x l h none).run call s=some (y,e)):e=.none/\dR P aa a w ι Θ o y:=by
 have hX:=(R.opd hx).1;simp only [K.run] at hr;split at hr
 ·cases hr
 ·rename_i lo hlo;have hL:=cK R hl hlo;split at hr
  ·rename_i b e' hy;rw [hy,tE] at hX;simp only [bE] at hX;obtain ⟨A,c,hv,hc,hu,hn,hs⟩:=hX;split at hr
   ·rename_i hi bt;have hH:=cK R hh bt;split at hr
    ·rename_i ba;obtain ⟨h1,h2,h3,rfl⟩:=ba;injection hr with hr; injection hr with e1 e2; subst e1; subst e2;obtain ⟨el,za,ht2⟩:=ht;have ac:∀ c∈e',c.length=z:=fun c hc=>by simpa using y5.1 h3 c hc
     have ia:=pN (w:=w) (A:=A) za ht2 hL hH h1 (Nat.le_trans h2 hc);refine ⟨rfl,.slice (if c=lo then A else A.map (·.add (lo * z))) (hi - lo) (c - lo),by simp only [execOp,ho,hv,Option.map_none,Sem.run_bind,ia,Result.andThen_ok,Sem.run_pure],?_,trivial⟩;simp only [tE,bE];have ja:((e'.take hi).drop lo).length=hi - lo:=by rw [List.length_drop,yC]; omega
     refine ⟨_,_,by rw [ja],by rw [ja]; omega,fun x hx y hy=>(ac x (List.mem_of_mem_take (List.mem_of_mem_drop hx))).trans (ac y (List.mem_of_mem_take (List.mem_of_mem_drop hy))).symm,fun hb=>?_,fun hb=>?_⟩
     ·obtain ⟨rfl,h0,rfl⟩:=hn hb;refine ⟨by simp,by omega,by omega⟩
     ·obtain ⟨uk,hs2⟩:=hs hb;by_cases bd:c=lo
      ·exact ⟨fun _=>by omega,fun h0=>by omega⟩
      ·refine ⟨fun hA=>?_,fun h0=>?_⟩
       ·rw [if_neg bd] at hA;cases sj:A with
        | none=>have:=uk sj; omega
        | some a=>rw [sj] at hA; cases hA
       obtain ⟨bb,off,rfl,la⟩:=hs2 (by omega);refine ⟨bb,off + lo * z,by rw [if_neg bd]; simp only [yA,Addr.add_lit],?_⟩;rw [AF,X5 ac];exact wM _ (Q6 _ (AF.1 la))
    ·cases hr
   ·cases hr
  ·rename_i e' hy;rw [hy] at hX;obtain ⟨a',c,hv,hc,hu,hs⟩:=hX;split at hr
   ·rename_i hi bt;have hH:=cK R hh bt;split at hr
    ·rename_i ba;obtain ⟨h1,h2,h3,rfl⟩:=ba;injection hr with hr; injection hr with e1 e2; subst e1; subst e2;obtain ⟨el,za,ht2⟩:=ht;have ac:∀ c∈e',c.length=z:=fun c hc=>by simpa using y5.1 h3 c hc
     have ia:=pN (w:=w) (A:=some a') za ht2 hL hH h1 (Nat.le_trans h2 hc);refine ⟨rfl,.slice (if c=lo then some a' else (some a').map (·.add (lo * z))) (hi - lo) (c - lo),by simp only [execOp,ho,hv,Option.map_none,Sem.run_bind,ia,Result.andThen_ok,Sem.run_pure],?_,trivial⟩;have ja:((e'.take hi).drop lo).length=hi - lo:=by rw [List.length_drop,yC]; omega
     refine ⟨if c=lo then a' else a'.add (lo * z),c - lo,by rw [ja]; split <;> simp,by rw [ja]; omega,fun x hx y hy=>(ac x (List.mem_of_mem_take (List.mem_of_mem_drop hx))).trans (ac y (List.mem_of_mem_take (List.mem_of_mem_drop hy))).symm,fun h0=>?_⟩;rw [if_neg (by omega)];obtain ⟨bb,off,rfl,la⟩:=hs (by omega);refine ⟨bb,off + lo * z,by rw [Addr.add_lit],?_⟩;rw [BJ,X5 ac];exact ZK _ (i2 _ (BJ.1 la))
    ·cases hr
   ·cases hr
  ·rename_i t' n sz off ln cap hy;rw [hy,fH] at hX;obtain ⟨b,hb,ab,cc,xg,hz,hv⟩:=hX;split at hr
   ·rename_i hi bt;have hH:=cK R hh bt;split at hr
    ·rename_i ba;obtain ⟨h1,h2,rfl,rfl⟩:=ba;obtain ⟨el,za,ht2⟩:=ht;have ia:=pN (w:=w) (A:=some ⟨b,off,none⟩) za ht2 hL hH h1 (Nat.le_trans h2 xg);have sq:(execOp a.eval o).run P w=.ok (.value (.slice (if cc=lo then some ⟨b,off,none⟩ else (some (⟨b,off,none⟩:Addr)).map (·.add (lo * sz))) (hi - lo) (cc - lo))) w:=by simp only [execOp,ho,hv,Option.map_none,Sem.run_bind,ia,Result.andThen_ok,Sem.run_pure]
     split at hr
     ·rename_i he;injection hr with hr; injection hr with e1 e2; subst e1; subst e2;refine ⟨rfl,_,sq,?_,trivial⟩;rw [tE];simp only [bE,List.length_nil];refine ⟨_,cc - lo,by rw [show hi - lo=0 from by omega],by omega,(fun x hx=>by cases hx),(fun h=>by cases h),fun _=>⟨fun h=>?_,fun h=>absurd h (Nat.lt_irrefl 0)⟩⟩;split at h <;> simp at h
     ·rename_i he;injection hr with hr; injection hr with e1 e2; subst e1; subst e2;refine ⟨rfl,_,sq,⟨b,hb,by omega,cc - lo,by omega,?_,?_⟩,trivial⟩
      ·have:off + lo * sz + (cc - lo) * sz=off + cc * sz:=by
        rw [Nat.add_assoc,<- Nat.add_mul];congr 2;omega
       rw [this];exact hz
      ·rw [if_neg (by omega)];simp [Addr.add_lit]
    ·cases hr
   ·cases hr
  ·rename_i b hy;rw [hy,gH] at hX;split at hr
   ·rename_i hi bt;have hH:=cK R hh bt;split at hr
    ·rename_i ba;obtain ⟨h1,h2,rfl⟩:=ba;injection hr with hr; injection hr with e1 e2; subst e1; subst e2;have ia:=xX (w:=w) ht hL hH h1 h2;exact ⟨rfl,.string (b.extract lo hi),by simp only [execOp,ho,hX,Option.map_none,Sem.run_bind,ia,Result.andThen_ok,Sem.run_pure],by rw [gH],trivial⟩
    ·cases hr
   ·cases hr
  ·cases hr
theorem isZ_eq {H:Option Operand} (h:isZ H=true):H=some (.const (.int .i64 0)):=by
 unfold isZ at h;split at h
 ·rw [of_decide_eq_true h]
 ·cases h
theorem val_slz (R:iC P O nt B F0 aa w0 D s a w ι Θ) {t e':TypeId} {z:Nat} (ht:P.underlying t=some (.slice e')) (hz:uC P e'=some z) {X:Operand} {H M:Option Operand} (hH:isZ H=true) (hM:isZ M=true) {x:LB} (hx:opd X=some x)
  (ho:o.op=.slice t X none H M) {call} {y:qA} {e:nD} (hr:(K.slz x).run call s=some (y,e)):e=.none/\dR P aa a w ι Θ o y:=by
 have hX:=(R.opd hx).1;rw [isZ_eq hH,isZ_eq hM] at ho;have ia:∀ (A:Option Addr) (n c:Nat),a.eval X=.slice A n c->(execOp a.eval o).run P w=.ok (.value (.slice A 0 0)) w:=fun A n c hv=>by
  have ae:(Instr.sliceAt t (.slice A n c) none (some (.int .i64 0)) (some (.int .i64 0))).run P w=.ok (.slice A 0 0) w:=by simp [Instr.sliceAt,Instr.slice,Instr.sliceBounds,Instr.sliceBound,run_underlying ht,bC hz,asIntOf]
  have he:a.eval (.const (.int .i64 0))=.int .i64 0:=rfl;simp only [execOp,ho,hv,he,Option.map_none,yA,ae,Sem.run_bind,Result.andThen_ok,Sem.run_pure]
 simp only [K.run] at hr;split at hr
 ·rename_i b l hy;injection hr with hr; injection hr with e1 e2; subst e1; subst e2;rw [hy,tE] at hX;simp only [bE] at hX;obtain ⟨A,c,hv,hc,hu,hn,hs⟩:=hX;refine ⟨rfl,_,ia _ _ _ hv,?_,⟨A,0,rfl⟩⟩;simp only [tE,bE,List.length_nil];exact ⟨A,0,rfl,ym _,(fun x hx=>by cases hx),fun hb=>⟨(hn hb).1,trivial,rfl⟩,fun hb=>⟨fun _=>rfl,fun h0=>absurd h0 (Nat.lt_irrefl 0)⟩⟩
 ·rename_i l hy;injection hr with hr; injection hr with e1 e2; subst e1; subst e2;rw [hy] at hX;obtain ⟨a',c,hv,hc,hu,hs⟩:=hX;refine ⟨rfl,_,ia _ _ _ hv,?_,⟨_,0,rfl⟩⟩;simp only [tE,bE,List.length_nil];exact ⟨_,0,rfl,ym _,(fun x hx=>by cases hx),(fun hb=>by cases hb),fun hb=>⟨fun _=>rfl,fun h0=>absurd h0 (Nat.lt_irrefl 0)⟩⟩
 ·rename_i t' n sz off ln cap hy;injection hr with hr; injection hr with e1 e2; subst e1; subst e2;rw [hy,fH] at hX;obtain ⟨b,hb,ab,cc,xg,hz',hv⟩:=hX;refine ⟨rfl,_,ia _ _ _ hv,?_,⟨_,0,rfl⟩⟩;simp only [tE,bE,List.length_nil];exact ⟨_,0,rfl,ym _,(fun x hx=>by cases hx),(fun hb=>by cases hb),fun hb=>⟨fun _=>rfl,fun h0=>absurd h0 (Nat.lt_irrefl 0)⟩⟩
 ·cases hr
end
end
section
open Go Go.RowKit
section
variable {P:Program} {O:AH} {nt B:Nat} {F0:OO} {aa:Av} {w0:World} {D:Nat->Prop} {s:aA} {a:Act} {w w':World} {ι:Ix} {Θ:dL} {o:Oper}
theorem eql_slice (d:Nat) {t e:TypeId} (ht:P.underlying t=some (.slice e)) (A:Option Addr) (n c:Nat):(Op.equalIn (d + 1) t (.slice A n c) (.slice none 0 0)).run P w=.ok A.isNone w:=by
 unfold Op.equalIn;simp only [Sem.run_bind,run_underlying ht,Result.andThen_ok];cases A <;> rfl
theorem eql_ptr (d:Nat) {t e:TypeId} (ht:P.underlying t=some (.pointer e)) (A:Option Addr):(Op.equalIn (d + 1) t (.pointer A) (.pointer none)).run P w=.ok A.isNone w:=by
 unfold Op.equalIn;simp only [Sem.run_bind,run_underlying ht,Result.andThen_ok];cases A <;> rfl
theorem uV (R:iC P O nt B F0 aa w0 D s a w ι Θ) {t t':TypeId} {neg ptr:Bool} (ht:if ptr then ∃ e,P.underlying t=some (.pointer e) else ∃ e,P.underlying t=some (.slice e)) {X Y:Operand} {x y:LB} (hx:opd X=some x) (hy:opd Y=some y)
  (ho:o.op=.binOp (if neg then .neq else .eql) t X Y t') {call} {z:qA} {e:nD} (hr:(K.eqn neg ptr x y).run call s=some (z,e)):e=.none/\dR P aa a w ι Θ o z:=by
 have hX:=(R.opd hx).1;have hY:=(R.opd hy).1;have key:∀ (u v:Value) (r:Bool),a.eval X=u->a.eval Y=v->u.oneCell'=true->u≠.nilIface->(∀ op,(Go.binOp op t u v).run P w=(match op with | .eql=>(do pure (.bool (<- Op.equal t u v)):Sem Value) | .neq=>(do pure (.bool (!(<- Op.equal t u v))):Sem Value) | _=>Go.binOp op t u v).run P w)->(Op.equal t u v).run P w=.ok r w →
   (execOp a.eval o).run P w=.ok (.value (.bool (r != neg))) w:=fun u v r hu hv h1 hn hb he=>by
  cases neg with
  | false =>
   simp only [yr,if_false] at ho;have:=hb .eql;simp only [Sem.run_bind,he,Result.andThen_ok,Sem.run_pure] at this;rw [DB ho hu hv h1 hn this];simp
  | true =>
   simp only [if_true] at ho;have:=hb .neq;simp only [Sem.run_bind,he,Result.andThen_ok,Sem.run_pure] at this;rw [DB ho hu hv h1 hn this];simp
 have ae:∀ A n c,ptr=false->a.eval X=.slice A n c->a.eval Y=.slice none 0 0->(execOp a.eval o).run P w=.ok (.value (.bool (A.isNone != neg))) w:=fun A n c hp hu hv=>by
  subst hp;simp only [yr,if_false] at ht;obtain ⟨e,ht⟩:=ht;exact key _ _ _ hu hv rfl (by simp) (fun op=>by cases op <;> simp [Go.binOp]) (eql_slice 9999 ht A n c)
 have hpt:∀ A,ptr=true->a.eval X=.pointer A->a.eval Y=.pointer none->(execOp a.eval o).run P w=.ok (.value (.bool (A.isNone != neg))) w:=fun A hp hu hv=>by
  subst hp;simp only [if_true] at ht;obtain ⟨e,ht⟩:=ht;exact key _ _ _ hu hv rfl (by simp) (fun op=>by cases op <;> simp [Go.binOp]) (eql_ptr 9999 ht A)
 have KN:∀ {b:Bool},(execOp a.eval o).run P w=.ok (.value (.bool (b != neg))) w->dR P aa a w ι Θ o ⟨.bool (b != neg),.no⟩:=fun h=>⟨_,h,by rw [PB],trivial⟩
 simp only [K.run] at hr;split at hr
 ·rename_i l iq;rw [iq,tE] at hY;simp only [bE] at hY;obtain ⟨A,c,hv,_,_,hn,_⟩:=hY;obtain ⟨rfl,h0,rfl⟩:=hn trivial;rw [h0] at hv;cases hi:AR false (x.get s) with
  | none=>rw [hi] at hr; cases hr
  | some b =>
   rw [hi] at hr;injection hr with hr; injection hr with e1 e2; subst e1; subst e2;refine ⟨rfl,KN ?_⟩;unfold AR at hi;split at hi <;> first | (exact absurd ‹false=true› (by decide)) | skip
   ·rename_i l' _ kc;injection hi with hi; subst hi;rw [kc,tE] at hX;simp only [bE] at hX;obtain ⟨A,c,hu,_,_,tk,ji⟩:=hX;have:=ae _ _ _ rfl hu hv;rw [(tk trivial).1] at this; exact this
   ·rename_i l' _ kc;split at hi
    ·cases hi
    ·rename_i na;injection hi with hi; subst hi;rw [kc,tE] at hX;simp only [bE] at hX;obtain ⟨A,c,hu,_,_,tk,ji⟩:=hX;have:=ae _ _ _ rfl hu hv;obtain ⟨_,_,rfl,_⟩:=(ji trivial).2 (by cases l' with | nil=>simp at na | cons=>simp);exact this
   ·rename_i l' _ kc;injection hi with hi; subst hi;rw [kc] at hX;obtain ⟨a',c,hu,_⟩:=hX;exact ae _ _ _ rfl hu hv
   ·rename_i kc;injection hi with hi; subst hi;rw [kc] at hX;obtain ⟨b,_,_,_,_,_,hu⟩:=fH.1 hX;exact ae _ _ _ rfl hu hv
   ·cases hi
 ·rename_i iq;rw [iq,wZ] at hY;cases hi:AR true (x.get s) with
  | none=>rw [hi] at hr; cases hr
  | some b =>
   rw [hi] at hr;injection hr with hr; injection hr with e1 e2; subst e1; subst e2;refine ⟨rfl,KN ?_⟩;unfold AR at hi;split at hi <;> first | (exact absurd ‹true=false› (by decide)) | skip
   ·rename_i kc;injection hi with hi; subst hi;rw [kc,wZ] at hX;exact hpt _ rfl hX hY
   ·rename_i kc;injection hi with hi; subst hi;rw [kc] at hX;obtain ⟨b,_,hu⟩:=AG.1 hX;exact hpt _ rfl hu hY
   ·rename_i kc;injection hi with hi; subst hi;rw [kc] at hX;obtain ⟨b,off,hu,_⟩:=LL.1 hX;exact hpt _ rfl hu hY
   ·rename_i kc;injection hi with hi; subst hi;rw [kc] at hX;obtain ⟨b,off,hu,_⟩:=hX;exact hpt _ rfl hu hY
   ·cases hi
 ·cases hr
def KindEq (P:Program) (d:Nat) (t:TypeId) (w:World):Nat->Value->Value->Prop
 | 0,.int j a,.int j' b=>j=j'->(Op.equalIn (d + 1) t (.int j a) (.int j' b)).run P w=.ok (decide (a=b)) w
 | 1,.string a,.string b=>(Op.equalIn (d + 1) t (.string a) (.string b)).run P w=.ok (decide (a=b)) w
 | 2,.bool a,.bool b=>(Op.equalIn (d + 1) t (.bool a) (.bool b)).run P w=.ok (decide (a=b)) w
 | _,_,_=>True
theorem C5 (d:Nat) {t:TypeId} {k:Nat} (hk:mX P t=some k) {xs ys:Array Value} {i:Nat} {u v:Value} (hu:xs[i]?=some u) (hv:ys[i]?=some v) :
  (part t xs i).run P w=.ok u w/\(part t ys i).run P w=.ok v w/\KindEq P d t w k u v:=by
 unfold mX at hk;split at hk
 ·rename_i j ht _;injection hk with hk;subst hk;refine ⟨by simp [part,isAgg,run_underlying ht,hu],by simp [part,isAgg,run_underlying ht,hv],?_⟩;cases u <;> cases v <;> first | trivial | skip
  rename_i j1 a j2 b;rintro rfl;rw [run_equalIn_int w d t j1 j a b ht];rfl
 ·rename_i ht _;injection hk with hk;subst hk;refine ⟨by simp [part,isAgg,run_underlying ht,hu],by simp [part,isAgg,run_underlying ht,hv],?_⟩;cases u <;> cases v <;> first | trivial | skip
  rename_i a b;show (Op.equalIn (d + 1) t (.string a) (.string b)).run P w=_;rw [run_equalIn_string w d t a b ht,xN]
 ·rename_i ht _;injection hk with hk;subst hk;refine ⟨by simp [part,isAgg,run_underlying ht,hu],by simp [part,isAgg,run_underlying ht,hv],?_⟩;cases u <;> cases v <;> first | trivial | skip
  rename_i a b;show (Op.equalIn (d + 1) t (.bool a) (.bool b)).run P w=_;rw [run_equalIn_bool' w d t a b ht];cases a <;> cases b <;> rfl
 ·cases hk
theorem eqC_step {k:Nat} {ks:List Nat} {x y:AV} {xs ys:List AV} {r:Bool} (h:zL (k :: ks) (x :: xs) (y :: ys)=some r) {av:Av} {u v:Value} (hu:NA ι av w x u) (hv:NA ι av w y v) (d:Nat) {t:TypeId} (hk:mX P t=some k) {us vs:Array Value} {i:Nat} (hi:us[i]?=some u) (hj:vs[i]?=some v) :
  ∃ b,(part t us i).run P w=.ok u w/\(part t vs i).run P w=.ok v w/\(Op.equalIn (d + 1) t u v).run P w=.ok b w/\(if b then zL ks xs ys=some r else r=false):=by
 obtain ⟨h1,h2,h3⟩:=C5 (w:=w) d hk hi hj;unfold zL at h;split at h
 ·rename_i e _ _; cases e
 ·rename_i j a r1 j' b r2 e1 e2 e3;injection e1 with e1 e1'; injection e2 with e2 bo; injection e3 with e3 e3';subst e1; subst e1'; subst e2; subst bo; subst e3; subst e3';simp only [NA,bE] at hu hv;subst hu; subst hv;split at h
  ·rename_i hjj;refine ⟨_,h1,h2,h3 hjj,?_⟩;by_cases zf:a=b
   ·rw [if_pos zf] at h; rw [if_pos (by simpa using zf)]; exact h
   ·rw [if_neg zf] at h; injection h with h; rw [if_neg (by simpa using zf)]; exact h.symm
  ·cases h
 ·rename_i a r1 b r2 e1 e2 e3;injection e1 with e1 e1'; injection e2 with e2 bo; injection e3 with e3 e3';subst e1; subst e1'; subst e2; subst bo; subst e3; subst e3';simp only [NA,bE] at hu hv;subst hu; subst hv;refine ⟨_,h1,h2,h3,?_⟩;by_cases zf:a=b
  ·rw [if_pos zf] at h; rw [if_pos (by simpa using zf)]; exact h
  ·rw [if_neg zf] at h; injection h with h; rw [if_neg (by simpa using zf)]; exact h.symm
 ·rename_i a r1 b r2 e1 e2 e3;injection e1 with e1 e1'; injection e2 with e2 bo; injection e3 with e3 e3';subst e1; subst e1'; subst e2; subst bo; subst e3; subst e3';simp only [NA,bE] at hu hv;subst hu; subst hv;refine ⟨_,h1,h2,h3,?_⟩;by_cases zf:a=b
  ·rw [if_pos zf] at h; rw [if_pos (by simpa using zf)]; exact h
  ·rw [if_neg zf] at h; injection h with h; rw [if_neg (by simpa using zf)]; exact h.symm
 ·cases h
theorem eqC_len:∀ {ks:List Nat} {xs ys:List AV} {r:Bool},zL ks xs ys=some r->ks≠[]->∃ x oj y ys',xs=x :: oj/\ys=y :: ys'
 | [],_,_,_,h,h'=>absurd rfl h'
 | k :: ks,xs,ys,r,h,_=>by
  cases xs with
  | nil=>simp [zL] at h
  | cons x xs =>
   cases ys with
   | nil=>unfold zL at h; split at h <;> simp_all
   | cons y ys=>exact ⟨x,xs,y,ys,rfl,rfl⟩
theorem AP:∀ {k1 k2:List Nat} {xs ys:List AV} {r:Bool},zL (k1++k2) xs ys=some r->∃ r1,zL k1 (xs.take k1.length) (ys.take k1.length)=some r1/\(if r1 then zL k2 (xs.drop k1.length) (ys.drop k1.length)=some r else r=false)
 | [],k2,xs,ys,r,h=>⟨true,by simp [zL],by simpa using h⟩
 | k :: k1,k2,xs,ys,r,h=>by
  obtain ⟨x,oj,y,ys',rfl,rfl⟩:=eqC_len h (by simp);simp only [List.cons_append] at h;simp only [yE,List.take_succ_cons,List.drop_succ_cons];unfold zL at h;split at h
  ·rename_i e _ _; cases e
  ·rename_i j a r1 j' b r2 e1 e2 e3;injection e1 with e1 e1'; injection e2 with e2 bo; injection e3 with e3 e3';subst e1; subst e1'; subst e2; subst bo; subst e3; subst e3';split at h
   ·rename_i hjj;subst hjj;split at h
    ·rename_i zf;simp only [zL,if_true,if_pos zf];exact AP h
    ·rename_i zf;injection h with h;exact ⟨false,by simp [zL,zf],by simpa using h.symm⟩
   ·cases h
  ·rename_i a r1 b r2 e1 e2 e3;injection e1 with e1 e1'; injection e2 with e2 bo; injection e3 with e3 e3';subst e1; subst e1'; subst e2; subst bo; subst e3; subst e3';split at h
   ·rename_i zf;simp only [zL,if_pos zf];exact AP h
   ·rename_i zf;injection h with h;exact ⟨false,by simp [zL,zf],by simpa using h.symm⟩
  ·rename_i a r1 b r2 e1 e2 e3;injection e1 with e1 e1'; injection e2 with e2 bo; injection e3 with e3 e3';subst e1; subst e1'; subst e2; subst bo; subst e3; subst e3';split at h
   ·rename_i zf;simp only [zL,if_pos zf];exact AP h
   ·rename_i zf;injection h with h;exact ⟨false,by simp [zL,zf],by simpa using h.symm⟩
  ·cases h
def mZ (P:Program) (ι:Ix) (av:Av) (w:World) (n:Nat) (t:TypeId) (ks:List Nat):Prop :=
 ∀ (d:Nat) (us vs:Array Value) (off:Nat) (xs ys:List AV) (r:Bool),JA ι av w xs ((us.toList.drop off).take ks.length)->JA ι av w ys ((vs.toList.drop off).take ks.length)->zL ks xs ys=some r →
  ∃ a b,(part t us off).run P w=.ok a w/\(part t vs off).run P w=.ok b w/\(Op.equalIn (d + n) t a b).run P w=.ok r w
theorem OM {av:Av} {xs:List AV} {us:List Value} {off k m:Nat} (h:JA ι av w xs ((us.drop off).take (k + m))):JA ι av w (xs.take k) ((us.drop off).take k)/\JA ι av w (xs.drop k) ((us.drop (off + k)).take m):=by
 constructor
 ·have:=eG k h
  rwa [List.take_take,Nat.min_eq_left (Nat.le_add_right ..)] at this
 ·have:=xF k h
  rwa [List.drop_take,Nat.add_sub_cancel_left,List.drop_drop] at this
theorem iU {av:Av} {n:Nat} (ih:∀ t ks,sH P n t=some ks->mZ P ι av w n t ks) (d:Nat) {us vs:Array Value}:∀ {fs:List Field} {i:Nat} {ks:List Nat} {xs ys:List AV} {r:Bool},SP (sH P n) i fs=some ks->zL ks xs ys=some r->JA ι av w xs ((us.toList.drop i).take ks.length)->JA ι av w ys ((vs.toList.drop i).take ks.length) →
  (Op.eqFields (d + n) us vs fs).run P w=.ok r w
 | [],i,ks,xs,ys,r,hk,h,_,_=>by
  injection hk with hk;subst hk;cases xs <;> cases ys <;> simp [zL] at h
  subst h;simp [Op.eqFields]
 | f :: fs,i,ks,xs,ys,r,hk,h,hx,hy=>by
  unfold SP at hk;obtain ⟨l,hl,hk⟩:=y8.1 hk;split at hk
  ·rename_i hn;obtain ⟨l',ot,rfl⟩:=yh.1 hk;obtain ⟨r1,h1,h2⟩:=AP h;rw [yl] at hx hy;obtain ⟨x1,x2⟩:=OM hx;obtain ⟨y1,y2⟩:=OM hy;obtain ⟨a,b,p1,p2,p3⟩:=ih _ _ hl d us vs i _ _ _ x1 y1 h1;unfold Op.eqFields;rw [if_pos hn.1,hn.2];simp only [Sem.run_bind,p1,p2,p3,Result.andThen_ok,Sem.run_ite];cases r1 with
   | true =>
    simp only [if_true] at h2;simp only [Bool.not_true,yr,if_false];exact iU ih d ot h2 x2 y2
   | false =>
    simp only [yr,if_false] at h2;simp [h2]
  ·cases hk
theorem MV {av:Av} {n:Nat} {e:TypeId} {l:List Nat} (ih:mZ P ι av w n e l) (hc:P.cellsOf e=l.length) (d:Nat) {us vs:Array Value}:∀ {m i:Nat} {xs ys:List AV} {r:Bool},zL (yD m l).flatten xs ys=some r->JA ι av w xs ((us.toList.drop (i * l.length)).take (yD m l).flatten.length)->JA ι av w ys ((vs.toList.drop (i * l.length)).take (yD m l).flatten.length) →
  (Op.eqItems (d + n) e (P.cellsOf e) us vs (List.range' i m)).run P w=.ok r w
 | 0,i,xs,ys,r,h,_,_=>by
  cases xs <;> cases ys <;> simp [zL] at h
  subst h;simp [Op.eqItems]
 | m + 1,i,xs,ys,r,h,hx,hy=>by
  rw [List.replicate_succ,yz] at h hx hy;obtain ⟨r1,h1,h2⟩:=AP h;rw [yl] at hx hy;obtain ⟨x1,x2⟩:=OM hx;obtain ⟨y1,y2⟩:=OM hy;rw [<- yw] at x2 y2;obtain ⟨a,b,p1,p2,p3⟩:=ih d us vs (i * l.length) _ _ _ x1 y1 h1;rw [List.range'_succ];unfold Op.eqItems;rw [hc];simp only [Sem.run_bind,p1,p2,p3,Result.andThen_ok,Sem.run_ite];cases r1 with
  | true =>
   simp only [if_true] at h2;simp only [Bool.not_true,yr,if_false];have:=MV ih hc d (m:=m) (i:=i + 1) h2 x2 y2;rw [hc] at this;exact this
  | false =>
   simp only [yr,if_false] at h2;simp [h2]
theorem eR {t:TypeId} {z:Nat} (hA:DJ P t=some true) (hz:uC P t=some z) (us:Array Value) (off:Nat):(part t us off).run P w=.ok (.agg (us.extract off (off + z))) w/\(us.extract off (off + z)).toList=(us.toList.drop off).take z :=
 ⟨by simp [part,bP hA,bC hz],by rw [Array.toList_extract,List.extract_eq_take_drop,Nat.add_sub_cancel_left]⟩
theorem PR {t:TypeId} {z:Nat} (h:uC P t=some z):∃ i,P.info? t=some i:=by
 unfold uC at h;cases hh:P.info? t with
 | none=>rw [hh] at h; cases h
 | some i=>exact ⟨i,rfl⟩
theorem LT {av:Av} {n:Nat} (ih:∀ t ks,sH P n t=some ks->mZ P ι av w n t ks) (d:Nat) {t:TypeId} {ks:List Nat} (hk:sH P (n + 1) t=some ks) (hA:DJ P t=some true) {us vs:Array Value} {xs ys:List AV} {r:Bool}
  (hx:JA ι av w xs (us.toList.take ks.length)) (hy:JA ι av w ys (vs.toList.take ks.length)) (h:zL ks xs ys=some r):uC P t=some ks.length/\(Op.equalIn (d + n + 1) t (.agg us) (.agg vs)).run P w=.ok r w:=by
 unfold sH at hk;split at hk
 ·rename_i k fd;unfold DJ at hA;unfold mX at fd;split at fd <;> first | (cases fd; done) | (rename_i ht _; rw [ht] at hA; injection hA with hA; cases hA) | (rename_i ht; rw [ht] at hA; injection hA with hA; cases hA)
 ·split at hk
  ·rename_i m e ht;obtain ⟨l,hl,hk⟩:=y8.1 hk;split at hk
   ·rename_i hc;injection hk with hk;subst hk;obtain ⟨i,hi⟩:=PR hc.2.1;refine ⟨hc.2.2,?_⟩;have:=run_equalIn_array (P:=P) w (d + n) us vs ht hi;rw [List.range_eq_range'] at this;exact this.trans (MV (ih _ _ hl) hc.1 d h (by simpa using hx) (by simpa using hy))
   ·cases hk
  ·rename_i fs ht;split at hk
   ·cases hk
   ·rename_i db;obtain ⟨l,hl,hk⟩:=y8.1 hk;split at hk
    ·rename_i hc;injection hk with hk;subst hk;refine ⟨hc,?_⟩;have hf:P.fieldsOf t=fs:=by simp [Program.fieldsOf,ht]
     have:=run_equalIn_struct (P:=P) w (d + n) t us vs (by rw [hf]; exact ht) (by simpa using db);rw [hf] at this;exact this.trans (iU ih d hl h (by simpa using hx) (by simpa using hy))
    ·cases hk
  ·cases hk
theorem qT {av:Av}:∀ (n:Nat) (t:TypeId) (ks:List Nat),sH P n t=some ks->mZ P ι av w n t ks
 | 0,_,_,h=>by cases h
 | n + 1,t,ks,hk=>by
  intro d us vs off xs ys r hx hy h;have tc:=hk;unfold sH at hk;split at hk
  ·rename_i k fd;injection hk with hk;subst hk;obtain ⟨x,oj,y,ys',rfl,rfl⟩:=eqC_len h (by simp);obtain ⟨u,ta,e1,hu,_,um⟩:=hx;obtain ⟨v,aw,e2,hv,_,gv⟩:=hy;have l1:ta=[]:=by
    have:=congrArg List.length e1;simp at this;exact yM (by omega)
   have l2:aw=[]:=by
    have:=congrArg List.length e2;simp at this;exact yM (by omega)
   have g1:us[off]?=some u:=by
    have:=congrArg (fun l=>l[0]?) e1;simpa [yO,yT] using this
   have g2:vs[off]?=some v:=by
    have:=congrArg (fun l=>l[0]?) e2;simpa [yO,yT] using this
   obtain ⟨b,p1,p2,p3,p4⟩:=eqC_step (P:=P) h hu hv (d + n) fd g1 g2;refine ⟨u,v,p1,p2,?_⟩;have:b=r:=by
    cases b with
    | true =>
     simp only [if_true] at p4;subst l1;subst l2;cases oj with
     | nil=>cases ys' with
      | nil=>simp [zL] at p4; exact p4.symm
      | cons=>simp [zL] at p4
     | cons=>simp [zL] at p4
    | false=>simpa using p4.symm
   rw [<- this];exact p3
  ·rename_i hnk;have hA:DJ P t=some true:=by
    split at hk
    ·rename_i ht; simp [DJ,ht]
    ·rename_i ht; simp [DJ,ht]
    ·cases hk
   have:=LT (fun t ks h=>qT n t ks h) d tc hA (us:=us.extract off (off + ks.length)) (vs:=vs.extract off (off + ks.length)) (xs:=xs) (ys:=ys) (r:=r)
    (by rw [Array.toList_extract,List.extract_eq_take_drop,Nat.add_sub_cancel_left,List.take_take,Nat.min_self]; exact hx)
    (by rw [Array.toList_extract,List.extract_eq_take_drop,Nat.add_sub_cancel_left,List.take_take,Nat.min_self]; exact hy) h
   exact ⟨_,_,(eR hA this.1 us off).1,(eR hA this.1 vs off).1,this.2⟩
theorem val_eqa (R:iC P O nt B F0 aa w0 D s a w ι Θ) {t t':TypeId} {neg:Bool} {ks:List Nat} (ht:TQ P t=some ks) {X Y:Operand} {x y:LB} (hx:opd X=some x) (hy:opd Y=some y)
  (ho:o.op=.binOp (if neg then .neq else .eql) t X Y t') {call} {z:qA} {e:nD} (hr:(K.eqa neg ks x y).run call s=some (z,e)):e=.none/\dR P aa a w ι Θ o z:=by
 have hX:=(R.opd hx).1;have hY:=(R.opd hy).1;simp only [K.run] at hr;split at hr
 ·rename_i xa ya kc iq;rw [kc,qX] at hX;rw [iq,qX] at hY;obtain ⟨us,hu,um⟩:=hX;obtain ⟨vs,hv,gv⟩:=hY;cases hq:zL ks xa ya with
  | none=>rw [hq] at hr; cases hr
  | some r =>
   rw [hq] at hr;injection hr with hr; injection hr with e1 e2; subst e1; subst e2;unfold TQ at ht;split at ht
   ·cases ht
   ·rename_i hg;have he:(Op.equal t (.agg us) (.agg vs)).run P w=.ok r w:=by
     have main:sH P 8 t=some ks->DJ P t=some true->(Op.equal t (.agg us) (.agg vs)).run P w=.ok r w:=fun hk hA =>
      by
       obtain ⟨r1,h1,h2⟩:=AP (k1:=ks) (k2:=[]) (by simpa using hq);have e:r1=r:=by
        cases r1 with
        | true =>
         simp only [if_true] at h2;unfold zL at h2;split at h2 <;> first | (injection h2) | (rename_i e _ _; cases e) | cases h2
        | false=>simpa using h2.symm
       subst e;exact (LT (fun t ks h=>qT 7 t ks h) 9992 hk hA (us:=us) (vs:=vs) (eG _ um) (eG _ gv) h1).2
     split at ht
     ·rename_i ep; exact main ht (by simp [DJ,ep])
     ·rename_i ep; exact main ht (by simp [DJ,ep])
     ·cases ht
    have hgd:∀ op,(eqGuard op t X Y (.agg us) (.agg vs)).run P w=.ok () w:=fun op=>by
     have:P.eqGuardType P.depth t=false:=by simpa using hg
     unfold eqGuard;cases op <;> simp [this]
    refine ⟨rfl,.bool (r != neg),?_,by rw [PB],trivial⟩;cases neg with
    | false =>
     simp only [yr,if_false] at ho;simp [execOp,ho,hu,hv,hgd,Go.binOp,he]
    | true =>
     simp only [if_true] at ho;simp [execOp,ho,hu,hv,hgd,Go.binOp,he]
 ·cases hr
end
end
section
open Go Go.RowKit
section
variable {P:Program} {O:AH} {nt B:Nat} {F0:OO} {aa:Av} {w0:World} {D:Nat->Prop} {s:aA} {a:Act} {w w':World} {ι:Ix} {Θ:dL} {o:Oper}
theorem uW {av avb:Av} {x:AV} {v:Value} (h:qB ι av avb w x v) (hx:x.leaf=true):NA ι av w x v/\v.oneCell'=true:=by
 cases x <;> first
  | (simp [AV.leaf] at hx; done)
  | (refine ⟨h,?_⟩; simp only [qB,NA,bE] at h; subst h; rfl)
  | (refine ⟨h,?_⟩; obtain ⟨b,_,rfl⟩:=h; rfl)
  | (refine ⟨h,?_⟩; obtain ⟨b,_,_,_,_,_,rfl⟩:=h; rfl)
  | (refine ⟨h,?_⟩; simp only [qB,NA,bE] at h; obtain ⟨b,off,rfl,_⟩:=h; rfl)
theorem cells_rep {av avb:Av} {x:AV} {v:Value} (h:qB ι av avb w x v) (hx:x.whole=true):JA ι av w x.cells v.cells.toList:=by
 cases x with
 | agg cs=>obtain ⟨us,rfl,hc⟩:=h; exact hc
 | _ =>
  obtain ⟨h1,h2⟩:=uW h hx;cases v <;> first | exact ⟨_,[],rfl,h1,h2,rfl⟩ | (simp [Value.oneCell'] at h2; done)
theorem s6 (off:Nat):∀ (l:List Value) (k:Nat) (cells:Array Value),off + k + l.length<=cells.size →
  ((l.zipIdx k).foldl (fun cs (p:Value × Nat)=>cs.setIfInBounds (off + p.2) p.1) cells).toList=cells.toList.take (off + k)++l++cells.toList.drop (off + k + l.length)
 | [],k,cells,_=>by simp
 | v :: l,k,cells,h=>by
  simp only [yE] at h;rw [List.zipIdx_cons,List.foldl_cons,s6 off l (k + 1) _ (by simp; omega)];simp only [Array.toList_setIfInBounds,yE];have hk:off + k<cells.toList.length:=by simp; omega
  rw [show off + (k + 1)=off + k + 1 from by omega,List.take_succ_eq_append_getElem (by simpa using hk)];rw [List.take_set_of_le (ym _),List.getElem_set_self,List.drop_set_of_lt (by omega)];simp [yU,show off + k + 1 + l.length=off + k + (l.length + 1) from by omega]
theorem WR {pl:Nat->Option (Nat × Nat)} {av avb:Av} (sd:avb=avb):∀ {ps:List (Nat × Operand)} {ys:List (Nat × LB)} {zs:List (Nat × Nat × LB)} {cs ds:List AV} {us:Array Value},
  (∀ (X:Operand) (y:LB),opd X=some y->qB ι av avb w (y.get s) (a.eval X))->opds ps=some ys->dP pl ys=some zs->(∀ p∈zs,(p.2.2.get s).whole=true) →
  QR cs (zs.map fun p=>(p.1,p.2.1,(p.2.2.get s).cells))=some ds->JA ι av w cs us.toList->∃ ta,Instr.fill pl us (ps.map fun p=>(p.1,a.eval p.2))=some ta/\JA ι av w ds ta.toList
 | [],ys,zs,cs,ds,us,_,hy,hz,_,hf,hc=>by
  injection hy with hy; subst hy;injection hz with hz; subst hz;injection hf with hf; subst hf;exact ⟨us,rfl,hc⟩
 | (i,X) :: ps,ys,zs,cs,ds,us,kb,hy,hz,hl,hf,hc=>by
  unfold opds at hy;split at hy
  ·rename_i x l hx hr;injection hy with hy; subst hy;unfold dP at hz;split at hz
   ·rename_i off z l' hp lf;injection hz with hz; subst hz;simp only [yg,QR] at hf;split at hf
    ·rename_i ba;have sb:=cells_rep (kb X x hx) (hl _ (yk));have ja:=pD sb;have hlu:=pD hc;simp only [yV] at ja hlu;have ac:(a.eval X).cells.size=z:=by rw [ja]; exact ba.1
     have hfold:((a.eval X).cells.zipIdx.foldl (fun cs (p:Value × Nat)=>cs.setIfInBounds (off + p.2) p.1) us).toList=us.toList.take off++(a.eval X).cells.toList++us.toList.drop (off + z):=by
      rw [<- Array.foldl_toList,Array.toList_zipIdx,s6 off _ 0 us (by simp [ac]; omega)];simp [ac]
     have wb:JA ι av w (cs.take off++(x.get s).cells++cs.drop (off + z)) (((a.eval X).cells.zipIdx.foldl (fun cs (p:Value × Nat)=>cs.setIfInBounds (off + p.2) p.1) us)).toList:=by
      rw [hfold];exact kH (kH (eG off hc) sb) (xF (off + z) hc)
     obtain ⟨ta,h1,h2⟩:=WR sd kb hr lf (fun p hp=>hl p (yp _ hp)) hf wb;refine ⟨ta,?_,h2⟩;simp only [yg,Instr.fill,hp];rw [if_neg (by simp [ac]; omega)];exact h1
    ·cases hf
   ·cases hz
  ·cases hy
theorem kZ (R:iC P O nt B F0 aa w0 D s a w ι Θ) {t:TypeId} {ps:Array (Nat × Operand)} {ys:List (Nat × LB)} {zs:List (Nat × Nat × LB)} {zero:List AV} {pl:Nat->Option (Nat × Nat)} {z:Value} (dl:BK z.cells.toList=some zero)
  (hb:P.built t (ps.map fun (i,x)=>(i,a.eval x)).toList=Instr.fill pl z.cells (ps.map fun (i,x)=>(i,a.eval x)).toList) (hy:opds ps.toList=some ys) (hp:dP pl ys=some zs) (ho:o.op=.build t ps)
  {call} {x:qA} {e:nD} (hr:(K.build zero zs).run call s=some (x,e)):e=.none/\dR P aa a w ι Θ o x:=by
 simp only [K.run] at hr;split at hr
 ·rename_i sa;cases hf:QR zero (zs.map fun p=>(p.1,p.2.1,(p.2.2.get s).cells)) with
  | none=>rw [hf] at hr; cases hr
  | some ds =>
   rw [hf] at hr;injection hr with hr; injection hr with e1 e2; subst e1; subst e2;obtain ⟨ta,h1,h2⟩:=WR (pl:=pl) (ι:=ι) (av:=SC aa ι Θ) (avb:=PC ι Θ) (w:=w) (s:=s) (a:=a) rfl (fun X y h=>(R.opd h).1) hy hp (fun p hp=>by
    have:=y5.1 sa p hp;exact this) hf (MJ dl _ _)
   have h3:P.built t (ps.map fun (i,x)=>(i,a.eval x)).toList=some ta:=by
    rw [hb,Array.toList_map];exact h1
   exact ⟨rfl,.agg ta,by simp only [execOp,ho,Sem.run_bind,run_build w t _ ta h3,Result.andThen_ok,Sem.run_pure],⟨ta,rfl,h2⟩,trivial⟩
 ·cases hr
def Ix.add (ι:Ix) (d n b z:Nat):Ix:=⟨fun t' n'=>if t'=d/\n'=n then some b else ι t' n',ι.ob,fun b'=>if b'=b then z else ι.z b'⟩
section
variable (R:iC P O nt B F0 aa w0 D s a w ι Θ)
include R
theorem iC.low {b o:Nat} (h:SC aa ι Θ b o):b<w.heap.size:=by
 have h1:=R.kept.size;have h2:=R.base;rcases h with h | (⟨t,n,h⟩ | ⟨t,n,H,h,hb⟩) | ⟨k,ow,h,rfl,_⟩
 ·have:=R.out _ _ h; omega
 ·exact (R.mine _ _ _ h).2.1
 ·exact ((R.obs _ _ _ h).1 _ hb).2.1
 ·obtain ⟨_,_,_,_,cur,h5,_⟩:=R.tok _ _ h;exact OA h5
theorem iC.lowB:B<=w.heap.size:=by
 have h1:=R.kept.size;have h2:=R.base;omega
theorem iC.new {d:Nat} (hd:d<nt) (hD:¬ D d) {r:List qA} {cur:Array Value} (ty:TypeId) (la:uE ι Θ (SC aa ι Θ) w r cur) {x:AV} {v:Value}
  (hx:∀ ι':Ix,ι' d s.next=some w.heap.size->ι'.z w.heap.size=cur.size->qB ι' (SC aa ι' Θ) (PC ι' Θ) (w.alloc (.cells cur ty)) x v) :
  ∃ ι',iC P O nt B F0 aa w0 (fun t=>D t\/t=d) ((s.setRow d s.next r).put (some d) ⟨x,.no⟩) (a.put (some d) v) (w.alloc (.cells cur ty)) ι' Θ:=by
 have ee:ι d s.next=none:=by
  cases h:ι d s.next with
  | none=>rfl
  | some b =>
   rcases (R.mine _ _ _ h).2.2 with h1 | h1
   ·omega
   ·exact absurd h1.2 hD
 have fe:ι.ob d s.next=none:=by
  cases h:ι.ob d s.next with
  | none=>rfl
  | some b =>
   rcases (R.obs _ _ _ h).2 with h1 | h1
   ·omega
   ·exact absurd h1.2 hD
 have nc:∀ t n b,ι t n=some b->(ι.add d s.next w.heap.size cur.size) t n=some b:=fun t n b h=>by
  show (if t=d/\n=s.next then some w.heap.size else ι t n)=some b;split
  ·rename_i e; rw [e.1,e.2,ee] at h; cases h
  ·exact h
 have di:∀ t n b,(ι.add d s.next w.heap.size cur.size) t n=some b->b<w.heap.size->ι t n=some b:=fun t n b h hb=>by
  have h':(if t=d/\n=s.next then some w.heap.size else ι t n)=some b:=h;split at h'
  ·injection h' with h'; omega
  ·exact h'
 have wb:(ι.add d s.next w.heap.size cur.size) d s.next=some w.heap.size:=by
  show (if d=d/\s.next=s.next then some w.heap.size else ι d s.next)=_;rw [if_pos ⟨rfl,rfl⟩]
 have ej:∀ b o,b<w.heap.size->PC (ι.add d s.next w.heap.size cur.size) Θ b o->PC ι Θ b o:=fun b o hb h=>h.imp (fun h=>h.imp (fun ⟨t,n,h⟩=>⟨t,n,di t n b h hb⟩) id) id
 have hAx:∀ b o,b<w.heap.size->SC aa (ι.add d s.next w.heap.size cur.size) Θ b o->SC aa ι Θ b o:=fun b o hb h=>h.imp id (ej b o hb)
 have ig:∀ b,b<w.heap.size->(w.alloc (.cells cur ty)).heap[b]?=w.heap[b]?:=fun b hb=>Below.heap_alloc w _ b hb
 have hA:BA (SC aa ι Θ) (SC aa (ι.add d s.next w.heap.size cur.size) Θ) w (w.alloc (.cells cur ty)):=BA.grown ig hAx;have hB:BA (PC ι Θ) (PC (ι.add d s.next w.heap.size cur.size) Θ) w (w.alloc (.cells cur ty)):=BA.grown ig ej;have ur:=R.lowB;have ab:Ix.Le ι (ι.add d s.next w.heap.size cur.size):=⟨nc,fun t n b h=>by
  have:=(R.mine t n b h).2.1;show (if b=w.heap.size then cur.size else ι.z b)=ι.z b;rw [if_neg (by omega)]⟩
 have hzn:(ι.add d s.next w.heap.size cur.size).z w.heap.size=cur.size:=if_pos rfl;refine ⟨ι.add d s.next w.heap.size cur.size,iC.put (s:=s.setRow d s.next r) ⟨R.defers,R.size,fun t=>qB.held ab hA hB _ _ (R.env t),R.ann,fun t n r' hr=>?_,fun t n b h=>?_,fun t n t' n' b h h'=>?_,fun k o h=>?_,R.tinj,fun k o t n h h'=>?_,R.out,fun p h=>⟨nc _ _ _ (R.pin p h).1,(R.pin p h).2.imp (fun g=>⟨g.1,(ab.z _ _ _ (R.pin p h).1).trans g.2⟩) id⟩,R.kept.alloc _,R.base,fun t n S h=>?_,fun t n H h=>?_,fun t=>qB.held ab hA hB _ _ (R.gen t),R.gann⟩ hd (hx _ wb hzn) trivial⟩
 ·simp only [aA.setRow] at hr;split at hr
  ·rename_i e;injection hr with hr;subst hr;refine ⟨by show ι.ob t n=none; rw [e.1,e.2]; exact fe,w.heap.size,cur,ty,by rw [e.1,e.2]; exact wb,XQ rfl,la.held ab hA (fun _ _ h=>h),.inl ur,hzn.symm⟩
  ·obtain ⟨h0,b,nb,lq,h1,h2,h3,h4,h5⟩:=R.rows t n r' hr;exact ⟨h0,b,nb,lq,nc _ _ _ h1,(ig b (OA h2)).trans h2,h3.held ab hA (fun _ _ h=>h),h4,h5.trans (ab.z _ _ _ h1).symm⟩
 ·have h':(if t=d/\n=s.next then some w.heap.size else ι t n)=some b:=h;split at h'
  ·rename_i e;injection h' with h';subst h';exact ⟨.inl ur,by simp,.inr ⟨e.2,.inr e.1⟩⟩
  ·obtain ⟨h2,h3,h4⟩:=R.mine t n b h';exact ⟨h2,by simp; omega,h4.imp id fun ⟨e,d⟩=>⟨e,.inl d⟩⟩
 ·have g:(if t=d/\n=s.next then some w.heap.size else ι t n)=some b:=h;have g':(if t'=d/\n'=s.next then some w.heap.size else ι t' n')=some b:=h';split at g <;> split at g'
  ·rename_i e e'; exact ⟨e.1.trans e'.1.symm,e.2.trans e'.2.symm⟩
  ·injection g with g; have:=(R.mine _ _ _ g').2.1; omega
  ·injection g' with g'; have:=(R.mine _ _ _ g).2.1; omega
  ·exact R.inj t n t' n' b g g'
 ·obtain ⟨h1,h2,h3,h4,nb,h5,h6⟩:=R.tok k o h;exact ⟨h1,h2,h3,h4,nb,(ig _ (OA h5)).trans h5,h6⟩
 ·obtain ⟨_,_,_,_,nb,h5,_⟩:=R.tok k o h;exact R.apart k o t n h (di t n _ h' (OA h5))
 ·obtain ⟨p,H,h1,h2,h3,h4⟩:=R.objs t n S h;exact ⟨p,H,nc _ _ _ h1,h2,O.keep h3 (fun b hH=>ig b (O.lt h3 hH)) (by simp),h4.keep (fun t n b H h g=>⟨nc _ _ _ h,H,g⟩) fun x hx=>(ig _ (OA hx)).trans hx⟩
 ·obtain ⟨h1,h2⟩:=R.obs t n H h;refine ⟨fun b hb=>?_,h2.imp id fun ⟨e,d⟩=>⟨e,.inl d⟩⟩;obtain ⟨g1,g2,g3,g4⟩:=h1 b hb;exact ⟨g1,by simp; omega,fun t' n' h'=>g3 t' n' (di t' n' b h' g2),g4⟩
end
end
end
section
open Go Go.RowKit
section
variable {P:Program} {O:AH} {nt B:Nat} {F0:OO} {aa:Av} {w0:World} {D:Nat->Prop} {s:aA} {a:Act} {w w':World} {ι:Ix} {Θ:dL} {o:Oper}
def KD (P:Program) (O:AH) (nt B:Nat) (F0:OO) (aa:Av) (w0:World) (D:Nat->Prop) (s:aA) (a:Act) (w:World):Prop:=∃ ι Θ,iC P O nt B F0 aa w0 D s a w ι Θ
theorem uE.of {av:Av}:∀ {r:List qA} {cur:List Value},JA ι av w (r.map (·.v)) cur->(∀ (j:Nat) (x:qA) (u:Value),r[j]?=some x->cur[j]?=some u->qM Θ x.a u)->uE ι Θ av w r cur.toArray:=by
 intro r cur h ha;refine ⟨by have:=pD h; simp at this; simp [this],fun j x hx=>?_⟩;obtain ⟨u,hu,h1,hr⟩:=CJ h (j:=j) (x:=x.v) (by simp [hx]);exact ⟨u,by simpa using hu,h1,hr,ha j x u hx hu⟩
theorem op_alloc (R:iC P O nt B F0 aa w0 D s a w ι Θ) {t:TypeId} {zero:List AV} (hz:aL P t=some zero) (ho:o.op=.alloc t) {d:Nat} (ca:o.dst=some d) (hd:d<nt) (hD:¬ D d) {call} {xe:qA × nD} (hr:(K.alloc zero).run call s=some xe) {g} {s':aA} (he:UA.eff ⟨o.dst,.alloc zero,g⟩ s xe=some s') :
  ∃ v w',(execOp a.eval o).run P w=.ok (.value v) w'/\KD P O nt B F0 aa w0 (fun t=>D t\/t=d) s' (a.put o.dst v) w':=by
 obtain ⟨z,i,hi,tp,ia,hl⟩:=UH hz w;simp only [K.run] at hr;injection hr with hr;subst hr;simp only [UA.eff,ca] at he;injection he with he;subst he;refine ⟨.pointer (some ⟨w.heap.size,0,none⟩),w.alloc (.cells z.cells t),by simp [execOp,ho,Instr.alloc,ia,newVar,newRow],?_⟩;rw [ca];have ec:=MJ (ι:=ι) hl (SC aa ι Θ) w;have la:uE ι Θ (SC aa ι Θ) w (zero.map fun v=>⟨v,KB v⟩) z.cells.toList.toArray:=uE.of (by
  rw [y0,show ((fun x:qA=>x.v) ∘ fun v=>(⟨v,KB v⟩:qA))=id from rfl,List.map_id];exact ec) (fun j x u hx hu=>by
  rw [yc] at hx;cases kr:zero[j]? with
  | none=>rw [kr] at hx; cases hx
  | some v =>
   rw [kr] at hx;injection hx with hx;subst hx;obtain ⟨u',wq,_,hr⟩:=CJ ec kr;rw [hu] at wq;injection wq with wq;subst wq;show qM Θ (KB v) u;unfold KB;split
   ·simp only [NA,bE] at hr;obtain ⟨A,c,rfl,_,_,hn,_⟩:=hr;obtain ⟨rfl,h0,rfl⟩:=hn trivial;exact ⟨none,0,by rw [h0]⟩
   ·trivial)
 rw [yQ] at la;exact let ⟨ι',h⟩:=R.new hd hD t la (x:=.ptr d s.next 0) (v:=.pointer (some ⟨w.heap.size,0,none⟩)) (fun ι' h _=>⟨_,h,rfl⟩); ⟨ι',Θ,h⟩
theorem op_boxE (R:iC P O nt B F0 aa w0 D s a w ι Θ) {t:TypeId} {z:Nat} {X:Operand} {x:LB} (hx:opd X=some x) (ho:o.op=.box t X) {d:Nat} (ca:o.dst=some d) (hd:d<nt) (hD:¬ D d) {call} {xe:qA × nD} (hr:(K.box z x).run call s=some xe) {g} {s':aA} (he:UA.eff ⟨o.dst,.box z x,g⟩ s xe=some s') :
  ∃ v w',(execOp a.eval o).run P w=.ok (.value v) w'/\KD P O nt B F0 aa w0 (fun t=>D t\/t=d) s' (a.put o.dst v) w':=by
 have hX:=R.opd hx;have ia:(execOp a.eval o).run P w=.ok (.value (.pointer (some ⟨w.heap.size,0,none⟩))) (w.alloc (.cells (a.eval X).cells t)):=by simp [execOp,ho,Instr.box,newVar,newRow]
 have key:∀ (r:List qA),uE ι Θ (SC aa ι Θ) w r (a.eval X).cells->KD P O nt B F0 aa w0 (fun t=>D t\/t=d) ((s.setRow d s.next r).put (some d) ⟨.ptr d s.next 0,.no⟩) (a.put (some d) (.pointer (some ⟨w.heap.size,0,none⟩))) (w.alloc (.cells (a.eval X).cells t)):=fun r h =>
  let ⟨ι',h⟩:=R.new hd hD t h (x:=.ptr d s.next 0) (v:=.pointer (some ⟨w.heap.size,0,none⟩)) (fun ι' h _=>⟨_,h,rfl⟩); ⟨ι',Θ,h⟩
 simp only [K.run] at hr;split at hr
 ·rename_i cs hv;split at hr
  ·injection hr with hr;subst hr;simp only [UA.eff,ca] at he;injection he with he;subst he;refine ⟨_,_,ia,?_⟩;rw [ca];refine key _ ?_;rw [hv] at hX;obtain ⟨us,hu,hc⟩:=hX.1;rw [hu];have:=uE.of (Θ:=Θ) (r:=cs.map fun v=>(⟨v,.no⟩:qA)) (cur:=us.toList) (ι:=ι) (w:=w) (av:=SC aa ι Θ) (by rw [y0,show ((fun x:qA=>x.v) ∘ fun v=>(⟨v,.no⟩:qA))=id from rfl,List.map_id]; exact hc) (fun j x u hx _=>by
    rw [yc] at hx;cases kr:cs[j]? with
    | none=>rw [kr] at hx; cases hx
    | some v=>rw [kr] at hx; injection hx with hx; subst hx; trivial)
   simpa [Value.cells] using this
  ·cases hr
 ·rename_i hv;split at hr
  ·rename_i rt;injection hr with hr;subst hr;simp only [UA.eff,ca] at he;injection he with he;subst he;refine ⟨_,_,ia,?_⟩;rw [ca];refine key _ ?_;obtain ⟨h1,h2⟩:=uW hX.1 rt;have hc:(a.eval X).cells=#[a.eval X]:=by
    generalize a.eval X=u at *
    cases u <;> first | rfl | (simp [Value.oneCell'] at h2; done)
   rw [hc];refine ⟨ym _,fun j y hy=>?_⟩;cases j with
   | zero =>
    simp only [List.getElem?_cons_zero] at hy;injection hy with hy;subst hy;exact ⟨a.eval X,rfl,h2,h1,hX.2⟩
   | succ j=>simp at hy
  ·cases hr
theorem IT (zero:List Value) (av:Av) {zs:List AV} (hz:JA ι av w zs zero) (c:Nat):JA ι av w (yD c zs).flatten (yD c zero).flatten:=by
 induction c with
 | zero=>simp [JA]
 | succ c ih=>rw [List.replicate_succ,List.replicate_succ,yz,yz]; exact kH hz ih
theorem UT (zero:Array Value) (c:Nat):((Array.range (c * zero.size)).map (zero[· % zero.size]!)).toList=(yD c zero.toList).flatten:=by
 apply List.ext_getElem?;intro j;have ja:(yD c zero.toList).flatten.length=c * zero.size:=by simp
 rcases Nat.lt_or_ge j (c * zero.size) with h | h
 ·have fb:0<zero.size:=by
   rcases yK zero.size with h0 | h0
   ·rw [h0] at h; simp at h
   ·exact h0
  have hm:=Nat.mod_lt j fb;have e1:((Array.range (c * zero.size)).map (zero[· % zero.size]!)).toList[j]?=some zero[j % zero.size]:=by
   simp [h,hm]
  rw [e1];clear e1 ja
  induction c generalizing j with
  | zero=>simp at h
  | succ c ih =>
   rw [List.replicate_succ,yz];rcases Nat.lt_or_ge j zero.size with h1 | h1
   ·rw [yF (by simpa using h1)];have:j % zero.size=j:=Nat.mod_eq_of_lt h1;simp [this,h1]
   ·rw [yR (by simpa using h1)];have h2:j - zero.size<c * zero.size:=by rw [yw] at h; omega
    have h3:(j - zero.size) % zero.size=j % zero.size:=by
     conv=>rhs; rw [show j=(j - zero.size) + zero.size from by omega,Nat.add_mod_right]
    have:=ih (j - zero.size) h2 (Nat.mod_lt _ fb);simp only [yV] at this ⊢;rw [<- this];simp [h3]
 ·rw [yW (by simpa using h),yW (by omega)]
theorem op_mks (R:iC P O nt B F0 aa w0 D s a w ι Θ) {t e:TypeId} {i:TypeInfo} {zero:List AV} (ht:P.underlying t=some (.slice e)) (hi:P.info? e=some i) (hz:aL P e=some zero) (ac:zero.length=i.size) {X Y:Operand} {x y:LB} (hx:opd X=some x) (hy:opd Y=some y) (ho:o.op=.makeSlice t X Y) {d:Nat} (ca:o.dst=some d) (hd:d<nt) (hD:¬ D d)
  {call} {xe:qA × nD} (hr:(K.mks i.size i.bytes zero x y).run call s=some xe) {g} {s':aA} (he:UA.eff ⟨o.dst,.mks i.size i.bytes zero x y,g⟩ s xe=some s') :
  ∃ v w',(execOp a.eval o).run P w=.ok (.value v) w'/\KD P O nt B F0 aa w0 (fun t=>D t\/t=d) s' (a.put o.dst v) w':=by
 obtain ⟨z,i',fc,tp,nj,hl⟩:=UH hz w;rw [hi] at fc;injection fc with fc;subst fc;have hX:=(R.opd hx).1;have hY:=(R.opd hy).1;simp only [K.run] at hr;split at hr
 ·rename_i l c hln hcn;obtain ⟨k1,n1,h1,pr,io⟩:=ML hln;obtain ⟨k2,n2,h2,h20,h21⟩:=ML hcn;rw [h1,kB] at hX;rw [h2,kB] at hY;split at hr
  ·rename_i ba;obtain ⟨ov,jf,jg,_⟩:=ba;injection hr with hr;subst hr;simp only [UA.eff,ca] at he;injection he with he;subst he;have zn:z.cells.size=i.size:=by
    have:=zH hl;simp only [yV] at this;omega
   have iy:n2=(c:Int):=by omega
   have oz:(i.bytes:Int) * n2<=281474976710656:=by
    rw [iy,<- Int.natCast_mul,Nat.mul_comm];omega
   have kj:madeCells z.cells (c * i.size)=(yD c z.cells.toList).flatten.toArray:=by
    have h:=UT z.cells c;rw [zn] at h;unfold madeCells;rw [<- zn] at h;rw [<- zn];have h':=congrArg List.toArray h;rw [yQ] at h';exact h'
   have ia:(execOp a.eval o).run P w=.ok (.value (.slice (some ⟨w.heap.size,0,none⟩) l c)) (w.alloc (.cells (yD c z.cells.toList).flatten.toArray e)):=by
    have:=run_make (P:=P) w t e i z ht hi tp k1 k2 n1 n2 pr (by omega) oz (by omega);rw [io,h21,kj] at this;simp [execOp,ho,hX,hY,this]
   refine ⟨_,_,ia,?_⟩;rw [ca];have la:uE ι Θ (SC aa ι Θ) w ((yD c zero).flatten.map fun v=>(⟨v,.no⟩:qA)) (yD c z.cells.toList).flatten.toArray:=uE.of (by
    rw [y0,show ((fun x:qA=>x.v) ∘ fun v=>(⟨v,.no⟩:qA))=id from rfl,List.map_id];exact IT _ _ (MJ hl _ _) c) (fun j x u hx _=>by
    rw [yc] at hx;cases kr:(yD c zero).flatten[j]? with
    | none=>rw [kr] at hx; cases hx
    | some v=>rw [kr] at hx; injection hx with hx; subst hx; trivial)
   exact let ⟨ι',h⟩:=R.new hd hD e la (x:=.ref d s.next i.size 0 l c) (v:=.slice (some ⟨w.heap.size,0,none⟩) l c) (fun ι' h hz=>⟨_,h,ov,c,ym _,by rw [hz,yG]; simp [List.length_flatten,zn],rfl⟩); ⟨ι',Θ,h⟩
  ·cases hr
 ·cases hr
end
end
section
open Go Go.RowKit
section
variable {P:Program} {O:AH} {nt B:Nat} {F0:OO} {aa:Av} {w0:World} {D:Nat->Prop} {s:aA} {a:Act} {w w':World} {ι:Ix} {Θ:dL} {o:Oper}
theorem iC.alloc (R:iC P O nt B F0 aa w0 D s a w ι Θ) (ob:Obj):iC P O nt B F0 aa w0 D s a (w.alloc ob) ι Θ :=
 R.grow (fun b hb=>Below.heap_alloc w _ b hb) (by simp) (R.kept.alloc _)
theorem lH {av:Av}:∀ {xs:List AV} {us:List Value},JA ι av w xs us->(∀ x∈xs,x.free0=true)->MC av w xs us
 | [],_,h,_=>by simpa [MC,JA] using h
 | x :: r,_,h,hf=>by
  simp only [JA] at h;obtain ⟨u,ta,rfl,h0,h1,h⟩:=h;refine ⟨u,ta,rfl,?_,h1,lH h fun y hy=>hf y (yp _ hy)⟩;have hx:=hf x (yk);cases x <;> first | exact h0 | (simp [AV.free0] at hx; done)
theorem HS (sz:Nat):∀ (ps:List (Nat × LB)) (k:Nat) (A Z:List AV),ps.map (·.1)=List.range' k ps.length->A.length=k * sz->Z.length=ps.length * sz->(∀ p∈ps,(p.2.get s).cells.length=sz) →
  QR (A++Z) (ps.map fun p=>(p.1 * sz,sz,(p.2.get s).cells))=some (A++(ps.map fun p=>(p.2.get s).cells).flatten)
 | [],k,A,Z,_,_,hz,_=>by
  have:Z=[]:=yM (by simpa using hz);subst this;simp [QR]
 | (i,y) :: ps,k,A,Z,hp,hA,hZ,hl=>by
  simp only [yg,yE,List.range'_succ] at hp;injection hp with h1 h2;subst h1;have hy:(y.get s).cells.length=sz:=hl (_,y) (yk);simp only [yE] at hZ;have hZ2:sz<=Z.length:=by rw [hZ,yw]; omega
  simp only [yg,QR];rw [if_pos ⟨hy,by simp [hA]; omega⟩];have e1:(A++Z).take (i * sz)=A:=by rw [<- hA]; exact List.take_left
  have e2:(A++Z).drop (i * sz + sz)=Z.drop sz:=by rw [List.drop_append,<- hA,ye (by omega),yP]; congr 1; omega
  rw [e1,e2];have:=HS sz ps (i + 1) (A++(y.get s).cells) (Z.drop sz) h2 (by rw [yl,hA,hy,yw]) (by rw [List.length_drop,hZ,yw]; omega) (fun p hp=>hl p (yp _ hp));rw [this];simp
theorem rR (sz:Nat):∀ (ps:List (Nat × LB)),dP (fun i=>some (i * sz,sz)) ps=some (ps.map fun p=>(p.1 * sz,sz,p.2))
 | []=>rfl
 | (i,x) :: r=>by simp [dP,rR sz r]
theorem op_bsl (R:iC P O nt B F0 aa w0 D s a w ι Θ) {t e:TypeId} {n z:Nat} {zero:List AV} (ht:P.underlying t=some (.slice e)) (hz:aL P e=some zero) (hs:uC P e=some z) (ac:zero.length=z) (fb:0<z) (dd:n * z<=16777216) {ps:Array (Nat × Operand)} {ys:List (Nat × LB)} (hy:opds ps.toList=some ys) (ho:o.op=.buildSlice t n ps)
  {call} {x:qA} {ef:nD} (hr:(K.bsl zero n ys).run call s=some (x,ef)):ef=.none/\∃ v w',(execOp a.eval o).run P w=.ok (.value v) w'/\iC P O nt B F0 aa w0 D s a w' ι Θ/\qB ι (SC aa ι Θ) (PC ι Θ) w' x.v v/\qM Θ x.a v:=by
 obtain ⟨zv,i',fc,tp,nj,hl⟩:=UH hz w;have hisz:i'.size=z:=by simp [uC,fc] at hs; exact hs
 have zn:zv.cells.size=z:=by
  have:=zH hl;simp only [yV] at this;omega
 simp only [K.run] at hr;split at hr
 ·rename_i ba;obtain ⟨mg,sa⟩:=ba;injection hr with hr; injection hr with e1 e2; subst e1; subst e2;have dc:∀ p∈ys,(p.2.get s).free=true/\(p.2.get s).cells.length=zero.length:=fun p hp=>by
   have:=y5.1 sa p hp;simpa using this
  have hn:ys.length=n:=by
   have:=congrArg List.length mg;simpa using this
  have bj:=HS (s:=s) z ys 0 [] (yD n zero).flatten (by rw [mg,List.range_eq_range',hn]) (by simp) (by simp [hn,ac]) (fun p hp=>by rw [(dc p hp).2,ac]);rw [yP,yP] at bj;have hwhole:∀ p∈ys,(p.2.get s).whole=true:=fun p hp=>by
   have:=(dc p hp).1;generalize p.2.get s=v at this;cases v <;> first | rfl | (simp [AV.free,AV.free0] at this; done)
  have hp:=rR z ys;have kj:((Array.range (n * z)).map (((if n * z=0 then (#[]:Array Value) else zv.cells)[· % (if n * z=0 then (#[]:Array Value) else zv.cells).size]!))).toList=(yD n zv.cells.toList).flatten:=by
   rcases yK n with h0 | h0
   ·subst h0; simp
   ·have:¬ n * z=0:=by have:=Nat.mul_pos h0 fb; omega
    simp only [if_neg this];rw [<- zn];exact UT zv.cells n
  obtain ⟨ta,h1,h2⟩:=WR (pl:=fun i=>some (i * z,z)) (ι:=ι) (av:=SC aa ι Θ) (avb:=PC ι Θ) (w:=w) (s:=s) (a:=a) rfl (fun X y h=>(R.opd h).1) hy hp (fun p hp=>by
   obtain ⟨q,hq,rfl⟩:=yy.1 hp;exact hwhole q hq) (by rw [y0]; exact bj) (us:=(Array.range (n * z)).map (((if n * z=0 then (#[]:Array Value) else zv.cells)[· % (if n * z=0 then (#[]:Array Value) else zv.cells).size]!))) (by
    rw [kj];exact IT _ _ (MJ hl _ _) n)
  have ia:(execOp a.eval o).run P w=.ok (.value (.slice (some ⟨w.heap.size,0,none⟩) n n)) (w.alloc (.cells ta e)):=by
   have h3:Instr.fill (fun i=>some (i * z,z)) ((Array.range (n * z)).map (((if n * z=0 then (#[]:Array Value) else zv.cells)[· % (if n * z=0 then (#[]:Array Value) else zv.cells).size]!))) (ps.map fun (i,x)=>(i,a.eval x)).toList=some ta:=by
    rw [Array.toList_map];exact h1
   have ab:¬ (n * z > 2 ^ 24):=by omega
   by_cases h0:n * z=0
   ·simp only [if_pos h0] at h3;simp only [execOp,ho,Instr.buildSlice,Sem.run_bind,run_underlying ht,Result.andThen_ok,bC hs,if_neg ab,if_pos h0,Sem.run_pure,h3,newRow,run_newObj_alloc]
   ·simp only [if_neg h0] at h3;simp only [execOp,ho,Instr.buildSlice,Sem.run_bind,run_underlying ht,Result.andThen_ok,bC hs,if_neg ab,if_neg h0,Sem.run_pure,nj,h3,newRow,run_newObj_alloc]
  refine ⟨rfl,_,_,ia,R.alloc _,?_,⟨_,_,rfl⟩⟩;have R':=R.alloc (.cells ta e);have hA:BA (SC aa ι Θ) (SC aa ι Θ) w (w.alloc (.cells ta e)):=BA.grown (fun b hb=>Below.heap_alloc w _ b hb) fun _ _ _ h=>h
  rw [tE];simp only [bE];have ja:(ys.map fun p=>(p.2.get s).cells).length=n:=by simp [hn]
  refine ⟨_,n,by rw [ja],by rw [ja]; exact ym _,fun x hx y hy=>?_,(fun h=>by cases h),fun _=>⟨fun h=>(by cases h),fun _=>⟨w.heap.size,0,rfl,?_⟩⟩⟩
  ·obtain ⟨p,hp,rfl⟩:=yy.1 hx;obtain ⟨q,hq,rfl⟩:=yy.1 hy;rw [(dc p hp).2,(dc q hq).2]
  ·rw [AF];have se:∀ x∈(ys.map fun p=>(p.2.get s).cells).flatten,x.free0=true:=fun x hx=>by
    obtain ⟨l,hl,hx⟩:=List.mem_flatten.1 hx;obtain ⟨p,hp,rfl⟩:=yy.1 hl;have:=(dc p hp).1;generalize p.2.get s=v at this hx;cases v <;> first | (simp [AV.cells] at hx; subst hx; exact this) | exact y5.1 this x hx
   refine XK (MC.held hA _ _ (lH h2 se)) fun j u hu=>⟨?_,fun h=>?_⟩
   ·rw [yG,cell_of_row _ w.heap.size j ta e (0,0) (XQ rfl)];simpa using hu
   ·have:=R.low h;omega
 ·cases hr
theorem set_run {t:TypeId} {z:Nat} (hz:uC P t=some z) {b off:Nat} {cur:Array Value} {ty:TypeId} (hb:w.heap[b]?=some (.cells cur ty (0,0))) {v:Value} (hv:v.cells.size=z) (ab:off + z<=cur.size) (h1:∀ u∈v.cells.toList,u.oneCell'=true) :
  (Instr.storeAt t (.pointer (some ⟨b,off,none⟩)) v).run P w=.ok () (w.setRow b (cur.toList.take off++v.cells.toList++cur.toList.drop (off + z)).toArray):=by
 have db:=run_storeCells_at P b off ty v.cells.toList 0 cur w hb (by simp [hv]; omega) h1;simp only [Nat.add_zero,yV,hv] at db;simp [Instr.storeAt,Instr.sureAddr,storeVar,bC hz,hv,db]
theorem iC.set (R:iC P O nt B F0 aa w0 D s a w ι Θ) {t n b:Nat} {cur:Array Value} {ty:TypeId} (hb:ι t n=some b) (ad:ι.ob t n=none) (oa:w.heap[b]?=some (.cells cur ty (0,0))) {r:List qA} {new:Array Value} (la:uE ι Θ (SC aa ι Θ) w r new) (tj:B<=b\/F0.r b) (hnz:new.size=ι.z b) :
  iC P O nt B F0 aa w0 D (s.setRow t n r) a (w.setRow b new) ι Θ:=by
 have na:∀ b',b'≠b->(w.setRow b new).heap[b']?=w.heap[b']?:=fun b' h=>setRow_other w b b' new h
 have sc:(w.setRow b new).heap[b]?=some (.cells new ty (0,0)):=setRow_heap w b cur new ty (0,0) oa;have hB:BA (PC ι Θ) (PC ι Θ) w (w.setRow b new):=⟨fun b' o u hc hn=>by
  have:b'≠b:=fun e=>hn (.inl (.inl ⟨t,n,e ▸ hb⟩))
  exact ⟨(World.cell?_of_block (w:=w) (a:=⟨b',o,none⟩) (na b' this)).trans hc,hn⟩⟩
 have hA:BA (SC aa ι Θ) (SC aa ι Θ) w (w.setRow b new):=⟨fun b' o u hc hn=>by
  have:b'≠b:=fun e=>hn (.inr (.inl (.inl ⟨t,n,e ▸ hb⟩)))
  exact ⟨(World.cell?_of_block (w:=w) (a:=⟨b',o,none⟩) (na b' this)).trans hc,hn⟩⟩
 have xt:=R.mine t n b hb;refine ⟨R.defers,R.size,fun t=>qB.held (Ix.Le.refl _) hA hB _ _ (R.env t),R.ann,fun t' n' r' hr=>?_,fun t n b h=>?_,R.inj,fun k o h=>?_,R.tinj,R.apart,R.out,R.pin,?_,R.base,fun t' n' S h=>?_,fun t n H h=>(R.obs t n H h).grow (by simp),fun t=>qB.held (Ix.Le.refl _) hA hB _ _ (R.gen t),R.gann⟩
 ·simp only [aA.setRow] at hr;split at hr
  ·rename_i e;injection hr with hr;subst hr;exact ⟨by rw [e.1,e.2]; exact ad,b,new,ty,by rw [e.1,e.2]; exact hb,sc,la.held (Ix.Le.refl _) hA (fun _ _ h=>h),tj,hnz⟩
  ·rename_i e;obtain ⟨h0,b',nb,lq,h1,h2,h3,h4⟩:=R.rows t' n' r' hr;have:b'≠b:=fun e'=>e (R.inj _ _ _ _ _ (e' ▸ h1) hb)
   exact ⟨h0,b',nb,lq,h1,(na b' this).trans h2,h3.held (Ix.Le.refl _) hA (fun _ _ h=>h),h4⟩
 ·obtain ⟨h1,h2,h3⟩:=R.mine t n b h;exact ⟨h1,by simpa using h2,h3⟩
 ·obtain ⟨h1,h2,h3,h4,nb,h5,h6⟩:=R.tok k o h;have:o.g≠b:=fun e=>R.apart k o t n h (e ▸ hb)
  exact ⟨h1,h2,h3,h4,nb,(na _ this).trans h5,h6⟩
 ·refine R.kept.setRow (fun da=>?_) _;rcases xt.1 with h | h
  ·have:=R.base; omega
  ·exact h
 ·obtain ⟨p,H,h1,h2,h3,h4⟩:=R.objs t' n' S h;have fq:∀ b',H b'->b'≠b:=fun b' hH e=>by
   subst e;have:=((R.obs _ _ _ h2).1 _ hH).2.2.1 t n hb;rw [this.1,this.2,h2] at ad;cases ad
  exact ⟨p,H,h1,h2,O.keep h3 (fun b' hH=>na b' (fq b' hH)) (by simp),h4.keep (fun t n b H h g=>⟨h,H,g⟩) fun x hx=>(na p (fq p (O.main h3))).trans hx⟩
theorem uE.splice {av:Av} {r:List qA} {cur:Array Value} (h:uE ι Θ av w r cur) {off z:Nat} {m:List qA} {us:Array Value} (hm:uE ι Θ av w m us) (od:us.size=m.length) (hz:m.length=z) (ab:off + z<=r.length):uE ι Θ av w (r.take off++m++r.drop (off + z)) (cur.toList.take off++us.toList++cur.toList.drop (off + z)).toArray:=by
 obtain ⟨h1,h2⟩:=h;obtain ⟨m1,m2⟩:=hm;have hl:r.length<=cur.toList.length:=by simpa using h1
 refine ⟨by simp only [yl,yC,List.length_drop,List.size_toArray,yV,od] at *; omega,fun j x hx=>?_⟩;have ht:(r.take off).length=off:=by rw [yC]; omega
 have ht':(cur.toList.take off).length=off:=by rw [yC]; omega
 simp only [List.getElem?_toArray];rcases Nat.lt_or_ge j off with hj | hj
 ·rw [yU,yF (by omega),yO] at hx;rw [yU,yF (by omega),yO];rw [if_pos hj] at hx ⊢;obtain ⟨u,hu,h⟩:=h2 j x hx;exact ⟨u,by simpa using hu,h⟩
 ·rcases Nat.lt_or_ge j (off + z) with hj2 | hj2
  ·rw [yU,yR (by omega),yF (by omega),ht] at hx;rw [yU,yR (by omega),yF (by simp [od]; omega),ht'];obtain ⟨u,hu,h⟩:=m2 _ x hx;exact ⟨u,by simpa using hu,h⟩
  ·rw [yU,yR (by omega),yR (by omega),ht,yT] at hx;rw [yU,yR (by omega),yR (by simp [od]; omega),ht',yT];obtain ⟨u,hu,h⟩:=h2 _ x hx;refine ⟨u,?_,h⟩;have:us.toList.length=m.length:=by simpa using od
   rw [this];simpa using hu
theorem op_store (R:iC P O nt B F0 aa w0 D s a w ι Θ) {t:TypeId} {agg:Bool} {z:Nat} (hz:uC P t=some z) (mz:agg=true\/z=1) {X Y:Operand} {x y:LB} (hx:opd X=some x) (hy:opd Y=some y) (ho:o.op=.store t X Y) (hd:∀ d,o.dst=some d->d<nt) {cl:Cl} {call} {xe:qA × nD} (hr:(K.store cl agg z x y).run call s=some xe) {g} {s':aA} (he:UA.eff ⟨o.dst,.store cl agg z x y,g⟩ s xe=some s') :
  ∃ w',(execOp a.eval o).run P w=.ok .skip w'/\KD P O nt B F0 aa w0 D s' (a.put o.dst undef) w':=by
 have hX:=(R.opd hx).1;have hY:=R.opd hy;simp only [K.run] at hr;split at hr
 ·rename_i t' n off kc;rw [kc,AG] at hX;obtain ⟨b,hb,hv⟩:=hX;split at hr
  ·cases hm:s.mem t' n with
   | none=>rw [hm] at hr; cases hr
   | some r =>
    rw [hm,V] at hr;cases hs:mA agg z off r (y.get s) (y.an s) with
    | none=>rw [hs] at hr; cases hr
    | some r' =>
     rw [hs] at hr;injection hr with hr;subst hr;simp only [UA.eff] at he;injection he with he;subst he;obtain ⟨zl,b',cur,ty,ua,oa,la,tj,js⟩:=R.rows t' n r hm;rw [hb] at ua;injection ua with ua;subst ua;have KN:∀ (m:List qA) (us:Array Value),r'=r.take off++m++r.drop (off + z)->m.length=z->off + z<=r.length->(a.eval Y).cells=us->us.size=m.length->uE ι Θ (SC aa ι Θ) w m us->∃ w',(execOp a.eval o).run P w=.ok .skip w'/\KD P O nt B F0 aa w0 D ((s.setRow t' n r').put o.dst ⟨.undef,.no⟩) (a.put o.dst undef) w':=fun m us h1 h2 h3 h4 h4' h5=>by
      have ac:(a.eval Y).cells.size=z:=by rw [h4,h4',h2]
      have gp:∀ u∈(a.eval Y).cells.toList,u.oneCell'=true:=fun u hu=>by
       rw [h4] at hu;obtain ⟨j,hj,rfl⟩:=yB hu;have hjm:j<m.length:=by simp at hj; omega
       obtain ⟨u',wq,h6,_⟩:=h5.2 j m[j] (y4 hjm);have:us[j]?=some (us.toList[j]):=by simp at hj ⊢
       rw [this] at wq;injection wq with wq;rw [wq];exact h6
      have ia:=set_run (P:=P) hz oa ac (Nat.le_trans h3 la.1) gp;refine ⟨w.setRow b (cur.toList.take off++(a.eval Y).cells.toList++cur.toList.drop (off + z)).toArray,by simp only [execOp,ho,hv,Sem.run_bind,ia,Result.andThen_ok,Sem.run_pure],ι,Θ,iC.putN ?_ hd trivial trivial⟩;rw [h4];subst h1;exact R.set hb zl oa (la.splice h5 h4' h2 h3) tj (by
       rw [<- js];have h6:=la.1;simp only [List.size_toArray,yl,yC,List.length_drop,yV];omega)
     cases agg with
     | true =>
      simp only [mA,if_true] at hs;split at hs
      ·rename_i cs iq;split at hs
       ·rename_i ba;injection hs with hs;rw [iq] at hY;obtain ⟨us,hu,hc⟩:=hY.1;refine KN (cs.map (⟨·,.no⟩)) us hs.symm (by simpa using ba.1) ba.2 (by rw [hu]; rfl) (by have:=pD hc; simpa using this) ?_;have:=uE.of (Θ:=Θ) (r:=cs.map fun v=>(⟨v,.no⟩:qA)) (cur:=us.toList) (ι:=ι) (w:=w) (av:=SC aa ι Θ) (by rw [y0,show ((fun x:qA=>x.v) ∘ fun v=>(⟨v,.no⟩:qA))=id from rfl,List.map_id]; exact hc) (fun j x u hx _=>by
         rw [yc] at hx;cases kr:cs[j]? with
         | none=>rw [kr] at hx; cases hx
         | some v=>rw [kr] at hx; injection hx with hx; subst hx; trivial)
        simpa using this
       ·cases hs
      ·cases hs
     | false =>
      have jp:z=1:=by rcases mz with h | h; cases h; exact h
      subst jp;simp only [mA,yr,if_false] at hs;split at hs
      ·rename_i ba;injection hs with hs;obtain ⟨h1,h2⟩:=uW hY.1 ba.1;have hc:(a.eval Y).cells=#[a.eval Y]:=by
        generalize a.eval Y=u at *
        cases u <;> first | rfl | (simp [Value.oneCell'] at h2; done)
       refine KN [⟨y.get s,y.an s⟩] #[a.eval Y] ?_ rfl (by have:=ba.2; omega) hc rfl ⟨ym _,fun j x hx=>?_⟩
       ·rw [<- hs,List.set_eq_take_append_cons_drop,if_pos ba.2];simp
       ·cases j with
        | zero=>simp at hx; subst hx; exact ⟨a.eval Y,rfl,h2,h1,hY.2⟩
        | succ j=>simp at hx
      ·cases hs
  ·cases hr
 ·cases hr
end
end
section
section
variable {call:AB} {s s':aA}
def uY (s s':aA) (l:List LB):Prop:=∀ o∈l,o.get s=o.get s'/\o.an s=o.an s'
def K.reads (k:K) (t:Nat):Prop:=match k.cl with
 | none=>False
 | some .imm=>False
 | some (.root r)=>t=r
 | some (.out L)=>L.contains t=false
 | some .any=>True
theorem I4 {cl:Cl} (hm:cl.okMem=true->∀ t n,s.mem t n=s'.mem t n) (v:AV):eP s cl v=eP s' cl v:=by
 cases v <;> simp only [eP]
 split
 ·rename_i ra; rw [hm ra]
 ·rfl
theorem eO {cl:Cl} (hm:cl.okMem=true->∀ t n,s.mem t n=s'.mem t n):∀ (l:List AV),OD s cl l=OD s' cl l
 | []=>rfl
 | x :: r=>by simp only [OD,I4 hm x,eO hm r]
section
variable {cl:Cl} (hm:cl.okMem=true->∀ t n,s.mem t n=s'.mem t n) (pb:s.obj=s'.obj) (v:AV)
include cl hm pb v
theorem KQ:DR s cl v=DR s' cl v:=by
 unfold DR;split
 ·split
  ·rename_i ra; rw [hm ra]
  ·rfl
 ·rfl
 ·rfl
 ·rw [pb]
 ·rfl
theorem T4:qG s cl v=qG s' cl v:=by
 have:=KQ hm pb v;cases v <;> simp only [qG,eO hm] <;> exact this
end
theorem KK {cl:Cl} (hm:cl.okMem=true->∀ t n,s.mem t n=s'.mem t n) (pb:s.obj=s'.obj):∀ {xs:List LB},uY s s' xs->EE s cl xs=EE s' cl xs
 | [],_=>rfl
 | x :: r,h=>by
  have h1:=h x (yk);have h2:=KK hm pb (xs:=r) fun o ho=>h o (yp _ ho)
  unfold EE;rw [h2,h1.1];rw [T4 hm pb]
theorem GR {cl:Cl} {t n:Nat} (hm:cl.okMem=true->∀ t n,s.mem t n=s'.mem t n) (pb:s.obj=s'.obj):∀ {xs:List LB},uY s s' xs->bD s cl t n xs=bD s' cl t n xs
 | [],_=>rfl
 | x :: r,h=>by
  have h1:=h x (yk);have h2:=GR (t:=t) (n:=n) hm pb (xs:=r) fun o ho=>h o (yp _ ho)
  unfold bD;rw [h2,h1.1];have:UG s cl t n (x.get s')=UG s' cl t n (x.get s'):=by
   unfold UG;split
   ·rfl
   ·rw [KQ hm pb]
   ·rfl
   ·rw [KQ hm pb]
  rw [this]
theorem oO {xs:List LB} (h:uY s s' xs):TJ s xs=TJ s' xs:=by
 induction xs with
 | nil=>rfl
 | cons x r ih =>
  have h1:=h x (yk);unfold TJ at ih ⊢;rw [List.filterMap_cons,List.filterMap_cons,h1.1,ih fun o ho=>h o (yp _ ho)]
section
variable {cl:Cl} (hm:cl.okMem=true->∀ t n,s.mem t n=s'.mem t n) (v:AV)
include cl hm v
theorem ZM:v.elems s cl=v.elems s' cl:=by
 cases v <;> simp only [AV.elems]
 split
 ·rename_i ra; rw [hm ra]
 ·rfl
theorem E7:v.raws s cl=v.raws s' cl:=by
 cases v <;> simp only [AV.raws]
 case ref t n sz off len c =>
  split
  ·rename_i h; rw [hm h t n]
  ·rfl
end
theorem wO {d:Nat} {o:Option LB} (h:uY s s' o.toList):WJ s d o=WJ s' d o:=by
 cases o with
 | none=>rfl
 | some o=>simp only [WJ]; rw [(h o (by simp)).1]
theorem LP (k:K) (h:uY s s' k.opds) (hm:∀ t n,k.reads t->s.mem t n=s'.mem t n) (pb:ZS k=true->s.obj=s'.obj):k.run call s=k.run call s':=by
 cases k with
 | mv x=>have h1:=h x (by simp [K.opds]); simp only [K.run,h1.1,h1.2]
 | pick c a b =>
  have h1:=h c (by simp [K.opds]); have h2:=h a (by simp [K.opds]); have h3:=h b (by simp [K.opds]);simp only [K.run,h1.1,h2.1,h2.2,h3.1,h3.2]
 | alloc z=>rfl
 | box z x=>have h1:=h x (by simp [K.opds]); simp only [K.run,h1.1,h1.2]
 | build z ps =>
  have h1:∀ p∈ps,p.2.2.get s=p.2.2.get s':=fun p hp=>(h p.2.2 (yy.2 ⟨p,hp,rfl⟩)).1
  have e1:ps.all (fun p=>(p.2.2.get s).whole)=ps.all (fun p=>(p.2.2.get s').whole):=by
   rw [Bool.eq_iff_iff,y5,y5];exact ⟨fun h p hp=>by rw [<- h1 p hp]; exact h p hp,fun h p hp=>by rw [h1 p hp]; exact h p hp⟩
  have e2:(ps.map fun p=>(p.1,p.2.1,(p.2.2.get s).cells))=ps.map fun p=>(p.1,p.2.1,(p.2.2.get s').cells):=yq fun p hp=>by rw [h1 p hp]
  simp only [K.run,e1,e2]
 | bsl z n ps =>
  have h1:∀ p∈ps,p.2.get s=p.2.get s':=fun p hp=>(h p.2 (yy.2 ⟨p,hp,rfl⟩)).1
  have e1:ps.all (fun p=>(p.2.get s).free&&decide ((p.2.get s).cells.length=z.length))=ps.all (fun p=>(p.2.get s').free&&decide ((p.2.get s').cells.length=z.length)):=by
   rw [Bool.eq_iff_iff,y5,y5];exact ⟨fun h p hp=>by rw [<- h1 p hp]; exact h p hp,fun h p hp=>by rw [h1 p hp]; exact h p hp⟩
  have e2:(ps.map fun p=>(p.2.get s).cells)=ps.map fun p=>(p.2.get s').cells:=yq fun p hp=>by rw [h1 p hp]
  simp only [K.run,e1,e2]
 | load cl g z x =>
  have h1:=h x (by simp [K.opds]);simp only [K.run,h1.1];split
  ·rename_i t n off _;split
   ·rename_i ra;rw [hm t n];cases cl with
    | any=>trivial
    | imm=>simp [Cl.okPtr] at ra
    | root r=>simp [Cl.okPtr] at ra; exact ra.symm
    | out L=>show L.contains t=false; simpa [Cl.okPtr] using ra
   ·rfl
  ·rfl
  ·rfl
  ·rfl
 | store cl g z x y =>
  have h1:=h x (by simp [K.opds]); have h2:=h y (by simp [K.opds]);simp only [K.run,h1.1,h2.1,h2.2];split
  ·rename_i t n off _;split
   ·rename_i ra;rw [hm t n];cases cl with
    | any=>trivial
    | imm=>simp [Cl.okPtr] at ra
    | root r=>simp [Cl.okPtr] at ra; exact ra.symm
    | out L=>show L.contains t=false; simpa [Cl.okPtr] using ra
   ·rfl
  ·rfl
 | mm b x y=>have h1:=h x (by simp [K.opds]); have h2:=h y (by simp [K.opds]); simp only [K.run,h1.1,h2.1]
 | bin op b x y=>have h1:=h x (by simp [K.opds]); have h2:=h y (by simp [K.opds]); simp only [K.run,h1.1,h2.1]
 | eqa n ks x y=>have h1:=h x (by simp [K.opds]); have h2:=h y (by simp [K.opds]); simp only [K.run,h1.1,h2.1]
 | eqn n p x y=>have h1:=h x (by simp [K.opds]); have h2:=h y (by simp [K.opds]); simp only [K.run,h1.1,h2.1]
 | un op x=>have h1:=h x (by simp [K.opds]); simp only [K.run,h1.1]
 | conv o x=>have h1:=h x (by simp [K.opds]); simp only [K.run,h1.1]
 | rstr x=>have h1:=h x (by simp [K.opds]); simp only [K.run,h1.1]
 | bstr cl x =>
  have h1:=h x (by simp [K.opds]);have h3:=ZM (cl:=cl) (s:=s) (s':=s') (fun ra t n=>hm t n (by cases cl <;> simp [Cl.okMem] at ra; trivial)) (x.get s');simp only [K.run,h1.1,h3]
 | aslc cl l z x lo hi =>
  have h1:=h x (by simp [K.opds]);have h2:∀ d,WJ s d lo=WJ s' d lo:=fun d=>wO fun o ho=>h o (by simp only [K.opds,yf,yt]; exact .inr (.inl ho))
  have h3:∀ d,WJ s d hi=WJ s' d hi:=fun d=>wO fun o ho=>h o (by simp only [K.opds,yf,yt]; exact .inr (.inr ho))
  simp only [K.run,h1.1,h2,h3];split
  ·rename_i t n o _;cases hc:cl.okMem with
   | true=>rw [hm t n (by cases cl <;> simp [Cl.okMem] at hc; trivial)]
   | false =>
    simp only [yr,and_false,if_false];cases WJ s' 0 lo <;> try rfl
    cases WJ s' l hi <;> try rfl
    cases s.mem t n <;> cases s'.mem t n <;> rfl
  ·rfl
 | mkf f xs =>
  have h1:∀ x∈xs,x.get s=x.get s':=fun x hx=>(h x hx).1
  have e1:xs.all (fun x=>(x.get s).capOk)=xs.all (fun x=>(x.get s').capOk):=by
   rw [Bool.eq_iff_iff,y5,y5];exact ⟨fun h p hp=>by rw [<- h1 p hp]; exact h p hp,fun h p hp=>by rw [h1 p hp]; exact h p hp⟩
  have e2:xs.map (·.get s)=xs.map (·.get s'):=yq h1;simp only [K.run,e1,e2]
 | callv cl x xs =>
  have h0:=h x (by simp [K.opds]);have hx:uY s s' xs:=fun o ho=>h o (by simp [K.opds,ho])
  have zt:cl.okMem=true->∀ t n,s.mem t n=s'.mem t n:=fun ra t n=>hm t n (by cases cl <;> simp [Cl.okMem] at ra; trivial)
  have h1:=KK (cl:=cl) (s:=s) (s':=s') zt (pb rfl) (xs:=xs) hx;have h2:=oO (xs:=xs) hx;have h3:∀ l,OD s cl l=OD s' cl l:=eO zt;simp only [K.run,h0.1,h1,h2,h3]
 | callr cl f xs =>
  have zt:cl.okMem=true->∀ t n,s.mem t n=s'.mem t n:=fun ra t n=>hm t n (by cases cl <;> simp [Cl.okMem] at ra; trivial)
  have h1:∀ t n,bD s cl t n xs=bD s' cl t n xs:=fun t n=>GR zt (pb rfl) (xs:=xs) h
  have h2:zC s xs=zC s' xs:=by
   cases xs with
   | nil=>rfl
   | cons x r=>simp only [zC,(h x (by simp [K.opds])).1]
  simp only [K.run,h1,h2];split
  ·rename_i t n _;split
   ·rename_i ra;rw [hm t n (by cases cl with
     | any=>trivial
     | imm=>simp [Cl.okPtr] at ra
     | root r=>simp [Cl.okPtr] at ra; exact ra.symm
     | out L=>show L.contains t=false; simpa [Cl.okPtr] using ra)]
   ·rfl
  ·rfl
 | callh nt x xs=>rfl
 | nxt x=>rfl
 | slz x=>have h1:=h x (by simp [K.opds]); simp only [K.run,h1.1]
 | ent x=>have h1:=h x (by simp [K.opds]); simp only [K.run,h1.1,pb rfl]
 | rng x=>have h1:=h x (by simp [K.opds]); simp only [K.run,h1.1,pb rfl]
 | mks z b zs x y=>have h1:=h x (by simp [K.opds]); have h2:=h y (by simp [K.opds]); simp only [K.run,h1.1,h2.1]
 | slc st z x lo hi mx =>
  have h1:=h x (by simp [K.opds]);have h2:∀ d,WJ s d lo=WJ s' d lo:=fun d=>wO fun o ho=>h o (by simp only [K.opds,yf,yt]; exact .inr (.inl ho))
  have h3:∀ d,WJ s d hi=WJ s' d hi:=fun d=>wO fun o ho=>h o (by simp only [K.opds,yf,yt]; exact .inr (.inr (.inl ho)))
  simp only [K.run,h1.1,h2,h3]
 | faddr f x=>have h1:=h x (by simp [K.opds]); simp only [K.run,h1.1]
 | field g f z x=>have h1:=h x (by simp [K.opds]); simp only [K.run,h1.1]
 | aaddr l z x i=>have h1:=h x (by simp [K.opds]); have h2:=h i (by simp [K.opds]); simp only [K.run,h1.1,h2.1]
 | iaddr z x i=>have h1:=h x (by simp [K.opds]); have h2:=h i (by simp [K.opds]); simp only [K.run,h1.1,h2.1]
 | index x i=>have h1:=h x (by simp [K.opds]); have h2:=h i (by simp [K.opds]); simp only [K.run,h1.1,h2.1]
 | ext x i=>have h1:=h x (by simp [K.opds]); simp only [K.run,h1.1]
 | call cl f xs =>
  have h1:=KK (cl:=cl) (s:=s) (s':=s') (fun ra t n=>hm t n (by cases cl <;> simp [Cl.okMem] at ra; trivial)) (pb rfl) (xs:=xs) h;have h2:=oO (xs:=xs) h;simp only [K.run,h1,h2,pb rfl]
 | callf cl f z xs =>
  have h1:=KK (cl:=cl) (s:=s) (s':=s') (fun ra t n=>hm t n (by cases cl <;> simp [Cl.okMem] at ra; trivial)) (pb rfl) (xs:=xs) h;have h2:=oO (xs:=xs) h;simp only [K.run,h1,h2,pb rfl]
 | len st x=>have h1:=h x (by simp [K.opds]); simp only [K.run,h1.1]
 | app cl e z b x y =>
  have h1:=h x (by simp [K.opds]); have h2:=h y (by simp [K.opds]);have h3:=ZM (cl:=cl) (s:=s) (s':=s') (fun ra t n=>hm t n (by cases cl <;> simp [Cl.okMem] at ra; trivial)) (y.get s');simp only [K.run,h1.1,h1.2,h2.1,h3]
 | mkm=>rfl
 | bad=>rfl
 | mkb T e=>rfl
 | mget ok ty z x k=>have h1:=h x (by simp [K.opds]); have h2:=h k (by simp [K.opds]); simp only [K.run,h1.1,h2.1,pb rfl]
 | mset ty x k v=>have h1:=h x (by simp [K.opds]); have h2:=h k (by simp [K.opds]); have h3:=h v (by simp [K.opds]); simp only [K.run,h1.1,h2.1,h3.1,pb rfl]
 | mlen x=>have h1:=h x (by simp [K.opds]); simp only [K.run,h1.1,pb rfl]
 | appf cl e z b x y =>
  have h1:=h x (by simp [K.opds]); have h2:=h y (by simp [K.opds]);have h3:∀ v:AV,v.elems s cl=v.elems s' cl:=fun v=>ZM (cl:=cl) (s:=s) (s':=s') (fun ra t n=>hm t n (by cases cl <;> simp [Cl.okMem] at ra; trivial)) v
  simp only [K.run,h1.1,h1.2,h2.1,h3]
 | appm cl e z b x y =>
  have h1:=h x (by simp [K.opds]); have h2:=h y (by simp [K.opds]);have h3:∀ v:AV,v.elems s cl=v.elems s' cl:=fun v=>ZM (cl:=cl) (s:=s) (s':=s') (fun ra t n=>hm t n (by cases cl <;> simp [Cl.okMem] at ra; trivial)) v
  simp only [K.run,h1.1,h1.2,h2.1,h3]
 | appn cl e z b x y =>
  have h1:=h x (by simp [K.opds]); have h2:=h y (by simp [K.opds]);have h3:∀ v:AV,v.raws s cl=v.raws s' cl:=fun v=>E7 (cl:=cl) (s:=s) (s':=s') (fun ra t n=>hm t n (by cases cl <;> simp [Cl.okMem] at ra; trivial)) v
  simp only [K.run,h1.1,h1.2,h2.1,h3]
 | bslr sz z n ps =>
  have h1:∀ p∈ps,p.2.get s=p.2.get s':=fun p hp=>(h p.2 (yy.2 ⟨p,hp,rfl⟩)).1
  have e1:ps.all (fun p=>(p.2.get s).whole&&decide ((p.2.get s).cells.length=z.length))=ps.all (fun p=>(p.2.get s').whole&&decide ((p.2.get s').cells.length=z.length)):=by
   rw [Bool.eq_iff_iff,y5,y5];exact ⟨fun h p hp=>by rw [<- h1 p hp]; exact h p hp,fun h p hp=>by rw [h1 p hp]; exact h p hp⟩
  have e2:(ps.map fun p=>(p.2.get s).cells)=ps.map fun p=>(p.2.get s').cells:=yq fun p hp=>by rw [h1 p hp]
  simp only [K.run,e1,e2]
 | nilchk x=>have h1:=h x (by simp [K.opds]); simp only [K.run,h1.1]
structure W6 (f:An->An):Prop where
 no:f .no=.no
 ex:f .ex=.ex
 own:∀ k e,f (.own k e)≠.ex
def aA.mapAn (s:aA) (f:An->An):aA:=⟨fun t=>⟨(s.env t).v,f (s.env t).a⟩,fun t n=>(s.mem t n).map (·.map fun x=>⟨x.v,f x.a⟩),s.next,s.obj,fun t=>⟨(s.gh t).v,f (s.gh t).a⟩⟩
def qA.mapAn (f:An->An) (x:qA):qA:=⟨x.v,f x.a⟩
def nD.mapAn (f:An->An):nD->nD
 | .new r=>.new (r.map (qA.mapAn f))
 | .set t n r=>.set t n (r.map (qA.mapAn f))
 | .ob2 t n S r=>.ob2 t n S (r.map (qA.mapAn f))
 | e=>e
theorem GA (f:An->An) (o:LB):o.get (s.mapAn f)=o.get s:=by cases o <;> rfl
theorem anN_map {f:An->An} (hf:W6 f) (b:Bool) (a:An):AC b (f a)=f (AC b a):=by
 cases b with
 | true=>exact hf.ex.symm
 | false=>rfl
theorem LO {f:An->An} (hf:W6 f) (o:LB):o.an (s.mapAn f)=f (o.an s):=by
 cases o with
 | t n=>rfl
 | c v=>cases v <;> first | exact hf.no.symm | (rename_i b l; cases b; exact hf.no.symm; exact hf.ex.symm)
theorem uX (f:An->An) (r:List qA) (sz off len:Nat):aE (r.map (qA.mapAn f)) sz off len=aE r sz off len:=by
 unfold aE;have h1:(r.map (qA.mapAn f)).all (fun x=>x.v.free0)=r.all (fun x=>x.v.free0):=by rw [List.all_map]; rfl
 simp only [yo,h1];congr 1;congr 1;apply yq;intro i _;rw [<- List.map_drop,<- List.map_take,y0];rfl
theorem uU (f:An->An) (cl:Cl) (v:AV):v.elems (s.mapAn f) cl=v.elems s cl:=by
 cases v <;> simp only [AV.elems]
 rename_i t n sz off len cap;split
 ·simp only [aA.mapAn];cases s.mem t n with
  | none=>rfl
  | some r=>exact uX f r sz off len
 ·rfl
theorem O4 (f:An->An) (cl:Cl) (v:AV):eP (s.mapAn f) cl v=eP s cl v:=by
 cases v <;> simp only [eP]
 rename_i t n off;split
 ·simp only [aA.mapAn];cases s.mem t n with
  | none=>rfl
  | some r =>
   simp only [yA,<- List.map_drop,List.all_map,y0];rfl
 ·rfl
theorem rO (f:An->An) (cl:Cl):∀ (l:List AV),OD (s.mapAn f) cl l=OD s cl l
 | []=>rfl
 | x :: r=>by simp only [OD,O4 f cl x,rO f cl r]
theorem LQ (f:An->An) (cl:Cl) (v:AV):DR (s.mapAn f) cl v=DR s cl v:=by
 unfold DR;split
 ·rename_i t n sz off len cap;split
  ·simp only [aA.mapAn];cases s.mem t n with
   | none=>rfl
   | some r=>simp only [yA,V]; rw [show (fun x:qA=>(⟨x.v,f x.a⟩:qA))=qA.mapAn f from rfl,uX]
  ·rfl
 ·rfl
 ·rfl
 ·rfl
 ·rfl
theorem U4 (f:An->An) (cl:Cl) (v:AV):qG (s.mapAn f) cl v=qG s cl v:=by
 have:=LQ (s:=s) f cl v;cases v <;> simp only [qG,rO] <;> exact this
theorem LK (f:An->An) (cl:Cl):∀ (xs:List LB),EE (s.mapAn f) cl xs=EE s cl xs
 | []=>rfl
 | x :: r=>by
  unfold EE;rw [LK f cl r,GA];rw [U4]
theorem HR (f:An->An) (cl:Cl) (t n:Nat):∀ (xs:List LB),bD (s.mapAn f) cl t n xs=bD s cl t n xs
 | []=>rfl
 | x :: r=>by
  unfold bD;rw [HR f cl t n r,GA];have:UG (s.mapAn f) cl t n (x.get s)=UG s cl t n (x.get s):=by
   unfold UG;split
   ·rfl
   ·rw [LQ]
   ·rfl
   ·rw [LQ]
  rw [this]
theorem dX (f:An->An) (xs:List LB):zC (s.mapAn f) xs=zC s xs:=by
 cases xs with
 | nil=>rfl
 | cons x r=>simp only [zC,GA]
theorem u6 {f:An->An} (hf:W6 f) (v:AV):f (KB v)=KB v:=by
 unfold KB;split
 ·exact hf.ex
 ·exact hf.no
theorem pO (f:An->An) (xs:List LB):TJ (s.mapAn f) xs=TJ s xs:=by
 unfold TJ;simp only [GA]
theorem UV (f:An->An) (d:Nat) (o:Option LB):WJ (s.mapAn f) d o=WJ s d o:=by
 cases o with
 | none=>rfl
 | some o=>simp only [WJ,GA]
theorem loadC_map (f:An->An) (hf:W6 f) (g:Bool) (z off:Nat) (r:List qA):MA g z off (r.map (qA.mapAn f))=(MA g z off r).map (qA.mapAn f):=by
 unfold MA;cases g with
 | true =>
  simp only [if_true,yo];split
  ·simp only [yA,qA.mapAn,hf.no,<- List.map_drop,<- List.map_take,y0];rfl
  ·rfl
 | false=>simp
theorem H5 (f:An->An) (hf:W6 f) (g:Bool) (z off:Nat) (r:List qA) (v:AV) (a:An):mA g z off (r.map (qA.mapAn f)) v (f a)=(mA g z off r v a).map (·.map (qA.mapAn f)):=by
 unfold mA;cases g with
 | true =>
  simp only [if_true,yo];cases v <;> try rfl
  simp only;split
  ·simp only [yA,yS,List.map_take,List.map_drop,y0];congr 3;apply yq;intro x _;simp [qA.mapAn,hf.no]
  ·rfl
 | false =>
  simp only [yr,if_false,yo];split
  ·simp [qA.mapAn,List.map_set]
  ·rfl
theorem run_mapAn {f:An->An} (hf:W6 f) (k:K) (hk:isT k=false):k.run call (s.mapAn f)=(k.run call s).map fun p=>(p.1.mapAn f,p.2.mapAn f):=by
  cases k with
  | mv x=>simp [K.run,GA,LO hf,qA.mapAn,nD.mapAn]
  | callh nt x xs=>rfl
  | nxt x=>rfl
  | slz x =>
    simp only [K.run,GA];split <;> simp [qA.mapAn,nD.mapAn,hf.ex]
  | ent x =>
    simp only [K.run,GA,show (s.mapAn f).obj=s.obj from rfl];split
    · split
      · split
        · split
          · split
            · split <;> simp [qA.mapAn,nD.mapAn,hf.no]
            · rfl
          · rfl
        · rfl
      · rfl
    · rfl
  | rng x =>
    simp only [K.run,GA,show (s.mapAn f).obj=s.obj from rfl];split
    · split <;> simp [qA.mapAn,nD.mapAn,hf.no]
    · rfl
  | pick c a b =>
    simp only [K.run,GA,LO hf];split
    · rename_i t _
      cases t <;> simp [qA.mapAn,nD.mapAn]
    · rfl
  | alloc z =>
    simp only [K.run,yA,qA.mapAn,nD.mapAn,hf.no,y0];congr 3;apply yq;intro v _;simp only [Function.comp,qA.mapAn,KB];split <;> simp [hf.no,hf.ex]
  | box z x =>
    simp only [K.run,GA,LO hf];split
    · split
      · simp [qA.mapAn,nD.mapAn,hf.no,Function.comp_def]
      · rfl
    · split
      · simp [qA.mapAn,nD.mapAn,hf.no]
      · rfl
  | build z ps =>
    simp only [K.run,GA];split
    · rw [Option.map_map]
      congr 1;funext cs;simp [qA.mapAn,nD.mapAn,hf.no]
    · rfl
  | bsl z n ps =>
    simp only [K.run,GA];split
    · simp [qA.mapAn,nD.mapAn,hf.ex]
    · rfl
  | load cl g z x =>
    simp only [K.run,GA];split
    · rename_i t n off _
      split
      · simp only [aA.mapAn]
        cases s.mem t n with
        | none=>rfl
        | some r =>
          simp only [yA,V];rw [show (fun x:qA=>(⟨x.v,f x.a⟩:qA))=qA.mapAn f from rfl,loadC_map f hf];cases MA g z off r <;> rfl
      · rfl
    · split
      · rfl
      · rename_i cs _ _ _
        cases IG g z cs <;> simp [qA.mapAn,nD.mapAn,hf.no]
    · split
      · rfl
      · rename_i cs _ _ _
        cases IG g z cs <;> simp [qA.mapAn,nD.mapAn,hf.no]
    · rfl
  | store cl g z x y =>
    simp only [K.run,GA,LO hf];split
    · rename_i t n off _
      split
      · simp only [aA.mapAn]
        cases s.mem t n with
        | none=>rfl
        | some r =>
          simp only [yA,V];rw [show (fun x:qA=>(⟨x.v,f x.a⟩:qA))=qA.mapAn f from rfl,H5 f hf];cases mA g z off r (y.get s) (y.an s) <;> simp [qA.mapAn,nD.mapAn,hf.no]
      · rfl
    · rfl
  | mm b x y=>simp only [K.run,GA]; cases mmC b (x.get s) (y.get s) <;> simp [qA.mapAn,nD.mapAn,hf.no]
  | bin op b x y=>simp only [K.run,GA]; cases AS op b (x.get s) (y.get s) <;> simp [qA.mapAn,nD.mapAn,hf.no]
  | eqa n ks x y =>
    simp only [K.run,GA];split
    · rename_i a b _ _
      cases zL ks a b <;> simp [qA.mapAn,nD.mapAn,hf.no]
    · rfl
  | eqn n p x y =>
    simp only [K.run,GA];split
    · cases AR false (x.get s) <;> simp [qA.mapAn,nD.mapAn,hf.no]
    · cases AR true (x.get s) <;> simp [qA.mapAn,nD.mapAn,hf.no]
    · rfl
  | un op x=>simp only [K.run,GA]; split <;> simp [qA.mapAn,nD.mapAn,hf.no]
  | conv o x=>simp only [K.run,GA]; split <;> simp [qA.mapAn,nD.mapAn,hf.no]
  | rstr x=>simp only [K.run,GA]; split <;> simp [qA.mapAn,nD.mapAn,hf.no]
  | bstr cl x =>
    simp only [K.run,GA,uU];split
    · rename_i l _
      cases bytesOf l <;> simp [qA.mapAn,nD.mapAn,hf.no]
    · rfl
  | aslc cl l z x lo hi =>
    simp only [K.run,GA,UV];split
    · rename_i t n o _
      simp only [aA.mapAn];cases WJ s 0 lo <;> try rfl
      cases WJ s l hi <;> try rfl
      cases s.mem t n with
      | none=>rfl
      | some r =>
        simp only [yA,yo];split
        · split <;> simp [qA.mapAn,nD.mapAn,hf.no]
        · rfl
    · rfl
  | mkf g xs =>
    simp only [K.run,GA];split <;> simp [qA.mapAn,nD.mapAn,hf.no]
  | callv cl x xs =>
    simp only [K.run,GA,LK,pO,rO];split
    · split
      · rename_i vs ws _ _ _
        rename_i g cs _ _ _ _ _ _;cases call _ _ none with
        | none=>rfl
        | some r =>
          simp only [V];split
          · split <;> simp [qA.mapAn,nD.mapAn,hf.no]
          · rfl
      · rfl
    · rfl
  | callr cl g xs =>
    simp only [K.run,HR,dX];split
    · rename_i t n _
      split
      · simp only [aA.mapAn]
        cases s.mem t n with
        | none=>rfl
        | some r =>
          simp only [yA];cases bD s cl t n xs with
          | none=>rfl
          | some vs =>
            simp only [List.all_map,y0,yo];have e1:r.all ((fun x:qA=>x.v.free0) ∘ fun x=>(⟨x.v,f x.a⟩:qA))=r.all (fun x=>x.v.free0):=rfl;have e2:r.map ((fun x:qA=>x.v) ∘ fun x=>(⟨x.v,f x.a⟩:qA))=r.map (·.v):=rfl;rw [e1,e2];split
            · cases call g (.undef :: .undef :: vs) (some (.agg (r.map (·.v)))) with
              | none=>rfl
              | some q =>
                simp only [V];split
                · split <;> simp [qA.mapAn,nD.mapAn,hf.no,Function.comp_def,u6 hf]
                · rfl
            · rfl
      · rfl
    · rfl
  | mks z b zs x y =>
    simp only [K.run,GA];split
    · split
      · simp only [yA,qA.mapAn,nD.mapAn,hf.no,y0]
        congr 3;apply yq;intro v _;simp [qA.mapAn,hf.no]
      · rfl
    · rfl
  | slc st z x lo hi mx =>
    simp only [K.run,GA,UV];split
    · rfl
    · split
      · rfl
      · split <;> first
          | rfl
          | (split
             · split <;> (try split) <;> simp [qA.mapAn,nD.mapAn,hf.no]
             · rfl)
  | faddr o x=>simp only [K.run,GA]; split <;> simp [qA.mapAn,nD.mapAn,hf.no]
  | field g o z x =>
    simp only [K.run,GA];split
    · rename_i cs _
      cases IG g z (cs.drop o) <;> simp [qA.mapAn,nD.mapAn,hf.no]
    · rfl
  | aaddr l z x i =>
    simp only [K.run,GA];split
    · split
      · split <;> simp [qA.mapAn,nD.mapAn,hf.no]
      · rfl
    · rfl
  | iaddr z x i =>
    simp only [K.run,GA];split
    · split
      · rename_i k _ _ _ l _
        cases l[k]? with
        | none=>rfl
        | some cs=>simp only [V]; split <;> simp [qA.mapAn,nD.mapAn,hf.no]
      · rename_i k _ _ l _
        cases l[k]? with
        | none=>rfl
        | some cs=>simp only [V]; split <;> simp [qA.mapAn,nD.mapAn,hf.no]
      · split <;> simp [qA.mapAn,nD.mapAn,hf.no]
      · rfl
    · rfl
  | index x i =>
    simp only [K.run,GA];split
    · rename_i k b _ _
      cases b[k]? <;> simp [qA.mapAn,nD.mapAn,hf.no]
    · rfl
  | ext x i =>
    simp only [K.run,GA];split
    · rename_i vs _
      cases vs[i]? <;> simp [qA.mapAn,nD.mapAn,hf.no]
    · rfl
  | call cl g xs =>
    simp only [K.run,LK,pO];cases EE s cl xs with
    | none=>rfl
    | some vs =>
      simp only [V];split
      · cases call g vs none with
        | none=>rfl
        | some r =>
          simp only [V];split
          · split <;> simp [qA.mapAn,nD.mapAn,hf.no]
          · split <;> simp [qA.mapAn,nD.mapAn,hf.no]
      · rename_i t n _
        simp only [show (s.mapAn f).obj=s.obj from rfl];cases call g vs (s.obj t n) with
        | none=>rfl
        | some r =>
          simp only [V];split
          · rfl
          · split <;> simp [qA.mapAn,nD.mapAn,hf.no]
      · rfl
  | callf cl g z xs =>
    simp only [K.run,LK,pO];cases EE s cl xs with
    | none=>rfl
    | some vs =>
      simp only [V];split
      · rename_i t n _
        simp only [show (s.mapAn f).obj=s.obj from rfl];cases call g (.undef :: vs) (s.obj t n) with
        | none=>rfl
        | some r =>
          simp only [V];split
          · split
            · split
              · simp [qA.mapAn,nD.mapAn,hf.no]
              · simp [qA.mapAn,nD.mapAn,hf.no,sA,Function.comp_def]
            · rfl
          · rfl
      · rfl
  | len st x=>simp only [K.run,GA]; split <;> (try split) <;> simp [qA.mapAn,nD.mapAn,hf.no]
  | app cl e z b x y=>simp [isT] at hk
  | mkm=>simp [K.run,qA.mapAn,nD.mapAn,hf.no]
  | bad=>simp [K.run]
  | mkb T e=>simp [K.run,qA.mapAn,nD.mapAn,hf.no]
  | mget ok ty z x k =>
    simp only [K.run,GA,show (s.mapAn f).obj=s.obj from rfl];split
    · split
      · split <;> simp [qA.mapAn,nD.mapAn,hf.no]
      · rfl
    · rfl
  | mset ty x k v =>
    simp only [K.run,GA,show (s.mapAn f).obj=s.obj from rfl];split
    · split
      · split <;> simp [qA.mapAn,nD.mapAn,hf.no]
      · rfl
    · rfl
  | mlen x =>
    simp only [K.run,GA,show (s.mapAn f).obj=s.obj from rfl];split
    · split <;> simp [qA.mapAn,nD.mapAn,hf.no]
    · rfl
  | appf cl e z b x y =>
    simp only [K.run,GA,LO hf,uU];split
    · split
      · rename_i bb _ _ _ _ _
        rw [anN_map hf];cases hx:AC bb (x.an s) with
        | no=>simp [hf.no]
        | ex =>
          simp only [hf.ex];split
          · simp [qA.mapAn,nD.mapAn,hf.ex]
          · simp [qA.mapAn,nD.mapAn,hf.no,Function.comp_def,sA]
        | own k e =>
          simp only;have:=hf.own k e;split
          · contradiction
          · rfl
      · rfl
    · rfl
  | appm cl e z b x y=>simp [isT] at hk
  | appn cl e z b x y=>simp [isT] at hk
  | bslr sz z n ps =>
    simp only [K.run,GA];split
    · simp [qA.mapAn,nD.mapAn,hf.no,Function.comp_def,sA]
    · rfl
  | nilchk x=>simp only [K.run,GA]; split <;> simp [qA.mapAn,nD.mapAn,hf.no]
end
end
section
open Go Go.RowKit
section
variable {P:Program} {O:AH} {nt B:Nat} {F0:OO} {aa:Av} {w0:World} {D:Nat->Prop} {s:aA} {a:Act} {w w':World} {ι:Ix} {Θ:dL} {o:Oper}
theorem A6 {α:Type} (sz:Nat):∀ (len:Nat) (L:List α),len * sz<=L.length->((List.range len).map fun i=>(L.drop (i * sz)).take sz).flatten=L.take (len * sz)
 | 0,L,_=>by simp
 | len + 1,L,h=>by
  have h1:len * sz<=L.length:=by rw [yw] at h; omega
  rw [J,yS,List.flatten_append,A6 sz len L h1];simp only [yg,yn,yz,List.flatten_nil,List.append_nil];rw [yw,List.take_add]
theorem iL {av:Av} {r:List qA} {cur:Array Value} (la:uE ι Θ av w r cur) {b:Nat} {ty:TypeId} (hb:w.heap[b]?=some (.cells cur ty (0,0))) {sz off len:Nat} {m:List (List AV)} (h:aE r sz off len=some m) :
  m.length=len/\(∀ c∈m,c.length=sz)/\∃ us,MC av w m.flatten us/\∀ (j:Nat) (u:Value),us[j]?=some u->w.cell? ⟨b,off + j,none⟩=some u:=by
 unfold aE at h;split at h
 ·rename_i hc;injection h with h;subst h;have se:∀ x∈r.map (·.v),x.free0=true:=fun x hx=>by
   obtain ⟨y,hy,rfl⟩:=yy.1 hx;exact y5.1 hc.2 y hy
  have cj:((List.range len).map fun i=>((r.drop (off + i * sz)).take sz).map (·.v)).flatten=((r.map (·.v)).drop off).take (len * sz):=by
   rw [<- A6 sz len _ (by simp; omega)];congr 1;apply yq;intro i _;rw [List.drop_drop,List.map_take,List.map_drop]
  have ec:=eG (len * sz) (xF off la.rep);refine ⟨by simp,fun c xr=>?_,((cur.toList.take r.length).drop off).take (len * sz),?_,fun j u hu=>?_⟩
  ·obtain ⟨i,hi,rfl⟩:=yy.1 xr;have fc:i<len:=by simpa using hi
   have:(i + 1) * sz<=len * sz:=yX _ fc;rw [yw] at this;simp;omega
  ·rw [cj];exact lH ec fun x hx=>se x (List.mem_of_mem_drop (List.mem_of_mem_take hx))
  ·rw [cell_of_row w b (off + j) cur ty (0,0) hb];rw [yO] at hu;split at hu
   ·rw [yT,yO] at hu;split at hu
    ·simpa using hu
    ·cases hu
   ·cases hu
 ·cases h
theorem sM (R:iC P O nt B F0 aa w0 D s a w ι Θ) {v:Value} {y:AV} (hY:qB ι (SC aa ι Θ) (PC ι Θ) w y v) {cl:Cl} {m:List (List AV)} (h:y.elems s cl=some m) {sz:Nat} (fb:0<sz) (ac:∀ c∈m,c.length=sz) :
  ∃ us,MC (SC aa ι Θ) w m.flatten us/\Sl (fun _=>False) w sz v m.length us:=by
 have et:m.flatten.length=m.length * sz:=by
  clear h hY
  induction m with
  | nil=>simp
  | cons c r ih=>rw [yz,yl,ac c (by simp),ih (fun c hc=>ac c (by simp [hc])),yE,yw]; omega
 have ja:∀ {av:Av} {us:List Value},MC av w m.flatten us->us.length=m.length * sz:=fun h=>by
  have:=pD (LD (ι:=ι) h);omega
 cases y with
 | sl nil l =>
  injection h with h;subst h;rw [tE] at hY;simp only [bE] at hY;obtain ⟨A,c,hv,hc,_,hn,hs⟩:=hY;rcases yK l.length with h0 | h0
  ·have:l=[]:=yM h0;subst this;exact ⟨[],rfl,by simp,A,c,hv,hc,fun h=>by simp at h⟩
  ·cases nil with
   | true=>have:=(hn rfl).2.1; omega
   | false =>
    obtain ⟨b,off,rfl,la⟩:=(hs rfl).2 h0;obtain ⟨us,hl,od⟩:=UQ (AF.1 la);refine ⟨us,hl,ja hl,_,c,hv,hc,fun _=>⟨b,off,rfl,?_,fun h=>h,fun j u hu=>(od j u hu).1⟩⟩;have hp:0<us.length:=by rw [ja hl]; exact Nat.mul_pos h0 fb
    exact WI (od 0 us[0] (y4 hp)).1
 | bl l =>
  injection h with h;subst h;obtain ⟨a',c,hv,hc,_,hs⟩:=hY;rcases yK l.length with h0 | h0
  ·have:l=[]:=yM h0;subst this;exact ⟨[],rfl,by simp,some a',c,hv,hc,fun h=>by simp at h⟩
  ·obtain ⟨b,off,rfl,la⟩:=hs h0;obtain ⟨us,hl,od⟩:=FO (BJ.1 la);refine ⟨us,hl,ja hl,_,c,hv,hc,fun _=>⟨b,off,rfl,?_,fun h=>h,fun j u hu=>(od j u hu).1⟩⟩;have hp:0<us.length:=by rw [ja hl]; exact Nat.mul_pos h0 fb
   exact WI (od 0 us[0] (y4 hp)).1
 | ref t n sz' off len cap =>
  simp only [AV.elems] at h;split at h
  ·cases hm:s.mem t n with
   | none=>rw [hm] at h; cases h
   | some r =>
    rw [hm,V] at h;obtain ⟨b,hb,ab,cc,xg,_,hv⟩:=fH.1 hY;obtain ⟨zl,b',cur,ty,ua,oa,la,_⟩:=R.rows t n r hm;rw [hb] at ua;injection ua with ua;subst ua;obtain ⟨h1,h2,us,hl,od⟩:=iL la oa h;subst h1;exact ⟨us,hl,ja hl,_,cc,hv,Nat.le_trans ab xg,fun _=>⟨b,off,rfl,OA oa,fun h=>h,od⟩⟩
  ·cases h
 | _=>simp [AV.elems] at h
theorem zP {av:Av} {r:List qA} {cur:Array Value} (la:uE ι Θ av w r cur) {b:Nat} {ty:TypeId} (hb:w.heap[b]?=some (.cells cur ty (0,0))) {sz off len:Nat} {m:List (List AV)} (h:jH r sz off len=some m) :
  m.length=len/\(∀ c∈m,c.length=sz)/\∃ us,JA ι av w m.flatten us/\∀ (j:Nat) (u:Value),us[j]?=some u->w.cell? ⟨b,off + j,none⟩=some u:=by
 unfold jH at h;split at h
 ·rename_i hc;injection h with h;subst h;have cj:((List.range len).map fun i=>((r.drop (off + i * sz)).take sz).map (·.v)).flatten=((r.map (·.v)).drop off).take (len * sz):=by
   rw [<- A6 sz len _ (by simp; omega)];congr 1;apply yq;intro i _;rw [List.drop_drop,List.map_take,List.map_drop]
  have ec:=eG (len * sz) (xF off la.rep);refine ⟨by simp,fun c xr=>?_,((cur.toList.take r.length).drop off).take (len * sz),?_,fun j u hu=>?_⟩
  ·obtain ⟨i,hi,rfl⟩:=yy.1 xr;have fc:i<len:=by simpa using hi
   have:(i + 1) * sz<=len * sz:=yX _ fc;rw [yw] at this;simp;omega
  ·rw [cj];exact ec
  ·rw [cell_of_row w b (off + j) cur ty (0,0) hb];rw [yO] at hu;split at hu
   ·rw [yT,yO] at hu;split at hu
    ·simpa using hu
    ·cases hu
   ·cases hu
 ·cases h
theorem raws_sl (R:iC P O nt B F0 aa w0 D s a w ι Θ) {v:Value} {y:AV} (hY:qB ι (SC aa ι Θ) (PC ι Θ) w y v) {cl:Cl} {m:List (List AV)} (h:y.raws s cl=some m) {sz:Nat} (fb:0<sz) (ac:∀ c∈m,c.length=sz) :
  ∃ us,JA ι (SC aa ι Θ) w m.flatten us/\Sl (fun _=>False) w sz v m.length us:=by
 have et:m.flatten.length=m.length * sz:=by
  clear h hY
  induction m with
  | nil=>simp
  | cons c r ih=>rw [yz,yl,ac c (by simp),ih (fun c hc=>ac c (by simp [hc])),yE,yw]; omega
 have ja:∀ {av:Av} {us:List Value},JA ι av w m.flatten us->us.length=m.length * sz:=fun h=>by
  have:=pD h;omega
 have old:∀ (hm:y.elems s cl=some m),∃ us,JA ι (SC aa ι Θ) w m.flatten us/\Sl (fun _=>False) w sz v m.length us:=fun hm=>by
  obtain ⟨us,h1,h2⟩:=sM R hY hm fb ac;exact ⟨us,LD h1,h2⟩
 cases y with
 | sl nil l=>exact old h
 | bl l=>exact old h
 | ref t n sz' off len cap =>
  simp only [AV.raws] at h;split at h
  ·cases hm:s.mem t n with
   | none=>rw [hm] at h; cases h
   | some r =>
    rw [hm,V] at h;obtain ⟨b,hb,ab,cc,xg,_,hv⟩:=fH.1 hY;obtain ⟨zl,b',cur,ty,ua,oa,la,_⟩:=R.rows t n r hm;rw [hb] at ua;injection ua with ua;subst ua;obtain ⟨h1,h2,us,hl,od⟩:=zP la oa h;subst h1;exact ⟨us,hl,ja hl,_,cc,hv,Nat.le_trans ab xg,fun _=>⟨b,off,rfl,OA oa,fun h=>h,od⟩⟩
  ·cases h
 | _=>simp [AV.raws] at h
theorem B2 {t e:TypeId} {i:TypeInfo} {z:Value} (ht:P.underlying t=some (.slice e)) (hi:P.info? e=some i) (ty:TypeId) {g n c:Nat} {cur:Array Value} (hg:w.heap[g]?=some (.cells cur e (0,0))) (me:cur.size=c * i.size) (_hz:i.zero=some z)
  {src:Value} {m:Nat} {news:List Value} (hs:Sl (fun _=>False) w i.size src m news) (h1:∀ u∈news,u.oneCell'=true) (ab:n + m<=c) :
  (Builtin.append_ #[t,t] ty #[.slice (some ⟨g,0,none⟩) n c,src]).run P w=.ok (.slice (some ⟨g,0,none⟩) (n + m) c) (w.setRow g (cur.toList.take (n * i.size)++news++cur.toList.drop (n * i.size + news.length)).toArray):=by
 obtain ⟨hl,A,c',rfl,hc,sb⟩:=hs;have po:n * i.size + news.length<=cur.size:=by rw [hl,me,<- Nat.add_mul]; exact yX _ ab
 cases A with
 | none =>
  have hm:m=0:=by
   rcases yK m with h | h
   ·exact h
   ·obtain ⟨b,off,hA,_⟩:=sb h; cases hA
  subst hm;have ry:news=[]:=yM (by simpa using hl);subst ry;simp only [Nat.add_zero] at ab;have lu:w.setRow g (cur.toList.take (n * i.size)++[]++cur.toList.drop (n * i.size + ([]:List Value).length)).toArray=w:=by
   simp only [List.append_nil,List.length_nil,Nat.add_zero,List.take_append_drop,yQ];exact setRow_self w g cur e (0,0) hg
  rw [lu];simp [Builtin.append_,run_underlying ht,sizeOf,typeInfo,hi,Builtin.lenOf,Builtin.firstCells,ab,storeCells]
 | some a =>
  refine run_append_room (P:=P) w t ty e i ht hi g n c cur hg a m c' news hl (fun j u hu=>?_) h1 ab po;have hm:0<m:=by
   rcases yK m with h | h
   ·subst h; have:=(y9.1 hu).1; omega
   ·exact h
  obtain ⟨b,off,hA,_,_,bd⟩:=sb hm;injection hA with hA;subst hA;rw [Addr.add_lit];exact bd j u hu
theorem wU {t e:TypeId} {i:TypeInfo} (ht:P.underlying t=some (.slice e)) (hi:P.info? e=some i) (ty:TypeId) {A:Option Addr} {n c:Nat} (ab:n<=c) {src:Value} {news:List Value} (hs:Sl (fun _=>False) w i.size src 0 news) :
  (Builtin.append_ #[t,t] ty #[.slice A n c,src]).run P w=.ok (.slice A n c) w:=by
 obtain ⟨hl,A',c',rfl,hc,sb⟩:=hs;cases A' <;> cases A <;> simp [Builtin.append_,run_underlying ht,sizeOf,typeInfo,hi,Builtin.lenOf,Builtin.firstCells,ab,storeCells,loadCells,loadCellsFrom]
def grewW (w:World) (xs news:List Value) (z:Value) (e:TypeId) (need c:Nat):World:=w.drew.alloc (.cells (xs.toArray++news.toArray++Builtin.zeroCells z.cells (grownCap w need c e - need)) e)
theorem qU {t e:TypeId} {i:TypeInfo} {z:Value} (ht:P.underlying t=some (.slice e)) (hi:P.info? e=some i) (hz:i.zero=some z) (ty:TypeId) {A:Option Addr} {n c:Nat} {xs:List Value} (be:xs.length=n * i.size) (hA:A=none->n=0/\c=0) (hx:∀ a,A=some a->∀ j u,xs[j]?=some u->w.cell? (a.add j)=some u)
  {src:Value} {m:Nat} {news:List Value} (hs:Sl (fun _=>False) w i.size src m news) (da:c<n + m) (hnc:n<=c) (h63:n + m<=140737488355328) (jf:(n + m) * i.bytes<=140737488355328) :
  (Builtin.append_ #[t,t] ty #[.slice A n c,src]).run P w=.ok (.slice (some ⟨w.heap.size,0,none⟩) (n + m) (grownCap w (n + m) c e)) (grewW w xs news z e (n + m) c):=by
 obtain ⟨hl,A',c',rfl,hc,sb⟩:=hs;have hm:0<m:=by omega
 obtain ⟨b,off,rfl,_,_,bd⟩:=sb hm;have ud:∀ j u,news[j]?=some u->w.cell? ((⟨b,off,none⟩:Addr).add j)=some u:=fun j u hu=>by rw [Addr.add_lit]; exact bd j u hu
 cases A with
 | none =>
  obtain ⟨rfl,rfl⟩:=hA rfl;have l6:xs=[]:=yM (by simpa using be);subst l6;have:=run_append_nil (P:=P) w t ty e i z ht hi hz ⟨b,off,none⟩ m c' news hl ud hm (by omega) (by rw [yG] at jf; omega);simpa [grewW] using this
 | some a =>
  exact run_append_grow (P:=P) w t ty e i z ht hi hz a n c xs be (hx a rfl) ⟨b,off,none⟩ m c' news hl ud da (by omega) (growslice_fits (by omega) jf)
section
variable (R:iC P O nt B F0 aa w0 D s a w ι Θ)
include R
theorem iC.fam (Θ':dL) (f:An->An) (sd:∀ b o,PC ι Θ' b o->PC ι Θ b o) (oq:∀ A v,qM Θ A v->qM Θ' (f A) v)
  (tok:∀ k o,Θ' k=some o->B<=o.g/\0<o.sz/\o.n<=o.c/\o.c<=maxLen/\∃ cur,w.heap[o.g]?=some (.cells cur o.e (0,0))/\(cur.size=o.c * o.sz/\uC P o.e=some o.sz)) (tinj:∀ k k' o o',Θ' k=some o->Θ' k'=some o'->o.g=o'.g->k=k') (apart:∀ k o t n,Θ' k=some o->ι t n≠some o.g)
  (apob:∀ k o t n H,Θ' k=some o->ι.ob t n=some H->¬ H o.g) :
  iC P O nt B F0 aa w0 D (s.mapAn f) a w ι Θ':=by
 have hB:BA (PC ι Θ) (PC ι Θ') w w:=BA.less sd;have hA:BA (SC aa ι Θ) (SC aa ι Θ') w w:=BA.less fun b o h=>h.imp id (sd b o)
 refine ⟨R.defers,R.size,fun t=>qB.held (Ix.Le.refl _) hA hB _ _ (R.env t),fun t=>oq _ _ (R.ann t),fun t n r hr=>?_,R.mine,R.inj,tok,tinj,apart,R.out,R.pin,R.kept,R.base,R.objs,fun t n H h=>?_,fun t=>qB.held (Ix.Le.refl _) hA hB _ _ (R.gen t),fun t=>oq _ _ (R.gann t)⟩
 ·simp only [aA.mapAn] at hr;cases hm:s.mem t n with
  | none=>rw [hm] at hr; cases hr
  | some r0 =>
   rw [hm] at hr;injection hr with hr;subst hr;obtain ⟨h0,b,cur,ty,h1,h2,⟨h3,h4⟩,h8⟩:=R.rows t n r0 hm;refine ⟨h0,b,cur,ty,h1,h2,⟨by simpa using h3,fun j x hx=>?_⟩,h8⟩;rw [yc] at hx;cases hj:r0[j]? with
   | none=>rw [hj] at hx; cases hx
   | some y =>
    rw [hj] at hx;injection hx with hx;subst hx;obtain ⟨u,hu,h5,h6,h7⟩:=h4 j y hj;exact ⟨u,hu,h5,NA.held (Ix.Le.refl _) hA _ _ h6,oq _ _ h7⟩
 ·obtain ⟨h1,h2⟩:=R.obs t n H h;exact ⟨fun b hb=>let ⟨g1,g2,g3,_,g5⟩:=h1 b hb; ⟨g1,g2,g3,fun k o hk e=>apob k o t n H hk h (e ▸ hb),g5⟩,h2⟩
theorem iC.spare {k:Nat} {ow:Ow} (hk:Θ k=some ow) {cur new:Array Value} (me:w.heap[ow.g]?=some (.cells cur ow.e (0,0))) (ac:new.size=cur.size) (mj:∀ j,j<ow.n * ow.sz->new[j]?=cur[j]?) :
  iC P O nt B F0 aa w0 D s a (w.setRow ow.g new) ι Θ:=by
 have na:∀ b',b'≠ow.g->(w.setRow ow.g new).heap[b']?=w.heap[b']?:=fun b' h=>setRow_other w ow.g b' new h
 have sc:(w.setRow ow.g new).heap[ow.g]?=some (.cells new ow.e (0,0)):=setRow_heap w ow.g cur new ow.e (0,0) me;have jj:∀ b o u,w.cell? ⟨b,o,none⟩=some u->(b=ow.g->o<ow.n * ow.sz)->(w.setRow ow.g new).cell? ⟨b,o,none⟩=some u:=fun b o u hc da=>by
  by_cases hb:b=ow.g
  ·subst hb;rw [cell_of_row _ ow.g o new ow.e (0,0) sc,mj o (da rfl),<- cell_of_row w ow.g o cur ow.e (0,0) me];exact hc
  ·exact (World.cell?_of_block (w:=w) (a:=⟨b,o,none⟩) (na b hb)).trans hc
 have hB:BA (PC ι Θ) (PC ι Θ) w (w.setRow ow.g new):=⟨fun b o u hc hn=>⟨jj b o u hc fun e=>by
  rcases Nat.lt_or_ge o (ow.n * ow.sz) with h | h
  ·exact h
  ·exact absurd (.inr ⟨k,ow,hk,e.symm,h⟩) hn,hn⟩⟩
 have hA:BA (SC aa ι Θ) (SC aa ι Θ) w (w.setRow ow.g new):=⟨fun b o u hc hn=>⟨jj b o u hc fun e=>by
  rcases Nat.lt_or_ge o (ow.n * ow.sz) with h | h
  ·exact h
  ·exact absurd (.inr (.inr ⟨k,ow,hk,e.symm,h⟩)) hn,hn⟩⟩
 refine ⟨R.defers,R.size,fun t=>qB.held (Ix.Le.refl _) hA hB _ _ (R.env t),R.ann,fun t n r hr=>?_,fun t n b h=>?_,R.inj,fun j o h=>?_,R.tinj,R.apart,R.out,R.pin,?_,R.base,fun t n S h=>?_,fun t n H h=>(R.obs t n H h).grow (by simp),fun t=>qB.held (Ix.Le.refl _) hA hB _ _ (R.gen t),R.gann⟩
 ·obtain ⟨h0,b,nb,ty,h1,h2,h3,h8⟩:=R.rows t n r hr;have:b≠ow.g:=fun e=>R.apart k ow t n hk (e ▸ h1)
  exact ⟨h0,b,nb,ty,h1,(na b this).trans h2,h3.held (Ix.Le.refl _) hA (fun _ _ h=>h),h8⟩
 ·obtain ⟨h1,h2,h3⟩:=R.mine t n b h;exact ⟨h1,by simpa using h2,h3⟩
 ·obtain ⟨h1,h2,h3,h4,nb,h5,h6⟩:=R.tok j o h;by_cases hg:o.g=ow.g
  ·have:=R.tinj _ _ _ _ h hk hg;subst this;rw [hk] at h;injection h with h;subst h;rw [me] at h5;injection h5 with h5;injection h5 with h5;subst h5;exact ⟨h1,h2,h3,h4,new,sc,ac.trans h6.1,h6.2⟩
  ·exact ⟨h1,h2,h3,h4,nb,(na _ hg).trans h5,h6⟩
 ·have:=(R.tok k ow hk).1;have hb:=R.base;exact R.kept.setRow (fun da=>by omega) _
 ·obtain ⟨p,H,h1,h2,h3,h4⟩:=R.objs t n S h;have fq:∀ b',H b'->b'≠ow.g:=fun b' hH e=>(((R.obs _ _ _ h2).1 _ hH).2.2.2.1 k ow hk) e.symm
  exact ⟨p,H,h1,h2,O.keep h3 (fun b' hH=>na b' (fq b' hH)) (by simp),h4.keep (fun t n b H h g=>⟨h,H,g⟩) fun x hx=>(na p (fq p (O.main h3))).trans hx⟩
theorem iC.fresh {d:Nat} (hd:Θ d=none) {cur:Array Value} {e:TypeId} {n c sz:Nat} (me:cur.size=c * sz) (ac:0<sz) (hn:n<=c) (hc:c<=maxLen) (htz:uC P e=some sz) :
  iC P O nt B F0 aa w0 D s a (w.drew.alloc (.cells cur e)) ι (fun j=>if j=d then some ⟨w.heap.size,n,c,sz,e⟩ else Θ j):=by
 have ig:∀ b,b<w.heap.size->(w.drew.alloc (.cells cur e)).heap[b]?=w.heap[b]?:=fun b hb=>Below.heap_alloc w.drew _ b hb
 have ej:∀ b o,b<w.heap.size->PC ι (fun j=>if j=d then some ⟨w.heap.size,n,c,sz,e⟩ else Θ j) b o->PC ι Θ b o:=fun b o hb h=>h.imp id fun ⟨k,ow,h,h1,h2⟩=>by
  by_cases e:k=d
  ·simp only [if_pos e] at h; injection h with h; subst h; simp only at h1; omega
  ·simp only [if_neg e] at h; exact ⟨k,ow,h,h1,h2⟩
 have hB:BA (PC ι Θ) (PC ι (fun j=>if j=d then some ⟨w.heap.size,n,c,sz,e⟩ else Θ j)) w (w.drew.alloc (.cells cur e)):=BA.grown ig ej;have hA:BA (SC aa ι Θ) (SC aa ι (fun j=>if j=d then some ⟨w.heap.size,n,c,sz,e⟩ else Θ j)) w (w.drew.alloc (.cells cur e)):=BA.grown ig fun b o hb h=>h.imp id (ej b o hb)
 have hΘ:∀ k o,Θ k=some o->(fun j=>if j=d then some ⟨w.heap.size,n,c,sz,e⟩ else Θ j) k=some o:=fun k o h=>by
  by_cases e:k=d
  ·subst e; rw [hd] at h; cases h
  ·simp only [if_neg e]; exact h
 have oq:∀ A v,qM Θ A v->qM (fun j=>if j=d then some ⟨w.heap.size,n,c,sz,e⟩ else Θ j) A v:=fun A v h=>by
  cases A with
  | no=>trivial
  | ex=>exact h
  | own k e'=>exact h.imp id fun ⟨ow,h1,h2⟩=>⟨ow,hΘ _ _ h1,h2⟩
 have ou:w.heap.size<=(w.drew.alloc (.cells cur e)).heap.size:=by
  have:(w.drew.alloc (.cells cur e)).heap.size=w.drew.heap.size + 1:=World.size_alloc _ _;have h4:w.drew.heap.size=w.heap.size:=rfl;omega
 refine ⟨R.defers,R.size,fun t=>qB.held (Ix.Le.refl _) hA hB _ _ (R.env t),fun t=>oq _ _ (R.ann t),fun t n r hr=>?_,fun t n b h=>?_,R.inj,fun j o h=>?_,fun k k' o o' h h' hg=>?_,fun k o t n h h'=>?_,R.out,R.pin,R.kept.drew.alloc _,R.base,fun t n S h=>?_,fun t n H h=>?_,fun t=>qB.held (Ix.Le.refl _) hA hB _ _ (R.gen t),fun t=>oq _ _ (R.gann t)⟩
 ·obtain ⟨h0,b,nb,ty,h1,h2,h3,h8⟩:=R.rows t n r hr;exact ⟨h0,b,nb,ty,h1,(ig b (OA h2)).trans h2,h3.held (Ix.Le.refl _) hA hΘ,h8⟩
 ·obtain ⟨h1,h2,h3⟩:=R.mine t n b h;exact ⟨h1,by omega,h3⟩
 ·by_cases e':j=d
  ·simp only [if_pos e'] at h;injection h with h;subst h;exact ⟨R.lowB,ac,hn,hc,cur,XQ rfl,me,htz⟩
  ·simp only [if_neg e'] at h;obtain ⟨h1,h2,h3,h4,nb,h5,h6⟩:=R.tok j o h;exact ⟨h1,h2,h3,h4,nb,(ig _ (OA h5)).trans h5,h6⟩
 ·by_cases e1:k=d <;> by_cases e2:k'=d
  ·rw [e1,e2]
  ·simp only [if_pos e1] at h; simp only [if_neg e2] at h';injection h with h; subst h;obtain ⟨_,_,_,_,nb,h5,_⟩:=R.tok _ _ h';have:=OA h5;simp only at hg; omega
  ·simp only [if_neg e1] at h; simp only [if_pos e2] at h';injection h' with h'; subst h';obtain ⟨_,_,_,_,nb,h5,_⟩:=R.tok _ _ h;have:=OA h5;simp only at hg; omega
  ·simp only [if_neg e1] at h; simp only [if_neg e2] at h';exact R.tinj _ _ _ _ h h' hg
 ·by_cases e':k=d
  ·simp only [if_pos e'] at h;injection h with h;subst h;have:=(R.mine _ _ _ h').2.1;simp only at this; omega
  ·simp only [if_neg e'] at h;exact R.apart k o t n h h'
 ·obtain ⟨p,H,h1,h2,h3,h4⟩:=R.objs t n S h;exact ⟨p,H,h1,h2,O.keep h3 (fun b' hH=>ig b' (O.lt h3 hH)) ou,h4.keep (fun t n b H h g=>⟨h,H,g⟩) fun x hx=>(ig _ (OA hx)).trans hx⟩
 ·obtain ⟨h1,h2⟩:=R.obs t n H h;refine ⟨fun b hb=>?_,h2⟩;obtain ⟨g1,g2,g3,g4,g5⟩:=h1 b hb;refine ⟨g1,by omega,g3,fun k o hk=>?_,g5⟩;by_cases e':k=d
  ·simp only [if_pos e'] at hk;injection hk with hk;subst hk;simp only;omega
  ·simp only [if_neg e'] at hk;exact g4 k o hk
end
end
end
end Go.Proofs.YtbnlmgncbgaepaaGreat
