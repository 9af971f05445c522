/- A part of the proof. -/
import Derived.Calls
import Derived.Orders
import Derived.Below
import Derived.Scope
import Derived.Test.YtbhbeakhognieaaGreatRows
import Derived.WalkKit
import Derived.WalkSpells
import Derived.WalkLawsBesides
import Derived.Handy
import Derived.Maps.AppendAt
import Derived.Lib.FrozenHead
import Derived.Laws.Cells
import Derived.ChangeKeysEq
import Derived.Laws.Tables
set_option linter.all false
set_option maxRecDepth 100000
set_option maxHeartbeats 8000000
open Option renaming bind_some → J, bind_eq_some_iff → ye, map_eq_some_iff → yn, map_some → yr
open List renaming range_succ → y0, map_map → y3, getElem?_eq_getElem → y5, all_eq_true → y6, getElem?_eq_some_iff → y9, drop_eq_getElem_cons → yb, getElem?_map → yc, map_cons → yf, mem_cons → yg, mem_of_getElem? → yh, drop_eq_nil_of_le → yk, mem_cons_self → yl, map_nil → ym, mem_cons_of_mem → yo, mem_map → yp, getElem_of_mem → yq, length_map → yu, map_congr_left → yw, mem_append → yx, length_append → yz, take_of_length_le → yB, replicate → yE, length_cons → yF, getElem?_append_left → yG, map_append → yH, flatten_cons → yI, length_take → yL, eq_nil_of_length_eq_zero → yM, getElem?_append_right → yQ, cons_append → yR, mem_append_left → yS, getElem?_drop → yU, getElem?_take → yV, getElem?_eq_none → yY
open Nat renaming le_refl → yj, succ_mul → yy, zero_add → yK, eq_zero_or_pos → yN, mul_le_mul_right → yZ
open Bool renaming false_eq_true → yA
open Array renaming length_toList → yW, toArray_toList → yX, getD_eq_getD_getElem? → Y01
namespace Go.Proofs.YtbhbeakhognieaaGreat
open Go
inductive AV where
 | int (k:IntKind) (n:Int)
 | bool (b:Bool)
 | str (s:ByteArray)
 | nilP
 | ptr (t n off:Nat)
 | ip (cs:List AV)
 | bp (cs:List AV)
 | sl (nil:Bool) (l:List (List AV))
 | bl (l:List (List AV))
 | ref (t n sz off len cap:Nat)
 | mp (t n:Nat)
 | fn (f:Nat) (caps:List AV)
 | agg (cs:List AV)
 | tup (vs:List AV)
 | undef
 deriving Inhabited
inductive An where
 | no
 | ex
 | own (k:Nat) (e:TypeId)
structure wA where
 v:AV
 a:An
inductive aC where
 | t (n:Nat)
 | c (v:AV)
 deriving Inhabited
inductive Cl where
 | any
 | imm
 | root (t:Nat)
 /-- in no box of these slots -/
 | out (L:List Nat)
inductive KTy where
 | none
 | some (k:IntKind)
 | agg (l:List (Option IntKind))
instance:Inhabited KTy:=⟨.none⟩
inductive K where
 | mv (x:aC)
 | pick (c a b:aC)
 | alloc (zero:List AV)
 | box (size:Nat) (x:aC)
 | build (zero:List AV) (parts:List (Nat × Nat × aC))
 | bsl (zero:List AV) (n:Nat) (parts:List (Nat × aC))
 | load (cl:Cl) (agg:Bool) (size:Nat) (x:aC)
 | store (cl:Cl) (agg:Bool) (size:Nat) (x y:aC)
 | clr (cl:Cl) (zero:List AV) (x:aC)
 | bin (op:BinOp) (bl:Bool) (x y:aC)
 | mm (mx:Bool) (x y:aC)
 | eqa (neg:Bool) (ks:List Nat) (x y:aC)
 | eqn (neg ptr:Bool) (x y:aC)
 | un (op:UnOp) (x:aC)
 | conv (k:Option IntKind) (x:aC)
 | rstr (x:aC)
 | bstr (cl:Cl) (x:aC)
 | mks (size bytes:Nat) (zero:List AV) (len cap:aC)
 | slc (str:Bool) (size:Nat) (x:aC) (lo hi mx:Option aC)
 | aslc (cl:Cl) (len size:Nat) (x:aC) (lo hi:Option aC)
 | faddr (off:Nat) (x:aC)
 | field (agg:Bool) (off size:Nat) (x:aC)
 | iaddr (size:Nat) (x i:aC)
 | aaddr (len size:Nat) (x i:aC)
 | index (x i:aC)
 | ext (x:aC) (i:Nat)
 | call (cl:Cl) (f:Nat) (xs:List aC)
 | callf (cl:Cl) (f:Nat) (sz:Nat) (xs:List aC)
 | mkf (f:Nat) (xs:List aC)
 | callv (cl:Cl) (x:aC) (xs:List aC)
 | callr (cl:Cl) (f:Nat) (xs:List aC)
 | callh (nt:Nat) (x:aC) (xs:List aC)
 | len (str:Bool) (x:aC)
 | app (cl:Cl) (e:TypeId) (size bytes:Nat) (x y:aC)
 | appf (cl:Cl) (e:TypeId) (size bytes:Nat) (x y:aC)
 | appm (cl:Cl) (e:TypeId) (size bytes:Nat) (x y:aC)
 | appn (cl:Cl) (e:TypeId) (size bytes:Nat) (x y:aC)
 | bslr (size:Nat) (zero:List AV) (n:Nat) (parts:List (Nat × aC))
 | mkm
 | mkb (T e:TypeId)
 | mget (ok:Bool) (ty:KTy) (zero:AV) (x k:aC)
 | mset (ty:KTy) (x k v:aC)
 | mlen (x:aC)
 | rng (x:aC)
 | slz (x:aC)
 | ent (x:aC)
 | nxt (x:aC)
 | nilchk (x:aC)
 | bad
 deriving Inhabited
instance:Inhabited Cl:=⟨.any⟩
structure TA where
 dst:Option Nat
 op:K
 guard:Option (Nat × Bool)
inductive C where
 | skip
 | seq (a b:C)
 | reg (ops:List TA)
 | cond (c:aC) (t e:C)
 | block (id:Nat) (b:C)
 | loop (b:C)
 | exit (id:Nat)
 | ret
inductive Ex where
 | nrm
 | exit (id:Nat)
 | ret
structure aA where
 env:Nat->wA
 mem:Nat->Nat->Option (List wA)
 next:Nat
 obj:Nat->Nat->Option AV
 /-- the slots of the calls that wait -/
 gh:Nat->wA
def An.strip (k:Nat):An->An
 | .own j e=>if j=k then .no else .own j e
 | a=>a
def wA.strip (k:Nat) (x:wA):wA:=⟨x.v,x.a.strip k⟩
def aA.strip (s:aA) (k:Nat):aA:=⟨fun t=>(s.env t).strip k,fun t n=>(s.mem t n).map (·.map (wA.strip k)),s.next,s.obj,fun t=>(s.gh t).strip k⟩
def aA.stripA (s:aA):An->aA
 | .own k _=>s.strip k
 | _=>s
def aA.put (s:aA) (d:Option Nat) (x:wA):aA:=match d with
 | some d=>{ s with env:=fun t=>if t=d then x else s.env t }
 | none=>s
def aA.setRow (s:aA) (t n:Nat) (r:List wA):aA:={ s with mem:=fun t' n'=>if t'=t/\n'=n then some r else s.mem t' n' }
def aA.setObj (s:aA) (t n:Nat) (S:AV):aA:={ s with obj:=fun t' n'=>if t'=t/\n'=n then some S else s.obj t' n' }
def kA (l:List (List AV)):List wA:=l.flatten.map (⟨·,.no⟩)
def AV.kill0 (t n:Nat):AV->AV
 | .ptr t' n' o=>if t'=t/\n'=n then .undef else .ptr t' n' o
 | .ref t' n' z o l c=>if t'=t/\n'=n then .undef else .ref t' n' z o l c
 | .mp t' n'=>if t'=t/\n'=n then .undef else .mp t' n'
 | v=>v
def AV.kill1 (t n:Nat):AV->AV
 | .agg cs=>.agg (cs.map (AV.kill0 t n))
 | v=>v.kill0 t n
def AV.kill (t n:Nat):AV->AV
 | .agg cs=>.agg (cs.map (AV.kill0 t n))
 | .tup vs=>.tup (vs.map (AV.kill1 t n))
 | .fn f vs=>.fn f (vs.map (AV.kill0 t n))
 | v=>v.kill0 t n
def wA.kill (t n:Nat) (x:wA):wA:=⟨x.v.kill t n,x.a⟩
def aA.kill (s:aA) (t n:Nat):aA:=⟨fun j=>(s.env j).kill t n,fun t' n'=>if t'=t/\n'=n then none else (s.mem t' n').map (·.map (wA.kill t n)),s.next,s.obj,fun j=>(s.gh j).kill t n⟩
def aA.killO (s:aA):Option (Nat × Nat)->aA
 | none=>s
 | some p=>s.kill p.1 p.2
def aC.get (s:aA):aC->AV
 | .t n=>(s.env n).v
 | .c v=>v
def aC.an (s:aA):aC->An
 | .t n=>(s.env n).a
 | .c (.sl true _)=>.ex
 | .c _=>.no
def AV.cells:AV->List AV
 | .agg cs=>cs
 | v=>[v]
def AV.leaf:AV->Bool
 | .agg _ | .tup _ | .bp _ | .bl _ | .fn .. | .undef=>false
 | _=>true
def AV.whole:AV->Bool
 | .agg _=>true
 | v=>v.leaf
def AV.free0:AV->Bool
 | .ptr .. | .bp _ | .bl _ | .ref .. | .mp .. | .fn .. | .undef | .agg _ | .tup _=>false
 | _=>true
def AV.free:AV->Bool
 | .agg cs=>cs.all AV.free0
 | v=>v.free0
def zE (row:List wA) (sz off len:Nat):Option (List (List AV)) :=
 if off + len * sz<=row.length/\row.all (fun x=>x.v.free0) then some ((List.range len).map fun i=>((row.drop (off + i * sz)).take sz).map (·.v)) else none
def Cl.okMem:Cl->Bool
 | .any=>true
 | _=>false
def AV.elems (s:aA) (cl:Cl):AV->Option (List (List AV))
 | .sl _ l=>some l
 | .bl l=>some l
 | .ref t n sz off len _=>if cl.okMem then (s.mem t n).bind fun r=>zE r sz off len else none
 | _=>none
def uH (row:List wA) (sz off len:Nat):Option (List (List AV)) :=
 if off + len * sz<=row.length then some ((List.range len).map fun i=>((row.drop (off + i * sz)).take sz).map (·.v)) else none
def AV.raws (s:aA) (cl:Cl):AV->Option (List (List AV))
 | .sl _ l=>some l
 | .bl l=>some l
 | .ref t n sz off len _=>if cl.okMem then (s.mem t n).bind fun r=>uH r sz off len else none
 | _=>none
def AV.noName (t n:Nat):AV->Bool
 | .ptr t' n' _ | .ref t' n' _ _ _ _ | .mp t' n'=>!(decide (t'=t)&&decide (n'=n))
 | .agg _ | .tup _ | .fn ..=>false
 | _=>true
def SS:AV->Option Nat
 | .int _ n=>if 0<=n then some n.toNat else none
 | _=>none
def pJ (s:aA) (d:Nat):Option aC->Option Nat
 | none=>some d
 | some o=>SS (o.get s)
def cS (cells:List AV):List (Nat × Nat × List AV)->Option (List AV)
 | []=>some cells
 | (off,size,v) :: r=>if v.length=size/\off + size<=cells.length then cS (cells.take off++v++cells.drop (off + size)) r else none
def eS (k:IntKind) (r:BitVec k.bits):AV:=.int k (k.wrap r.toNat)
def shN (k:IntKind) (b:Int):Nat:=min b.toNat k.bits
def FT (op:BinOp) (bl:Bool):AV->AV->Option AV
 | .int k a,.int k' b=>match op with
  | .shl=>if 0<=b then some (.int k (k.wrap (a * 2 ^ shN k b))) else none
  | .shr=>if 0<=b then some (.int k (a.fdiv (2 ^ shN k b))) else none
  | _=>if k=k' then (match op with
  | .and=>some (eS k (BitVec.ofInt k.bits a &&& BitVec.ofInt k.bits b))
  | .or=>some (eS k (BitVec.ofInt k.bits a ||| BitVec.ofInt k.bits b))
  | .xor=>some (eS k (BitVec.ofInt k.bits a ^^^ BitVec.ofInt k.bits b))
  | .andNot=>some (eS k (BitVec.ofInt k.bits a &&& ~~~ BitVec.ofInt k.bits b))
  | .add=>some (.int k (k.wrap (a + b)))
  | .sub=>some (.int k (k.wrap (a - b)))
  | .mul=>some (.int k (k.wrap (a * b)))
  | .quo=>if b=0 then none else some (.int k (k.wrap (a.tdiv b)))
  | .rem=>if b=0 then none else some (.int k (a.tmod b))
  | .eql=>some (.bool (decide (a=b)))
  | .neq=>some (.bool (!decide (a=b)))
  | .lss=>some (.bool (decide (a<b)))
  | .leq=>some (.bool (decide (a<=b)))
  | .gtr=>some (.bool (decide (b<a)))
  | .geq=>some (.bool (decide (b<=a)))
  | _=>none) else none
 | .str a,.str b=>match op with
  | .add=>if a.size + b.size<=9223372036854775807 then some (.str (a++b)) else none
  | .eql=>some (.bool (decide (a=b)))
  | .neq=>some (.bool (!decide (a=b)))
  | .lss=>some (.bool (Op.bytesLess a.toList b.toList))
  | .gtr=>some (.bool (!(Op.bytesLess a.toList b.toList||decide (a=b))))
  | .leq=>some (.bool (Op.bytesLess a.toList b.toList||decide (a=b)))
  | .geq=>some (.bool (!Op.bytesLess a.toList b.toList))
  | _=>none
 | .bool a,.bool b=>if bl then (match op with
  | .eql=>some (.bool (a == b))
  | .neq=>some (.bool (!(a == b)))
  | _=>none) else none
 | _,_=>none
def mmC (mx:Bool):AV->AV->Option AV
 | .int k a,.int k' b=>if k=k' then some (.int k (if mx then max a b else min a b)) else none
 | _,_=>none
def MK:List Nat->List AV->List AV->Option Bool
 | [],[],[]=>some true
 | 0 :: ks,.int k a :: r,.int k' b :: r'=>if k=k' then (if a=b then MK ks r r' else some false) else none
 | 1 :: ks,.str a :: r,.str b :: r'=>if a=b then MK ks r r' else some false
 | 2 :: ks,.bool a :: r,.bool b :: r'=>if a=b then MK ks r r' else some false
 | _,_,_=>none
def TS:Bool->AV->Option Bool
 | false,.sl true _=>some true
 | false,.sl false l=>if l.isEmpty then none else some false
 | false,.bl _=>some false
 | false,.ref ..=>some false
 | true,.nilP=>some true
 | true,.ptr ..=>some false
 | true,.ip _=>some false
 | true,.bp _=>some false
 | _,_=>none
inductive TD where
 | none
 | new (r:List wA)
 | set (t n:Nat) (r:List wA)
 | app (a:An) (k:Nat)
 | obj (t n:Nat) (S:AV)
 | mk (S:AV)
 | rn (k:Option (Nat × Nat)) (r:List wA)
 | ob2 (t n:Nat) (S:AV) (r:List wA)
def Cl.okPtr:Cl->Nat->Bool
 | .any,_=>true
 | .imm,_=>false
 | .root r,t=>r == t
 | .out L,t=>!L.contains t
def RB (agg:Bool) (size off:Nat) (row:List wA):Option wA :=
 if agg then (if off + size<=row.length then some ⟨.agg (((row.drop off).take size).map (·.v)),.no⟩ else none)
 else row[off]?
def xG (agg:Bool) (size:Nat) (cs:List AV):Option AV :=
 if agg then (if size<=cs.length then some (.agg (cs.take size)) else none) else cs[0]?
def US (s:aA) (cl:Cl):AV->Option AV
 | .ref t n sz off len _=>if cl.okMem then ((s.mem t n).bind fun r=>zE r sz off len).map .bl else none
 | .bl l=>some (.bl l)
 | .bp l=>some (.bp l)
 | .ptr t n off=>if off=0/\cl.okMem/\(s.obj t n).isSome then some (.ptr 0 0 0) else none
 | v=>if v.free then some v else none
def TP (s:aA) (cl:Cl):AV->Option AV
 | .ptr t n off=>if cl.okMem then match s.mem t n with
  | some r=>if (r.drop off).all (fun x=>x.v.free0) then some (.bp ((r.drop off).map (·.v))) else none
  | none=>none else none
 | .bp l=>some (.bp l)
 | .nilP=>some .nilP
 | _=>none
def RD (s:aA) (cl:Cl):List AV->Option (List AV)
 | []=>some []
 | x :: r=>match TP s cl x,RD s cl r with
  | some v,some vs=>some (v :: vs)
  | _,_=>none
def KF (s:aA) (cl:Cl):AV->Option AV
 | .fn f cs=>(RD s cl cs).map (.fn f)
 | v=>US s cl v
def IB:AV->Option (Nat × Nat)
 | .ptr t n _=>some (t,n)
 | .ref t n _ _ _ _=>some (t,n)
 | _=>none
def GC (s:aA) (cl:Cl) (t n:Nat):AV->Option AV
 | .ptr t' n' off=>if t'=t/\n'=n then some (.ptr 0 0 off) else none
 | .ref t' n' sz off len cap=>if t'=t/\n'=n then some (.ref 0 0 sz off len cap) else US s cl (.ref t' n' sz off len cap)
 | .fn f cs=>if cs.isEmpty then some (.fn f []) else none
 | v=>US s cl v
def EB (s:aA) (cl:Cl) (t n:Nat):List aC->Option (List AV)
 | []=>some []
 | x :: r=>match GC s cl t n (x.get s),EB s cl t n r with
  | some v,some vs=>some (v :: vs)
  | _,_=>none
def JA (s:aA):List aC->Option (Nat × Nat)
 | []=>none
 | x :: _=>IB (x.get s)
def AV.capOk:AV->Bool
 | .ptr .. | .bp _ | .nilP=>true
 | _=>false
def bytesOf:List (List AV)->Option (List UInt8)
 | []=>some []
 | c :: r=>match c,bytesOf r with
  | [.int .u8 n],some l=>some (UInt8.ofNat n.toNat :: l)
  | _,_=>none
def rL (s:aA) (xs:List aC):List (Nat × Nat):=xs.filterMap fun x=>match x.get s with
 | .ptr t n _=>some (t,n)
 | _=>none
def TF (s:aA) (cl:Cl):List aC->Option (List AV)
 | []=>some []
 | x :: r=>match KF s cl (x.get s),TF s cl r with
  | some v,some vs=>some (v :: vs)
  | _,_=>none
def AV.isUn:AV->Bool
 | .undef=>true
 | _=>false
def AV.back:AV->Bool
 | .tup vs=>vs.all fun v=>v.free||v.isUn
 | v=>v.free
def AV.isObj:AV->Bool
 | .ptr 0 0 0=>true
 | _=>false
def AV.backN:AV->Bool
 | .tup vs=>vs.all fun v=>v.free||v.isObj
 | v=>v.isObj
def AV.named (d n:Nat):AV->AV
 | .tup vs=>.tup (vs.map fun v=>if v.isObj then .ptr d n 0 else v)
 | .mp _ _=>.mp d n
 | v=>if v.isObj then .ptr d n 0 else v
def iB (size:Nat) (l:List (List AV)):Bool:=l.all (·.length == size)
def ZA (bytes n:Nat):Bool:=decide (n * bytes<=140737488355328)&&decide (n<=140737488355328)
theorem xA {b n:Nat}:ZA b n=true ↔ n * b<=140737488355328/\n<=140737488355328:=by simp [ZA]
theorem elsOk_nil (z:Nat):iB z []=true:=rfl
theorem XW (z:Nat) (c:List AV) (l:List (List AV)):iB z (c :: l)=(decide (c.length=z)&&iB z l):=rfl
theorem BA (z:Nat) (l m:List (List AV)):iB z (l++m)=(iB z l&&iB z m):=by simp [iB]
theorem KB {α:Type} (z:Nat) (f:α->List AV) (l:List α) (h:∀ x,(f x).length=z):iB z (l.map f)=true:=by simp [iB,h]
theorem CW {z:Nat} {l:List (List AV)} (h:iB z l=true) (n:Nat):iB z (l.take n)=true:=by
 simp only [iB,y6] at h ⊢;exact fun x hx=>h x (List.mem_of_mem_take hx)
theorem A9 {z:Nat} {l:List (List AV)} (h:iB z l=true) (n:Nat):iB z (l.drop n)=true:=by
 simp only [iB,y6] at h ⊢;exact fun x hx=>h x (List.mem_of_mem_drop hx)
def AV.scal:AV->Bool
 | .int .. | .bool _ | .str _=>true
 | _=>false
def AV.flat:AV->Bool
 | .agg cs=>cs.all AV.scal
 | v=>v.scal
def TI (L:List (List AV)):AV:=.tup [.undef,.sl false L]
def PS:AV->Option (List (List AV))
 | .tup [.undef,.sl false L]=>some L
 | _=>none
theorem cG (L:List (List AV)):PS (TI L)=some L:=rfl
def bldAV (T e:TypeId) (s:ByteArray):AV:=.tup [.undef,.undef,.int .i64 (T:Nat),.int .i64 (e:Nat),.str s]
def bldOf:AV->Option (TypeId × TypeId × ByteArray)
 | .tup [.undef,.undef,.int _ T,.int _ e,.str s]=>some (T.toNat,e.toNat,s)
 | _=>none
def itSeen:List (List AV)->List Nat
 | [.int _ i] :: r=>i.toNat :: itSeen r
 | _=>[]
def itOf:AV->Option (Nat × Nat × Nat × List Nat)
 | .tup [.undef,.undef,.undef,.mp tm nm,.int _ N,.sl false l]=>some (tm,nm,N.toNat,itSeen l)
 | _=>none
def noIt (S:AV):Bool:=(itOf S).isNone
def noItO:Option AV->Bool
 | none=>true
 | some S=>noIt S
def wL:List (Option IntKind)->List AV->Bool
 | [],[]=>true
 | .some k :: r,.int k' _ :: cs=>decide (k=k')&&wL r cs
 | .none :: r,.str _ :: cs=>wL r cs
 | _,_=>false
def HG:KTy->AV->Bool
 | .some k,.int k' _=>decide (k=k')
 | .none,.str _=>true
 | .agg l,.agg cs=>wL l cs
 | _,_=>false
def dJ (ty:KTy) (L:List (List AV)):Bool:=L.all fun e=>match e with
 | [k,v]=>HG ty k&&v.flat
 | _=>false
def gR:List AV->List AV->Bool
 | [],[]=>true
 | .int k a :: r,.int k' b :: r'=>(decide (k=k')&&decide (a=b))&&gR r r'
 | .str a :: r,.str b :: r'=>decide (a=b)&&gR r r'
 | _,_=>false
def LO:AV->AV->Bool
 | .int k a,.int k' b=>decide (k=k')&&decide (a=b)
 | .str a,.str b=>decide (a=b)
 | .agg a,.agg b=>gR a b
 | _,_=>false
def cI:List (List AV)->AV->Option AV
 | [],_=>none
 | e :: r,k=>match e with
  | [k',v]=>if LO k' k then some v else cI r k
  | _=>cI r k
def UG:List (List AV)->AV->AV->List (List AV)
 | [],k,v=>[[k,v]]
 | e :: r,k,v=>match e with
  | [k',_]=>if LO k' k then [k,v] :: r else e :: UG r k v
  | _=>e :: UG r k v
abbrev RV:=AV × Option AV
abbrev JB:=Nat->List AV->Option AV->Option RV
abbrev LpT:=C->aA->(Ex->aA->Option RV)->Option RV
abbrev HpT:=Nat->List wA->aA->(wA->aA->Option RV)->Option RV
structure LH where
 l:LpT
 h:HpT
instance:CoeFun LH (fun _=>LpT):=⟨LH.l⟩
def UA (agg:Bool) (size off:Nat) (row:List wA) (x:AV) (a:An):Option (List wA) :=
 if agg then match x with
  | .agg cs=>if cs.length=size/\off + size<=row.length then some (row.take off++cs.map (⟨·,.no⟩)++row.drop (off + size)) else none
  | _=>none
 else if x.leaf/\off<row.length then some (row.set off ⟨x,a⟩) else none
def AC:Bool->An->An
 | true,_=>.ex
 | false,a=>a
def rB:AV->An
 | .sl true _=>.ex
 | _=>.no
def K.run (call:JB) (s:aA):K->Option (wA × TD)
 | .mv x=>some (⟨x.get s,x.an s⟩,.none)
 | .pick c a b=>match c.get s with
  | .bool t=>some (if t then ⟨a.get s,a.an s⟩ else ⟨b.get s,b.an s⟩,.none)
  | _=>none
 | .alloc zero=>some (⟨.ptr 0 0 0,.no⟩,.new (zero.map fun v=>⟨v,rB v⟩))
 | .box size x=>match x.get s with
  | .agg cs=>if cs.length=size then some (⟨.ptr 0 0 0,.no⟩,.new (cs.map (⟨·,.no⟩))) else none
  | v=>if v.leaf then some (⟨.ptr 0 0 0,.no⟩,.new [⟨v,x.an s⟩]) else none
 | .build zero parts=>if parts.all (fun p=>(p.2.2.get s).whole) then
   (cS zero (parts.map fun p=>(p.1,p.2.1,(p.2.2.get s).cells))).map fun cs=>(⟨.agg cs,.no⟩,.none) else none
 | .bsl zero n parts=>if parts.map (·.1)=List.range n/\parts.all (fun p=>(p.2.get s).free&&decide ((p.2.get s).cells.length=zero.length)) then
   some (⟨.sl false (parts.map fun p=>(p.2.get s).cells),.ex⟩,.none) else none
 | .load cl agg size x=>match x.get s with
  | .ptr t n off=>if cl.okPtr t then ((s.mem t n).bind (RB agg size off)).map fun x=>(x,.none) else none
  | .ip cs=>match cl with
   | .root _=>none
   | _=>(xG agg size cs).map fun v=>(⟨v,.no⟩,.none)
  | .bp cs=>match cl with
   | .root _=>none
   | _=>(xG agg size cs).map fun v=>(⟨v,.no⟩,.none)
  | _=>none
 | .store cl agg size x y=>match x.get s with
  | .ptr t n off=>if cl.okPtr t then ((s.mem t n).bind fun r=>UA agg size off r (y.get s) (y.an s)).map fun r=>(⟨.undef,.no⟩,.set t n r) else none
  | _=>none
 | .clr cl zero x=>none
 | .bin op t x y=>(FT op t (x.get s) (y.get s)).map fun v=>(⟨v,.no⟩,.none)
 | .mm mx x y=>(mmC mx (x.get s) (y.get s)).map fun v=>(⟨v,.no⟩,.none)
 | .eqa neg ks x y=>match x.get s,y.get s with
  | .agg a,.agg b=>(MK ks a b).map fun t=>(⟨.bool (t != neg),.no⟩,.none)
  | _,_=>none
 | .eqn neg ptr x y=>match ptr,y.get s with
  | false,.sl true _=>(TS false (x.get s)).map fun t=>(⟨.bool (t != neg),.no⟩,.none)
  | true,.nilP=>(TS true (x.get s)).map fun t=>(⟨.bool (t != neg),.no⟩,.none)
  | _,_=>none
 | .un op x=>match op,x.get s with
  | .not,.bool b=>some (⟨.bool (!b),.no⟩,.none)
  | .neg,.int k n=>some (⟨.int k (k.wrap (0 - n)),.no⟩,.none)
  | _,_=>none
 | .conv k x=>match k,x.get s with
  | some k,.int _ n=>some (⟨.int k (k.wrap n),.no⟩,.none)
  | none,.str b=>some (⟨.str b,.no⟩,.none)
  | _,_=>none
 | .rstr x=>match x.get s with
  | .int _ n=>some (⟨.str (Utf8.encode n),.no⟩,.none)
  | _=>none
 | .bstr cl x=>match (x.get s).elems s cl with
  | some l=>(bytesOf l).map fun bs=>(⟨.str ⟨bs.toArray⟩,.no⟩,.none)
  | none=>none
 | .aslc cl ln size x lo hi=>match x.get s with
  | .ptr t n o=>match pJ s 0 lo,pJ s ln hi,s.mem t n with
   | some l,some h,some r=>if l<=h/\h<=ln/\0<size/\o + ln * size<=r.length/\cl.okMem=true then
     (if h=l then some (⟨.sl false [],.no⟩,.none) else some (⟨.ref t n size (o + l * size) (h - l) (ln - l),.no⟩,.none)) else none
   | _,_,_=>none
  | _=>none
 | .mkf f xs=>if xs.all (fun x=>(x.get s).capOk) then some (⟨.fn f (xs.map (·.get s)),.no⟩,.none) else none
 | .callv cl x xs=>match x.get s with
  | .fn f cs=>match TF s cl xs,RD s cl cs,rL s xs with
   | some vs,some ws,[]=>(call f (vs++ws) none).bind fun r=>match r.2 with
    | none=>if r.1.back then some (⟨r.1,.no⟩,.none) else none
    | some _=>none
   | _,_,_=>none
  | _=>none
 | .callr cl f xs=>match JA s xs with
  | some (t,n)=>if cl.okPtr t then (match s.mem t n,EB s cl t n xs with
   | some r,some vs=>if r.all (fun x=>x.v.free0) then (call f (.undef :: .undef :: vs) (some (.agg (r.map (·.v))))).bind fun q=>match q.2 with
     | some (.agg cs)=>if q.1.back/\cs.length=r.length/\cs.all AV.free0=true then some (⟨q.1,.no⟩,.set t n (cs.map fun v=>⟨v,rB v⟩)) else none
     | _=>none else none
   | _,_=>none) else none
  | none=>none
 | .callh ..=>none
 | .bad=>none
 | .mks size bytes zero ln cap=>match SS (ln.get s),SS (cap.get s) with
  | some l,some c=>if l<=c/\c * bytes<=140737488355328/\c<=140737488355328/\zero.length=size then some (⟨.ref 0 0 size 0 l c,.no⟩,.new ((List.replicate c zero).flatten.map (⟨·,.no⟩))) else none
  | _,_=>none
 | .slc str size x lo hi mx=>match mx with
  | some _=>none
  | none =>
   match pJ s 0 lo with
   | none=>none
   | some l=>match x.get s with
    | .sl b e=>match pJ s e.length hi with
     | some h=>if l<=h/\h<=e.length/\iB size e=true/\str=false then some (⟨.sl b ((e.take h).drop l),.no⟩,.none) else none
     | _=>none
    | .bl e=>match pJ s e.length hi with
     | some h=>if l<=h/\h<=e.length/\iB size e=true/\str=false then some (⟨.bl ((e.take h).drop l),.no⟩,.none) else none
     | _=>none
    | .ref t n sz off ln cap=>match pJ s ln hi with
     | some h=>if l<=h/\h<=cap/\sz=size/\str=false then (if h=l/\¬ (l=0/\0<cap) then some (⟨.sl false [],.no⟩,.none) else some (⟨.ref t n sz (off + l * sz) (h - l) (cap - l),.no⟩,.none)) else none
     | _=>none
    | .str b=>match pJ s b.size hi with
     | some h=>if l<=h/\h<=b.size/\str=true then some (⟨.str (b.extract l h),.no⟩,.none) else none
     | _=>none
    | _=>none
 | .faddr off x=>match x.get s with
  | .ptr t n o=>some (⟨.ptr t n (o + off),.no⟩,.none)
  | .ip cs=>some (⟨.ip (cs.drop off),.no⟩,.none)
  | .bp cs=>some (⟨.bp (cs.drop off),.no⟩,.none)
  | _=>none
 | .field agg off size x=>match x.get s with
  | .agg cs=>(xG agg size (cs.drop off)).map fun v=>(⟨v,.no⟩,.none)
  | _=>none
 | .aaddr ln size x i=>match SS (i.get s) with
  | some k=>if k<ln then (match x.get s with
   | .ptr t n o=>some (⟨.ptr t n (o + k * size),.no⟩,.none)
   | .ip cs=>some (⟨.ip (cs.drop (k * size)),.no⟩,.none)
   | .bp cs=>some (⟨.bp (cs.drop (k * size)),.no⟩,.none)
   | _=>none) else none
  | none=>none
 | .iaddr size x i=>match SS (i.get s) with
  | some k=>match x.get s with
   | .sl _ l=>l[k]?.bind fun cs=>if cs.length=size then some (⟨.ip cs,.no⟩,.none) else none
   | .bl l=>l[k]?.bind fun cs=>if cs.length=size then some (⟨.bp cs,.no⟩,.none) else none
   | .ref t n sz off ln _=>if k<ln/\sz=size then some (⟨.ptr t n (off + k * sz),.no⟩,.none) else none
   | _=>none
  | none=>none
 | .index x i=>match SS (i.get s),x.get s with
  | some k,.str b=>b[k]?.map fun u=>(⟨.int .u8 u.toNat,.no⟩,.none)
  | _,_=>none
 | .ext x i=>match x.get s with
  | .tup vs=>vs[i]?.map fun v=>(⟨v,.no⟩,.none)
  | _=>none
 | .call cl f xs=>(TF s cl xs).bind fun vs=>match rL s xs with
  | []=>(call f vs none).bind fun r=>match r.2 with
   | none=>if r.1.back then some (⟨r.1,.no⟩,.none) else none
   | some S=>if r.1.backN/\cl.okMem/\noIt S=true then some (⟨r.1,.no⟩,.mk S) else none
  | [(t,n)]=>(call f vs (s.obj t n)).bind fun r=>match r.2 with
   | none=>none
   | some S=>if r.1.back/\(s.obj t n).isSome/\noIt S=true then some (⟨r.1,.no⟩,.obj t n S) else none
  | _=>none
 | .callf cl f sz xs=>none
 | .len str x=>match x.get s with
  | .sl _ l=>if str then none else some (⟨.int .i64 l.length,.no⟩,.none)
  | .bl l=>if str then none else some (⟨.int .i64 l.length,.no⟩,.none)
  | .ref _ _ _ _ ln _=>if str then none else some (⟨.int .i64 ln,.no⟩,.none)
  | .str b=>if str then some (⟨.int .i64 b.size,.no⟩,.none) else none
  | _=>none
 | .app cl e size bytes x y=>match x.get s,(y.get s).elems s cl with
  | .sl b l,some m=>if ZA bytes (l.length + m.length)=true/\iB size (l++m)=true then
    (match AC b (x.an s) with
    | .no=>none
    | .own k e'=>if e'=e then some (⟨.sl (b&&m.isEmpty) (l++m),.own 0 e⟩,.app (.own k e') 0) else none
    | .ex=>some (⟨.sl (b&&m.isEmpty) (l++m),.own 0 e⟩,.app .ex 0)) else none
  | _,_=>none
 | .appf cl e size bytes x y=>match x.get s,(y.get s).elems s cl with
  | .sl b l,some m=>if ZA bytes (l.length + m.length)=true/\iB size (l++m)=true then
    (match AC b (x.an s) with
    | .ex=>if m.isEmpty then some (⟨.sl b l,.ex⟩,.none) else some (⟨.ref 0 0 size 0 (l.length + m.length) (l.length + m.length),.no⟩,.new (kA (l++m)))
    | _=>none) else none
  | _,_=>none
 | .appm cl e size bytes x y=>match x.get s,(y.get s).elems s cl with
  | .sl b l,some m=>if ZA bytes (l.length + m.length)=true/\iB size (l++m)=true then
    (match AC b (x.an s) with
    | .ex=>if m.isEmpty then some (⟨.sl b l,.ex⟩,.none) else some (⟨.ref 0 0 size 0 (l.length + m.length) (l.length + m.length),.no⟩,.new (kA (l++m)))
    | _=>none) else none
  | .ref t n sz off ln _,some m=>match (AV.ref t n sz off ln 0).elems s cl with
   | some l=>if off=0/\sz=size/\ZA bytes (ln + m.length)=true/\iB size m=true/\t≠0 then
     some (⟨.ref 0 0 size 0 (ln + m.length) (ln + m.length),.no⟩,.rn (some (t,n)) (kA (l++m))) else none
   | none=>none
  | _,_=>none
 | .appn cl e size bytes x y=>match x.get s,(y.get s).raws s cl with
  | .sl b l,some m=>if ZA bytes (l.length + m.length)=true/\iB size (l++m)=true/\0<m.length then
    (match AC b (x.an s) with
    | .ex=>some (⟨.ref 0 0 size 0 (l.length + m.length) (l.length + m.length),.no⟩,.new (kA (l++m)))
    | _=>none) else none
  | .ref t n sz off ln _,some m=>match (AV.ref t n sz off ln 0).raws s cl with
   | some l=>if off=0/\sz=size/\ZA bytes (ln + m.length)=true/\iB size m=true/\t≠0/\(l++m).flatten.all (AV.noName t n)=true then
     some (⟨.ref 0 0 size 0 (ln + m.length) (ln + m.length),.no⟩,.rn (some (t,n)) (kA (l++m))) else none
   | none=>none
  | _,_=>none
 | .bslr size zero n parts=>if parts.map (·.1)=List.range n/\parts.all (fun p=>(p.2.get s).whole&&decide ((p.2.get s).cells.length=zero.length))/\0<n/\zero.length=size then
   some (⟨.ref 0 0 size 0 n n,.no⟩,.new (kA (parts.map fun p=>(p.2.get s).cells))) else none
 | .mkm=>some (⟨.mp 0 0,.no⟩,.mk (TI []))
 | .mkb T e=>some (⟨.ptr 0 0 0,.no⟩,.mk (bldAV T e ⟨#[]⟩))
 | .mget ok ty zero x k=>match x.get s with
  | .mp t n=>match (s.obj t n).bind PS with
   | some L=>if dJ ty L=true/\HG ty (k.get s)=true/\zero.flat=true then
     some (⟨if ok then .tup [(cI L (k.get s)).getD zero,.bool (cI L (k.get s)).isSome] else (cI L (k.get s)).getD zero,.no⟩,.none) else none
   | none=>none
  | _=>none
 | .mset ty x k v=>match x.get s with
  | .mp t n=>match (s.obj t n).bind PS with
   | some L=>if dJ ty L=true/\HG ty (k.get s)=true/\(v.get s).flat=true then
     some (⟨.undef,.no⟩,.obj t n (TI (UG L (k.get s) (v.get s)))) else none
   | none=>none
  | _=>none
 | .mlen x=>none
 | .rng x=>none
 | .nxt _=>none
 | .ent x=>none
 | .slz x=>none
 | .nilchk x=>match x.get s with
  | .ptr t n o=>some (⟨.ptr t n o,.no⟩,.none)
  | .ip cs=>some (⟨.ip cs,.no⟩,.none)
  | .bp cs=>some (⟨.bp cs,.no⟩,.none)
  | _=>none
def TA.eff (o:TA) (s:aA):wA × TD->Option aA
 | (x,.none)=>some (s.put o.dst x)
 | (x,.new r)=>match o.dst with
  | none=>none
  | some d=>some ((s.setRow d s.next r).put (some d) ⟨match x.v with | .ref _ _ sz off l c=>.ref d s.next sz off l c | _=>.ptr d s.next 0,.no⟩)
 | (x,.set t n r)=>some ((s.setRow t n r).put o.dst x)
 | (x,.app a _)=>match o.dst with
  | none=>none
  | some d=>some (((s.stripA a).strip d).put (some d) ⟨x.v,match x.a with | .own _ e=>.own d e | a=>a⟩)
 | (x,.obj t n S)=>some ((s.setObj t n S).put o.dst x)
 | (x,.mk S)=>match o.dst with
  | none=>none
  | some d=>some ((s.setObj d s.next S).put (some d) ⟨x.v.named d s.next,.no⟩)
 | (x,.ob2 t n S r)=>match o.dst with
  | none=>none
  | some d=>some (((s.setObj t n S).setRow d s.next r).put (some d) ⟨match x.v with | .ref _ _ sz off l c=>.ref d s.next sz off l c | _=>.ptr d s.next 0,.no⟩)
 | (x,.rn k r)=>match o.dst with
  | none=>none
  | some d=>some (((s.killO k).setRow d s.next r).put (some d) ⟨match x.v with | .ref _ _ sz off l c=>.ref d s.next sz off l c | _=>.ptr d s.next 0,.no⟩)
def TA.step (call:JB) (o:TA) (s:aA):Option aA :=
 match o.guard with
 | none=>(o.op.run call s).bind (o.eff s)
 | some (t,want)=>match (s.env t).v with
  | .bool b=>if b=want then (o.op.run call s).bind (o.eff s) else some (s.put o.dst ⟨.tup [],.no⟩)
  | .tup []=>some (s.put o.dst ⟨.tup [],.no⟩)
  | _=>none
def aA.enter (s:aA) (nt:Nat):aA:={ s with next:=s.next + 1,gh:=fun t=>if t<nt then s.env t else s.gh (t - nt) }
def aA.leave (s:aA) (nt:Nat):aA:={ s with env:=fun t=>if t<nt then s.gh t else ⟨.undef,.no⟩,gh:=fun t=>s.gh (t + nt) }
def fP (s:aA) (xs:List aC):List wA:=xs.map fun x=>⟨x.get s,x.an s⟩
def KO (lh:LH) (d:Option Nat) (nt:Nat) (x:aC) (xs:List aC) (s:aA) (k:aA->Option RV):Option RV:=match x.get s with
 | .fn f cs=>lh.h f (fP s xs++cs.map (⟨·,.no⟩)) (s.enter nt) fun y s'=>k ((s'.leave nt).put d y)
 | _=>none
noncomputable def GX (d:Option Nat) (x:aC) (s:aA) (k:aA->Option RV):Option RV:=none
def BJ (s:aA) (d:Option Nat) (g:Option (Nat × Bool)) (a:Option RV) (k:aA->Option RV):Option RV:=match g with
 | none=>a
 | some (t,want)=>match (s.env t).v with
  | .bool b=>if b=want then a else k (s.put d ⟨.tup [],.no⟩)
  | .tup []=>k (s.put d ⟨.tup [],.no⟩)
  | _=>none
noncomputable def TA.stepK (call:JB) (lh:LH) (o:TA) (s:aA) (k:aA->Option RV):Option RV:=match o.op with
 | .callh nt x xs=>BJ s o.dst o.guard (KO lh o.dst nt x xs s k) k
 | .nxt x=>BJ s o.dst o.guard (GX o.dst x s k) k
 | _=>(o.step call s).bind k
noncomputable def OG (call:JB) (lh:LH):List TA->aA->(aA->Option RV)->Option RV
 | [],s,k=>k s
 | o :: r,s,k=>o.stepK call lh s fun s=>OG call lh r s k
noncomputable def C.run (call:JB) (lp:LH):C->aA->(Ex->aA->Option RV)->Option RV
 | .skip,s,k=>k .nrm s
 | .seq a b,s,k=>a.run call lp s fun e s=>match e with
  | .nrm=>b.run call lp s k
  | e=>k e s
 | .reg ops,s,k=>OG call lp ops s fun s=>k .nrm { s with next:=s.next + 1 }
 | .cond c t e,s,k=>match c.get s with
  | .bool b=>if b then t.run call lp s k else e.run call lp s k
  | _=>none
 | .block id b,s,k=>b.run call lp s fun e s=>match e with
  | .exit j=>if j=id then k .nrm s else k (.exit j) s
  | e=>k e s
 | .loop b,s,k=>lp b s k
 | .exit id,s,k=>k (.exit id) s
 | .ret,s,k=>k .ret s
inductive ResC where
 | tmp (t:Nat)
 | cell (t:Nat) (agg:Bool) (size:Nat)
structure MA where
 code:C
 res:List ResC
 np:Nat
 mu:List Nat:=[]
def zT (s:aA):List ResC->Option (List AV)
 | []=>some []
 | .tmp t :: r=>(zT s r).map ((s.env t).v :: ·)
 | .cell t agg size :: r=>match (s.env t).v with
  | .ptr t n off=>((s.mem t n).bind (RB agg size off)).bind fun x=>(zT s r).map (x.v :: ·)
  | _=>none
def jW:List AV->AV
 | [v]=>v
 | vs=>.tup vs
def objAt:List AV->Option (Nat × Nat)
 | []=>none
 | .ptr t n 0 :: _=>some (t,n)
 | _ :: r=>objAt r
def QJ (t n:Nat):AV->AV
 | .ptr t' n' o=>if t'=t/\n'=n/\o=0 then .ptr 0 0 0 else .undef
 | v=>v
def AV.frz1 (s:aA):AV->AV
 | .ref t n sz off len c=>match (s.mem t n).bind fun r=>zE r sz off len with
  | some l=>.sl false l
  | none=>.ref t n sz off len c
 | v=>v
def N4 (s:aA) (row:List wA) (sz off len:Nat):Option (List (List AV)):=(uH row sz off len).bind fun l =>
 if (l.map fun c=>c.map (AV.frz1 s)).flatten.all AV.free0=true then some (l.map fun c=>c.map (AV.frz1 s)) else none
def AV.frz0 (s:aA):AV->AV
 | .ref t n sz off len c=>match (s.mem t n).bind fun r=>zE r sz off len with
  | some l=>.sl false l
  | none=>match (s.mem t n).bind fun r=>N4 s r sz off len with
   | some l=>.sl false l
   | none=>.ref t n sz off len c
 | v=>v
def AV.frz (s:aA):AV->AV
 | .agg cs=>.agg (cs.map (AV.frz0 s))
 | v=>v.frz0 s
def tX (S0:Option AV) (s:aA) (vs:List AV):Option RV :=
 match S0 with
 | some _=>if vs.all AV.free then (s.obj 0 0).map fun S=>(jW vs,some S) else none
 | none=>if vs.all AV.free then some (jW vs,none) else match objAt vs with
  | some (t,n)=>match s.obj t n with
   | some S=>if (vs.map (QJ t n)).all (fun v=>v.free||v.isObj) then some (jW (vs.map (QJ t n)),some S) else none
   | none=>none
  | none=>none
def fin (f:MA) (S0:Option AV):Ex->aA->Option RV
 | .exit _,_=>none
 | _,s=>(zT s f.res).bind fun vs=>tX S0 s (vs.map (AV.frz s))
def aA.init (args:List AV) (S0:Option AV):aA:=⟨fun t=>⟨args.getD t .undef,.no⟩,fun _ _=>none,1,fun t n=>if t=0/\n=0 then S0 else none,fun _=>⟨.undef,.no⟩⟩
def aA.initR (args:List AV) (cs:List AV):aA:=⟨fun t=>⟨args.getD t .undef,.no⟩,fun t n=>if t=0/\n=0 then some (cs.map fun v=>⟨v,rB v⟩) else none,1,fun _ _=>none,fun _=>⟨.undef,.no⟩⟩
def aA.drop0 (s:aA):aA:={ s with mem:=fun t n=>if t=0/\n=0 then none else s.mem t n }
def dE (n:Nat) (s:aA) (vs:List AV):Option RV :=
 if vs.all AV.free then (s.mem 0 0).bind fun r =>
  if (r.map fun x=>AV.frz0 s.drop0 x.v).all AV.free0=true/\r.length=n then some (jW vs,some (.agg (r.map fun x=>AV.frz0 s.drop0 x.v))) else none
 else none
def iG (f:MA) (n:Nat):Ex->aA->Option RV
 | .exit _,_=>none
 | _,s=>(zT s f.res).bind fun vs=>dE n s (vs.map (AV.frz s.drop0))
def qR:List AV->Option (List AV)
 | .undef :: .undef :: r=>some r
 | _=>none
def tL (lp:LpT) (b:C) (k:Ex->aA->Option RV):Ex->aA->Option RV
 | .nrm,s=>lp b s k
 | e,s=>k e s
def gJ:List AV->Bool
 | .undef :: _=>true
 | _=>false
def EY (s:aA):List ResC->Option (List wA)
 | []=>some []
 | .tmp t :: r=>(EY s r).map (s.env t :: ·)
 | .cell t agg size :: r=>match (s.env t).v with
  | .ptr t n off=>((s.mem t n).bind (RB agg size off)).bind fun x=>(EY s r).map (⟨x.v,.no⟩ :: ·)
  | _=>none
def AV.tupOk:AV->Bool
 | .bp _ | .bl _ | .fn .. | .tup _=>false
 | _=>true
def DV:List wA->Option wA
 | [x]=>some x
 | l=>if l.all (fun x=>x.v.tupOk) then some ⟨.tup (l.map (·.v)),.no⟩ else none
def mP (f:MA) (k:wA->aA->Option RV):Ex->aA->Option RV
 | .exit _,_=>none
 | _,s=>((EY s f.res).bind DV).bind fun x=>k x s
def aA.initH (s:aA) (args:List wA):aA:={ s with env:=fun t=>args.getD t ⟨.undef,.no⟩ }
mutual
noncomputable def uE (T:Nat->Option MA) (ext:JB):Nat->JB
 | 0,f,args,S0=>match T f with
  | none=>ext f args S0
  | some _=>none
 | n + 1,f,args,S0=>match T f with
  | none=>ext f args S0
  | some c=>match qR args,S0 with
   | some rest,some (.agg cs)=>if rest.length=c.np/\gJ rest=false then c.code.run (uE T ext n) ⟨BK T ext n,kM T ext n⟩ (aA.initR rest cs) (iG c cs.length) else none
   | some _,_=>none
   | none,_=>if args.length=c.np/\gJ args=false/\noItO S0=true then c.code.run (uE T ext n) ⟨BK T ext n,kM T ext n⟩ (aA.init args S0) (fin c S0) else none
noncomputable def BK (T:Nat->Option MA) (ext:JB):Nat->LpT
 | 0,_,_,_=>none
 | n + 1,b,s,k=>b.run (uE T ext n) ⟨BK T ext n,kM T ext n⟩ s (tL (BK T ext n) b k)
noncomputable def kM (T:Nat->Option MA) (ext:JB):Nat->HpT
 | 0,_,_,_,_=>none
 | n + 1,f,args,s,k=>match T f with
  | none=>none
  | some c=>if args.length=c.np then c.code.run (uE T ext n) ⟨BK T ext n,kM T ext n⟩ (s.initH args) (mP c k) else none
end
section
def jZ:Value->Option AV
 | .int k n=>some (.int k n)
 | .bool b=>some (.bool b)
 | .string s=>some (.str s)
 | .pointer none=>some .nilP
 | .slice none 0 0=>some (.sl true [])
 | _=>none
def TK:List Value->Option (List AV)
 | []=>some []
 | v :: r=>match jZ v,TK r with
  | some x,some l=>some (x :: l)
  | _,_=>none
def avC:Value->Option AV
 | .agg cs=>(TK cs.toList).map .agg
 | v=>jZ v
def opd:Operand->Option aC
 | .tmp t=>some (.t t)
 | .const v=>(avC v).map .c
 | .func f=>some (.c (.fn f []))
 | _=>none
section
variable (P:Program)
def bJ (t:TypeId):Option Bool:=(P.underlying t).map fun | .struct _=>true | .array ..=>true | _=>false
def lC (t:TypeId):Option Nat:=(P.info? t).map (·.size)
def HJ (t:TypeId):Option (List AV):=((P.info? t).bind (·.zero)).bind fun z=>TK z.cells.toList
def tScal (t:TypeId):Bool:=match P.underlying t with | some (.int _)=>true | some .string=>true | some .bool=>true | _=>false
def opds:List (Nat × Operand)->Option (List (Nat × aC))
 | []=>some []
 | (i,x) :: r=>match opd x,opds r with
  | some x,some l=>some ((i,x) :: l)
  | _,_=>none
def bH:List Operand->Option (List aC)
 | []=>some []
 | x :: r=>match opd x,bH r with
  | some x,some l=>some (x :: l)
  | _,_=>none
def gW:Option Operand->Option (Option aC)
 | none=>some none
 | some x=>(opd x).map some
def LP (pl:Nat->Option (Nat × Nat)):List (Nat × aC)->Option (List (Nat × Nat × aC))
 | []=>some []
 | (i,x) :: r=>match pl i,LP pl r with
  | some (off,z),some l=>some ((off,z,x) :: l)
  | _,_=>none
def wZ (t:TypeId):Option Nat:=match P.underlying t,lC P t with
 | some (.int _),some 1=>some 0
 | some .string,some 1=>some 1
 | some .bool,some 1=>some 2
 | _,_=>none
def jQ (r:TypeId->Option (List Nat)) (i:Nat):List Field->Option (List Nat)
 | []=>some []
 | f :: fs=>(r f.type).bind fun l=>if f.name≠"_"/\f.offset=i then (jQ r (i + l.length) fs).map (l++·) else none
def wH:Nat->TypeId->Option (List Nat)
 | 0,_=>none
 | n + 1,t=>match wZ P t with
  | some k=>some [k]
  | none=>match P.underlying t with
   | some (.array m e)=>(wH n e).bind fun l=>if P.cellsOf e=l.length/\lC P e=some l.length/\lC P t=some (List.replicate m l).flatten.length then some (List.replicate m l).flatten else none
   | some (.struct fs)=>if P.stoodInHeld t then none else (jQ (wH n) 0 fs.toList).bind fun l=>if lC P t=some l.length then some l else none
   | _=>none
def uR (t:TypeId):Option (List Nat):=if P.eqGuardType P.depth t then none else match P.underlying t with
 | some (.array ..)=>wH P 8 t
 | some (.struct _)=>wH P 8 t
 | _=>none
def scalK (t:TypeId):Option (Option IntKind):=match P.underlying t with
 | some (.int k)=>some (some k)
 | some .string=>some none
 | _=>none
def keysT (t:TypeId):Option (List (Option IntKind)):=match P.underlying t with
 | some (.array n e)=>(scalK P e).map (List.replicate n)
 | some (.struct fs)=>fs.toList.mapM fun f=>scalK P f.type
 | _=>none
def QK:Option IntKind->Nat
 | some _=>0
 | none=>1
def cX (t:TypeId):Option KTy:=match P.underlying t with
 | some (.int k)=>some (.some k)
 | some .string=>some .none
 | _=>(keysT P t).bind fun l=>if uR P t=some (l.map QK)/\l≠[] then some (.agg l) else none
def isBld:List AV->Bool
 | [.nilP,.sl true []]=>true
 | _=>false
def bldEl (e:TypeId):Option TypeId:=if (HJ P e).map isBld=some true then (match P.underlying e with
  | some (.struct fs)=>(fs[1]?).bind fun f=>match P.underlying f.type with
   | some (.slice el)=>some el
   | _=>none
  | _=>none) else none
def isZ:Option Operand->Bool
 | some (.const (.int .i64 n))=>decide (n=0)
 | _=>false
def T9 (cl:Cl) (mu:Option Bool) (o:Go.Op) (nest:Bool:=false):Option K :=
 match o with
 | .move x | .assign x=>(opd x).map .mv
 | .pick c a b=>match opd c,opd a,opd b with
  | some c,some a,some b=>some (.pick c a b)
  | _,_,_=>none
 | .alloc e=>match mu with
  | none=>(HJ P e).map .alloc
  | some _=>(bldEl P e).map (.mkb e)
 | .box e x=>match lC P e,opd x with
  | some z,some x=>some (.box z x)
  | _,_=>none
 | .build t ps=>match P.underlying t,HJ P t,opds ps.toList with
  | some (.struct fs),some z,some ps=>(match fs.toList.mapM (fun f=>(P.info? f.type).map fun i=>(f.offset,i.size)) with
   | some pl=>(LP (pl.toArray[·]?) ps).map (.build z)
   | none=>none)
  | some (.array _ e),some z,some ps=>(match P.info? e with
   | some ie=>(LP (fun i=>some (i * ie.size,ie.size)) ps).map (.build z)
   | none=>none)
  | _,_,_=>none
 | .buildSlice t n ps=>match P.underlying t,opds ps.toList with
  | some (.slice e),some ps=>match HJ P e,lC P e with
   | some z,some k=>if z.length=k/\0<k/\n * k<=16777216 then (match mu with | none=>some (.bsl z n ps) | some _=>some (.bslr k z n ps)) else none
   | _,_=>none
  | _,_=>none
 | .load t x=>match bJ P t,lC P t,opd x with
  | some a,some z,some x=>some (.load cl a z x)
  | _,_,_=>none
 | .store t x y=>match bJ P t,lC P t,opd x,opd y with
  | some a,some z,some x,some y=>if a||z == 1 then some (.store cl a z x y) else none
  | _,_,_,_=>none
 | .binOp op t x y _=>match opd x,opd y with
  | some x,some y=>if tScal P t then some (.bin op (match P.underlying t with | some .bool=>true | _=>false) x y) else
   match op with
   | .eql=>(match P.underlying t with
    | some (.slice _)=>some (.eqn false false x y)
    | some (.pointer _)=>some (.eqn false true x y)
    | _=>(uR P t).map fun ks=>.eqa false ks x y)
   | .neq=>(match P.underlying t with
    | some (.slice _)=>some (.eqn true false x y)
    | some (.pointer _)=>some (.eqn true true x y)
    | _=>(uR P t).map fun ks=>.eqa true ks x y)
   | _=>none
  | _,_=>none
 | .unOp op t x=>if tScal P t then (opd x).map (.un op) else none
 | .convert s d x=>match P.underlying s,P.underlying d,opd x with
  | some (.int _),some (.int k),some x=>some (.conv (some k) x)
  | some .string,some .string,some x=>some (.conv none x)
  | some (.int _),some .string,some x=>some (.rstr x)
  | some (.slice e),some .string,some x=>(match P.underlying e with
   | some (.int .u8)=>if lC P e=some 1 then some (.bstr cl x) else none
   | _=>none)
  | _,_,_=>none
 | .makeSlice t l c=>match P.underlying t,opd l,opd c with
  | some (.slice e),some l,some c=>match HJ P e,P.info? e with
   | some z,some i=>if z.length=i.size/\0<i.size then some (.mks i.size i.bytes z l c) else none
   | _,_=>none
  | _,_,_=>none
 | .entry x=>(opd x).map .ent
 | .slice t x lo hi mx0=>match opd x,gW lo,gW hi,gW mx0 with
  | some x,some l,some h,some m=>match P.underlying t with
   | some .string=>some (.slc true 1 x l h m)
   | some (.slice e)=>(match lo,isZ hi&&isZ mx0 with
    | none,true=>(lC P e).map fun _=>.slz x
    | _,_=>(lC P e).map fun k=>.slc false k x l h m)
   | some (.array n e)=>(match m with
    | none=>(lC P e).map fun k=>.aslc cl n k x l h
    | some _=>none)
   | _=>none
  | _,_,_,_=>none
 | .fieldAddr t x i=>match P.underlying t,opd x with
  | some (.struct fs),some x=>match fs[i]? with
   | some f=>match lC P f.type with
    | some (_ + 1)=>some (.faddr f.offset x)
    | _=>none
   | none=>none
  | _,_=>none
 | .field t x i=>match P.underlying t,opd x with
  | some (.struct fs),some x=>match fs[i]? with
   | some f=>match bJ P f.type,lC P f.type with
    | some a,some z=>some (.field a f.offset z x)
    | _,_=>none
   | none=>none
  | _,_=>none
 | .indexAddr t x i=>match P.underlying t,opd x,opd i with
  | some (.slice e),some x,some i=>(lC P e).map fun k=>.iaddr k x i
  | some (.array n e),some x,some i=>(lC P e).map fun k=>.aaddr n k x i
  | _,_,_=>none
 | .index t x i=>match P.underlying t,opd x,opd i with
  | some .string,some x,some i=>some (.index x i)
  | _,_,_=>none
 | .range t x=>match P.underlying t with
  | some (.map _ _)=>(opd x).map .rng
  | _=>none
 | .makeMap t r=>match r,P.underlying t with
  | none,some (.map kT _)=>(cX P kT).map fun _=>.mkm
  | _,_=>none
 | .lookup t x i ok=>match P.underlying t,opd x,opd i with
  | some (.map kT eT),some x,some i=>match cX P kT,((P.info? eT).bind (·.zero)).bind avC with
   | some ty,some z=>some (.mget ok ty z x i)
   | _,_=>none
  | _,_,_=>none
 | .mapUpdate t m k v=>match P.underlying t,opd m,opd k,opd v with
  | some (.map kT _),some m,some k,some v=>(cX P kT).map fun ty=>.mset ty m k v
  | _,_,_,_=>none
 | .insert t m k v=>match P.underlying t,opd m,opd k,opd v with
  | some (.map kT _),some m,some k,some v=>(cX P kT).map fun ty=>.mset ty m k v
  | _,_,_,_=>none
 | .extract x i=>(opd x).map fun x=>.ext x i
 | .nilCheck x=>(opd x).map .nilchk
 | .call { callee:=.value (.func f),args:=xs,.. }=>match mu with
  | some false=>(match P.funcs[f]? with
   | some fn=>(match fn.resultTypes.toList with
    | [t]=>(match P.underlying t with
     | some (.slice e)=>(match lC P e,bH xs.toList with
      | some z,some xs=>if 0<z then some (.callf cl f z xs) else none
      | _,_=>none)
     | _=>none)
    | _=>none)
   | none=>none)
  | some true=>(bH xs.toList).map (.callr cl f)
  | none=>(bH xs.toList).map (.call cl f)
 | .makeFunc (.func f) fs xs=>if fs.size=0 then (bH xs.toList).map (.mkf f) else none
 | .call { callee:=.value (.tmp t),args:=xs,.. }=>(bH xs.toList).map (.callv cl (.t t))
 | .call { callee:=.builtin .len,args:=xs,argTypes:=ts }=>match bH xs.toList,ts.toList with
  | some [x],[t]=>(match P.underlying t with
   | some .string=>some (.len true x)
   | some (.slice _)=>some (.len false x)
   | some (.map _ _)=>some (.mlen x)
   | _=>none)
  | _,_=>none
 | .call { callee:=.builtin .clear,args:=xs,argTypes:=ts }=>match bH xs.toList,ts.toList with
  | some [x],[t]=>(match P.underlying t with
   | some (.slice e)=>(HJ P e).map fun z=>.clr cl z x
   | _=>none)
  | _,_=>none
 | .call { callee:=.builtin .max,args:=xs,.. }=>match xs.toList with
  | [X,Y]=>(match opd X,opd Y with
   | some x,some y=>some (.mm true x y)
   | _,_=>none)
  | _=>none
 | .call { callee:=.builtin .min,args:=xs,.. }=>match xs.toList with
  | [X,Y]=>(match opd X,opd Y with
   | some x,some y=>some (.mm false x y)
   | _,_=>none)
  | _=>none
 | .call { callee:=.builtin .append,args:=xs,argTypes:=ts }=>match bH xs.toList,ts.toList with
  | some [x,y],[t,t']=>if t=t' then match P.underlying t with
   | some (.slice e)=>match P.info? e,HJ P e with
    | some i,some z=>if z.length=i.size/\0<i.size then some (match mu with | some true=>(if nest then .appn cl e i.size i.bytes x y else .appm cl e i.size i.bytes x y) | some false=>.appf cl e i.size i.bytes x y | none=>.app cl e i.size i.bytes x y) else none
    | _,_=>none
   | _=>none else none
  | _,_=>none
 | _=>none
def O6 (cl:Cl) (mu:Option Bool) (bad nest:Bool) (o:Go.Op):Option K:=match T9 P cl mu o nest with
 | some k=>some k
 | none=>if bad then some .bad else none
def W1 (nt:Nat) (hs:Nat->Bool) (o:Go.Op):Option K:=match o with
 | .call { callee:=.value (.func f),args:=xs,.. }=>if hs (1000000 + f) then (bH xs.toList).map (.callh nt (.c (.fn f []))) else none
 | .call { callee:=.value (.tmp t),args:=xs,.. }=>if hs (2000000 + t) then (bH xs.toList).map (.callh nt (.t t)) else none
 | .next x false=>(opd x).map .nxt
 | _=>none
def XP (boxes:List Nat) (ops:List Oper):Nat->Operand->Option Nat
 | 0,_=>none
 | n + 1,.tmp t=>if boxes.contains t then some t else
  match ops.find? (fun o=>o.dst == some t) with
  | some o=>match o.op with
   | .fieldAddr _ x _=>XP boxes ops n x
   | .move x=>XP boxes ops n x
   | .nilCheck x=>XP boxes ops n x
   | _=>none
  | none=>none
 | _ + 1,_=>none
def isS:K->Bool
 | .store .. | .callr .. | .clr ..=>true
 | _=>false
def isH:K->Bool
 | .callh ..=>true
 | .nxt _=>true
 | _=>false
def N9:K->Bool
 | .alloc _ | .box .. | .mks .. | .appf .. | .appm .. | .appn .. | .bslr .. | .callf ..=>true
 | _=>false
def isM:K->Bool
 | .appm ..=>true
 | .appn ..=>true
 | .callh ..=>true
 | .nxt _=>true
 | _=>false
def BT:K->Bool
 | .call .. | .callf .. | .callv .. | .callr .. | .mkm | .mkb .. | .mget .. | .mset .. | .mlen _ | .rng _ | .ent _=>true
 | _=>false
def isR:K->Bool
 | .mget .. | .mlen _ | .ent _=>true
 | _=>false
def isT:K->Bool
 | .app .. | .appm .. | .appn ..=>true
 | _=>false
def K.cl:K->Option Cl
 | .load cl ..=>some cl
 | .store cl ..=>some cl
 | .clr cl ..=>some cl
 | .call cl ..=>some cl
 | .callf cl ..=>some cl
 | .callv cl ..=>some cl
 | .callr cl ..=>some cl
 | .bstr cl _=>some cl
 | .aslc cl ..=>some cl
 | .app cl ..=>some cl
 | .appf cl ..=>some cl
 | .appm cl ..=>some cl
 | .appn cl ..=>some cl
 | _=>none
def gI (a b:TA):Bool :=
 !isM a.op&&!isM b.op&&(!isT a.op||!isT b.op)&&(!BT a.op||!BT b.op||(isR a.op&&isR b.op)) &&
 (match a.op.cl,b.op.cl with
  | some c,some d=>!(isS a.op||isS b.op)||(match c,d with
   | .imm,_=>true
   | _,.imm=>true
   | .root r,.root r'=>r != r'
   | .root r,.out L=>L.contains r
   | .out L,.root r=>L.contains r
   | _,_=>false)
  | _,_=>true) &&
 (!N9 a.op||(match b.op.cl with | none=>true | some .imm=>true | some (.root r)=>a.dst != some r | some (.out L)=>(match a.dst with | some d=>L.contains d | none=>false) | some .any=>false)) &&
 (!N9 b.op||(match a.op.cl with | none=>true | some .imm=>true | some (.root r)=>b.dst != some r | some (.out L)=>(match b.dst with | some d=>L.contains d | none=>false) | some .any=>false)) &&
 (!N9 a.op||!N9 b.op||a.dst != b.dst)
def isMv (o:TA):Bool:=match o.op,o.guard with
 | .mv (.t _),none=>true
 | _,_=>false
def isN:K->Bool
 | .appm ..=>true
 | .appn ..=>true
 | _=>false
def oO (a b:TA):Bool:=gI a b||((isMv a&&isN b.op)||(isMv b&&isN a.op))
def aQ (ops:List Oper):List Nat :=
 (ops.foldl (fun acc o=>acc.push (o.after.foldl (fun s e=>if Region.binds .any e then s ||| 2 ^ e.on ||| acc.getD e.on 0 else s) 0)) (#[]:Array Nat)).toList
def K.opds:K->List aC
 | .mv x | .box _ x | .load _ _ _ x | .un _ x | .conv _ x | .rstr x | .bstr _ x | .faddr _ x | .field _ _ _ x | .ext x _ | .len _ x | .nilchk x | .rng x | .nxt x | .slz x | .ent x | .clr _ _ x=>[x]
 | .pick c a b=>[c,a,b]
 | .alloc _ | .mkm | .mkb .. | .bad=>[]
 | .mget _ _ _ x k=>[x,k]
 | .mset _ x k v=>[x,k,v]
 | .mlen x=>[x]
 | .build _ ps=>ps.map (·.2.2)
 | .bsl _ _ ps=>ps.map (·.2)
 | .bslr _ _ _ ps=>ps.map (·.2)
 | .store _ _ _ x y | .bin _ _ x y | .mm _ x y | .eqa _ _ x y | .eqn _ _ x y | .mks _ _ _ x y | .iaddr _ x y | .aaddr _ _ x y | .index x y | .app _ _ _ _ x y | .appf _ _ _ _ x y | .appm _ _ _ _ x y | .appn _ _ _ _ x y=>[x,y]
 | .slc _ _ x lo hi mx=>x :: (lo.toList++(hi.toList++mx.toList))
 | .aslc _ _ _ x lo hi=>x :: (lo.toList++hi.toList)
 | .mkf _ xs=>xs
 | .callv _ x xs=>x :: xs
 | .callr _ _ xs=>xs
 | .callh _ x xs=>x :: xs
 | .call _ _ xs=>xs
 | .callf _ _ _ xs=>xs
def TA.looks (o:TA):List Nat:=o.op.opds.filterMap (fun | .t n=>some n | _=>none)++(match o.guard with | some (t,_)=>[t] | none=>[])
def TA.clear (a b:TA):Bool:=match a.dst with
 | some d=>!b.looks.contains d&&b.dst != some d
 | none=>true
def LJ (a b:TA):Bool:=a.clear b&&b.clear a
def nK (o:Oper):List Nat:=o.after.toList.filterMap fun e=>if Region.binds .any e then some e.on else none
def bfOk (ops:List Oper) (bf:List Nat):Bool:=(List.range ops.length).all fun i=>match ops[i]? with
 | some o=>(nK o).all (fun e=>decide (e<i))&&(List.range i).all fun r=>!(bf.getD i 0).testBit r||(nK o).any fun e=>e == r||(decide (r<e)&&(bf.getD e 0).testBit r)
 | none=>false
def HT (ops:List Oper) (cs:List TA):Bool :=
 let bf:=aQ ops
 bfOk ops bf&&(List.range ops.length).all fun j=>(List.range j).all fun i =>
  (bf.getD j 0).testBit i||(match cs[i]?,cs[j]? with
   | some x,some y=>LJ x y&&oO x y
   | _,_=>false)
def mS (cs:List TA):Bool:=(List.range cs.length).all fun j=>match cs[j]? with
 | some y=>!((N9 y.op||BT y.op)&&y.dst.isSome)||(List.range cs.length).all fun i=>i == j||(match cs[i]? with | some x=>x.dst != y.dst | none=>false)
 | none=>false
def turns (o:Oper):Bool:=match o.op with | .store ..=>true | .alloc _=>true | .box ..=>true | .makeSlice ..=>true | .call { callee:=.builtin .append,.. }=>true | .call { callee:=.builtin .clear,.. }=>true | _=>false
def fixed (ops:List Oper) (o:Oper):Bool:=match o.dst with
 | none=>false
 | some d=>match ops.findIdx? (fun p=>p.dst == some d) with
  | none=>false
  | some i=>let bf:=aQ ops
   (List.range ops.length).all fun j=>i == j||!(match ops[j]? with | some p=>turns p | none=>false)||(bf.getD j 0).testBit i||(bf.getD i 0).testBit j
def claim (boxes:List Nat) (adv:Bool) (out:Option (List Nat)) (ops:List Oper) (draw:Bool) (o:Oper):Cl :=
 if !draw then .any else
 if adv then (match o.op with
  | .load _ x=>(match XP boxes ops 10 x with | some t=>.root t | none=>if fixed ops o then .any else .imm)
  | .store _ x _=>(match XP boxes ops 10 x,out with | some t,_=>.root t | none,some L=>.out (L++ops.filterMap fun p=>if turns p then p.dst else none) | none,none=>.any)
  | .call { callee:=.value (.func _),args:=xs,.. }=>(match (xs[0]?).bind (XP (boxes.filter (· == 0)) ops 10) with | some t=>.root t | none=>if fixed ops o||!(ops.any turns) then .any else .imm)
  | _=>if fixed ops o||!(ops.any turns) then .any else .imm) else
 if ops.any (fun o=>match o.op with | .store ..=>true | .call { callee:=.builtin .clear,.. }=>true | .alloc _=>true | .box ..=>true | .makeSlice ..=>true | _=>false) then
  match o.op with
  | .load _ x=>(match XP boxes ops 10 x with | some t=>.root t | none=>.imm)
  | .store _ x _=>(match XP boxes ops 10 x with | some t=>.root t | none=>.any)
  | _=>.imm
 else .any
def dstOk (nt:Nat):Option Nat->Bool
 | some d=>decide (d<nt)
 | none=>true
def lS (boxes:List Nat) (nt:Nat) (all:List Oper) (draw:Bool):List Oper->Option (List TA)
 | []=>some []
 | o :: r=>match (match W1 nt (fun c=>boxes.contains (nt + 1 + c)) o.op with | some k=>some k | none=>(O6 P (claim boxes (boxes.any (nt<·)) (if boxes.contains (nt + 1 + 6000000) then some (boxes.filter (·<nt)) else none) all draw o) (match o.dst with | some d=>if boxes.contains (nt + 1 + (2 * d + 1)) then some true else if boxes.contains (nt + 1 + 2 * d) then some false else none | none=>none) (boxes.contains (nt + 1 + 4000000)) (boxes.contains (nt + 1 + 5000000)) o.op).filter (fun k=>!isH k)),lS boxes nt all draw r with
  | some k,some l =>
   if dstOk nt o.dst then
    match o.guard with
    | none=>some (⟨o.dst,k,none⟩ :: l)
    | some (g,want)=>match (all[g]?).bind (·.dst) with
     | some t=>some (⟨o.dst,k,some (t,want)⟩ :: l)
     | none=>none
   else none
  | _,_=>none
def comp (boxes:List Nat) (nt:Nat):Code->Option C
 | .skip=>some .skip
 | .seq a b=>match comp boxes nt a,comp boxes nt b with
  | some a,some b=>some (.seq a b)
  | _,_=>none
 | .region _ ops draw=>match lS P boxes nt ops.toList draw ops.toList with
  | some cs=>if mS cs&&(!draw||HT ops.toList cs) then some (.reg cs) else none
  | none=>none
 | .cond c t e=>match opd c,comp boxes nt t,comp boxes nt e with
  | some c,some t,some e=>some (.cond c t e)
  | _,_,_=>none
 | .block id b=>(comp boxes nt b).map (.block id)
 | .loop b=>(comp boxes nt b).map .loop
 | .exit id=>some (.exit id)
 | .scope b=>comp boxes nt b
 | .ret=>some .ret
 | _=>none
def IM:Code->List Nat
 | .seq a b=>IM a++IM b
 | .region _ ops _=>ops.toList.filterMap fun o=>match o.op with | .alloc _=>o.dst | .box ..=>o.dst | _=>none
 | .cond _ t e=>IM t++IM e
 | .block _ b=>IM b
 | .loop b=>IM b
 | .scope b=>IM b
 | _=>[]
def WL:List ResultVar->Option (List ResC)
 | []=>some []
 | .tmp t :: r=>(WL r).map (.tmp t :: ·)
 | .cell t ty :: r=>match bJ P ty,lC P ty,WL r with
  | some a,some z,some l=>some (.cell t a z :: l)
  | _,_,_=>none
def xV (mu:List Nat) (fn:Func):Option MA:=match fn.body with
 | none=>none
 | some b=>match comp P (IM b++(if mu.contains 3000000 then [0] else [])++mu.map (fn.ntmps + 1 + ·)) fn.ntmps b,WL P fn.results.toList with
  | some c,some r=>if fn.params.size + fn.nfree<=fn.ntmps then some ⟨c,r,fn.params.size + fn.nfree,mu⟩ else none
  | _,_=>none
end
end
section
open Go.RowKit
structure FD (F:Nat->Prop) (w w':World):Prop where
 os:w'.os=w.os
 tape:w'.tape=w.tape
 output:w'.output=w.output
 size:w.heap.size<=w'.heap.size
 block:∀ k,k<w.heap.size->¬ F k->w'.heap[k]?=w.heap[k]?
section
variable {F G:Nat->Prop} {w w1 w2:World}
theorem FD.refl (F:Nat->Prop) (w:World):FD F w w:=⟨rfl,rfl,rfl,yj _,fun _ _ _=>rfl⟩
theorem FD.trans (h:FD F w w1) (k:FD G w1 w2) (hG:∀ i,i<w.heap.size->G i->F i):FD F w w2 :=
 ⟨k.os.trans h.os,k.tape.trans h.tape,k.output.trans h.output,Nat.le_trans h.size k.size,fun i hi hF =>
  (k.block i (Nat.lt_of_lt_of_le hi h.size) (fun g=>hF (hG i hi g))).trans (h.block i hi hF)⟩
theorem FD.mono (h:FD F w w1) (hG:∀ i,i<w.heap.size->F i->G i):FD G w w1 :=
 ⟨h.os,h.tape,h.output,h.size,fun i hi hg=>h.block i hi fun hf=>hg (hG i hi hf)⟩
theorem FD.of_below (h:Below w.heap.size w w1) (F:Nat->Prop):FD F w w1:=⟨h.os,h.tape,h.output,h.size,fun k hk _=>h.block k hk⟩
theorem FD.below (h:FD (fun _=>False) w w1):Below w.heap.size w w1:=⟨h.os,h.tape,h.output,h.size,fun k hk=>h.block k hk id⟩
theorem FD.alloc (h:FD F w w1) (o:Obj):FD F w (w1.alloc o) :=
 ⟨h.os,h.tape,h.output,by have:=h.size; simp; omega,fun k hk hF=>(Below.heap_alloc w1 o k (Nat.lt_of_lt_of_le hk h.size)).trans (h.block k hk hF)⟩
theorem FD.drew (h:FD F w w1):FD F w w1.drew:=⟨h.os,h.tape,h.output,h.size,h.block⟩
theorem FD.trans_below (h:FD F w w1) (k:Below w1.heap.size w1 w2):FD F w w2:=h.trans (FD.of_below k (fun _=>False)) (fun _ _ h=>h.elim)
theorem FD.grown (h:FD F w w1) {row:Option Nat} (hg:w1.grownBy w2 row) (hr:∀ k,k<w.heap.size->row=some k->F k):FD F w w2 :=
 ⟨hg.os.trans h.os,hg.tape.trans h.tape,hg.output.trans h.output,Nat.le_trans h.size hg.size,fun k hk hF =>
  (hg.block k (Nat.lt_of_lt_of_le hk h.size) (fun e=>hF (hr k hk e.symm))).trans (h.block k hk hF)⟩
theorem FD.cell (h:FD F w w1) {a:Addr} (ha:a.block<w.heap.size) (hF:¬ F a.block):w1.cell? a=w.cell? a:=World.cell?_of_block (w:=w) (h.block _ ha hF)
theorem FD.frozen (h:FD F w w1) {a:Addr} (ha:a.block<w.heap.size) (hF:¬ F a.block):w1.frozen? a=w.frozen? a:=World.frozen?_of_block (w:=w) (h.block _ ha hF)
end
theorem KR {p:Prop} (h:p):Hid p:=h
theorem LA {w:World} {k:Nat} {o:Obj} (h:w.heap[k]?=some o):k<w.heap.size:=by
 rcases Nat.lt_or_ge k w.heap.size with h' | h'
 ·exact h'
 ·rw [Array.getElem?_eq_none h'] at h; cases h
theorem FD.at_ {F:Nat->Prop} {w w1:World} (h:FD F w w1) {a:Addr} {v:Value} (hc:w.cell? a=some v) (hF:¬ F a.block):w1.cell? a=some v:=(h.cell (World.block_lt_of_cell? w a hc) hF).trans hc
theorem FD.fz {F:Nat->Prop} {w w1:World} (h:FD F w w1) {a:Addr} (hc:w.frozen? a=false) (hl:a.block<w.heap.size) (hF:¬ F a.block):w1.frozen? a=false:=(h.frozen hl hF).trans hc
theorem pU {w:World} {o:Obj} {n:Nat} (h:n=w.heap.size):(w.alloc o).heap[n]?=some o:=by rw [h]; exact heap_alloc_new w o
def Sl (av:Nat->Prop) (w:World) (sz:Nat) (v:Value) (n:Nat) (cs:List Value):Prop :=
 cs.length=n * sz/\∃ A c,v=.slice A n c/\n<=c ∧
  (0<n->∃ b off,A=some ⟨b,off,none⟩/\b<w.heap.size/\¬ av b/\∀ j u,cs[j]?=some u->w.cell? ⟨b,off + j,none⟩=some u)
section
variable {av db:Nat->Prop} {w w':World} {sz n:Nat} {v:Value} {cs:List Value}
theorem Sl.nil (av:Nat->Prop) (w:World) (sz:Nat):Sl av w sz (.slice none 0 0) 0 []:=⟨by simp,none,0,rfl,yj _,fun h=>absurd h (by omega)⟩
theorem Sl.keep {F:Nat->Prop} (h:Sl av w sz v n cs) (hk:FD F w w') (hF:∀ b,b<w.heap.size->F b->av b):Sl av w' sz v n cs:=by
 obtain ⟨hl,A,c,rfl,hc,hn⟩:=h;refine ⟨hl,A,c,rfl,hc,fun h0=>?_⟩;obtain ⟨b,off,rfl,hb,oe,ec⟩:=hn h0;exact ⟨b,off,rfl,Nat.lt_of_lt_of_le hb hk.size,oe,fun j u hu=>(hk.cell (a:=⟨b,off + j,none⟩) hb (fun f=>oe (hF b hb f))).trans (ec j u hu)⟩
theorem Sl.below (h:Sl av w sz v n cs) (hk:Below w.heap.size w w'):Sl av w' sz v n cs:=h.keep (FD.of_below hk (fun _=>False)) (fun _ _ h=>h.elim)
theorem Sl.len (h:Sl av w sz v n cs):cs.length=n * sz:=h.1
theorem Sl.zero (av:Nat->Prop) (w:World) (sz:Nat) (A:Option Addr) (c:Nat):Sl av w sz (.slice A 0 c) 0 []:=⟨by simp,A,c,rfl,Nat.zero_le _,fun h=>absurd h (by omega)⟩
end
theorem FD.setRow {F:Nat->Prop} {w w1:World} (h:FD F w w1) {B:Nat} (hF:B<w.heap.size->F B) (cs:Array Value):FD F w (w1.setRow B cs) :=
 ⟨h.os,h.tape,h.output,by have:=h.size; simpa using this,fun k hk hn=>(setRow_other w1 B k cs (fun e=>hn (e ▸ hF (e ▸ hk)))).trans (h.block k hk hn)⟩
/-! maps -/
def qL {κ β:Type} [DecidableEq κ]:List (κ × β)->κ->Option β
 | [],_=>none
 | p :: l,k=>if k=p.1 then some p.2 else qL l k
def XZ {κ β:Type} [DecidableEq κ]:List (κ × β)->κ->β->List (κ × β)
 | [],k,v=>[(k,v)]
 | p :: l,k,v=>if k=p.1 then (k,v) :: l else p :: XZ l k v
section
variable {κ β:Type} [DecidableEq κ]
end
structure iP (P:Program) (T:TypeId) {κ:Type} [DecidableEq κ] (ke:κ->Value):Prop where
 check:∀ (empty:Bool) (k:κ) (w:World),(Instr.checkKey empty 10000 T (ke k)).run P w=.ok () w
 find:∀ (k:κ) (es:List MapEntry) (L:List (κ × Value)) (w:World),es.map (fun e=>(e.key,e.val))=L.map (fun p=>(ke p.1,p.2)) →
  (Instr.findKey T (ke k) es).run P w=.ok (((L.map (·.1)).idxOf? k).bind fun i=>(L[i]?).map fun p=>(i,p.2)) w
 same:∀ (k:κ),Instr.sameBits 10000 (ke k) (ke k)=true
def mO {κ:Type} (ke:κ->Value) (w:World) (m:Nat) (L:List (κ × Value)):Prop :=
 ∃ es clock,w.heap[m]?=some (.map es clock)/\es.toList.map (fun e=>(e.key,e.val))=L.map (fun p=>(ke p.1,p.2))
theorem idx_get {κ β:Type} [DecidableEq κ] (L:List (κ × β)) (k:κ):(((L.map (·.1)).idxOf? k).bind fun i=>(L[i]?).map fun p=>(i,p.2)).map (·.2)=qL L k:=by
 induction L with
 | nil=>simp [qL]
 | cons p l ih =>
  unfold qL;simp only [yf,List.idxOf?_cons];by_cases h:p.1=k
  ·subst h; simp
  ·have h':(p.1 == k)=false:=by simpa using h
   have h2:¬ k=p.1:=fun e=>h e.symm
   rw [h',if_neg h2,<- ih];cases hi:List.idxOf? k (List.map (fun x=>x.1) l) with
   | none=>simp
   | some i=>simp [Function.comp_def]
section
theorem mO.keep {κ:Type} {ke:κ->Value} {w:World} {m:Nat} {L:List (κ × Value)} {F:Nat->Prop} {w':World} (h:mO ke w m L) (hk:FD F w w') (hF:¬ F m):mO ke w' m L:=by
 obtain ⟨es,clock,h1,h2⟩:=h;exact ⟨es,clock,(hk.block m (LA h1) hF).trans h1,h2⟩
theorem mO.lt {κ:Type} {ke:κ->Value} {w:World} {m:Nat} {L:List (κ × Value)} (h:mO ke w m L):m<w.heap.size:=by
 obtain ⟨es,clock,h1,h2⟩:=h;exact LA h1
theorem idx_set {κ β:Type} [DecidableEq κ] (L:List (κ × β)) (k:κ) (v:β):XZ L k v=match (L.map (·.1)).idxOf? k with | some i=>L.set i (k,v) | none=>L++[(k,v)]:=by
 induction L with
 | nil=>simp [XZ]
 | cons p l ih =>
  unfold XZ;simp only [yf,List.idxOf?_cons];by_cases h:p.1=k
  ·subst h; simp
  ·have h':(p.1 == k)=false:=by simpa using h
   have h2:¬ k=p.1:=fun e=>h e.symm
   rw [h',if_neg h2,ih];cases hi:List.idxOf? k (List.map (fun x=>x.1) l) <;> simp
variable {κ:Type} [DecidableEq κ] {P:Program} {T kT eT:TypeId} {ke:κ->Value} {w:World} {m:Nat} {L:List (κ × Value)}
theorem mO.lookup (h:mO ke w m L) (K:iP P kT ke) (hT:P.underlying T=some (.map kT eT)) {z:Value} (hz:(zeroValue eT).run P w=.ok z w) (k:κ) :
  (Instr.lookup T (.map (some m)) (ke k) false).run P w=.ok ((qL L k).getD z) w:=by
 obtain ⟨es,clock,h1,h2⟩:=h;have hg:(getObj m).run P w=.ok (.map es clock) w:=by simp [getObj,Sem.run,h1]
 have hf:=K.find k es.toList L w h2;have hi:=idx_get L k;simp only [Instr.lookup,Sem.run_bind,run_underlying hT,Result.andThen_ok,hg,Sem.run_pure,K.check,hf];rw [<- hi];cases hq:((L.map (·.1)).idxOf? k).bind fun i=>(L[i]?).map fun p=>(i,p.2) with
 | none=>simp [hz]
 | some x=>obtain ⟨i,v⟩:=x; simp
theorem mO.lookup_ok (h:mO ke w m L) (K:iP P kT ke) (hT:P.underlying T=some (.map kT eT)) {z:Value} (hz:(zeroValue eT).run P w=.ok z w) (k:κ) :
  (Instr.lookup T (.map (some m)) (ke k) true).run P w=.ok (.tuple #[(qL L k).getD z,.bool (qL L k).isSome]) w:=by
 obtain ⟨es,clock,h1,h2⟩:=h;have hg:(getObj m).run P w=.ok (.map es clock) w:=by simp [getObj,Sem.run,h1]
 have hf:=K.find k es.toList L w h2;have hi:=idx_get L k;simp only [Instr.lookup,Sem.run_bind,run_underlying hT,Result.andThen_ok,hg,Sem.run_pure,K.check,hf];rw [<- hi];cases hq:((L.map (·.1)).idxOf? k).bind fun i=>(L[i]?).map fun p=>(i,p.2) with
 | none=>simp [hz]
 | some x=>obtain ⟨i,v⟩:=x; simp
theorem FD.setObj {F:Nat->Prop} {w w1:World} (h:FD F w w1) {m:Nat} (hF:F m) (o:Obj):FD F w { w1 with heap:=w1.heap.setIfInBounds m o } :=
 ⟨h.os,h.tape,h.output,by have:=h.size; simpa using this,fun k hk hn=>by
  have:m≠k:=fun e=>hn (e ▸ hF)
  show (w1.heap.setIfInBounds m o)[k]?=_;rw [Array.getElem?_setIfInBounds_ne this];exact h.block k hk hn⟩
end
end
section
open Go Go.RowKit
abbrev Av:=Nat->Nat->Prop
structure Ix where
 f:Nat->Nat->Option Nat
 ob:Nat->Nat->Option (Nat->Prop)
 z:Nat->Nat
instance:CoeFun Ix (fun _=>Nat->Nat->Option Nat):=⟨Ix.f⟩
def Ix.none:Ix:=⟨fun _ _=>.none,fun _ _=>.none,fun _=>0⟩
structure Ix.Le (ι ι':Ix):Prop where
 f:∀ t n b,ι t n=some b->ι' t n=some b
 z:∀ t n b,ι t n=some b->ι'.z b=ι.z b
theorem Ix.Le.refl (ι:Ix):Ix.Le ι ι:=⟨fun _ _ _ h=>h,fun _ _ _ _=>rfl⟩
def AV.scalV:AV->Value
 | .int k n=>.int k n
 | .bool b=>.bool b
 | .str s=>.string s
 | _=>Go.undef
def AV.flatV:AV->Value
 | .agg cs=>.agg (cs.map AV.scalV).toArray
 | v=>v.scalV
def entV:List AV->Value × Value
 | [k,v]=>(k.flatV,v.flatV)
 | _=>(Go.undef,Go.undef)
def L3 (es:Array MapEntry) (clock:Nat):Prop:=clock=es.size/\∀ i (h:i<es.size),es[i].born=i
theorem it_none {S:AV} (h:(itOf S).isSome=true):PS S=none/\bldOf S=none:=by
 unfold itOf at h;split at h
 ·exact ⟨rfl,rfl⟩
 ·cases h
def MapO (L:List (List AV)) (H:Nat->Prop) (p:Nat) (w:World):Prop:=(∀ b,H b ↔ b=p)/\∃ es clock,w.heap[p]?=some (.map es clock)/\es.toList.map (fun e=>(e.key,e.val))=L.map entV/\L3 es clock
def B8 (T e:TypeId) (s:ByteArray) (H:Nat->Prop) (p:Nat) (w:World):Prop :=
 ∃ v q,w.heap[p]?=some (.cells #[q,v] T (0,0))/\(q=.pointer none\/q=.pointer (some ⟨p,0,none⟩))/\w.ownsRowF 0 e 1 v s.size (Go.Lib.strCells s)/\v.ownBlock≠some p/\∀ b,H b ↔ b=p\/v.ownBlock=some b
theorem B8.keep {T e:TypeId} {s:ByteArray} {H:Nat->Prop} {p:Nat} {w w':World} (h:B8 T e s H p w) (hb:∀ b,H b->w'.heap[b]?=w.heap[b]?):B8 T e s H p w':=by
 obtain ⟨v,q,h1,h2,h3,h4,h5⟩:=h;refine ⟨v,q,(hb p ((h5 p).2 (.inl rfl))).trans h1,h2,⟨h3.1,?_⟩,h4,h5⟩;rcases h3.2 with hn | ⟨g,cap,cur,fz,rfl,hbg,hg,rest⟩
 ·exact .inl hn
 ·exact .inr ⟨g,cap,cur,fz,rfl,hbg,(hb g ((h5 g).2 (.inr rfl))).trans hg,rest⟩
theorem B8.lt {T e:TypeId} {s:ByteArray} {H:Nat->Prop} {p b:Nat} {w:World} (h:B8 T e s H p w) (hb:H b):b<w.heap.size:=by
 obtain ⟨v,q,h1,h2,h3,h4,h5⟩:=h;rcases (h5 b).1 hb with rfl | hv
 ·exact LA h1
 ·exact (h3.lt b hv).2
structure JQ where
 at_:AV->(Nat->Prop)->Nat->World->Prop
 keep:∀ {S H p w w'},at_ S H p w->(∀ b,H b->w'.heap[b]?=w.heap[b]?)->w.heap.size<=w'.heap.size->at_ S H p w'
 main:∀ {S H p w},at_ S H p w->H p
 lt:∀ {S H p w b},at_ S H p w->H b->b<w.heap.size
structure PH extends JQ where
 maps:∀ L H p w,at_ (TI L) H p w ↔ MapO L H p w
 blds:∀ T e s H p w,at_ (bldAV T e s) H p w ↔ B8 T e s H p w
 iters:∀ S H p w,(itOf S).isSome=true->(at_ S H p w ↔ ((∀ b,H b ↔ b=p)/\p<w.heap.size))
def JQ.ofAt (O:JQ) (A:AV) (H:Nat->Prop) (p:Nat) (w:World):Prop:=match PS A with
 | some L=>MapO L H p w
 | none=>match bldOf A with
  | some (T,e,s)=>B8 T e s H p w
  | none=>if (itOf A).isSome=true then (∀ b,H b ↔ b=p)/\p<w.heap.size else O.at_ A H p w
def JQ.of (O:JQ):PH where
 at_:=O.ofAt
 keep:=fun {A H p w w'} h hb hs=>by
  unfold JQ.ofAt at h ⊢
  split at h
  ·obtain ⟨h1,es,clock,h2,h3⟩:=h
   exact ⟨h1,es,clock,(hb p ((h1 p).2 rfl)).trans h2,h3⟩
  ·split at h
   ·exact h.keep hb
   ·split at h
    ·rename_i hi
     simp only [hi,if_true]
     exact ⟨h.1,Nat.lt_of_lt_of_le h.2 hs⟩
    ·rename_i hi
     simp only [hi,if_false]
     exact O.keep h hb hs
 main:=fun {A H p w} h=>by
  unfold JQ.ofAt at h
  split at h
  ·exact (h.1 p).2 rfl
  ·split at h
   ·obtain ⟨v,q,h1,h2,h3,h4,h5⟩:=h
    exact (h5 p).2 (.inl rfl)
   ·split at h
    ·exact (h.1 p).2 rfl
    ·exact O.main h
 lt:=fun {A H p w b} h hb=>by
  unfold JQ.ofAt at h
  split at h
  ·obtain ⟨h1,es,clock,h2,h3⟩:=h
   rw [(h1 b).1 hb]
   exact LA h2
  ·split at h
   ·exact h.lt hb
   ·split at h
    ·rw [(h.1 b).1 hb]; exact h.2
    ·exact O.lt h hb
 maps:=fun L H p w=>Iff.rfl
 blds:=fun T e s H p w=>Iff.rfl
 iters:=fun S H p w h=>by
  unfold JQ.ofAt
  rw [(it_none h).1,(it_none h).2]
  simp only [h,if_true]
def noObjs:JQ where
 at_:=fun _ _ _ _=>False
 keep:=fun h _ _=>h.elim
 main:=fun h=>h.elim
 lt:=fun h _=>h.elim
mutual
/-- v reads as x in w,and nothing that it reads lies in av -/
def UE (av:Av) (w:World):AV->Value->Prop
 | .int k n,v=>v=.int k n
 | .bool b,v=>v=.bool b
 | .str s,v=>v=.string s
 | .nilP,v=>v=.pointer none
 | .ip cs,v=>∃ b off,v=.pointer (some ⟨b,off,none⟩)/\RE av w cs b off
 | .sl nil l,v=>∃ A c,v=.slice A l.length c/\l.length<=c/\(∀ x∈l,∀ y∈l,x.length=y.length)/\(nil=true->A=none/\l.length=0/\c=0)/\(nil=false->(A=none->c=0)/\(0<l.length->∃ b off,A=some ⟨b,off,none⟩/\Rows av w l b off))
 | .agg cs,v=>∃ us,v=.agg us/\lD av w cs us.toList
 | .tup xs,v=>∃ us,v=.tuple us/\KN av w xs us.toList
 | .ptr ..,_=>False
 | .bp ..,_=>False
 | .bl ..,_=>False
 | .ref ..,_=>False
 | .mp ..,_=>False
 | .fn ..,_=>False
 | .undef,_=>True
def lD (av:Av) (w:World):List AV->List Value->Prop
 | [],us=>us=[]
 | x :: r,us=>∃ u ta,us=u :: ta/\UE av w x u/\u.oneCell'=true/\lD av w r ta
def KN (av:Av) (w:World):List AV->List Value->Prop
 | [],us=>us=[]
 | x :: r,us=>∃ u ta,us=u :: ta/\UE av w x u/\KN av w r ta
def RE (av:Av) (w:World):List AV->Nat->Nat->Prop
 | [],_,_=>True
 | x :: r,b,off=>(∃ u,w.cell? ⟨b,off,none⟩=some u/\UE av w x u/\u.oneCell'=true)/\¬ av b off/\RE av w r b (off + 1)
def Rows (av:Av) (w:World):List (List AV)->Nat->Nat->Prop
 | [],_,_=>True
 | cs :: r,b,off=>RE av w cs b off/\Rows av w r b (off + cs.length)
end
structure qB (av db:Av) (w w':World):Prop where
 cell:∀ b o u,w.cell? ⟨b,o,none⟩=some u->¬ av b o->w'.cell? ⟨b,o,none⟩=some u/\¬ db b o
mutual
theorem UE.held {av db:Av} {w w':World} (h:qB av db w w'):∀ (x:AV) (v:Value),UE av w x v->UE db w' x v
 | .int _ _,_,hr=>by simpa [UE] using hr
 | .bool _,_,hr=>by simpa [UE] using hr
 | .str _,_,hr=>by simpa [UE] using hr
 | .nilP,_,hr=>by simpa [UE] using hr
 | .ip cs,_,hr=>by
  simp only [UE] at hr ⊢
  obtain ⟨b,off,rfl,hc⟩:=hr
  exact ⟨b,off,rfl,RE.held h cs b off hc⟩
 | .sl nil l,_,hr=>by
  simp only [UE] at hr ⊢
  obtain ⟨A,c,rfl,hc,hu,hn,hs⟩:=hr
  refine ⟨A,c,rfl,hc,hu,hn,fun hf=>⟨(hs hf).1,fun h0=>?_⟩⟩
  obtain ⟨b,off,rfl,na⟩:=(hs hf).2 h0
  exact ⟨b,off,rfl,Rows.held h l b off na⟩
 | .agg cs,_,hr=>by
  simp only [UE] at hr ⊢
  obtain ⟨us,rfl,hc⟩:=hr
  exact ⟨us,rfl,lD.held h cs _ hc⟩
 | .tup xs,_,hr=>by
  simp only [UE] at hr ⊢
  obtain ⟨us,rfl,hc⟩:=hr
  exact ⟨us,rfl,KN.held h xs _ hc⟩
 | .ptr ..,_,hr=>by simp [UE] at hr
 | .bp ..,_,hr=>by simp [UE] at hr
 | .bl ..,_,hr=>by simp [UE] at hr
 | .ref ..,_,hr=>by simp [UE] at hr
 | .mp ..,_,hr=>by simp [UE] at hr
 | .fn ..,_,hr=>by simp [UE] at hr
 | .undef,_,hr=>trivial
theorem lD.held {av db:Av} {w w':World} (h:qB av db w w'):∀ (xs:List AV) (us:List Value),lD av w xs us->lD db w' xs us
 | [],_,hr=>by simpa [lD] using hr
 | x :: r,_,hr=>by
  simp only [lD] at hr ⊢
  obtain ⟨u,ta,rfl,hx,h1,hr⟩:=hr
  exact ⟨u,ta,rfl,UE.held h x u hx,h1,lD.held h r ta hr⟩
theorem KN.held {av db:Av} {w w':World} (h:qB av db w w'):∀ (xs:List AV) (us:List Value),KN av w xs us->KN db w' xs us
 | [],_,hr=>by simpa [KN] using hr
 | x :: r,_,hr=>by
  simp only [KN] at hr ⊢
  obtain ⟨u,ta,rfl,hx,hr⟩:=hr
  exact ⟨u,ta,rfl,UE.held h x u hx,KN.held h r ta hr⟩
theorem RE.held {av db:Av} {w w':World} (h:qB av db w w'):∀ (cs:List AV) (b off:Nat),RE av w cs b off->RE db w' cs b off
 | [],_,_,_=>by simp [RE]
 | x :: r,b,off,hr=>by
  simp only [RE] at hr ⊢
  obtain ⟨⟨u,hc,hx,h1⟩,ha,hr⟩:=hr
  obtain ⟨ae,al⟩:=h.cell b off u hc ha
  exact ⟨⟨u,ae,UE.held h x u hx,h1⟩,al,RE.held h r b (off + 1) hr⟩
theorem Rows.held {av db:Av} {w w':World} (h:qB av db w w'):∀ (l:List (List AV)) (b off:Nat),Rows av w l b off->Rows db w' l b off
 | [],_,_,_=>by simp [Rows]
 | cs :: r,b,off,hr=>by
  simp only [Rows] at hr ⊢
  exact ⟨RE.held h cs b off hr.1,Rows.held h r b (off + cs.length) hr.2⟩
end
theorem qB.refl (av:Av) (w:World):qB av av w w:=⟨fun _ _ _ hc ha=>⟨hc,ha⟩⟩
theorem qB.less {av db:Av} {w:World} (h:∀ b o,db b o->av b o):qB av db w w:=⟨fun _ _ _ hc ha=>⟨hc,fun hx=>ha (h _ _ hx)⟩⟩
def bC (av DC:Av) (w:World):List AV->Nat->Nat->Prop
 | [],_,_=>True
 | x :: r,b,off=>(∃ u,w.cell? ⟨b,off,none⟩=some u/\UE av w x u/\u.oneCell'=true)/\¬ DC b off/\bC av DC w r b (off + 1)
def ZL (av DC:Av) (w:World):List (List AV)->Nat->Nat->Prop
 | [],_,_=>True
 | cs :: r,b,off=>bC av DC w cs b off/\ZL av DC w r b (off + cs.length)
theorem bC.held {av db DC avB':Av} {w w':World} (h:qB av db w w') (hB:qB DC avB' w w'):∀ (cs:List AV) (b off:Nat),bC av DC w cs b off->bC db avB' w' cs b off
 | [],_,_,_=>by simp [bC]
 | x :: r,b,off,hr=>by
  simp only [bC] at hr ⊢;obtain ⟨⟨u,hc,hx,h1⟩,ha,hr⟩:=hr;obtain ⟨ae,al⟩:=hB.cell b off u hc ha;exact ⟨⟨u,ae,UE.held h x u hx,h1⟩,al,bC.held h hB r b (off + 1) hr⟩
theorem ZL.held {av db DC avB':Av} {w w':World} (h:qB av db w w') (hB:qB DC avB' w w'):∀ (l:List (List AV)) (b off:Nat),ZL av DC w l b off->ZL db avB' w' l b off
 | [],_,_,_=>by simp [ZL]
 | cs :: r,b,off,hr=>by
  simp only [ZL] at hr ⊢;exact ⟨bC.held h hB cs b off hr.1,ZL.held h hB r b (off + cs.length) hr.2⟩
def wB (ι:Ix) (av:Av) (w:World):AV->Value->Prop
 | .ptr t n off,v=>∃ b,ι t n=some b/\v=.pointer (some ⟨b,off,none⟩)
 | .ref t n sz off len cap,v=>∃ b,ι t n=some b/\len<=cap/\∃ c,cap<=c/\off + c * sz<=ι.z b/\v=.slice (some ⟨b,off,none⟩) len c
 | .mp t n,v=>∃ b,ι t n=some b/\v=.map (some b)
 | .undef,_=>True
 | x,v=>UE av w x v
def FA (ι:Ix) (av:Av) (w:World):List AV->List Value->Prop
 | [],us=>us=[]
 | x :: r,us=>∃ u ta,us=u :: ta/\wB ι av w x u/\u.oneCell'=true/\FA ι av w r ta
def aP (ι:Ix) (av:Av) (w:World):AV->Value->Prop
 | .agg cs,v=>∃ us,v=.agg us/\FA ι av w cs us.toList
 | x,v=>wB ι av w x v
def AG (ι:Ix) (av:Av) (w:World):List AV->List Value->Prop
 | [],us=>us=[]
 | x :: r,us=>∃ u ta,us=u :: ta/\aP ι av w x u/\AG ι av w r ta
def ZV (ι:Ix) (av DC:Av) (w:World):AV->Value->Prop
 | .bp cs,v=>∃ b off,v=.pointer (some ⟨b,off,none⟩)/\bC av DC w cs b off
 | x,v=>wB ι av w x v
def CG (ι:Ix) (av DC:Av) (w:World):List AV->List Value->Prop
 | [],us=>us=[]
 | x :: r,us=>∃ u ta,us=u :: ta/\ZV ι av DC w x u/\CG ι av DC w r ta
def tB (ι:Ix) (av DC:Av) (w:World):AV->Value->Prop
 | .bp cs,v=>∃ b off,v=.pointer (some ⟨b,off,none⟩)/\bC av DC w cs b off
 | .bl l,v=>∃ a c,v=.slice (some a) l.length c/\l.length<=c/\(∀ x∈l,∀ y∈l,x.length=y.length)/\(0<l.length->∃ b off,a=⟨b,off,none⟩/\ZL av DC w l b off)
 | .agg cs,v=>∃ us,v=.agg us/\FA ι av w cs us.toList
 | .tup xs,v=>∃ us,v=.tuple us/\AG ι av w xs us.toList
 | .fn f cs,v=>∃ us,v=.func (.func f) #[] us/\CG ι av DC w cs us.toList
 | .undef,_=>True
 | x,v=>wB ι av w x v
theorem wB.held {ι ι':Ix} {av db:Av} {w w':World} (hι:Ix.Le ι ι') (h:qB av db w w') (x:AV) (v:Value) (hr:wB ι av w x v):wB ι' db w' x v:=by
 cases x <;> first
  | exact UE.held h _ v hr
  | (obtain ⟨b,hb,h1,c,h2,h3,hv⟩:=hr; exact ⟨b,hι.f _ _ _ hb,h1,c,h2,by rw [hι.z _ _ _ hb]; exact h3,hv⟩)
  | (obtain ⟨b,hb,hv⟩:=hr; exact ⟨b,hι.f _ _ _ hb,hv⟩)
  | trivial
theorem FA.held {ι ι':Ix} {av db:Av} {w w':World} (hι:Ix.Le ι ι') (h:qB av db w w'):∀ (xs:List AV) (us:List Value),FA ι av w xs us->FA ι' db w' xs us
 | [],_,hr=>by simpa [FA] using hr
 | x :: r,_,hr=>by
  simp only [FA] at hr ⊢;obtain ⟨u,ta,rfl,hx,h1,hr⟩:=hr;exact ⟨u,ta,rfl,wB.held hι h x u hx,h1,FA.held hι h r ta hr⟩
theorem aP.held {ι ι':Ix} {av db:Av} {w w':World} (hι:Ix.Le ι ι') (h:qB av db w w') (x:AV) (v:Value) (hr:aP ι av w x v):aP ι' db w' x v:=by
 cases x with
 | agg cs=>obtain ⟨us,hv,hc⟩:=hr; exact ⟨us,hv,FA.held hι h _ _ hc⟩
 | int=>exact wB.held hι h (.int _ _) v hr
 | bool=>exact wB.held hι h (.bool _) v hr
 | str=>exact wB.held hι h (.str _) v hr
 | nilP=>exact wB.held hι h .nilP v hr
 | ptr t n o=>exact wB.held hι h (.ptr t n o) v hr
 | ip cs=>exact wB.held hι h (.ip cs) v hr
 | bp cs=>exact wB.held hι h (.bp cs) v hr
 | sl n l=>exact wB.held hι h (.sl n l) v hr
 | bl l=>exact wB.held hι h (.bl l) v hr
 | ref a b c d e f=>exact wB.held hι h (.ref a b c d e f) v hr
 | mp t n=>exact wB.held hι h (.mp t n) v hr
 | fn f cs=>exact wB.held hι h (.fn f cs) v hr
 | tup cs=>exact wB.held hι h (.tup cs) v hr
 | undef=>trivial
theorem AG.held {ι ι':Ix} {av db:Av} {w w':World} (hι:Ix.Le ι ι') (h:qB av db w w'):∀ (xs:List AV) (us:List Value),AG ι av w xs us->AG ι' db w' xs us
 | [],_,hr=>by simpa [AG] using hr
 | x :: r,_,hr=>by
  simp only [AG] at hr ⊢;obtain ⟨u,ta,rfl,hx,hr⟩:=hr;exact ⟨u,ta,rfl,aP.held hι h x u hx,AG.held hι h r ta hr⟩
theorem ZV.held {ι ι':Ix} {av db DC avB':Av} {w w':World} (hι:Ix.Le ι ι') (h:qB av db w w') (hB:qB DC avB' w w') (x:AV) (v:Value) (hr:ZV ι av DC w x v):ZV ι' db avB' w' x v:=by
 match x,hr with
 | .bp cs,⟨b,off,hv,hc⟩=>exact ⟨b,off,hv,bC.held h hB _ b off hc⟩
 | .int k n,hr=>exact wB.held hι h (.int k n) v hr
 | .bool b,hr=>exact wB.held hι h (.bool b) v hr
 | .str s,hr=>exact wB.held hι h (.str s) v hr
 | .nilP,hr=>exact wB.held hι h .nilP v hr
 | .ptr t n off,hr=>exact wB.held hι h (.ptr t n off) v hr
 | .ip cs,hr=>exact wB.held hι h (.ip cs) v hr
 | .sl n l,hr=>exact wB.held hι h (.sl n l) v hr
 | .mp t n,hr=>exact wB.held hι h (.mp t n) v hr
 | .ref t n sz off len cap,hr=>exact wB.held hι h (.ref t n sz off len cap) v hr
 | .undef,hr=>trivial
 | .agg cs,hr=>exact wB.held hι h (.agg cs) v hr
 | .tup cs,hr=>exact wB.held hι h (.tup cs) v hr
theorem CG.held {ι ι':Ix} {av db DC avB':Av} {w w':World} (hι:Ix.Le ι ι') (h:qB av db w w') (hB:qB DC avB' w w'):∀ (xs:List AV) (us:List Value),CG ι av DC w xs us->CG ι' db avB' w' xs us
 | [],_,hr=>by simpa [CG] using hr
 | x :: r,_,hr=>by
  simp only [CG] at hr ⊢;obtain ⟨u,ta,rfl,hx,hr⟩:=hr;exact ⟨u,ta,rfl,ZV.held hι h hB x u hx,CG.held hι h hB r ta hr⟩
theorem tB.held {ι ι':Ix} {av db DC avB':Av} {w w':World} (hι:Ix.Le ι ι') (h:qB av db w w') (hB:qB DC avB' w w') (x:AV) (v:Value) (hr:tB ι av DC w x v):tB ι' db avB' w' x v:=by
 match x,hr with
 | .bp cs,⟨b,off,hv,hc⟩=>exact ⟨b,off,hv,bC.held h hB _ b off hc⟩
 | .bl l,⟨a,c,hv,hl,hu,hc⟩ =>
  refine ⟨a,c,hv,hl,hu,fun h0=>?_⟩;obtain ⟨b,off,ha,hr⟩:=hc h0;exact ⟨b,off,ha,ZL.held h hB _ b off hr⟩
 | .agg cs,⟨us,hv,hc⟩=>exact ⟨us,hv,FA.held hι h _ _ hc⟩
 | .undef,_=>trivial
 | .int k n,hr=>exact wB.held hι h (.int k n) v hr
 | .bool b,hr=>exact wB.held hι h (.bool b) v hr
 | .str s,hr=>exact wB.held hι h (.str s) v hr
 | .nilP,hr=>exact wB.held hι h .nilP v hr
 | .ptr t n off,hr=>exact wB.held hι h (.ptr t n off) v hr
 | .ip cs,hr=>exact wB.held hι h (.ip cs) v hr
 | .sl n l,hr=>exact wB.held hι h (.sl n l) v hr
 | .mp t n,hr=>exact wB.held hι h (.mp t n) v hr
 | .ref t n sz off len cap,hr=>exact wB.held hι h (.ref t n sz off len cap) v hr
 | .tup vs,⟨us,hv,hc⟩=>exact ⟨us,hv,AG.held hι h _ _ hc⟩
 | .fn f cs,⟨us,hv,hc⟩=>exact ⟨us,hv,CG.held hι h hB _ _ hc⟩
end
section
open Go Go.RowKit
structure XO where
 b:Nat->Prop
 p:Option Nat
 r:Nat->Prop
 z:Nat
 /-- what the slots of the calls that wait fj -/
 g:Nat->Value
instance:CoeFun XO (fun _=>Nat->Prop):=⟨XO.b⟩
structure Ow where
 g:Nat
 n:Nat
 c:Nat
 sz:Nat
 e:TypeId
abbrev CK:=Nat->Option Ow
def Ix.has (ι:Ix) (b:Nat):Prop:=(∃ t n,ι t n=some b)\/∃ t n H,ι.ob t n=some H/\H b
def DC (ι:Ix) (Θ:CK):Av:=fun b o=>ι.has b\/(∃ k ow,Θ k=some ow/\ow.g=b/\ow.n * ow.sz<=o)
def KC (da:Av) (ι:Ix) (Θ:CK):Av:=fun b o=>da b o\/DC ι Θ b o
def exV (v:Value):Prop:=∃ A n,v=.slice A n n
def DL (Θ:CK):An->Value->Prop
 | .no,_=>True
 | .ex,v=>exV v
 | .own k e,v=>exV v\/∃ ow,Θ k=some ow/\ow.e=e/\v=.slice (some ⟨ow.g,0,none⟩) ow.n ow.c
def rE (ι:Ix) (Θ:CK) (av:Av) (w:World) (r:List wA) (cur:Array Value):Prop :=
 r.length<=cur.size/\∀ (j:Nat) (x:wA),r[j]?=some x->∃ u,cur[j]?=some u/\u.oneCell'=true/\wB ι av w x.v u/\DL Θ x.a u
def ObOk (B:Nat) (F0:XO) (D:Nat->Prop) (next:Nat) (w:World) (ι:Ix) (Θ:CK) (t n:Nat) (H:Nat->Prop):Prop :=
 (∀ b,H b->(B<=b\/F0 b)/\b<w.heap.size/\(∀ t' n',ι t' n'=some b->t'=t/\n'=n)/\(∀ k o,Θ k=some o->o.g≠b)/\∀ t' n' H',ι.ob t' n'=some H'->H' b->t'=t/\n'=n)/\(n<next\/n=next/\D t)
def Tie (ι:Ix) (S:AV) (p:Nat) (w:World):Prop:=∀ tm nm N seen,itOf S=some (tm,nm,N,seen)->∃ m H,ι tm nm=some m/\ι.ob tm nm=some H/\w.heap[p]?=some (.mapIter (some m) N seen.toArray N)
theorem Tie.no {ι:Ix} {S:AV} {p:Nat} {w:World} (h:noIt S=true):Tie ι S p w:=fun tm nm N seen e=>by
 unfold noIt at h;rw [e] at h;cases h
theorem Tie.keep {ι ι':Ix} {S:AV} {p:Nat} {w w':World} (h:Tie ι S p w) (hι:∀ t n b H,ι t n=some b->ι.ob t n=some H->ι' t n=some b/\∃ H',ι'.ob t n=some H') (hp:∀ x,w.heap[p]?=some x->w'.heap[p]?=some x):Tie ι' S p w':=fun tm nm N seen e=>by
 obtain ⟨m,H,h1,h2,h3⟩:=h tm nm N seen e;obtain ⟨g1,H',g2⟩:=hι _ _ _ _ h1 h2;exact ⟨m,H',g1,g2,hp _ h3⟩
structure mC (P:Program) (O:PH) (nt B:Nat) (F0:XO) (da:Av) (w0:World) (D:Nat->Prop) (s:aA) (a:Act) (w:World) (ι:Ix) (Θ:CK):Prop where
 defers:a.defers=[]
 size:a.tmps.size=nt
 env:∀ t,tB ι (KC da ι Θ) (DC ι Θ) w (s.env t).v (a.tmps.getD t undef)
 ann:∀ t,DL Θ (s.env t).a (a.tmps.getD t undef)
 rows:∀ t n r,s.mem t n=some r->ι.ob t n=none/\∃ b cur ty,ι t n=some b/\w.heap[b]?=some (.cells cur ty (0,0))/\rE ι Θ (KC da ι Θ) w r cur/\(B<=b\/F0.r b)/\cur.size=ι.z b
 mine:∀ t n b,ι t n=some b->(B<=b\/F0 b)/\b<w.heap.size/\(n<s.next\/n=s.next/\D t)
 inj:∀ t n t' n' b,ι t n=some b->ι t' n'=some b->t=t'/\n=n'
 tok:∀ k o,Θ k=some o->B<=o.g/\0<o.sz/\o.n<=o.c/\o.c<=maxLen/\∃ cur,w.heap[o.g]?=some (.cells cur o.e (0,0))/\(cur.size=o.c * o.sz/\lC P o.e=some o.sz)
 tinj:∀ k k' o o',Θ k=some o->Θ k'=some o'->o.g=o'.g->k=k'
 apart:∀ k o t n,Θ k=some o->ι t n≠some o.g
 out:∀ b o,da b o->b<B
 pin:∀ p,F0.p=some p->ι 0 0=some p/\((F0.r p/\ι.z p=F0.z)\/∃ H,ι.ob 0 0=some H)
 kept:FD F0.b w0 w
 base:B=w0.heap.size
 objs:∀ t n S,s.obj t n=some S->∃ p H,ι t n=some p/\ι.ob t n=some H/\O.at_ S H p w/\Tie ι S p w
 obs:∀ t n H,ι.ob t n=some H->ObOk B F0 D s.next w ι Θ t n H
 gen:∀ t,tB ι (KC da ι Θ) (DC ι Θ) w (s.gh t).v (F0.g t)
 gann:∀ t,DL Θ (s.gh t).a (F0.g t)
section
variable {P:Program} {O:PH} {nt B:Nat} {F0:XO} {da:Av} {w0:World} {D:Nat->Prop} {s:aA} {a:Act} {w w':World} {ι:Ix} {Θ:CK}
theorem QL {w:World} {b o:Nat} {u:Value} (h:w.cell? ⟨b,o,none⟩=some u):b<w.heap.size:=World.block_lt_of_cell? w ⟨b,o,none⟩ (by exact h)
theorem qB.grown {av db:Av} (hb:∀ b,b<w.heap.size->w'.heap[b]?=w.heap[b]?) (ha:∀ b o,b<w.heap.size->db b o->av b o):qB av db w w' :=
 ⟨fun b o _ hc hn=>⟨(World.cell?_of_block (w:=w) (a:=⟨b,o,none⟩) (hb b (QL hc))).trans hc,fun h=>hn (ha b o (QL hc) h)⟩⟩
theorem rE.held {ι ι':Ix} {Θ Θ':CK} {av db:Av} {r:List wA} {cur:Array Value} (h:rE ι Θ av w r cur) (hι:Ix.Le ι ι') (hh:qB av db w w') (hΘ:∀ k o,Θ k=some o->Θ' k=some o):rE ι' Θ' db w' r cur:=by
 refine ⟨h.1,fun j x hx=>?_⟩;obtain ⟨u,hu,h1,hr,ha⟩:=h.2 j x hx;refine ⟨u,hu,h1,wB.held hι hh _ _ hr,?_⟩;cases hxa:x.a with
 | no=>trivial
 | ex=>rw [hxa] at ha; exact ha
 | own k e =>
  rw [hxa] at ha;rcases ha with ha | ⟨ow,h1,h2⟩
  ·exact .inl ha
  ·exact .inr ⟨ow,hΘ _ _ h1,h2⟩
theorem ObOk.grow {t n:Nat} {H:Nat->Prop} {next:Nat} (h:ObOk B F0 D next w ι Θ t n H) (hs:w.heap.size<=w'.heap.size):ObOk B F0 D next w' ι Θ t n H :=
 ⟨fun b hb=>let ⟨h1,h2,h3⟩:=h.1 b hb; ⟨h1,Nat.lt_of_lt_of_le h2 hs,h3⟩,h.2⟩
theorem mC.grow (R:mC P O nt B F0 da w0 D s a w ι Θ) (hb:∀ b,b<w.heap.size->w'.heap[b]?=w.heap[b]?) (hs:w.heap.size<=w'.heap.size) (hw:FD F0.b w0 w'):mC P O nt B F0 da w0 D s a w' ι Θ:=by
 have hA:qB (KC da ι Θ) (KC da ι Θ) w w':=qB.grown hb fun _ _ _ h=>h
 have hB:qB (DC ι Θ) (DC ι Θ) w w':=qB.grown hb fun _ _ _ h=>h
 refine ⟨R.defers,R.size,fun t=>tB.held (Ix.Le.refl _) hA hB _ _ (R.env t),R.ann,fun t n r hr=>?_,fun t n b h=>?_,R.inj,fun k o h=>?_,R.tinj,R.apart,R.out,R.pin,hw,R.base,fun t n S h=>?_,fun t n H h=>(R.obs t n H h).grow hs,fun t=>tB.held (Ix.Le.refl _) hA hB _ _ (R.gen t),R.gann⟩
 ·obtain ⟨h0,b,cur,ty,h1,h2,h3,h4⟩:=R.rows t n r hr;exact ⟨h0,b,cur,ty,h1,(hb b (LA h2)).trans h2,h3.held (Ix.Le.refl _) hA (fun _ _ h=>h),h4⟩
 ·obtain ⟨h1,h2,h3⟩:=R.mine t n b h;exact ⟨h1,by omega,h3⟩
 ·obtain ⟨h1,h2,h3,h4,cur,h5,h6⟩:=R.tok k o h;exact ⟨h1,h2,h3,h4,cur,(hb _ (LA h5)).trans h5,h6⟩
 ·obtain ⟨p,H,h1,h2,h3,h4⟩:=R.objs t n S h;exact ⟨p,H,h1,h2,O.keep h3 (fun b hH=>hb b (O.lt h3 hH)) hs,h4.keep (fun t n b H h g=>⟨h,H,g⟩) fun x hx=>(hb _ (LA hx)).trans hx⟩
theorem B6 {a:Act} {d t:Nat} {v:Value} (hd:d<a.tmps.size):(a.put (some d) v).tmps.getD t undef=if t=d then v else a.tmps.getD t undef:=by
 simp only [Act.put,Y01,Array.getElem?_setIfInBounds];by_cases h:d=t
 ·subst h; simp [hd]
 ·have h':¬ t=d:=fun e=>h e.symm
  simp [h,h']
theorem mC.put (R:mC P O nt B F0 da w0 D s a w ι Θ) {d:Nat} (hd:d<nt) {x:wA} {v:Value} (hx:tB ι (KC da ι Θ) (DC ι Θ) w x.v v) (ha:DL Θ x.a v):mC P O nt B F0 da w0 D (s.put (some d) x) (a.put (some d) v) w ι Θ:=by
 have aj:d<a.tmps.size:=by rw [R.size]; exact hd
 refine ⟨R.defers,by simpa [Act.put] using R.size,fun t=>?_,fun t=>?_,R.rows,R.mine,R.inj,R.tok,R.tinj,R.apart,R.out,R.pin,R.kept,R.base,R.objs,R.obs,R.gen,R.gann⟩
 ·rw [B6 aj];simp only [aA.put];by_cases h:t=d
  ·simp only [if_pos h]; exact hx
  ·simp only [if_neg h]; exact R.env t
 ·rw [B6 aj];simp only [aA.put];by_cases h:t=d
  ·simp only [if_pos h]; exact ha
  ·simp only [if_neg h]; exact R.ann t
theorem mC.putN (R:mC P O nt B F0 da w0 D s a w ι Θ) {d:Option Nat} (hd:∀ t,d=some t->t<nt) {x:wA} {v:Value} (hx:tB ι (KC da ι Θ) (DC ι Θ) w x.v v) (ha:DL Θ x.a v):mC P O nt B F0 da w0 D (s.put d x) (a.put d v) w ι Θ:=by
 cases d with
 | none=>exact R
 | some d=>exact R.put (hd d rfl) hx ha
theorem mC.more (R:mC P O nt B F0 da w0 D s a w ι Θ) {D':Nat->Prop} (h:∀ t,D t->D' t):mC P O nt B F0 da w0 D' s a w ι Θ :=
 ⟨R.defers,R.size,R.env,R.ann,R.rows,fun t n b hb=>let ⟨h1,h2,h3⟩:=R.mine t n b hb; ⟨h1,h2,h3.imp id fun ⟨e,d⟩=>⟨e,h t d⟩⟩,R.inj,R.tok,R.tinj,R.apart,R.out,R.pin,R.kept,R.base,R.objs,fun t n H hb=>⟨(R.obs t n H hb).1,(R.obs t n H hb).2.imp id fun ⟨e,d⟩=>⟨e,h t d⟩⟩,R.gen,R.gann⟩
structure Ix.Lk (t n:Nat) (ι ι':Ix):Prop where
 f:∀ t' n' b,¬ (t'=t/\n'=n)->ι t' n'=some b->ι' t' n'=some b
 z:∀ t n b,ι t n=some b->ι'.z b=ι.z b
theorem wB.kill {t n:Nat} {ι ι':Ix} {av db:Av} (hι:Ix.Lk t n ι ι') (h:qB av db w w') (x:AV) (v:Value) (hr:wB ι av w x v):wB ι' db w' (x.kill0 t n) v:=by
 cases x with
 | ptr t' n' o =>
  obtain ⟨b,hb,hv⟩:=hr;simp only [AV.kill0];split
  ·trivial
  ·rename_i ma; exact ⟨b,hι.f _ _ _ ma hb,hv⟩
 | ref t' n' sz o l c =>
  obtain ⟨b,hb,h1,c',h2,h3,hv⟩:=hr;simp only [AV.kill0];split
  ·trivial
  ·rename_i ma; exact ⟨b,hι.f _ _ _ ma hb,h1,c',h2,by rw [hι.z _ _ _ hb]; exact h3,hv⟩
 | mp t' n' =>
  obtain ⟨b,hb,hv⟩:=hr;simp only [AV.kill0];split
  ·trivial
  ·rename_i ma; exact ⟨b,hι.f _ _ _ ma hb,hv⟩
 | undef=>trivial
 | _=>exact UE.held h _ v hr
theorem FA.kill {t n:Nat} {ι ι':Ix} {av db:Av} (hι:Ix.Lk t n ι ι') (h:qB av db w w'):∀ (xs:List AV) (us:List Value),FA ι av w xs us->FA ι' db w' (xs.map (AV.kill0 t n)) us
 | [],_,hr=>by simpa [FA] using hr
 | x :: r,_,hr=>by
  simp only [FA] at hr;obtain ⟨u,ta,rfl,hx,h1,hr⟩:=hr;exact ⟨u,ta,rfl,wB.kill hι h x u hx,h1,FA.kill hι h r ta hr⟩
theorem aP.kill {t n:Nat} {ι ι':Ix} {av db:Av} (hι:Ix.Lk t n ι ι') (h:qB av db w w') (x:AV) (v:Value) (hr:aP ι av w x v):aP ι' db w' (x.kill1 t n) v:=by
 cases x with
 | agg cs=>obtain ⟨us,hv,hc⟩:=hr; exact ⟨us,hv,FA.kill hι h _ _ hc⟩
 | ptr t' n' o =>
  have:=wB.kill hι h (.ptr t' n' o) v hr;show aP ι' db w' (AV.kill0 t n (.ptr t' n' o)) v;simp only [AV.kill0] at this ⊢;split
  ·trivial
  ·rename_i ma; rw [if_neg ma] at this; exact this
 | ref t' n' sz o l c =>
  have:=wB.kill hι h (.ref t' n' sz o l c) v hr;show aP ι' db w' (AV.kill0 t n (.ref t' n' sz o l c)) v;simp only [AV.kill0] at this ⊢;split
  ·trivial
  ·rename_i ma; rw [if_neg ma] at this; exact this
 | mp t' n' =>
  have:=wB.kill hι h (.mp t' n') v hr;show aP ι' db w' (AV.kill0 t n (.mp t' n')) v;simp only [AV.kill0] at this ⊢;split
  ·trivial
  ·rename_i ma; rw [if_neg ma] at this; exact this
 | undef=>trivial
 | int=>exact wB.kill hι h (.int _ _) v hr
 | bool=>exact wB.kill hι h (.bool _) v hr
 | str=>exact wB.kill hι h (.str _) v hr
 | nilP=>exact wB.kill hι h .nilP v hr
 | ip=>exact wB.kill hι h (.ip _) v hr
 | sl n' l=>exact wB.kill hι h (.sl n' l) v hr
 | tup cs=>exact wB.kill hι h (.tup cs) v hr
 | bl cs=>exact wB.kill hι h (.bl cs) v hr
 | bp cs=>exact wB.kill hι h (.bp cs) v hr
 | fn f cs=>exact wB.kill hι h (.fn f cs) v hr
theorem AG.kill {t n:Nat} {ι ι':Ix} {av db:Av} (hι:Ix.Lk t n ι ι') (h:qB av db w w'):∀ (xs:List AV) (us:List Value),AG ι av w xs us->AG ι' db w' (xs.map (AV.kill1 t n)) us
 | [],_,hr=>by simpa [AG] using hr
 | x :: r,_,hr=>by
  simp only [AG] at hr;obtain ⟨u,ta,rfl,hx,hr⟩:=hr;exact ⟨u,ta,rfl,aP.kill hι h x u hx,AG.kill hι h r ta hr⟩
theorem ZV.kill {t n:Nat} {ι ι':Ix} {av db DC avB':Av} (hι:Ix.Lk t n ι ι') (h:qB av db w w') (hB:qB DC avB' w w') (x:AV) (v:Value) (hr:ZV ι av DC w x v):ZV ι' db avB' w' (x.kill0 t n) v:=by
 cases x with
 | bp cs=>obtain ⟨b,off,hv,hc⟩:=hr; exact ⟨b,off,hv,bC.held h hB _ b off hc⟩
 | ptr t' n' o =>
  have:=wB.kill hι h (.ptr t' n' o) v hr;simp only [AV.kill0] at this ⊢;split
  ·trivial
  ·rename_i ma; rw [if_neg ma] at this; exact this
 | ref t' n' sz o l c =>
  have:=wB.kill hι h (.ref t' n' sz o l c) v hr;simp only [AV.kill0] at this ⊢;split
  ·trivial
  ·rename_i ma; rw [if_neg ma] at this; exact this
 | mp t' n' =>
  have:=wB.kill hι h (.mp t' n') v hr;simp only [AV.kill0] at this ⊢;split
  ·trivial
  ·rename_i ma; rw [if_neg ma] at this; exact this
 | undef=>trivial
 | int=>exact wB.kill hι h (.int _ _) v hr
 | bool=>exact wB.kill hι h (.bool _) v hr
 | str=>exact wB.kill hι h (.str _) v hr
 | nilP=>exact wB.kill hι h .nilP v hr
 | ip=>exact wB.kill hι h (.ip _) v hr
 | sl=>exact wB.kill hι h (.sl _ _) v hr
 | agg cs=>exact wB.kill hι h (.agg cs) v hr
 | tup cs=>exact wB.kill hι h (.tup cs) v hr
 | bl cs=>exact wB.kill hι h (.bl cs) v hr
 | fn f cs=>exact wB.kill hι h (.fn f cs) v hr
theorem CG.kill {t n:Nat} {ι ι':Ix} {av db DC avB':Av} (hι:Ix.Lk t n ι ι') (h:qB av db w w') (hB:qB DC avB' w w'):∀ (xs:List AV) (us:List Value),CG ι av DC w xs us->CG ι' db avB' w' (xs.map (AV.kill0 t n)) us
 | [],_,hr=>by simpa [CG] using hr
 | x :: r,_,hr=>by
  simp only [CG] at hr;obtain ⟨u,ta,rfl,hx,hr⟩:=hr;exact ⟨u,ta,rfl,ZV.kill hι h hB x u hx,CG.kill hι h hB r ta hr⟩
theorem tB.kill {t n:Nat} {ι ι':Ix} {av db DC avB':Av} (hι:Ix.Lk t n ι ι') (h:qB av db w w') (hB:qB DC avB' w w') (x:AV) (v:Value) (hr:tB ι av DC w x v):tB ι' db avB' w' (x.kill t n) v:=by
 cases x with
 | bp cs=>obtain ⟨b,off,hv,hc⟩:=hr; exact ⟨b,off,hv,bC.held h hB _ b off hc⟩
 | bl l =>
  obtain ⟨a,c,hv,hl,hu,hc⟩:=hr;refine ⟨a,c,hv,hl,hu,fun h0=>?_⟩;obtain ⟨b,off,ha,hr⟩:=hc h0;exact ⟨b,off,ha,ZL.held h hB _ b off hr⟩
 | agg cs=>obtain ⟨us,hv,hc⟩:=hr; exact ⟨us,hv,FA.kill hι h _ _ hc⟩
 | tup cs=>obtain ⟨us,hv,hc⟩:=hr; exact ⟨us,hv,AG.kill hι h _ _ hc⟩
 | fn f cs=>obtain ⟨us,hv,hc⟩:=hr; exact ⟨us,hv,CG.kill hι h hB _ _ hc⟩
 | undef=>trivial
 | ptr t' n' o =>
  have:=wB.kill hι h (.ptr t' n' o) v hr;show tB ι' db avB' w' (AV.kill0 t n (.ptr t' n' o)) v;simp only [AV.kill0] at this ⊢;split
  ·trivial
  ·rename_i ma; rw [if_neg ma] at this; exact this
 | ref t' n' sz o l c =>
  have:=wB.kill hι h (.ref t' n' sz o l c) v hr;show tB ι' db avB' w' (AV.kill0 t n (.ref t' n' sz o l c)) v;simp only [AV.kill0] at this ⊢;split
  ·trivial
  ·rename_i ma; rw [if_neg ma] at this; exact this
 | mp t' n' =>
  have:=wB.kill hι h (.mp t' n') v hr;show tB ι' db avB' w' (AV.kill0 t n (.mp t' n')) v;simp only [AV.kill0] at this ⊢;split
  ·trivial
  ·rename_i ma; rw [if_neg ma] at this; exact this
 | int=>exact wB.kill hι h (.int _ _) v hr
 | bool=>exact wB.kill hι h (.bool _) v hr
 | str=>exact wB.kill hι h (.str _) v hr
 | nilP=>exact wB.kill hι h .nilP v hr
 | ip=>exact wB.kill hι h (.ip _) v hr
 | sl=>exact wB.kill hι h (.sl _ _) v hr
theorem DW {v:Value} {x:AV} (h:jZ v=some x) (av:Av) (w:World):UE av w x v/\v.oneCell'=true/\x.leaf=true/\(∀ n l,x=.sl n l->n=true/\v=.slice none 0 0):=by
 unfold jZ at h;split at h <;> first
  | (injection h with h; subst h; simp [UE,Value.oneCell',AV.leaf]; done)
  | (cases h; done)
theorem sV {ι:Ix} {av DC:Av} {w:World} {x:AV} {v:Value} (h:UE av w x v) (hx:x.leaf=true):tB ι av DC w x v:=by
 cases x <;> first | exact h | (simp [AV.leaf] at hx; done) | (simp [UE] at h; done)
theorem EM {ι:Ix} {av:Av} {w:World} {x:AV} {v:Value} (h:UE av w x v):wB ι av w x v:=by
 cases x <;> first | exact h | simp [UE] at h
theorem ZJ {ι:Ix}:∀ {vs:List Value} {xs:List AV} (_:TK vs=some xs) (av:Av) (w:World),FA ι av w xs vs
 | [],_,h,_,_=>by injection h with h; subst h; rfl
 | v :: r,_,h,av,w=>by
  unfold TK at h;cases hv:jZ v with
  | none=>rw [hv] at h; cases h
  | some x =>
   rw [hv] at h;cases hr:TK r with
   | none=>rw [hr] at h; cases h
   | some l =>
    rw [hr] at h;injection h with h;subst h;have h1:=DW hv av w;exact ⟨v,r,rfl,EM h1.1,h1.2.1,ZJ hr av w⟩
theorem avC_rep {v:Value} {x:AV} (h:avC v=some x) (ι:Ix) (av DC:Av) (w:World):tB ι av DC w x v:=by
 unfold avC at h;split at h
 ·rename_i cs;cases hc:TK cs.toList with
  | none=>rw [hc] at h; cases h
  | some l =>
   rw [hc] at h;injection h with h;subst h;exact ⟨cs,rfl,ZJ hc av w⟩
 ·have:=DW h av w;exact sV this.1 this.2.2.1
theorem avC_nil {v:Value} {b:Bool} {l:List (List AV)} (h:avC v=some (.sl b l)):b=true/\v=.slice none 0 0:=by
 unfold avC at h;split at h
 ·rename_i cs;cases hc:TK cs.toList with
  | none=>rw [hc] at h; cases h
  | some l=>rw [hc] at h; injection h with h; cases h
 ·exact (DW h (fun _ _=>False) default).2.2.2 _ _ rfl
theorem mC.opd (R:mC P O nt B F0 da w0 D s a w ι Θ) {x:Operand} {y:aC} (h:opd x=some y):tB ι (KC da ι Θ) (DC ι Θ) w (y.get s) (a.eval x)/\DL Θ (y.an s) (a.eval x):=by
 unfold YtbhbeakhognieaaGreat.opd at h;split at h
 ·injection h with h;subst h;exact ⟨R.env _,R.ann _⟩
 ·rename_i v;cases hc:avC v with
  | none=>rw [hc] at h; cases h
  | some x =>
   rw [hc] at h;injection h with h;subst h;refine ⟨avC_rep hc _ _ _ _,?_⟩;cases x with
   | sl b l =>
    obtain ⟨rfl,hv⟩:=avC_nil hc;exact ⟨none,0,hv⟩
   | _=>trivial
 ·injection h with h;subst h;exact ⟨⟨#[],rfl,rfl⟩,trivial⟩
 ·cases h
end
end
section
open Go Go.RowKit
section
variable {P:Program} {O:PH} {nt B:Nat} {F0:XO} {da:Av} {w0:World} {D:Nat->Prop} {s:aA} {a:Act} {w w':World} {ι:Ix} {Θ:CK}
theorem qQ {t:TypeId} {b:Bool} (h:bJ P t=some b) (w:World):(isAgg t).run P w=.ok b w:=by
 unfold bJ at h;cases hu:P.underlying t with
 | none=>rw [hu] at h; cases h
 | some d =>
  rw [hu] at h;injection h with h;subst h;cases d <;> simp [isAgg,run_underlying hu]
theorem SC {t:TypeId} {z:Nat} (h:lC P t=some z) (w:World):(sizeOf t).run P w=.ok z w:=by
 unfold lC at h;cases hu:P.info? t with
 | none=>rw [hu] at h; cases h
 | some d =>
  rw [hu] at h;injection h with h;subst h;simp [sizeOf,typeInfo,hu]
theorem WH {t:TypeId} {l:List AV} (h:HJ P t=some l) (w:World):∃ z i,P.info? t=some i/\i.zero=some z/\(zeroValue t).run P w=.ok z w/\TK z.cells.toList=some l:=by
 unfold HJ at h;cases hu:P.info? t with
 | none=>rw [hu] at h; cases h
 | some d =>
  rw [hu] at h;cases hz:d.zero with
  | none=>simp [hz] at h
  | some z =>
   simp only [J,hz] at h;exact ⟨z,d,rfl,hz,by simp [zeroValue,typeInfo,hu,hz],h⟩
theorem aH:∀ {vs:List Value} {xs:List AV},TK vs=some xs->xs.length=vs.length
 | [],_,h=>by injection h with h; subst h; rfl
 | v :: r,_,h=>by
  unfold TK at h;cases hv:jZ v with
  | none=>rw [hv] at h; cases h
  | some x =>
   rw [hv] at h;cases hr:TK r with
   | none=>rw [hr] at h; cases h
   | some l=>rw [hr] at h; injection h with h; subst h; simp [aH hr]
def fV (P:Program) (da:Av) (a:Act) (w:World) (ι:Ix) (Θ:CK) (o:Oper) (x:wA):Prop :=
 ∃ v,(execOp a.eval o).run P w=.ok (.value v) w/\tB ι (KC da ι Θ) (DC ι Θ) w x.v v/\DL Θ x.a v
section
variable {av avb:Av}
include av avb
theorem TB {k:IntKind} {n:Int} {v:Value}:tB ι av avb w (.int k n) v ↔ v=.int k n:=by simp [tB,wB,UE]
theorem LB {b:Bool} {v:Value}:tB ι av avb w (.bool b) v ↔ v=.bool b:=by simp [tB,wB,UE]
theorem tH {b:ByteArray} {v:Value}:tB ι av avb w (.str b) v ↔ v=.string b:=by simp [tB,wB,UE]
theorem X2 {v:Value}:tB ι av avb w .nilP v ↔ v=.pointer none:=by simp [tB,wB,UE]
theorem mG {t n off:Nat} {v:Value}:tB ι av avb w (.ptr t n off) v ↔ ∃ b,ι t n=some b/\v=.pointer (some ⟨b,off,none⟩):=Iff.rfl
theorem XH {t n sz off len cap:Nat} {v:Value}:tB ι av avb w (.ref t n sz off len cap) v ↔ ∃ b,ι t n=some b/\len<=cap/\∃ c,cap<=c/\off + c * sz<=ι.z b/\v=.slice (some ⟨b,off,none⟩) len c:=Iff.rfl
theorem TL {cs:List AV} {v:Value}:tB ι av avb w (.ip cs) v ↔ ∃ b off,v=.pointer (some ⟨b,off,none⟩)/\RE av w cs b off:=by simp [tB,wB,UE]
theorem UF {nil:Bool} {l:List (List AV)} {v:Value}:tB ι av avb w (.sl nil l) v ↔ UE av w (.sl nil l) v:=Iff.rfl
theorem WY {cs:List AV} {v:Value}:tB ι av avb w (.agg cs) v ↔ ∃ us,v=.agg us/\FA ι av w cs us.toList:=Iff.rfl
theorem repS_tup {cs:List AV} {v:Value}:tB ι av avb w (.tup cs) v ↔ ∃ us,v=.tuple us/\AG ι av w cs us.toList:=Iff.rfl
end
theorem iD {av:Av}:∀ {xs:List AV} {us:List Value},FA ι av w xs us->us.length=xs.length
 | [],_,h=>by simp only [FA] at h; subst h; rfl
 | x :: r,_,h=>by
  simp only [FA] at h;obtain ⟨u,ta,rfl,_,_,h⟩:=h;simp [iD h]
theorem kF {av:Av}:∀ {xs:List AV} {us:List Value} (n:Nat),FA ι av w xs us->FA ι av w (xs.drop n) (us.drop n)
 | [],_,n,h=>by simp only [FA] at h; subst h; simp [FA]
 | x :: r,_,n,h=>by
  cases n with
  | zero=>exact h
  | succ n =>
   simp only [FA] at h;obtain ⟨u,ta,rfl,_,_,h⟩:=h;exact kF n h
theorem XF {av:Av}:∀ {xs:List AV} {us:List Value} (n:Nat),FA ι av w xs us->FA ι av w (xs.take n) (us.take n)
 | [],_,n,h=>by simp only [FA] at h; subst h; simp [FA]
 | x :: r,_,n,h=>by
  cases n with
  | zero=>simp [FA]
  | succ n =>
   simp only [FA] at h;obtain ⟨u,ta,rfl,h0,h1,h⟩:=h;exact ⟨u,ta.take n,rfl,h0,h1,XF n h⟩
theorem JJ {av:Av}:∀ {xs:List AV} {us:List Value} (_:FA ι av w xs us) {j:Nat} {x:AV},xs[j]?=some x->∃ u,us[j]?=some u/\u.oneCell'=true/\wB ι av w x u
 | [],_,_,_,_,hx=>by simp at hx
 | y :: r,_,h,j,x,hx=>by
  simp only [FA] at h;obtain ⟨u,ta,rfl,h0,h1,h⟩:=h;cases j with
  | zero=>simp at hx; subst hx; exact ⟨u,rfl,h1,h0⟩
  | succ j=>exact JJ h (j:=j) (by simpa using hx)
theorem iH {av:Av}:∀ {xs ys:List AV} {us vs:List Value},FA ι av w xs us->FA ι av w ys vs->FA ι av w (xs++ys) (us++vs)
 | [],_,_,_,h,h'=>by simp only [FA] at h; subst h; exact h'
 | x :: r,_,_,_,h,h'=>by
  simp only [FA] at h;obtain ⟨u,ta,rfl,h0,h1,h⟩:=h;exact ⟨u,ta++_,rfl,h0,h1,iH h h'⟩
theorem GD {av:Av}:∀ {xs:List AV} {us:List Value},lD av w xs us->FA ι av w xs us
 | [],_,h=>by simpa [lD,FA] using h
 | x :: r,_,h=>by
  simp only [lD] at h;obtain ⟨u,ta,rfl,h0,h1,h⟩:=h;exact ⟨u,ta,rfl,EM h0,h1,GD h⟩
theorem iR {av:Av}:∀ {cs:List AV} {b off:Nat},RE av w cs b off->∃ us,lD av w cs us/\∀ (j:Nat) (u:Value),us[j]?=some u->w.cell? ⟨b,off + j,none⟩=some u/\¬ av b (off + j)
 | [],_,_,_=>⟨[],rfl,fun j u h=>by simp at h⟩
 | x :: r,b,off,h=>by
  simp only [RE] at h;obtain ⟨⟨u,hc,hx,h1⟩,ha,hr⟩:=h;obtain ⟨us,hl,hj⟩:=iR hr;refine ⟨u :: us,⟨u,us,rfl,hx,h1,hl⟩,fun j v hv=>?_⟩;cases j with
  | zero=>simp at hv; subst hv; exact ⟨hc,ha⟩
  | succ j =>
   have:=hj j v (by simpa using hv);rw [show off + (j + 1)=off + 1 + j from by omega];exact this
theorem uP {av avb:Av}:∀ {cs:List AV} {b off:Nat},bC av avb w cs b off->∃ us,lD av w cs us/\∀ (j:Nat) (u:Value),us[j]?=some u->w.cell? ⟨b,off + j,none⟩=some u/\¬ avb b (off + j)
 | [],_,_,_=>⟨[],rfl,fun j u h=>by simp at h⟩
 | x :: r,b,off,h=>by
  simp only [bC] at h;obtain ⟨⟨u,hc,hx,h1⟩,ha,hr⟩:=h;obtain ⟨us,hl,hj⟩:=uP hr;refine ⟨u :: us,⟨u,us,rfl,hx,h1,hl⟩,fun j v hv=>?_⟩;cases j with
  | zero=>simp at hv; subst hv; exact ⟨hc,ha⟩
  | succ j =>
   have:=hj j v (by simpa using hv);rw [show off + (j + 1)=off + 1 + j from by omega];exact this
theorem RK {av:Av}:∀ {cs:List AV} {us:List Value} {b off:Nat},lD av w cs us->(∀ (j:Nat) (u:Value),us[j]?=some u->w.cell? ⟨b,off + j,none⟩=some u/\¬ av b (off + j))->RE av w cs b off
 | [],_,_,_,_,_=>by simp [RE]
 | x :: r,_,b,off,h,hj=>by
  simp only [lD] at h;obtain ⟨u,ta,rfl,h0,h1,h⟩:=h;simp only [RE];have h2:=hj 0 u rfl;refine ⟨⟨u,h2.1,h0,h1⟩,h2.2,RK h fun j v hv=>?_⟩;have:=hj (j + 1) v (by simpa using hv);rw [show off + 1 + j=off + (j + 1) from by omega];exact this
theorem sL {av:Av}:∀ {cs ds:List AV} {b off:Nat},RE av w (cs++ds) b off ↔ RE av w cs b off/\RE av w ds b (off + cs.length)
 | [],ds,b,off=>by simp [RE]
 | x :: r,ds,b,off=>by
  simp only [yR,RE,sL (cs:=r),yF];rw [show off + (r.length + 1)=off + 1 + r.length from by omega];exact ⟨fun ⟨h1,h2,h3,h4⟩=>⟨⟨h1,h2,h3⟩,h4⟩,fun ⟨⟨h1,h2,h3⟩,h4⟩=>⟨h1,h2,h3,h4⟩⟩
theorem IF {av:Av}:∀ {l:List (List AV)} {b off:Nat},Rows av w l b off ↔ RE av w l.flatten b off
 | [],b,off=>by simp [Rows,RE]
 | cs :: r,b,off=>by
  simp only [Rows,yI,sL,IF (l:=r)]
theorem iK {av avb:Av}:∀ {cs ds:List AV} {b off:Nat},bC av avb w (cs++ds) b off ↔ bC av avb w cs b off/\bC av avb w ds b (off + cs.length)
 | [],ds,b,off=>by simp [bC]
 | x :: r,ds,b,off=>by
  simp only [yR,bC,iK (cs:=r),yF];rw [show off + (r.length + 1)=off + 1 + r.length from by omega];exact ⟨fun ⟨h1,h2,h3,h4⟩=>⟨⟨h1,h2,h3⟩,h4⟩,fun ⟨⟨h1,h2,h3⟩,h4⟩=>⟨h1,h2,h3,h4⟩⟩
theorem KJ {av avb:Av}:∀ {l:List (List AV)} {b off:Nat},ZL av avb w l b off ↔ bC av avb w l.flatten b off
 | [],b,off=>by simp [ZL,bC]
 | cs :: r,b,off=>by
  simp only [ZL,yI,iK,KJ (l:=r)]
theorem kQ {sz:Nat}:∀ {l:List (List AV)} (_:∀ c∈l,c.length=sz) (k:Nat),l.flatten.drop (k * sz)=(l.drop k).flatten
 | [],_,k=>by simp
 | c :: r,h,k=>by
  cases k with
  | zero=>simp
  | succ k =>
   have hc:c.length=sz:=h c (by simp);rw [yI,List.drop_succ_cons,List.drop_append,hc,show (k + 1) * sz - sz=k * sz from by rw [yy]; omega,
    yk (by rw [hc,yy]; omega),List.nil_append]
   exact kQ (fun c hc=>h c (by simp [hc])) k
theorem part_run {t:TypeId} {agg:Bool} {z:Nat} (hA:bJ P t=some agg) (hz:lC P t=some z) {av:Av} {cs:List AV} {us:Array Value} (h:FA ι av w cs us.toList) {off:Nat} {x:AV} {avb:Av}
  (hx:xG agg z (cs.drop off)=some x):∃ v,(part t us off).run P w=.ok v w/\tB ι av avb w x v:=by
 cases agg with
 | true =>
  simp only [xG,if_true] at hx;split at hx
  ·rename_i bc;injection hx with hx;subst hx;refine ⟨.agg (us.extract off (off + z)),by simp [part,qQ hA,SC hz],_,rfl,?_⟩;have:=XF z (kF off h);have he:(us.extract off (off + z)).toList=(us.toList.drop off).take z:=by
    rw [Array.toList_extract,List.extract_eq_take_drop,Nat.add_sub_cancel_left]
   rw [he];exact this
  ·cases hx
 | false =>
  simp only [xG,yA,if_false,yU,Nat.add_zero] at hx;obtain ⟨u,hu,h1,hr⟩:=JJ h hx;have er:us[off]?=some u:=by simpa using hu
  refine ⟨u,by simp [part,qQ hA,er],?_⟩;cases x <;> first | exact hr | (simp [wB,UE] at hr; obtain ⟨ta,rfl,_⟩:=hr; simp [Value.oneCell'] at h1) | (simp [wB,UE] at hr)
end
end
section
open Go Go.RowKit
section
variable {P:Program} {O:PH} {nt B:Nat} {F0:XO} {da:Av} {w0:World} {D:Nat->Prop} {s:aA} {a:Act} {w w':World} {ι:Ix} {Θ:CK} {o:Oper}
theorem RepC_to_S {av avb:Av} {x:AV} {u:Value} (h:wB ι av w x u) (h1:u.oneCell'=true):tB ι av avb w x u:=by
 cases x <;> first | exact h | (simp [wB,UE] at h; obtain ⟨ta,rfl,_⟩:=h; simp [Value.oneCell'] at h1; done) | (simp [wB,UE] at h; done)
theorem val_mv (R:mC P O nt B F0 da w0 D s a w ι Θ) {X:Operand} {y:aC} (h:opd X=some y) (ho:o.op=.move X\/o.op=.assign X):fV P da a w ι Θ o ⟨y.get s,y.an s⟩ :=
 ⟨a.eval X,by rcases ho with ho | ho <;> simp [execOp,ho],(R.opd h).1,(R.opd h).2⟩
theorem val_pick (R:mC P O nt B F0 da w0 D s a w ι Θ) {C X Y:Operand} {c x y:aC} (hc:opd C=some c) (hx:opd X=some x) (hy:opd Y=some y) (ho:o.op=.pick C X Y) {t:Bool} (ht:c.get s=.bool t) :
  fV P da a w ι Θ o (if t then ⟨x.get s,x.an s⟩ else ⟨y.get s,y.an s⟩):=by
 have h:=(R.opd hc).1;rw [ht,LB] at h;cases t with
 | true=>exact ⟨a.eval X,by simp [execOp,ho,h,asBool],(R.opd hx).1,(R.opd hx).2⟩
 | false=>exact ⟨a.eval Y,by simp [execOp,ho,h,asBool],(R.opd hy).1,(R.opd hy).2⟩
theorem rE.rep {av:Av} {r:List wA} {cur:Array Value} (h:rE ι Θ av w r cur):FA ι av w (r.map (·.v)) (cur.toList.take r.length):=by
 obtain ⟨hl,hj⟩:=h;obtain ⟨l⟩:=cur;simp only [List.size_toArray] at hl;simp only [List.getElem?_toArray] at hj;simp only
 induction r generalizing l with
 | nil=>rfl
 | cons x r ih =>
  cases l with
  | nil=>simp at hl
  | cons u us =>
   obtain ⟨u',hu,h1,hr,_⟩:=hj 0 x rfl;simp at hu;subst hu;exact ⟨_,us.take r.length,rfl,hr,h1,ih us (by simpa using hl) fun j y hy=>hj (j + 1) y hy⟩
theorem IP {t:TypeId} {agg:Bool} {z:Nat} (hA:bJ P t=some agg) (hz:lC P t=some z) {av avb:Av} {cs:List AV} {us:List Value} (h:FA ι av w cs us) {b off:Nat} (zd:∀ (j:Nat) (u:Value),us[j]?=some u->w.cell? ⟨b,off + j,none⟩=some u)
  {x:AV} (hx:xG agg z cs=some x):∃ v,(loadVar t ⟨b,off,none⟩).run P w=.ok v w/\tB ι av avb w x v/\(agg=false->w.cell? ⟨b,off,none⟩=some v):=by
 cases agg with
 | true =>
  simp only [xG,if_true] at hx;split at hx
  ·rename_i bc;injection hx with hx;subst hx;have ia:=iD h;have hl:(us.take z).length=z:=by rw [yL,ia]; omega
   have hr:=run_loadCells_list (P:=P) w ⟨b,off,none⟩ (us.take z) (fun j v hv=>by
    rw [Addr.add_lit];refine zd j v ?_;rw [yV] at hv;split at hv
    ·exact hv
    ·cases hv)
   rw [hl] at hr;exact ⟨.agg (us.take z).toArray,by simp [loadVar,qQ hA,SC hz,hr],⟨_,rfl,XF z h⟩,fun h=>by cases h⟩
  ·cases hx
 | false =>
  simp only [xG,yA,if_false] at hx;obtain ⟨u,hu,h1,hr⟩:=JJ h hx;have hc:=zd 0 u hu;rw [Nat.add_zero] at hc;refine ⟨u,by simp [loadVar,qQ hA,hc],RepC_to_S hr h1,fun _=>hc⟩
theorem val_load (R:mC P O nt B F0 da w0 D s a w ι Θ) {t:TypeId} {agg:Bool} {z:Nat} (hA:bJ P t=some agg) (hz:lC P t=some z) {X:Operand} {y:aC} (h:opd X=some y) (ho:o.op=.load t X) {cl:Cl} {call} {x:wA} {e:TD}
  (hr:(K.load cl agg z y).run call s=some (x,e)):e=.none/\fV P da a w ι Θ o x:=by
 have hX:=(R.opd h).1;simp only [K.run] at hr;split at hr
 ·rename_i t' n off hy;rw [hy,mG] at hX;obtain ⟨b,hb,hv⟩:=hX;split at hr
  ·cases hm:s.mem t' n with
   | none=>rw [hm] at hr; cases hr
   | some r =>
    rw [hm,J] at hr;obtain ⟨zm,b',cur,ty,wa,ua,na,_⟩:=R.rows t' n r hm;rw [hb] at wa;injection wa with wa;subst wa;have ec:∀ (j:Nat) (u:Value),((cur.toList.take r.length).drop off)[j]?=some u->w.cell? ⟨b,off + j,none⟩=some u:=fun j u hu=>by
     rw [cell_of_row w b (off + j) cur ty (0,0) ua];rw [yU,yV] at hu;split at hu
     ·simpa using hu
     ·cases hu
    cases hl:RB agg z off r with
    | none=>rw [hl] at hr; cases hr
    | some y' =>
     rw [hl] at hr;injection hr with hr;injection hr with h1 h2;subst h1; subst h2;refine ⟨rfl,?_⟩;have kc:=kF off na.rep;have hi:xG agg z ((r.map (·.v)).drop off)=some y'.v:=by
      cases agg with
      | true =>
       simp only [RB,if_true] at hl;split at hl
       ·rename_i bc;injection hl with hl;subst hl;simp only [xG,if_true,List.length_drop,yu];rw [if_pos (by omega)];simp [List.map_take,List.map_drop]
       ·cases hl
      | false =>
       simp only [RB,yA,if_false] at hl;simp [xG,yU,hl]
     obtain ⟨v,ja,hS,hc⟩:=IP (avb:=DC ι Θ) hA hz kc ec hi;refine ⟨v,by simp [execOp,ho,Instr.loadAt,Instr.sureAddr,hv,ja],hS,?_⟩;cases agg with
     | true =>
      simp only [RB,if_true] at hl;split at hl
      ·injection hl with hl; subst hl; trivial
      ·cases hl
     | false =>
      simp only [RB,yA,if_false] at hl;obtain ⟨u,hu,_,_,ha⟩:=na.2 off y' hl;have h3:=hc rfl;rw [cell_of_row w b off cur ty (0,0) ua,hu] at h3;injection h3 with h3;subst h3;exact ha
  ·cases hr
 ·rename_i cs hy;rw [hy,TL] at hX;obtain ⟨b,off,hv,io⟩:=hX;obtain ⟨us,hl,zd⟩:=iR io;split at hr
  ·cases hr
  ·cases hi:xG agg z cs with
   | none=>rw [hi] at hr; cases hr
   | some x' =>
    rw [hi] at hr;injection hr with hr;injection hr with h1 h2;subst h1; subst h2;obtain ⟨v,ja,hS,_⟩:=IP (avb:=DC ι Θ) hA hz (GD (ι:=ι) hl) (fun j u hu=>(zd j u hu).1) hi;exact ⟨rfl,v,by simp [execOp,ho,Instr.loadAt,Instr.sureAddr,hv,ja],hS,trivial⟩
 ·rename_i cs hy;rw [hy] at hX;obtain ⟨b,off,hv,io⟩:=hX;obtain ⟨us,hl,zd⟩:=uP io;split at hr
  ·cases hr
  ·cases hi:xG agg z cs with
   | none=>rw [hi] at hr; cases hr
   | some x' =>
    rw [hi] at hr;injection hr with hr;injection hr with h1 h2;subst h1; subst h2;obtain ⟨v,ja,hS,_⟩:=IP (avb:=DC ι Θ) hA hz (GD (ι:=ι) hl) (fun j u hu=>(zd j u hu).1) hi;exact ⟨rfl,v,by simp [execOp,ho,Instr.loadAt,Instr.sureAddr,hv,ja],hS,trivial⟩
 ·cases hr
theorem gN (a b:ByteArray):(a.toList == b.toList)=decide (a=b):=by
 rw [ByteArray.toList_eq,ByteArray.toList_eq];obtain ⟨⟨x⟩⟩:=a;obtain ⟨⟨y⟩⟩:=b;rw [Bool.eq_iff_iff];simp
theorem XB {op:BinOp} {t t':TypeId} {X Y:Operand} {u v r:Value} (ho:o.op=.binOp op t X Y t') (hX:a.eval X=u) (hY:a.eval Y=v) (hu:u.oneCell'=true) (hn:u≠.nilIface) (hv:(Go.binOp op t u v).run P w=.ok r w):(execOp a.eval o).run P w=.ok (.value r) w:=by
 have hg:(eqGuard op t X Y u v).run P w=.ok () w:=by
  unfold eqGuard;cases u <;> first | exact absurd rfl hn | (simp [Value.oneCell'] at hu; done) | (simp; done) | (split <;> simp; done)
 simp [execOp,ho,hX,hY,hg,hv]
theorem val_mm (R:mC P O nt B F0 da w0 D s a w ι Θ) {mx:Bool} {ts:Array TypeId} {X Y:Operand} {x y:aC} (hx:opd X=some x) (hy:opd Y=some y) (ho:o.op=.call { callee:=.builtin (if mx then .max else .min),args:=#[X,Y],argTypes:=ts }) {v:AV} (hr:mmC mx (x.get s) (y.get s)=some v) :
  fV P da a w ι Θ o ⟨v,.no⟩:=by
 have hX:=(R.opd hx).1;have hY:=(R.opd hy).1;unfold mmC at hr;split at hr
 ·rename_i k n k' n' e1 e2;rw [e1,TB] at hX;rw [e2,TB] at hY;split at hr
  ·rename_i hk;subst hk;injection hr with hr;subst hr;cases mx with
   | true =>
    have e:(if n' > n then n' else n)=max n n':=by rw [Int.max_def]; split <;> split <;> omega
    exact ⟨.int k (max n n'),by simp [execOp,ho,resolve,invoke,builtin,Builtin.max_,Builtin.max2,hX,hY,e],by simp [TB],trivial⟩
   | false =>
    have e:(if n'<n then n' else n)=min n n':=by rw [Int.min_def]; split <;> split <;> omega
    exact ⟨.int k (min n n'),by simp [execOp,ho,resolve,invoke,builtin,Builtin.min_,Builtin.min2,hX,hY,e],by simp [TB],trivial⟩
  ·cases hr
 ·cases hr
theorem val_bin (R:mC P O nt B F0 da w0 D s a w ι Θ) {op:BinOp} {t t':TypeId} {bl:Bool} (ht:bl=true->P.underlying t=some .bool) {X Y:Operand} {x y:aC} (hx:opd X=some x) (hy:opd Y=some y) (ho:o.op=.binOp op t X Y t') {v:AV} (hr:FT op bl (x.get s) (y.get s)=some v) :
  fV P da a w ι Θ o ⟨v,.no⟩:=by
 have hX:=(R.opd hx).1;have hY:=(R.opd hy).1;unfold FT at hr;split at hr
 ·rename_i k n k' n' e1 e2;rw [e1,TB] at hX;rw [e2,TB] at hY;by_cases mf:op=.shl
  ·subst mf;simp only at hr;split at hr
   ·rename_i h0;injection hr with hr;subst hr;exact ⟨.int k (k.wrap (n * 2 ^ shN k n')),XB ho hX hY rfl (by simp) (by simp [Go.binOp,Op.shift,shN,Int.not_lt.2 h0]),by rw [TB],trivial⟩
   ·cases hr
  by_cases hsr:op=.shr
  ·subst hsr;simp only at hr;split at hr
   ·rename_i h0;injection hr with hr;subst hr;exact ⟨.int k (n.fdiv (2 ^ shN k n')),XB ho hX hY rfl (by simp) (by simp [Go.binOp,Op.shift,shN,Int.not_lt.2 h0]),by rw [TB],trivial⟩
   ·cases hr
  split at hr
  ·exact absurd rfl mf
  ·exact absurd rfl hsr
  split at hr
  ·rename_i hk;subst hk;cases op <;> simp only at hr
   case and=>injection hr with hr; subst hr; exact ⟨_,XB ho hX hY rfl (by simp) (by simp only [Go.binOp,ne_eq,not_true_eq_false,if_false]; rfl),by rw [eS,TB],trivial⟩
   case or=>injection hr with hr; subst hr; exact ⟨_,XB ho hX hY rfl (by simp) (by simp only [Go.binOp,ne_eq,not_true_eq_false,if_false]; rfl),by rw [eS,TB],trivial⟩
   case xor=>injection hr with hr; subst hr; exact ⟨_,XB ho hX hY rfl (by simp) (by simp only [Go.binOp,ne_eq,not_true_eq_false,if_false]; rfl),by rw [eS,TB],trivial⟩
   case andNot=>injection hr with hr; subst hr; exact ⟨_,XB ho hX hY rfl (by simp) (by simp only [Go.binOp,ne_eq,not_true_eq_false,if_false]; rfl),by rw [eS,TB],trivial⟩
   case add=>injection hr with hr; subst hr; exact ⟨.int k (k.wrap (n + n')),XB ho hX hY rfl (by simp) (by simp [Go.binOp,Op.intArith]),by rw [TB],trivial⟩
   case sub=>injection hr with hr; subst hr; exact ⟨.int k (k.wrap (n - n')),XB ho hX hY rfl (by simp) (by simp [Go.binOp,Op.intArith]),by rw [TB],trivial⟩
   case mul=>injection hr with hr; subst hr; exact ⟨.int k (k.wrap (n * n')),XB ho hX hY rfl (by simp) (by simp [Go.binOp,Op.intArith]),by rw [TB],trivial⟩
   case quo =>
    split at hr
    ·cases hr
    ·rename_i h0;injection hr with hr;subst hr;exact ⟨.int k (k.wrap (n.tdiv n')),XB ho hX hY rfl (by simp) (by simp [Go.binOp,Op.intDiv,h0]),by rw [TB],trivial⟩
   case rem =>
    split at hr
    ·cases hr
    ·rename_i h0;injection hr with hr;subst hr;exact ⟨.int k (n.tmod n'),XB ho hX hY rfl (by simp) (by simp [Go.binOp,Op.intDiv,h0]),by rw [TB],trivial⟩
   case eql=>injection hr with hr; subst hr; exact ⟨.bool (n == n'),XB ho hX hY rfl (by simp) (by simp [Go.binOp,Op.intCmp]),LB.2 (congrArg Value.bool (by first | rfl | (rw [Bool.eq_iff_iff]; simp))),trivial⟩
   case neq=>injection hr with hr; subst hr; exact ⟨.bool (n != n'),XB ho hX hY rfl (by simp) (by simp [Go.binOp,Op.intCmp]),LB.2 (congrArg Value.bool (by first | rfl | (rw [Bool.eq_iff_iff]; simp))),trivial⟩
   case lss=>injection hr with hr; subst hr; exact ⟨.bool (decide (n<n')),XB ho hX hY rfl (by simp) (by simp [Go.binOp,Op.intCmp]),LB.2 (congrArg Value.bool (by first | rfl | (rw [Bool.eq_iff_iff]; simp))),trivial⟩
   case leq=>injection hr with hr; subst hr; exact ⟨.bool (decide (n<=n')),XB ho hX hY rfl (by simp) (by simp [Go.binOp,Op.intCmp]),LB.2 (congrArg Value.bool (by first | rfl | (rw [Bool.eq_iff_iff]; simp))),trivial⟩
   case gtr=>injection hr with hr; subst hr; exact ⟨.bool (decide (n > n')),XB ho hX hY rfl (by simp) (by simp [Go.binOp,Op.intCmp]),LB.2 (congrArg Value.bool (by first | rfl | (rw [Bool.eq_iff_iff]; simp))),trivial⟩
   case geq=>injection hr with hr; subst hr; exact ⟨.bool (decide (n>=n')),XB ho hX hY rfl (by simp) (by simp [Go.binOp,Op.intCmp]),LB.2 (congrArg Value.bool (by first | rfl | (rw [Bool.eq_iff_iff]; simp))),trivial⟩
   all_goals cases hr
  ·cases hr
 ·rename_i n n' e1 e2;rw [e1,tH] at hX;rw [e2,tH] at hY;cases op <;> simp only at hr
  case add =>
   split at hr
   ·rename_i bc;injection hr with hr;subst hr;have hm:IntKind.i64.max=9223372036854775807:=by decide
    have:¬ ((n.size + n'.size:Nat):Int) > IntKind.i64.max:=by rw [hm]; omega
    exact ⟨.string (n++n'),XB ho hX hY rfl (by simp) (by simp only [Go.binOp,Op.stringOp,if_neg this]; simp),by rw [tH],trivial⟩
   ·cases hr
  case eql=>injection hr with hr; subst hr; exact ⟨.bool (n.toList == n'.toList),XB ho hX hY rfl (by simp) (by simp [Go.binOp,Op.stringOp]),LB.2 (congrArg Value.bool (by first | rfl | (rw [gN]))),trivial⟩
  case neq=>injection hr with hr; subst hr; exact ⟨.bool (!(n.toList == n'.toList)),XB ho hX hY rfl (by simp) (by simp [Go.binOp,Op.stringOp]),LB.2 (congrArg Value.bool (by first | rfl | (rw [gN]))),trivial⟩
  case lss=>injection hr with hr; subst hr; exact ⟨.bool (Op.bytesLess n.toList n'.toList),XB ho hX hY rfl (by simp) (by simp [Go.binOp,Op.stringOp]),LB.2 (congrArg Value.bool (by first | rfl | (rw [gN]))),trivial⟩
  case gtr=>injection hr with hr; subst hr; exact ⟨.bool (!(Op.bytesLess n.toList n'.toList||n.toList == n'.toList)),XB ho hX hY rfl (by simp) (by simp [Go.binOp,Op.stringOp]),by rw [LB,gN],trivial⟩
  case leq=>injection hr with hr; subst hr; exact ⟨.bool (Op.bytesLess n.toList n'.toList||n.toList == n'.toList),XB ho hX hY rfl (by simp) (by simp [Go.binOp,Op.stringOp]),by rw [LB,gN],trivial⟩
  case geq=>injection hr with hr; subst hr; exact ⟨.bool (!Op.bytesLess n.toList n'.toList),XB ho hX hY rfl (by simp) (by simp [Go.binOp,Op.stringOp]),by rw [LB],trivial⟩
  all_goals cases hr
 ·rename_i n n' e1 e2;rw [e1,LB] at hX;rw [e2,LB] at hY;split at hr
  case isFalse=>cases hr
  rename_i hb;have hq:(Op.equal t (.bool n) (.bool n')).run P w=.ok (n == n') w:=run_equalIn_bool' w 9999 t n n' (ht hb);cases op <;> simp only at hr
  case eql=>injection hr with hr; subst hr; exact ⟨.bool (n == n'),XB ho hX hY rfl (by simp) (by simp [Go.binOp,hq]),by rw [LB],trivial⟩
  case neq=>injection hr with hr; subst hr; exact ⟨.bool (!(n == n')),XB ho hX hY rfl (by simp) (by simp [Go.binOp,hq]),by rw [LB],trivial⟩
  all_goals cases hr
 ·cases hr
end
end
section
open Go Go.RowKit
section
variable {P:Program} {O:PH} {nt B:Nat} {F0:XO} {da:Av} {w0:World} {D:Nat->Prop} {s:aA} {a:Act} {w w':World} {ι:Ix} {Θ:CK} {o:Oper}
theorem FL {av:Av}:∀ {cs:List AV} {b off:Nat} (k:Nat),RE av w cs b off->RE av w (cs.drop k) b (off + k)
 | [],_,_,k,_=>by simp [RE]
 | x :: r,b,off,0,h=>h
 | x :: r,b,off,k + 1,h=>by
  simp only [RE] at h;rw [List.drop_succ_cons,show off + (k + 1)=off + 1 + k from by omega];exact FL k h.2.2
theorem EK {av avb:Av}:∀ {cs:List AV} {b off:Nat} (k:Nat),bC av avb w cs b off->bC av avb w (cs.drop k) b (off + k)
 | [],_,_,k,_=>by simp [bC]
 | x :: r,b,off,0,h=>h
 | x :: r,b,off,k + 1,h=>by
  simp only [bC] at h;rw [List.drop_succ_cons,show off + (k + 1)=off + 1 + k from by omega];exact EK k h.2.2
section
variable (R:mC P O nt B F0 da w0 D s a w ι Θ) {t:TypeId} {fs:Array Field} {f:Field} {i z:Nat}
include R t fs f i z
theorem val_faddr (ht:P.underlying t=some (.struct fs)) (hf:fs[i]?=some f) (hz:lC P f.type=some (z + 1)) {X:Operand} {y:aC} (h:opd X=some y) (ho:o.op=.fieldAddr t X i)
  {call} {x:wA} {e:TD} (hr:(K.faddr f.offset y).run call s=some (x,e)):e=.none/\fV P da a w ι Θ o x:=by
 have hX:=(R.opd h).1;have ja:∀ b off,a.eval X=.pointer (some ⟨b,off,none⟩)->(execOp a.eval o).run P w=.ok (.value (.pointer (some ⟨b,off + f.offset,none⟩))) w:=fun b off hv=>by
  simp [execOp,ho,Instr.fieldAt,run_underlying ht,hf,hv,Instr.sureAddr,fieldPlace,SC hz,Addr.add_lit]
 simp only [K.run] at hr;split at hr
 ·rename_i t' n off hy;injection hr with hr; injection hr with h1 h2; subst h1; subst h2;rw [hy,mG] at hX;obtain ⟨b,hb,hv⟩:=hX;exact ⟨rfl,_,ja _ _ hv,⟨b,hb,rfl⟩,trivial⟩
 ·rename_i cs hy;injection hr with hr; injection hr with h1 h2; subst h1; subst h2;rw [hy,TL] at hX;obtain ⟨b,off,hv,hc⟩:=hX;exact ⟨rfl,_,ja _ _ hv,by rw [TL]; exact ⟨b,_,rfl,FL _ hc⟩,trivial⟩
 ·rename_i cs hy;injection hr with hr; injection hr with h1 h2; subst h1; subst h2;rw [hy] at hX;obtain ⟨b,off,hv,hc⟩:=hX;exact ⟨rfl,_,ja _ _ hv,⟨b,_,rfl,EK _ hc⟩,trivial⟩
 ·cases hr
theorem val_field {agg:Bool} (ht:P.underlying t=some (.struct fs)) (hf:fs[i]?=some f) (hA:bJ P f.type=some agg) (hz:lC P f.type=some z) {X:Operand} {y:aC} (h:opd X=some y) (ho:o.op=.field t X i)
  {call} {x:wA} {e:TD} (hr:(K.field agg f.offset z y).run call s=some (x,e)):e=.none/\fV P da a w ι Θ o x:=by
 have hX:=(R.opd h).1;simp only [K.run] at hr;split at hr
 ·rename_i cs hy;rw [hy,WY] at hX;obtain ⟨us,hv,hc⟩:=hX;cases hl:xG agg z (cs.drop f.offset) with
  | none=>rw [hl] at hr; cases hr
  | some v =>
   rw [hl] at hr;injection hr with hr; injection hr with h1 h2; subst h1; subst h2;obtain ⟨u,hu,hS⟩:=part_run (avb:=DC ι Θ) hA hz hc hl;exact ⟨rfl,u,by simp [execOp,ho,Instr.field,run_underlying ht,hf,hv,asAgg,hu],hS,trivial⟩
 ·cases hr
end
theorem SL {v:AV} {n:Nat} (h:SS v=some n):∃ k i,v=.int k i/\0<=i/\i.toNat=n:=by
 unfold SS at h;split at h
 ·rename_i k i;split at h
  ·injection h with h; exact ⟨k,i,rfl,by assumption,h⟩
  ·cases h
 ·cases h
theorem Rows_get {av:Av} {l:List (List AV)} {b off sz k:Nat} {cs:List AV} (h:Rows av w l b off) (hu:∀ c∈l,c.length=sz) (hk:l[k]?=some cs):RE av w cs b (off + k * sz):=by
 have h1:=FL (k * sz) (IF.1 h);rw [kQ hu] at h1;have fa:k<l.length:=(y9.1 hk).1;have jb:l[k]=cs:=(y9.1 hk).2;rw [yb fa,yI,sL,jb] at h1;exact h1.1
theorem RowsB_get {av avb:Av} {l:List (List AV)} {b off sz k:Nat} {cs:List AV} (h:ZL av avb w l b off) (hu:∀ c∈l,c.length=sz) (hk:l[k]?=some cs):bC av avb w cs b (off + k * sz):=by
 have h1:=EK (k * sz) (KJ.1 h);rw [kQ hu] at h1;have fa:k<l.length:=(y9.1 hk).1;have jb:l[k]=cs:=(y9.1 hk).2;rw [yb fa,yI,iK,jb] at h1;exact h1.1
section
variable (R:mC P O nt B F0 da w0 D s a w ι Θ)
include R
theorem val_iaddr {t e':TypeId} {z:Nat} (ht:P.underlying t=some (.slice e')) (hz:lC P e'=some z) {X I:Operand} {y i:aC} (h:opd X=some y) (hi:opd I=some i) (ho:o.op=.indexAddr t X I)
  {call} {x:wA} {e:TD} (hr:(K.iaddr z y i).run call s=some (x,e)):e=.none/\fV P da a w ι Θ o x:=by
 have hX:=(R.opd h).1;have hI:=(R.opd hi).1;simp only [K.run] at hr;split at hr
 ·rename_i k hk;obtain ⟨kk,n,nd,h0,hn⟩:=SL hk;rw [nd,TB] at hI;have ja:∀ b off len cap,a.eval X=.slice (some ⟨b,off,none⟩) len cap->k<len->(execOp a.eval o).run P w=.ok (.value (.pointer (some ⟨b,off + k * z,none⟩))) w:=fun b off len cap hv fa=>by
   have hc:0<=n/\n<(len:Int):=⟨h0,by omega⟩;simp [execOp,ho,Instr.indexAt,run_underlying ht,hv,hI,asIntOf,hc,SC hz,Addr.add_lit,hn]
  split at hr
  ·rename_i nl l hy;rw [hy,UF] at hX;simp only [UE] at hX;obtain ⟨A,c,hv,hc,hu,xr,hs⟩:=hX;cases hl:l[k]? with
   | none=>rw [hl] at hr; cases hr
   | some cs =>
    rw [hl,J] at hr;split at hr
    ·rename_i io;injection hr with hr; injection hr with h1 h2; subst h1; subst h2;have fa:k<l.length:=(y9.1 hl).1;have la:cs∈l:=yh hl;have hnf:nl=false:=by
      cases nl with
      | false=>rfl
      | true=>have:=(xr rfl).2.1; omega
     obtain ⟨b,off,rfl,na⟩:=(hs hnf).2 (by omega);exact ⟨rfl,_,ja _ _ _ _ hv fa,by rw [TL]; exact ⟨b,_,rfl,Rows_get na (fun c hc=>(hu c hc cs la).trans io) hl⟩,trivial⟩
    ·cases hr
  ·rename_i l hy;rw [hy] at hX;obtain ⟨a',c,hv,hc,hu,hs⟩:=hX;cases hl:l[k]? with
   | none=>rw [hl] at hr; cases hr
   | some cs =>
    rw [hl,J] at hr;split at hr
    ·rename_i io;injection hr with hr; injection hr with h1 h2; subst h1; subst h2;have fa:k<l.length:=(y9.1 hl).1;have la:cs∈l:=yh hl;obtain ⟨b,off,rfl,na⟩:=hs (by omega);exact ⟨rfl,_,ja _ _ _ _ hv fa,⟨b,_,rfl,RowsB_get na (fun c hc=>(hu c hc cs la).trans io) hl⟩,trivial⟩
    ·cases hr
  ·rename_i t' n' sz off ln cap hy;rw [hy,XH] at hX;obtain ⟨b,hb,bc,_,_,_,hv⟩:=hX;split at hr
   ·rename_i fa;injection hr with hr; injection hr with h1 h2; subst h1; subst h2;obtain ⟨fa,rfl⟩:=fa;exact ⟨rfl,_,ja _ _ _ _ hv fa,⟨b,hb,rfl⟩,trivial⟩
   ·cases hr
  ·cases hr
 ·cases hr
theorem val_aaddr {t e':TypeId} {n z:Nat} (ht:P.underlying t=some (.array n e')) (hz:lC P e'=some z) {X I:Operand} {y i:aC} (h:opd X=some y) (hi:opd I=some i) (ho:o.op=.indexAddr t X I)
  {call} {x:wA} {e:TD} (hr:(K.aaddr n z y i).run call s=some (x,e)):e=.none/\fV P da a w ι Θ o x:=by
 have hX:=(R.opd h).1;have hI:=(R.opd hi).1;simp only [K.run] at hr;split at hr
 ·rename_i k hk;obtain ⟨kk,m,nd,h0,hn⟩:=SL hk;rw [nd,TB] at hI;split at hr
  ·rename_i fa;have ja:∀ b off,a.eval X=.pointer (some ⟨b,off,none⟩)->(execOp a.eval o).run P w=.ok (.value (.pointer (some ⟨b,off + k * z,none⟩))) w:=fun b off hv=>by
    have hc:0<=m/\m<(n:Int):=⟨h0,by omega⟩;simp [execOp,ho,Instr.indexAt,run_underlying ht,hv,hI,asIntOf,hc,Instr.sureAddr,SC hz,Addr.add_lit,hn]
   split at hr
   ·rename_i t' n' off hy;injection hr with hr; injection hr with h1 h2; subst h1; subst h2;rw [hy,mG] at hX;obtain ⟨b,hb,hv⟩:=hX;exact ⟨rfl,_,ja _ _ hv,⟨b,hb,rfl⟩,trivial⟩
   ·rename_i cs hy;injection hr with hr; injection hr with h1 h2; subst h1; subst h2;rw [hy,TL] at hX;obtain ⟨b,off,hv,hc⟩:=hX;exact ⟨rfl,_,ja _ _ hv,by rw [TL]; exact ⟨b,_,rfl,FL _ hc⟩,trivial⟩
   ·rename_i cs hy;injection hr with hr; injection hr with h1 h2; subst h1; subst h2;rw [hy] at hX;obtain ⟨b,off,hv,hc⟩:=hX;exact ⟨rfl,_,ja _ _ hv,⟨b,_,rfl,EK _ hc⟩,trivial⟩
   ·cases hr
  ·cases hr
 ·cases hr
theorem val_index {t:TypeId} (ht:P.underlying t=some .string) {X I:Operand} {y i:aC} (h:opd X=some y) (hi:opd I=some i) (ho:o.op=.index t X I)
  {call} {x:wA} {e:TD} (hr:(K.index y i).run call s=some (x,e)):e=.none/\fV P da a w ι Θ o x:=by
 have hX:=(R.opd h).1;have hI:=(R.opd hi).1;simp only [K.run] at hr;split at hr
 ·rename_i k b hk hy;obtain ⟨kk,n,nd,h0,hn⟩:=SL hk;rw [nd,TB] at hI;rw [hy,tH] at hX;cases hb:b[k]? with
  | none=>rw [hb] at hr; cases hr
  | some u =>
   rw [hb] at hr;injection hr with hr; injection hr with h1 h2; subst h1; subst h2;exact ⟨rfl,.int .u8 u.toNat,by simp [execOp,ho,Instr.index,run_underlying ht,hX,hI,asIntOf,h0,hn,hb],by rw [TB],trivial⟩
 ·cases hr
end
theorem T0 {av:Av}:∀ {xs:List AV} {us:List Value} (_:AG ι av w xs us) {j:Nat} {x:AV},xs[j]?=some x->∃ u,us[j]?=some u/\aP ι av w x u
 | [],_,_,_,_,hx=>by simp at hx
 | y :: r,_,h,j,x,hx=>by
  simp only [AG] at h;obtain ⟨u,ta,rfl,h0,h⟩:=h;cases j with
  | zero=>simp at hx; subst hx; exact ⟨u,rfl,h0⟩
  | succ j=>exact T0 h (j:=j) (by simpa using hx)
theorem sP {av:Av} {x:AV} {u:Value} (h:UE av w x u):aP ι av w x u:=by
 cases x <;> first
  | (simp only [UE] at h; obtain ⟨us,hv,hc⟩:=h; exact ⟨us,hv,GD hc⟩)
  | exact EM (ι:=ι) h
theorem U0 {av:Av}:∀ {xs:List AV} {us:List Value},KN av w xs us->AG ι av w xs us
 | [],_,h=>by simpa [KN,AG] using h
 | x :: r,_,h=>by
  simp only [KN] at h;obtain ⟨u,ta,rfl,h0,h⟩:=h;exact ⟨u,ta,rfl,sP h0,U0 h⟩
theorem dN {av avb:Av} {x:AV} {u:Value} (h:UE av w x u):tB ι av avb w x u:=by
 cases x <;> first
  | exact h
  | (simp only [UE] at h; obtain ⟨us,hv,hc⟩:=h; exact ⟨us,hv,GD hc⟩)
  | (simp only [UE] at h; obtain ⟨us,hv,hc⟩:=h; exact ⟨us,hv,U0 hc⟩)
  | (simp [UE] at h; done)
theorem RepU_to_S {av avb:Av} {x:AV} {u:Value} (h:aP ι av w x u):tB ι av avb w x u:=by
 cases x <;> first
  | exact h
  | exact dN h
theorem HD {av avb:Av} {x:AV} {u:Value} (h:wB ι av w x u):tB ι av avb w x u:=by
 cases x <;> first | exact h | exact dN h
section
variable (R:mC P O nt B F0 da w0 D s a w ι Θ)
include R
theorem val_ext {i:Nat} {X:Operand} {y:aC} (h:opd X=some y) (ho:o.op=.extract X i)
  {call} {x:wA} {e:TD} (hr:(K.ext y i).run call s=some (x,e)):e=.none/\fV P da a w ι Θ o x:=by
 have hX:=(R.opd h).1;simp only [K.run] at hr;split at hr
 ·rename_i vs hy;rw [hy,repS_tup] at hX;obtain ⟨us,hv,hc⟩:=hX;cases hb:vs[i]? with
  | none=>rw [hb] at hr; cases hr
  | some u =>
   rw [hb] at hr;injection hr with hr; injection hr with h1 h2; subst h1; subst h2;obtain ⟨u',hu,kc⟩:=T0 hc hb;have er:us[i]?=some u':=by simpa using hu
   exact ⟨rfl,u',by simp [execOp,ho,Instr.extract,hv,er],RepU_to_S kc,trivial⟩
 ·cases hr
theorem val_nilchk {X:Operand} {y:aC} (h:opd X=some y) (ho:o.op=.nilCheck X)
  {call} {x:wA} {e:TD} (hr:(K.nilchk y).run call s=some (x,e)):e=.none/\fV P da a w ι Θ o x:=by
 have hX:=(R.opd h).1;simp only [K.run] at hr;split at hr
 ·rename_i t n off hy;injection hr with hr; injection hr with h1 h2; subst h1; subst h2;rw [hy] at hX;obtain ⟨b,hb,hv⟩:=mG.1 hX;exact ⟨rfl,.pointer (some ⟨b,off,none⟩),by simp [execOp,ho,hv],by rw [mG]; exact ⟨b,hb,rfl⟩,trivial⟩
 ·rename_i cs hy;injection hr with hr; injection hr with h1 h2; subst h1; subst h2;rw [hy] at hX;obtain ⟨b,off,hv,hc⟩:=TL.1 hX;exact ⟨rfl,.pointer (some ⟨b,off,none⟩),by simp [execOp,ho,hv],by rw [TL]; exact ⟨b,off,rfl,hc⟩,trivial⟩
 ·rename_i cs hy;injection hr with hr; injection hr with h1 h2; subst h1; subst h2;rw [hy] at hX;obtain ⟨b,off,hv,hc⟩:=hX;exact ⟨rfl,.pointer (some ⟨b,off,none⟩),by simp [execOp,ho,hv],⟨b,off,rfl,hc⟩,trivial⟩
 ·cases hr
theorem val_len {t:TypeId} {str:Bool} (ht:if str then P.underlying t=some .string else ∃ e,P.underlying t=some (.slice e)) {X:Operand} {y:aC} (h:opd X=some y) (ho:o.op=.call { callee:=.builtin .len,args:=#[X],argTypes:=#[t] })
  {call} {x:wA} {e:TD} (hr:(K.len str y).run call s=some (x,e)):e=.none/\fV P da a w ι Θ o x:=by
 have hX:=(R.opd h).1;have mf:∀ A n c,str=false->a.eval X=.slice A n c->(execOp a.eval o).run P w=.ok (.value (.int .i64 n)) w:=fun A n c hs hv=>by
  subst hs;obtain ⟨e',ht⟩:=ht;simp [execOp,ho,resolve,invoke,builtin,Builtin.len_,run_underlying ht,hv,goInt]
 simp only [K.run] at hr;split at hr
 ·rename_i nl l hy;rw [hy,UF] at hX;simp only [UE] at hX;obtain ⟨A,c,hv,_⟩:=hX;cases str with
  | true=>simp at hr
  | false =>
   simp only [yA,if_false] at hr;injection hr with hr; injection hr with h1 h2; subst h1; subst h2;exact ⟨rfl,_,mf _ _ _ rfl hv,by rw [TB],trivial⟩
 ·rename_i l hy;rw [hy] at hX;obtain ⟨A,c,hv,_⟩:=hX;cases str with
  | true=>simp at hr
  | false =>
   simp only [yA,if_false] at hr;injection hr with hr; injection hr with h1 h2; subst h1; subst h2;exact ⟨rfl,_,mf _ _ _ rfl hv,by rw [TB],trivial⟩
 ·rename_i t' n sz off ln cap hy;rw [hy,XH] at hX;obtain ⟨b,_,_,_,_,_,hv⟩:=hX;cases str with
  | true=>simp at hr
  | false =>
   simp only [yA,if_false] at hr;injection hr with hr; injection hr with h1 h2; subst h1; subst h2;exact ⟨rfl,_,mf _ _ _ rfl hv,by rw [TB],trivial⟩
 ·rename_i b hy;rw [hy,tH] at hX;cases str with
  | false=>simp at hr
  | true =>
   simp only [if_true] at hr ht;injection hr with hr; injection hr with h1 h2; subst h1; subst h2;exact ⟨rfl,.int .i64 b.size,by simp [execOp,ho,resolve,invoke,builtin,Builtin.len_,run_underlying ht,hX,goInt],by rw [TB],trivial⟩
 ·cases hr
theorem val_un {op:UnOp} {t:TypeId} {X:Operand} {y:aC} (h:opd X=some y) (ho:o.op=.unOp op t X)
  {call} {x:wA} {e:TD} (hr:(K.un op y).run call s=some (x,e)):e=.none/\fV P da a w ι Θ o x:=by
 have hX:=(R.opd h).1;simp only [K.run] at hr;split at hr
 ·rename_i b hy;injection hr with hr; injection hr with h1 h2; subst h1; subst h2;rw [hy,LB] at hX;exact ⟨rfl,.bool (!b),by simp [execOp,ho,Op.unary,hX],by rw [LB],trivial⟩
 ·rename_i k n hy;injection hr with hr; injection hr with h1 h2; subst h1; subst h2;rw [hy,TB] at hX;exact ⟨rfl,.int k (k.wrap (0 - n)),by simp [execOp,ho,Op.unary,Op.intArith,hX],by rw [TB],trivial⟩
 ·cases hr
theorem L8 {k:Option IntKind} {t t':TypeId} (hk:match k with | some k=>(∃ j,P.underlying t=some (.int j))/\P.underlying t'=some (.int k) | none=>P.underlying t=some .string/\P.underlying t'=some .string)
  {X:Operand} {y:aC} (h:opd X=some y) (ho:o.op=.convert t t' X) {call} {x:wA} {e:TD} (hr:(K.conv k y).run call s=some (x,e)):e=.none/\fV P da a w ι Θ o x:=by
 have hX:=(R.opd h).1;simp only [K.run] at hr;split at hr
 ·rename_i k' j n hy;injection hr with hr; injection hr with h1 h2; subst h1; subst h2;rw [hy,TB] at hX;obtain ⟨⟨i,h1⟩,h2⟩:=hk;exact ⟨rfl,.int k' (k'.wrap n),by simp [execOp,ho,Go.convert,run_underlying h1,run_underlying h2,Conv.intToInt,hX],by rw [TB],trivial⟩
 ·rename_i b hy;injection hr with hr; injection hr with h1 h2; subst h1; subst h2;rw [hy,tH] at hX;exact ⟨rfl,.string b,by simp [execOp,ho,Go.convert,run_underlying hk.1,run_underlying hk.2,hX],by rw [tH],trivial⟩
 ·cases hr
end
end
end
section
open Go Go.RowKit
section
variable {P:Program} {O:PH} {nt B:Nat} {F0:XO} {da:Av} {w0:World} {D:Nat->Prop} {s:aA} {a:Act} {w w':World} {ι:Ix} {Θ:CK} {o:Oper}
def MW (a:Act) (d:Nat):Option Operand->Option Value × Nat->Prop
 | none,(v,n)=>v=none/\n=d
 | some x,(v,n)=>v=some (a.eval x)/\∃ k i,a.eval x=.int k i/\0<=i/\i.toNat=n
theorem pN {t e:TypeId} {z:Nat} (ht:P.underlying t=some (.slice e)) (hz:lC P e=some z) {A:Option Addr} {n c:Nat} {L H:Option Operand} {l h:Nat} (hl:MW a 0 L (L.map a.eval,l)) (hh:MW a n H (H.map a.eval,h)) (h1:l<=h) (h2:h<=c) :
  (Instr.sliceAt t (.slice A n c) (L.map a.eval) (H.map a.eval) none).run P w=.ok (.slice (if c=l then A else A.map (·.add (l * z))) (h - l) (c - l)) w:=by
 cases L with
 | none =>
  obtain ⟨_,rfl⟩:=hl;cases H with
  | none =>
   obtain ⟨_,rfl⟩:=hh;simp [Instr.sliceAt,Instr.slice,Instr.sliceBounds,run_underlying ht,SC hz]
  | some x =>
   obtain ⟨_,k,i,hx,h0,rfl⟩:=hh;have:0<=i/\i<=(c:Int):=⟨h0,by omega⟩;simp [Instr.sliceAt,Instr.slice,Instr.sliceBounds,Instr.sliceBound,run_underlying ht,SC hz,hx,asIntOf,this]
 | some y =>
  obtain ⟨_,k',i',hy,wh,rfl⟩:=hl;cases H with
  | none =>
   obtain ⟨_,rfl⟩:=hh;have:0<=i'/\i'<=(h:Int):=⟨wh,by omega⟩;simp [Instr.sliceAt,Instr.slice,Instr.sliceBounds,Instr.sliceBound,run_underlying ht,SC hz,hy,asIntOf,this]
  | some x =>
   obtain ⟨_,k,i,hx,h0,rfl⟩:=hh;have h3:0<=i/\i<=(c:Int):=⟨h0,by omega⟩;have h4:0<=i'/\i'<=(i.toNat:Int):=⟨wh,by omega⟩;have h5:i'<=max i 0:=by omega
   simp [Instr.sliceAt,Instr.slice,Instr.sliceBounds,Instr.sliceBound,run_underlying ht,SC hz,hx,hy,asIntOf,h3,h4,h5]
theorem CY {t:TypeId} (ht:P.underlying t=some .string) {b:ByteArray} {L H:Option Operand} {l h:Nat} (hl:MW a 0 L (L.map a.eval,l)) (hh:MW a b.size H (H.map a.eval,h)) (h1:l<=h) (h2:h<=b.size) :
  (Instr.sliceAt t (.string b) (L.map a.eval) (H.map a.eval) none).run P w=.ok (.string (b.extract l h)) w:=by
 cases L with
 | none =>
  obtain ⟨_,rfl⟩:=hl;cases H with
  | none =>
   obtain ⟨_,rfl⟩:=hh;simp [Instr.sliceAt,Instr.slice,Instr.sliceBounds,run_underlying ht]
  | some x =>
   obtain ⟨_,k,i,hx,h0,rfl⟩:=hh;have:0<=i/\i<=(b.size:Int):=⟨h0,by omega⟩;simp [Instr.sliceAt,Instr.slice,Instr.sliceBounds,Instr.sliceBound,run_underlying ht,hx,asIntOf,this]
 | some y =>
  obtain ⟨_,k',i',hy,wh,rfl⟩:=hl;cases H with
  | none =>
   obtain ⟨_,rfl⟩:=hh;have:0<=i'/\i'<=(b.size:Int):=⟨wh,by omega⟩;simp [Instr.sliceAt,Instr.slice,Instr.sliceBounds,Instr.sliceBound,run_underlying ht,hy,asIntOf,this]
  | some x =>
   obtain ⟨_,k,i,hx,h0,rfl⟩:=hh;have h3:0<=i/\i<=(b.size:Int):=⟨h0,by omega⟩;have h4:0<=i'/\i'<=(i.toNat:Int):=⟨wh,by omega⟩;have h5:i'<=max i 0:=by omega
   simp [Instr.sliceAt,Instr.slice,Instr.sliceBounds,Instr.sliceBound,run_underlying ht,hx,hy,asIntOf,h3,h4,h5]
theorem tK (R:mC P O nt B F0 da w0 D s a w ι Θ) {L:Option Operand} {l:Option aC} (h:gW L=some l) {d n:Nat} (hn:pJ s d l=some n):MW a d L (L.map a.eval,n):=by
 cases L with
 | none =>
  injection h with h;subst h;injection hn with hn;exact ⟨rfl,hn.symm⟩
 | some X =>
  simp only [gW] at h;cases hx:opd X with
  | none=>rw [hx] at h; cases h
  | some x =>
   rw [hx] at h;injection h with h;subst h;obtain ⟨k,i,hi,h0,hn⟩:=SL hn;have:=(R.opd hx).1;rw [hi,TB] at this;exact ⟨rfl,k,i,this,h0,hn⟩
theorem F8 {sz:Nat} {e:List (List AV)} (hu:∀ c∈e,c.length=sz) (l h:Nat):((e.take h).drop l).flatten=(e.flatten.take (h * sz)).drop (l * sz):=by
 rw [<- kQ (fun c hc=>hu c (List.mem_of_mem_take hc)) l];congr 1;clear l
 induction e generalizing h with
 | nil=>simp
 | cons c r ih =>
  cases h with
  | zero=>simp
  | succ h =>
   have hc:c.length=sz:=hu c (by simp);rw [List.take_succ_cons,yI,yI,List.take_append,hc,ih (fun c hc=>hu c (by simp [hc])),
    yB (l:=c) (by rw [hc,yy]; omega),show (h + 1) * sz - sz=h * sz from by rw [yy]; omega]
theorem M8 {av:Av} {cs:List AV} {b off:Nat} (k:Nat) (h:RE av w cs b off):RE av w (cs.take k) b off:=by
 rw [<- List.take_append_drop k cs,sL] at h;exact h.1
theorem U5 {av avb:Av} {cs:List AV} {b off:Nat} (k:Nat) (h:bC av avb w cs b off):bC av avb w (cs.take k) b off:=by
 rw [<- List.take_append_drop k cs,iK] at h;exact h.1
theorem val_slc (R:mC P O nt B F0 da w0 D s a w ι Θ) {t:TypeId} {str:Bool} {z:Nat} (ht:if str then P.underlying t=some .string else ∃ e,P.underlying t=some (.slice e)/\lC P e=some z) {X:Operand} {L H:Option Operand} {x:aC} {l h:Option aC} (hx:opd X=some x) (hl:gW L=some l) (hh:gW H=some h)
  (ho:o.op=.slice t X L H none) {call} {y:wA} {e:TD} (hr:(K.slc str z x l h none).run call s=some (y,e)):e=.none/\fV P da a w ι Θ o y:=by
 have hX:=(R.opd hx).1;simp only [K.run] at hr;split at hr
 ·cases hr
 ·rename_i lo ax;have hL:=tK R hl ax;split at hr
  ·rename_i b e' hy;rw [hy,UF] at hX;simp only [UE] at hX;obtain ⟨A,c,hv,hc,hu,hn,hs⟩:=hX;split at hr
   ·rename_i hi gp;have hH:=tK R hh gp;split at hr
    ·rename_i aa;obtain ⟨h1,h2,h3,rfl⟩:=aa;injection hr with hr; injection hr with e1 e2; subst e1; subst e2;obtain ⟨el,gb,ht2⟩:=ht;have tb:∀ c∈e',c.length=z:=fun c hc=>by simpa using y6.1 h3 c hc
     have ja:=pN (w:=w) (A:=A) gb ht2 hL hH h1 (Nat.le_trans h2 hc);refine ⟨rfl,.slice (if c=lo then A else A.map (·.add (lo * z))) (hi - lo) (c - lo),by simp only [execOp,ho,hv,Option.map_none,Sem.run_bind,ja,Result.andThen_ok,Sem.run_pure],?_,trivial⟩;simp only [UF,UE];have ia:((e'.take hi).drop lo).length=hi - lo:=by rw [List.length_drop,yL]; omega
     refine ⟨_,_,by rw [ia],by rw [ia]; omega,fun x hx y hy=>(tb x (List.mem_of_mem_take (List.mem_of_mem_drop hx))).trans (tb y (List.mem_of_mem_take (List.mem_of_mem_drop hy))).symm,fun hb=>?_,fun hb=>?_⟩
     ·obtain ⟨rfl,h0,rfl⟩:=hn hb;refine ⟨by simp,by omega,by omega⟩
     ·obtain ⟨gr,hs2⟩:=hs hb;by_cases fc:c=lo
      ·exact ⟨fun _=>by omega,fun h0=>by omega⟩
      ·refine ⟨fun hA=>?_,fun h0=>?_⟩
       ·rw [if_neg fc] at hA;cases uo:A with
        | none=>have:=gr uo; omega
        | some a=>rw [uo] at hA; cases hA
       obtain ⟨bb,off,rfl,na⟩:=hs2 (by omega);refine ⟨bb,off + lo * z,by rw [if_neg fc]; simp only [yr,Addr.add_lit],?_⟩;rw [IF,F8 tb];exact FL _ (M8 _ (IF.1 na))
    ·cases hr
   ·cases hr
  ·rename_i e' hy;rw [hy] at hX;obtain ⟨a',c,hv,hc,hu,hs⟩:=hX;split at hr
   ·rename_i hi gp;have hH:=tK R hh gp;split at hr
    ·rename_i aa;obtain ⟨h1,h2,h3,rfl⟩:=aa;injection hr with hr; injection hr with e1 e2; subst e1; subst e2;obtain ⟨el,gb,ht2⟩:=ht;have tb:∀ c∈e',c.length=z:=fun c hc=>by simpa using y6.1 h3 c hc
     have ja:=pN (w:=w) (A:=some a') gb ht2 hL hH h1 (Nat.le_trans h2 hc);refine ⟨rfl,.slice (if c=lo then some a' else (some a').map (·.add (lo * z))) (hi - lo) (c - lo),by simp only [execOp,ho,hv,Option.map_none,Sem.run_bind,ja,Result.andThen_ok,Sem.run_pure],?_,trivial⟩;have ia:((e'.take hi).drop lo).length=hi - lo:=by rw [List.length_drop,yL]; omega
     refine ⟨if c=lo then a' else a'.add (lo * z),c - lo,by rw [ia]; split <;> simp,by rw [ia]; omega,fun x hx y hy=>(tb x (List.mem_of_mem_take (List.mem_of_mem_drop hx))).trans (tb y (List.mem_of_mem_take (List.mem_of_mem_drop hy))).symm,fun h0=>?_⟩;rw [if_neg (by omega)];obtain ⟨bb,off,rfl,na⟩:=hs (by omega);refine ⟨bb,off + lo * z,by rw [Addr.add_lit],?_⟩;rw [KJ,F8 tb];exact EK _ (U5 _ (KJ.1 na))
    ·cases hr
   ·cases hr
  ·rename_i t' n sz off ln cap hy;rw [hy,XH] at hX;obtain ⟨b,hb,bc,cc,oi,hz,hv⟩:=hX;split at hr
   ·rename_i hi gp;have hH:=tK R hh gp;split at hr
    ·rename_i aa;obtain ⟨h1,h2,rfl,rfl⟩:=aa;obtain ⟨el,gb,ht2⟩:=ht;have ja:=pN (w:=w) (A:=some ⟨b,off,none⟩) gb ht2 hL hH h1 (Nat.le_trans h2 oi);have sq:(execOp a.eval o).run P w=.ok (.value (.slice (if cc=lo then some ⟨b,off,none⟩ else (some (⟨b,off,none⟩:Addr)).map (·.add (lo * sz))) (hi - lo) (cc - lo))) w:=by simp only [execOp,ho,hv,Option.map_none,Sem.run_bind,ja,Result.andThen_ok,Sem.run_pure]
     split at hr
     ·rename_i he;injection hr with hr; injection hr with e1 e2; subst e1; subst e2;refine ⟨rfl,_,sq,?_,trivial⟩;rw [UF];simp only [UE,List.length_nil];refine ⟨_,cc - lo,by rw [show hi - lo=0 from by omega],by omega,(fun x hx=>by cases hx),(fun h=>by cases h),fun _=>⟨fun h=>?_,fun h=>absurd h (Nat.lt_irrefl 0)⟩⟩;split at h <;> simp at h
     ·rename_i he;injection hr with hr; injection hr with e1 e2; subst e1; subst e2;refine ⟨rfl,_,sq,⟨b,hb,by omega,cc - lo,by omega,?_,?_⟩,trivial⟩
      ·have:off + lo * sz + (cc - lo) * sz=off + cc * sz:=by
        rw [Nat.add_assoc,<- Nat.add_mul];congr 2;omega
       rw [this];exact hz
      ·rw [if_neg (by omega)];simp [Addr.add_lit]
    ·cases hr
   ·cases hr
  ·rename_i b hy;rw [hy,tH] at hX;split at hr
   ·rename_i hi gp;have hH:=tK R hh gp;split at hr
    ·rename_i aa;obtain ⟨h1,h2,rfl⟩:=aa;injection hr with hr; injection hr with e1 e2; subst e1; subst e2;have ja:=CY (w:=w) ht hL hH h1 h2;exact ⟨rfl,.string (b.extract lo hi),by simp only [execOp,ho,hX,Option.map_none,Sem.run_bind,ja,Result.andThen_ok,Sem.run_pure],by rw [tH],trivial⟩
    ·cases hr
   ·cases hr
  ·cases hr
end
end
section
open Go Go.RowKit
section
variable {P:Program} {O:PH} {nt B:Nat} {F0:XO} {da:Av} {w0:World} {D:Nat->Prop} {s:aA} {a:Act} {w w':World} {ι:Ix} {Θ:CK} {o:Oper}
theorem eql_slice (d:Nat) {t e:TypeId} (ht:P.underlying t=some (.slice e)) (A:Option Addr) (n c:Nat):(Op.equalIn (d + 1) t (.slice A n c) (.slice none 0 0)).run P w=.ok A.isNone w:=by
 unfold Op.equalIn;simp only [Sem.run_bind,run_underlying ht,Result.andThen_ok];cases A <;> rfl
theorem eql_ptr (d:Nat) {t e:TypeId} (ht:P.underlying t=some (.pointer e)) (A:Option Addr):(Op.equalIn (d + 1) t (.pointer A) (.pointer none)).run P w=.ok A.isNone w:=by
 unfold Op.equalIn;simp only [Sem.run_bind,run_underlying ht,Result.andThen_ok];cases A <;> rfl
theorem TW (R:mC P O nt B F0 da w0 D s a w ι Θ) {t t':TypeId} {neg ptr:Bool} (ht:if ptr then ∃ e,P.underlying t=some (.pointer e) else ∃ e,P.underlying t=some (.slice e)) {X Y:Operand} {x y:aC} (hx:opd X=some x) (hy:opd Y=some y)
  (ho:o.op=.binOp (if neg then .neq else .eql) t X Y t') {call} {z:wA} {e:TD} (hr:(K.eqn neg ptr x y).run call s=some (z,e)):e=.none/\fV P da a w ι Θ o z:=by
 have hX:=(R.opd hx).1;have hY:=(R.opd hy).1;have key:∀ (u v:Value) (r:Bool),a.eval X=u->a.eval Y=v->u.oneCell'=true->u≠.nilIface->(∀ op,(Go.binOp op t u v).run P w=(match op with | .eql=>(do pure (.bool (<- Op.equal t u v)):Sem Value) | .neq=>(do pure (.bool (!(<- Op.equal t u v))):Sem Value) | _=>Go.binOp op t u v).run P w)->(Op.equal t u v).run P w=.ok r w →
   (execOp a.eval o).run P w=.ok (.value (.bool (r != neg))) w:=fun u v r hu hv h1 hn hb he=>by
  cases neg with
  | false =>
   simp only [yA,if_false] at ho;have:=hb .eql;simp only [Sem.run_bind,he,Result.andThen_ok,Sem.run_pure] at this;rw [XB ho hu hv h1 hn this];simp
  | true =>
   simp only [if_true] at ho;have:=hb .neq;simp only [Sem.run_bind,he,Result.andThen_ok,Sem.run_pure] at this;rw [XB ho hu hv h1 hn this];simp
 have mf:∀ A n c,ptr=false->a.eval X=.slice A n c->a.eval Y=.slice none 0 0->(execOp a.eval o).run P w=.ok (.value (.bool (A.isNone != neg))) w:=fun A n c hp hu hv=>by
  subst hp;simp only [yA,if_false] at ht;obtain ⟨e,ht⟩:=ht;exact key _ _ _ hu hv rfl (by simp) (fun op=>by cases op <;> simp [Go.binOp]) (eql_slice 9999 ht A n c)
 have hpt:∀ A,ptr=true->a.eval X=.pointer A->a.eval Y=.pointer none->(execOp a.eval o).run P w=.ok (.value (.bool (A.isNone != neg))) w:=fun A hp hu hv=>by
  subst hp;simp only [if_true] at ht;obtain ⟨e,ht⟩:=ht;exact key _ _ _ hu hv rfl (by simp) (fun op=>by cases op <;> simp [Go.binOp]) (eql_ptr 9999 ht A)
 have fin:∀ {b:Bool},(execOp a.eval o).run P w=.ok (.value (.bool (b != neg))) w->fV P da a w ι Θ o ⟨.bool (b != neg),.no⟩:=fun h=>⟨_,h,by rw [LB],trivial⟩
 simp only [K.run] at hr;split at hr
 ·rename_i l hyv;rw [hyv,UF] at hY;simp only [UE] at hY;obtain ⟨A,c,hv,_,_,hn,_⟩:=hY;obtain ⟨rfl,h0,rfl⟩:=hn trivial;rw [h0] at hv;cases hi:TS false (x.get s) with
  | none=>rw [hi] at hr; cases hr
  | some b =>
   rw [hi] at hr;injection hr with hr; injection hr with e1 e2; subst e1; subst e2;refine ⟨rfl,fin ?_⟩;unfold TS at hi;split at hi <;> first | (exact absurd ‹false=true› (by decide)) | skip
   ·rename_i l' _ ee;injection hi with hi; subst hi;rw [ee,UF] at hX;simp only [UE] at hX;obtain ⟨A,c,hu,_,_,zf,cj⟩:=hX;have:=mf _ _ _ rfl hu hv;rw [(zf trivial).1] at this; exact this
   ·rename_i l' _ ee;split at hi
    ·cases hi
    ·rename_i ma;injection hi with hi; subst hi;rw [ee,UF] at hX;simp only [UE] at hX;obtain ⟨A,c,hu,_,_,zf,cj⟩:=hX;have:=mf _ _ _ rfl hu hv;obtain ⟨_,_,rfl,_⟩:=(cj trivial).2 (by cases l' with | nil=>simp at ma | cons=>simp);exact this
   ·rename_i l' _ ee;injection hi with hi; subst hi;rw [ee] at hX;obtain ⟨a',c,hu,_⟩:=hX;exact mf _ _ _ rfl hu hv
   ·rename_i ee;injection hi with hi; subst hi;rw [ee] at hX;obtain ⟨b,_,_,_,_,_,hu⟩:=XH.1 hX;exact mf _ _ _ rfl hu hv
   ·cases hi
 ·rename_i hyv;rw [hyv,X2] at hY;cases hi:TS true (x.get s) with
  | none=>rw [hi] at hr; cases hr
  | some b =>
   rw [hi] at hr;injection hr with hr; injection hr with e1 e2; subst e1; subst e2;refine ⟨rfl,fin ?_⟩;unfold TS at hi;split at hi <;> first | (exact absurd ‹true=false› (by decide)) | skip
   ·rename_i ee;injection hi with hi; subst hi;rw [ee,X2] at hX;exact hpt _ rfl hX hY
   ·rename_i ee;injection hi with hi; subst hi;rw [ee] at hX;obtain ⟨b,_,hu⟩:=mG.1 hX;exact hpt _ rfl hu hY
   ·rename_i ee;injection hi with hi; subst hi;rw [ee] at hX;obtain ⟨b,off,hu,_⟩:=TL.1 hX;exact hpt _ rfl hu hY
   ·rename_i ee;injection hi with hi; subst hi;rw [ee] at hX;obtain ⟨b,off,hu,_⟩:=hX;exact hpt _ rfl hu hY
   ·cases hi
 ·cases hr
def KindEq (P:Program) (d:Nat) (t:TypeId) (w:World):Nat->Value->Value->Prop
 | 0,.int j a,.int j' b=>j=j'->(Op.equalIn (d + 1) t (.int j a) (.int j' b)).run P w=.ok (decide (a=b)) w
 | 1,.string a,.string b=>(Op.equalIn (d + 1) t (.string a) (.string b)).run P w=.ok (decide (a=b)) w
 | 2,.bool a,.bool b=>(Op.equalIn (d + 1) t (.bool a) (.bool b)).run P w=.ok (decide (a=b)) w
 | _,_,_=>True
theorem G8 (d:Nat) {t:TypeId} {k:Nat} (hk:wZ P t=some k) {xs ys:Array Value} {i:Nat} {u v:Value} (hu:xs[i]?=some u) (hv:ys[i]?=some v) :
  (part t xs i).run P w=.ok u w/\(part t ys i).run P w=.ok v w/\KindEq P d t w k u v:=by
 unfold wZ at hk;split at hk
 ·rename_i j ht _;injection hk with hk;subst hk;refine ⟨by simp [part,isAgg,run_underlying ht,hu],by simp [part,isAgg,run_underlying ht,hv],?_⟩;cases u <;> cases v <;> first | trivial | skip
  rename_i j1 a j2 b;rintro rfl;rw [run_equalIn_int w d t j1 j a b ht];rfl
 ·rename_i ht _;injection hk with hk;subst hk;refine ⟨by simp [part,isAgg,run_underlying ht,hu],by simp [part,isAgg,run_underlying ht,hv],?_⟩;cases u <;> cases v <;> first | trivial | skip
  rename_i a b;show (Op.equalIn (d + 1) t (.string a) (.string b)).run P w=_;rw [run_equalIn_string w d t a b ht,gN]
 ·rename_i ht _;injection hk with hk;subst hk;refine ⟨by simp [part,isAgg,run_underlying ht,hu],by simp [part,isAgg,run_underlying ht,hv],?_⟩;cases u <;> cases v <;> first | trivial | skip
  rename_i a b;show (Op.equalIn (d + 1) t (.bool a) (.bool b)).run P w=_;rw [run_equalIn_bool' w d t a b ht];cases a <;> cases b <;> rfl
 ·cases hk
theorem eqC_step {k:Nat} {ks:List Nat} {x y:AV} {xs ys:List AV} {r:Bool} (h:MK (k :: ks) (x :: xs) (y :: ys)=some r) {av:Av} {u v:Value} (hu:wB ι av w x u) (hv:wB ι av w y v) (d:Nat) {t:TypeId} (hk:wZ P t=some k) {us vs:Array Value} {i:Nat} (hi:us[i]?=some u) (hj:vs[i]?=some v) :
  ∃ b,(part t us i).run P w=.ok u w/\(part t vs i).run P w=.ok v w/\(Op.equalIn (d + 1) t u v).run P w=.ok b w/\(if b then MK ks xs ys=some r else r=false):=by
 obtain ⟨h1,h2,h3⟩:=G8 (w:=w) d hk hi hj;unfold MK at h;split at h
 ·rename_i e _ _; cases e
 ·rename_i j a r1 j' b r2 e1 e2 e3;injection e1 with e1 e1'; injection e2 with e2 po; injection e3 with e3 e3';subst e1; subst e1'; subst e2; subst po; subst e3; subst e3';simp only [wB,UE] at hu hv;subst hu; subst hv;split at h
  ·rename_i hjj;refine ⟨_,h1,h2,h3 hjj,?_⟩;by_cases ig:a=b
   ·rw [if_pos ig] at h; rw [if_pos (by simpa using ig)]; exact h
   ·rw [if_neg ig] at h; injection h with h; rw [if_neg (by simpa using ig)]; exact h.symm
  ·cases h
 ·rename_i a r1 b r2 e1 e2 e3;injection e1 with e1 e1'; injection e2 with e2 po; injection e3 with e3 e3';subst e1; subst e1'; subst e2; subst po; subst e3; subst e3';simp only [wB,UE] at hu hv;subst hu; subst hv;refine ⟨_,h1,h2,h3,?_⟩;by_cases ig:a=b
  ·rw [if_pos ig] at h; rw [if_pos (by simpa using ig)]; exact h
  ·rw [if_neg ig] at h; injection h with h; rw [if_neg (by simpa using ig)]; exact h.symm
 ·rename_i a r1 b r2 e1 e2 e3;injection e1 with e1 e1'; injection e2 with e2 po; injection e3 with e3 e3';subst e1; subst e1'; subst e2; subst po; subst e3; subst e3';simp only [wB,UE] at hu hv;subst hu; subst hv;refine ⟨_,h1,h2,h3,?_⟩;by_cases ig:a=b
  ·rw [if_pos ig] at h; rw [if_pos (by simpa using ig)]; exact h
  ·rw [if_neg ig] at h; injection h with h; rw [if_neg (by simpa using ig)]; exact h.symm
 ·cases h
theorem eqC_len:∀ {ks:List Nat} {xs ys:List AV} {r:Bool},MK ks xs ys=some r->ks≠[]->∃ x xh y ys',xs=x :: xh/\ys=y :: ys'
 | [],_,_,_,h,h'=>absurd rfl h'
 | k :: ks,xs,ys,r,h,_=>by
  cases xs with
  | nil=>simp [MK] at h
  | cons x xs =>
   cases ys with
   | nil=>unfold MK at h; split at h <;> simp_all
   | cons y ys=>exact ⟨x,xs,y,ys,rfl,rfl⟩
theorem fQ:∀ {k1 k2:List Nat} {xs ys:List AV} {r:Bool},MK (k1++k2) xs ys=some r->∃ r1,MK k1 (xs.take k1.length) (ys.take k1.length)=some r1/\(if r1 then MK k2 (xs.drop k1.length) (ys.drop k1.length)=some r else r=false)
 | [],k2,xs,ys,r,h=>⟨true,by simp [MK],by simpa using h⟩
 | k :: k1,k2,xs,ys,r,h=>by
  obtain ⟨x,xh,y,ys',rfl,rfl⟩:=eqC_len h (by simp);simp only [yR] at h;simp only [yF,List.take_succ_cons,List.drop_succ_cons];unfold MK at h;split at h
  ·rename_i e _ _; cases e
  ·rename_i j a r1 j' b r2 e1 e2 e3;injection e1 with e1 e1'; injection e2 with e2 po; injection e3 with e3 e3';subst e1; subst e1'; subst e2; subst po; subst e3; subst e3';split at h
   ·rename_i hjj;subst hjj;split at h
    ·rename_i ig;simp only [MK,if_true,if_pos ig];exact fQ h
    ·rename_i ig;injection h with h;exact ⟨false,by simp [MK,ig],by simpa using h.symm⟩
   ·cases h
  ·rename_i a r1 b r2 e1 e2 e3;injection e1 with e1 e1'; injection e2 with e2 po; injection e3 with e3 e3';subst e1; subst e1'; subst e2; subst po; subst e3; subst e3';split at h
   ·rename_i ig;simp only [MK,if_pos ig];exact fQ h
   ·rename_i ig;injection h with h;exact ⟨false,by simp [MK,ig],by simpa using h.symm⟩
  ·rename_i a r1 b r2 e1 e2 e3;injection e1 with e1 e1'; injection e2 with e2 po; injection e3 with e3 e3';subst e1; subst e1'; subst e2; subst po; subst e3; subst e3';split at h
   ·rename_i ig;simp only [MK,if_pos ig];exact fQ h
   ·rename_i ig;injection h with h;exact ⟨false,by simp [MK,ig],by simpa using h.symm⟩
  ·cases h
def G3 (P:Program) (ι:Ix) (av:Av) (w:World) (n:Nat) (t:TypeId) (ks:List Nat):Prop :=
 ∀ (d:Nat) (us vs:Array Value) (off:Nat) (xs ys:List AV) (r:Bool),FA ι av w xs ((us.toList.drop off).take ks.length)->FA ι av w ys ((vs.toList.drop off).take ks.length)->MK ks xs ys=some r →
  ∃ a b,(part t us off).run P w=.ok a w/\(part t vs off).run P w=.ok b w/\(Op.equalIn (d + n) t a b).run P w=.ok r w
theorem WM {av:Av} {xs:List AV} {us:List Value} {off k m:Nat} (h:FA ι av w xs ((us.drop off).take (k + m))):FA ι av w (xs.take k) ((us.drop off).take k)/\FA ι av w (xs.drop k) ((us.drop (off + k)).take m):=by
 constructor
 ·have:=XF k h
  rwa [List.take_take,Nat.min_eq_left (Nat.le_add_right ..)] at this
 ·have:=kF k h
  rwa [List.drop_take,Nat.add_sub_cancel_left,List.drop_drop] at this
theorem QV {av:Av} {n:Nat} (ih:∀ t ks,wH P n t=some ks->G3 P ι av w n t ks) (d:Nat) {us vs:Array Value}:∀ {fs:List Field} {i:Nat} {ks:List Nat} {xs ys:List AV} {r:Bool},jQ (wH P n) i fs=some ks->MK ks xs ys=some r->FA ι av w xs ((us.toList.drop i).take ks.length)->FA ι av w ys ((vs.toList.drop i).take ks.length) →
  (Op.eqFields (d + n) us vs fs).run P w=.ok r w
 | [],i,ks,xs,ys,r,hk,h,_,_=>by
  injection hk with hk;subst hk;cases xs <;> cases ys <;> simp [MK] at h
  subst h;simp [Op.eqFields]
 | f :: fs,i,ks,xs,ys,r,hk,h,hx,hy=>by
  unfold jQ at hk;obtain ⟨l,hl,hk⟩:=ye.1 hk;split at hk
  ·rename_i hn;obtain ⟨l',um,rfl⟩:=yn.1 hk;obtain ⟨r1,h1,h2⟩:=fQ h;rw [yz] at hx hy;obtain ⟨x1,x2⟩:=WM hx;obtain ⟨y1,y2⟩:=WM hy;obtain ⟨a,b,p1,p2,p3⟩:=ih _ _ hl d us vs i _ _ _ x1 y1 h1;unfold Op.eqFields;rw [if_pos hn.1,hn.2];simp only [Sem.run_bind,p1,p2,p3,Result.andThen_ok,Sem.run_ite];cases r1 with
   | true =>
    simp only [if_true] at h2;simp only [Bool.not_true,yA,if_false];exact QV ih d um h2 x2 y2
   | false =>
    simp only [yA,if_false] at h2;simp [h2]
  ·cases hk
theorem lX {av:Av} {n:Nat} {e:TypeId} {l:List Nat} (ih:G3 P ι av w n e l) (hc:P.cellsOf e=l.length) (d:Nat) {us vs:Array Value}:∀ {m i:Nat} {xs ys:List AV} {r:Bool},MK (yE m l).flatten xs ys=some r->FA ι av w xs ((us.toList.drop (i * l.length)).take (yE m l).flatten.length)->FA ι av w ys ((vs.toList.drop (i * l.length)).take (yE m l).flatten.length) →
  (Op.eqItems (d + n) e (P.cellsOf e) us vs (List.range' i m)).run P w=.ok r w
 | 0,i,xs,ys,r,h,_,_=>by
  cases xs <;> cases ys <;> simp [MK] at h
  subst h;simp [Op.eqItems]
 | m + 1,i,xs,ys,r,h,hx,hy=>by
  rw [List.replicate_succ,yI] at h hx hy;obtain ⟨r1,h1,h2⟩:=fQ h;rw [yz] at hx hy;obtain ⟨x1,x2⟩:=WM hx;obtain ⟨y1,y2⟩:=WM hy;rw [<- yy] at x2 y2;obtain ⟨a,b,p1,p2,p3⟩:=ih d us vs (i * l.length) _ _ _ x1 y1 h1;rw [List.range'_succ];unfold Op.eqItems;rw [hc];simp only [Sem.run_bind,p1,p2,p3,Result.andThen_ok,Sem.run_ite];cases r1 with
  | true =>
   simp only [if_true] at h2;simp only [Bool.not_true,yA,if_false];have:=lX ih hc d (m:=m) (i:=i + 1) h2 x2 y2;rw [hc] at this;exact this
  | false =>
   simp only [yA,if_false] at h2;simp [h2]
theorem SR {t:TypeId} {z:Nat} (hA:bJ P t=some true) (hz:lC P t=some z) (us:Array Value) (off:Nat):(part t us off).run P w=.ok (.agg (us.extract off (off + z))) w/\(us.extract off (off + z)).toList=(us.toList.drop off).take z :=
 ⟨by simp [part,qQ hA,SC hz],by rw [Array.toList_extract,List.extract_eq_take_drop,Nat.add_sub_cancel_left]⟩
theorem RS {t:TypeId} {z:Nat} (h:lC P t=some z):∃ i,P.info? t=some i:=by
 unfold lC at h;cases hh:P.info? t with
 | none=>rw [hh] at h; cases h
 | some i=>exact ⟨i,rfl⟩
theorem rV {av:Av} {n:Nat} (ih:∀ t ks,wH P n t=some ks->G3 P ι av w n t ks) (d:Nat) {t:TypeId} {ks:List Nat} (hk:wH P (n + 1) t=some ks) (hA:bJ P t=some true) {us vs:Array Value} {xs ys:List AV} {r:Bool}
  (hx:FA ι av w xs (us.toList.take ks.length)) (hy:FA ι av w ys (vs.toList.take ks.length)) (h:MK ks xs ys=some r):lC P t=some ks.length/\(Op.equalIn (d + n + 1) t (.agg us) (.agg vs)).run P w=.ok r w:=by
 unfold wH at hk;split at hk
 ·rename_i k od;unfold bJ at hA;unfold wZ at od;split at od <;> first | (cases od; done) | (rename_i ht _; rw [ht] at hA; injection hA with hA; cases hA) | (rename_i ht; rw [ht] at hA; injection hA with hA; cases hA)
 ·split at hk
  ·rename_i m e ht;obtain ⟨l,hl,hk⟩:=ye.1 hk;split at hk
   ·rename_i hc;injection hk with hk;subst hk;obtain ⟨i,hi⟩:=RS hc.2.1;refine ⟨hc.2.2,?_⟩;have:=run_equalIn_array (P:=P) w (d + n) us vs ht hi;rw [List.range_eq_range'] at this;exact this.trans (lX (ih _ _ hl) hc.1 d h (by simpa using hx) (by simpa using hy))
   ·cases hk
  ·rename_i fs ht;split at hk
   ·cases hk
   ·rename_i lc;obtain ⟨l,hl,hk⟩:=ye.1 hk;split at hk
    ·rename_i hc;injection hk with hk;subst hk;refine ⟨hc,?_⟩;have hf:P.fieldsOf t=fs:=by simp [Program.fieldsOf,ht]
     have:=run_equalIn_struct (P:=P) w (d + n) t us vs (by rw [hf]; exact ht) (by simpa using lc);rw [hf] at this;exact this.trans (QV ih d hl h (by simpa using hx) (by simpa using hy))
    ·cases hk
  ·cases hk
theorem eU {av:Av}:∀ (n:Nat) (t:TypeId) (ks:List Nat),wH P n t=some ks->G3 P ι av w n t ks
 | 0,_,_,h=>by cases h
 | n + 1,t,ks,hk=>by
  intro d us vs off xs ys r hx hy h;have zc:=hk;unfold wH at hk;split at hk
  ·rename_i k od;injection hk with hk;subst hk;obtain ⟨x,xh,y,ys',rfl,rfl⟩:=eqC_len h (by simp);obtain ⟨u,ta,e1,hu,_,kp⟩:=hx;obtain ⟨v,mw,e2,hv,_,tv⟩:=hy;have l1:ta=[]:=by
    have:=congrArg List.length e1;simp at this;exact yM (by omega)
   have l2:mw=[]:=by
    have:=congrArg List.length e2;simp at this;exact yM (by omega)
   have g1:us[off]?=some u:=by
    have:=congrArg (fun l=>l[0]?) e1;simpa [yV,yU] using this
   have g2:vs[off]?=some v:=by
    have:=congrArg (fun l=>l[0]?) e2;simpa [yV,yU] using this
   obtain ⟨b,p1,p2,p3,p4⟩:=eqC_step (P:=P) h hu hv (d + n) od g1 g2;refine ⟨u,v,p1,p2,?_⟩;have:b=r:=by
    cases b with
    | true =>
     simp only [if_true] at p4;subst l1;subst l2;cases xh with
     | nil=>cases ys' with
      | nil=>simp [MK] at p4; exact p4.symm
      | cons=>simp [MK] at p4
     | cons=>simp [MK] at p4
    | false=>simpa using p4.symm
   rw [<- this];exact p3
  ·rename_i hnk;have hA:bJ P t=some true:=by
    split at hk
    ·rename_i ht; simp [bJ,ht]
    ·rename_i ht; simp [bJ,ht]
    ·cases hk
   have:=rV (fun t ks h=>eU n t ks h) d zc hA (us:=us.extract off (off + ks.length)) (vs:=vs.extract off (off + ks.length)) (xs:=xs) (ys:=ys) (r:=r)
    (by rw [Array.toList_extract,List.extract_eq_take_drop,Nat.add_sub_cancel_left,List.take_take,Nat.min_self]; exact hx)
    (by rw [Array.toList_extract,List.extract_eq_take_drop,Nat.add_sub_cancel_left,List.take_take,Nat.min_self]; exact hy) h
   exact ⟨_,_,(SR hA this.1 us off).1,(SR hA this.1 vs off).1,this.2⟩
theorem val_eqa (R:mC P O nt B F0 da w0 D s a w ι Θ) {t t':TypeId} {neg:Bool} {ks:List Nat} (ht:uR P t=some ks) {X Y:Operand} {x y:aC} (hx:opd X=some x) (hy:opd Y=some y)
  (ho:o.op=.binOp (if neg then .neq else .eql) t X Y t') {call} {z:wA} {e:TD} (hr:(K.eqa neg ks x y).run call s=some (z,e)):e=.none/\fV P da a w ι Θ o z:=by
 have hX:=(R.opd hx).1;have hY:=(R.opd hy).1;simp only [K.run] at hr;split at hr
 ·rename_i xa ya ee hyv;rw [ee,WY] at hX;rw [hyv,WY] at hY;obtain ⟨us,hu,kp⟩:=hX;obtain ⟨vs,hv,tv⟩:=hY;cases hq:MK ks xa ya with
  | none=>rw [hq] at hr; cases hr
  | some r =>
   rw [hq] at hr;injection hr with hr; injection hr with e1 e2; subst e1; subst e2;unfold uR at ht;split at ht
   ·cases ht
   ·rename_i hg;have he:(Op.equal t (.agg us) (.agg vs)).run P w=.ok r w:=by
     have main:wH P 8 t=some ks->bJ P t=some true->(Op.equal t (.agg us) (.agg vs)).run P w=.ok r w:=fun hk hA =>
      by
       obtain ⟨r1,h1,h2⟩:=fQ (k1:=ks) (k2:=[]) (by simpa using hq);have e:r1=r:=by
        cases r1 with
        | true =>
         simp only [if_true] at h2;unfold MK at h2;split at h2 <;> first | (injection h2) | (rename_i e _ _; cases e) | cases h2
        | false=>simpa using h2.symm
       subst e;exact (rV (fun t ks h=>eU 7 t ks h) 9992 hk hA (us:=us) (vs:=vs) (XF _ kp) (XF _ tv) h1).2
     split at ht
     ·rename_i tn; exact main ht (by simp [bJ,tn])
     ·rename_i tn; exact main ht (by simp [bJ,tn])
     ·cases ht
    have hgd:∀ op,(eqGuard op t X Y (.agg us) (.agg vs)).run P w=.ok () w:=fun op=>by
     have:P.eqGuardType P.depth t=false:=by simpa using hg
     unfold eqGuard;cases op <;> simp [this]
    refine ⟨rfl,.bool (r != neg),?_,by rw [LB],trivial⟩;cases neg with
    | false =>
     simp only [yA,if_false] at ho;simp [execOp,ho,hu,hv,hgd,Go.binOp,he]
    | true =>
     simp only [if_true] at ho;simp [execOp,ho,hu,hv,hgd,Go.binOp,he]
 ·cases hr
end
end
section
open Go Go.RowKit
section
variable {P:Program} {O:PH} {nt B:Nat} {F0:XO} {da:Av} {w0:World} {D:Nat->Prop} {s:aA} {a:Act} {w w':World} {ι:Ix} {Θ:CK} {o:Oper}
theorem WX {av avb:Av} {x:AV} {v:Value} (h:tB ι av avb w x v) (hx:x.leaf=true):wB ι av w x v/\v.oneCell'=true:=by
 cases x <;> first
  | (simp [AV.leaf] at hx; done)
  | (refine ⟨h,?_⟩; simp only [tB,wB,UE] at h; subst h; rfl)
  | (refine ⟨h,?_⟩; obtain ⟨b,_,rfl⟩:=h; rfl)
  | (refine ⟨h,?_⟩; obtain ⟨b,_,_,_,_,_,rfl⟩:=h; rfl)
  | (refine ⟨h,?_⟩; simp only [tB,wB,UE] at h; obtain ⟨b,off,rfl,_⟩:=h; rfl)
theorem cells_rep {av avb:Av} {x:AV} {v:Value} (h:tB ι av avb w x v) (hx:x.whole=true):FA ι av w x.cells v.cells.toList:=by
 cases x with
 | agg cs=>obtain ⟨us,rfl,hc⟩:=h; exact hc
 | _ =>
  obtain ⟨h1,h2⟩:=WX h hx;cases v <;> first | exact ⟨_,[],rfl,h1,h2,rfl⟩ | (simp [Value.oneCell'] at h2; done)
theorem X8 (off:Nat):∀ (l:List Value) (k:Nat) (cells:Array Value),off + k + l.length<=cells.size →
  ((l.zipIdx k).foldl (fun cs (p:Value × Nat)=>cs.setIfInBounds (off + p.2) p.1) cells).toList=cells.toList.take (off + k)++l++cells.toList.drop (off + k + l.length)
 | [],k,cells,_=>by simp
 | v :: l,k,cells,h=>by
  simp only [yF] at h;rw [List.zipIdx_cons,List.foldl_cons,X8 off l (k + 1) _ (by simp; omega)];simp only [Array.toList_setIfInBounds,yF];have hk:off + k<cells.toList.length:=by simp; omega
  rw [show off + (k + 1)=off + k + 1 from by omega,List.take_succ_eq_append_getElem (by simpa using hk)];rw [List.take_set_of_le (yj _),List.getElem_set_self,List.drop_set_of_lt (by omega)];simp [List.append_assoc,show off + k + 1 + l.length=off + k + (l.length + 1) from by omega]
theorem bS {pl:Nat->Option (Nat × Nat)} {av avb:Av} (oe:avb=avb):∀ {ps:List (Nat × Operand)} {ys:List (Nat × aC)} {zs:List (Nat × Nat × aC)} {cs ds:List AV} {us:Array Value},
  (∀ (X:Operand) (y:aC),opd X=some y->tB ι av avb w (y.get s) (a.eval X))->opds ps=some ys->LP pl ys=some zs->(∀ p∈zs,(p.2.2.get s).whole=true) →
  cS cs (zs.map fun p=>(p.1,p.2.1,(p.2.2.get s).cells))=some ds->FA ι av w cs us.toList->∃ ta,Instr.fill pl us (ps.map fun p=>(p.1,a.eval p.2))=some ta/\FA ι av w ds ta.toList
 | [],ys,zs,cs,ds,us,_,hy,hz,_,hf,hc=>by
  injection hy with hy; subst hy;injection hz with hz; subst hz;injection hf with hf; subst hf;exact ⟨us,rfl,hc⟩
 | (i,X) :: ps,ys,zs,cs,ds,us,fb,hy,hz,hl,hf,hc=>by
  unfold opds at hy;split at hy
  ·rename_i x l hx hr;injection hy with hy; subst hy;unfold LP at hz;split at hz
   ·rename_i off z l' hp xg;injection hz with hz; subst hz;simp only [yf,cS] at hf;split at hf
    ·rename_i aa;have ec:=cells_rep (fb X x hx) (hl _ (yl));have ia:=iD ec;have hlu:=iD hc;simp only [yW] at ia hlu;have tb:(a.eval X).cells.size=z:=by rw [ia]; exact aa.1
     have hfold:((a.eval X).cells.zipIdx.foldl (fun cs (p:Value × Nat)=>cs.setIfInBounds (off + p.2) p.1) us).toList=us.toList.take off++(a.eval X).cells.toList++us.toList.drop (off + z):=by
      rw [<- Array.foldl_toList,Array.toList_zipIdx,X8 off _ 0 us (by simp [tb]; omega)];simp [tb]
     have oc:FA ι av w (cs.take off++(x.get s).cells++cs.drop (off + z)) (((a.eval X).cells.zipIdx.foldl (fun cs (p:Value × Nat)=>cs.setIfInBounds (off + p.2) p.1) us)).toList:=by
      rw [hfold];exact iH (iH (XF off hc) ec) (kF (off + z) hc)
     obtain ⟨ta,h1,h2⟩:=bS oe fb hr xg (fun p hp=>hl p (yo _ hp)) hf oc;refine ⟨ta,?_,h2⟩;simp only [yf,Instr.fill,hp];rw [if_neg (by simp [tb]; omega)];exact h1
    ·cases hf
   ·cases hz
  ·cases hy
theorem A3 (R:mC P O nt B F0 da w0 D s a w ι Θ) {t:TypeId} {ps:Array (Nat × Operand)} {ys:List (Nat × aC)} {zs:List (Nat × Nat × aC)} {zero:List AV} {pl:Nat->Option (Nat × Nat)} {z:Value} (ki:TK z.cells.toList=some zero)
  (hb:P.built t (ps.map fun (i,x)=>(i,a.eval x)).toList=Instr.fill pl z.cells (ps.map fun (i,x)=>(i,a.eval x)).toList) (hy:opds ps.toList=some ys) (hp:LP pl ys=some zs) (ho:o.op=.build t ps)
  {call} {x:wA} {e:TD} (hr:(K.build zero zs).run call s=some (x,e)):e=.none/\fV P da a w ι Θ o x:=by
 simp only [K.run] at hr;split at hr
 ·rename_i za;cases hf:cS zero (zs.map fun p=>(p.1,p.2.1,(p.2.2.get s).cells)) with
  | none=>rw [hf] at hr; cases hr
  | some ds =>
   rw [hf] at hr;injection hr with hr; injection hr with e1 e2; subst e1; subst e2;obtain ⟨ta,h1,h2⟩:=bS (pl:=pl) (ι:=ι) (av:=KC da ι Θ) (avb:=DC ι Θ) (w:=w) (s:=s) (a:=a) rfl (fun X y h=>(R.opd h).1) hy hp (fun p hp=>by
    have:=y6.1 za p hp;exact this) hf (ZJ ki _ _)
   have h3:P.built t (ps.map fun (i,x)=>(i,a.eval x)).toList=some ta:=by
    rw [hb,Array.toList_map];exact h1
   exact ⟨rfl,.agg ta,by simp only [execOp,ho,Sem.run_bind,run_build w t _ ta h3,Result.andThen_ok,Sem.run_pure],⟨ta,rfl,h2⟩,trivial⟩
 ·cases hr
def Ix.add (ι:Ix) (d n b z:Nat):Ix:=⟨fun t' n'=>if t'=d/\n'=n then some b else ι t' n',ι.ob,fun b'=>if b'=b then z else ι.z b'⟩
section
variable (R:mC P O nt B F0 da w0 D s a w ι Θ)
include R
theorem mC.low {b o:Nat} (h:KC da ι Θ b o):b<w.heap.size:=by
 have h1:=R.kept.size;have h2:=R.base;rcases h with h | (⟨t,n,h⟩ | ⟨t,n,H,h,hb⟩) | ⟨k,ow,h,rfl,_⟩
 ·have:=R.out _ _ h; omega
 ·exact (R.mine _ _ _ h).2.1
 ·exact ((R.obs _ _ _ h).1 _ hb).2.1
 ·obtain ⟨_,_,_,_,cur,h5,_⟩:=R.tok _ _ h;exact LA h5
theorem mC.lowB:B<=w.heap.size:=by
 have h1:=R.kept.size;have h2:=R.base;omega
theorem mC.new {d:Nat} (hd:d<nt) (hD:¬ D d) {r:List wA} {cur:Array Value} (ty:TypeId) (na:rE ι Θ (KC da ι Θ) w r cur) {x:AV} {v:Value}
  (hx:∀ ι':Ix,ι' d s.next=some w.heap.size->ι'.z w.heap.size=cur.size->tB ι' (KC da ι' Θ) (DC ι' Θ) (w.alloc (.cells cur ty)) x v) :
  ∃ ι',mC P O nt B F0 da w0 (fun t=>D t\/t=d) ((s.setRow d s.next r).put (some d) ⟨x,.no⟩) (a.put (some d) v) (w.alloc (.cells cur ty)) ι' Θ:=by
 have mh:ι d s.next=none:=by
  cases h:ι d s.next with
  | none=>rfl
  | some b =>
   rcases (R.mine _ _ _ h).2.2 with h1 | h1
   ·omega
   ·exact absurd h1.2 hD
 have sg:ι.ob d s.next=none:=by
  cases h:ι.ob d s.next with
  | none=>rfl
  | some b =>
   rcases (R.obs _ _ _ h).2 with h1 | h1
   ·omega
   ·exact absurd h1.2 hD
 have je:∀ t n b,ι t n=some b->(ι.add d s.next w.heap.size cur.size) t n=some b:=fun t n b h=>by
  show (if t=d/\n=s.next then some w.heap.size else ι t n)=some b;split
  ·rename_i e; rw [e.1,e.2,mh] at h; cases h
  ·exact h
 have fj:∀ t n b,(ι.add d s.next w.heap.size cur.size) t n=some b->b<w.heap.size->ι t n=some b:=fun t n b h hb=>by
  have h':(if t=d/\n=s.next then some w.heap.size else ι t n)=some b:=h;split at h'
  ·injection h' with h'; omega
  ·exact h'
 have oc:(ι.add d s.next w.heap.size cur.size) d s.next=some w.heap.size:=by
  show (if d=d/\s.next=s.next then some w.heap.size else ι d s.next)=_;rw [if_pos ⟨rfl,rfl⟩]
 have tl:∀ b o,b<w.heap.size->DC (ι.add d s.next w.heap.size cur.size) Θ b o->DC ι Θ b o:=fun b o hb h=>h.imp (fun h=>h.imp (fun ⟨t,n,h⟩=>⟨t,n,fj t n b h hb⟩) id) id
 have hAx:∀ b o,b<w.heap.size->KC da (ι.add d s.next w.heap.size cur.size) Θ b o->KC da ι Θ b o:=fun b o hb h=>h.imp id (tl b o hb)
 have bh:∀ b,b<w.heap.size->(w.alloc (.cells cur ty)).heap[b]?=w.heap[b]?:=fun b hb=>Below.heap_alloc w _ b hb
 have hA:qB (KC da ι Θ) (KC da (ι.add d s.next w.heap.size cur.size) Θ) w (w.alloc (.cells cur ty)):=qB.grown bh hAx;have hB:qB (DC ι Θ) (DC (ι.add d s.next w.heap.size cur.size) Θ) w (w.alloc (.cells cur ty)):=qB.grown bh tl;have ng:=R.lowB;have bc:Ix.Le ι (ι.add d s.next w.heap.size cur.size):=⟨je,fun t n b h=>by
  have:=(R.mine t n b h).2.1;show (if b=w.heap.size then cur.size else ι.z b)=ι.z b;rw [if_neg (by omega)]⟩
 have hzn:(ι.add d s.next w.heap.size cur.size).z w.heap.size=cur.size:=if_pos rfl;refine ⟨ι.add d s.next w.heap.size cur.size,mC.put (s:=s.setRow d s.next r) ⟨R.defers,R.size,fun t=>tB.held bc hA hB _ _ (R.env t),R.ann,fun t n r' hr=>?_,fun t n b h=>?_,fun t n t' n' b h h'=>?_,fun k o h=>?_,R.tinj,fun k o t n h h'=>?_,R.out,fun p h=>⟨je _ _ _ (R.pin p h).1,(R.pin p h).2.imp (fun g=>⟨g.1,(bc.z _ _ _ (R.pin p h).1).trans g.2⟩) id⟩,R.kept.alloc _,R.base,fun t n S h=>?_,fun t n H h=>?_,fun t=>tB.held bc hA hB _ _ (R.gen t),R.gann⟩ hd (hx _ oc hzn) trivial⟩
 ·simp only [aA.setRow] at hr;split at hr
  ·rename_i e;injection hr with hr;subst hr;refine ⟨by show ι.ob t n=none; rw [e.1,e.2]; exact sg,w.heap.size,cur,ty,by rw [e.1,e.2]; exact oc,pU rfl,na.held bc hA (fun _ _ h=>h),.inl ng,hzn.symm⟩
  ·obtain ⟨h0,b,gc,ss,h1,h2,h3,h4,h5⟩:=R.rows t n r' hr;exact ⟨h0,b,gc,ss,je _ _ _ h1,(bh b (LA h2)).trans h2,h3.held bc hA (fun _ _ h=>h),h4,h5.trans (bc.z _ _ _ h1).symm⟩
 ·have h':(if t=d/\n=s.next then some w.heap.size else ι t n)=some b:=h;split at h'
  ·rename_i e;injection h' with h';subst h';exact ⟨.inl ng,by simp,.inr ⟨e.2,.inr e.1⟩⟩
  ·obtain ⟨h2,h3,h4⟩:=R.mine t n b h';exact ⟨h2,by simp; omega,h4.imp id fun ⟨e,d⟩=>⟨e,.inl d⟩⟩
 ·have g:(if t=d/\n=s.next then some w.heap.size else ι t n)=some b:=h;have g':(if t'=d/\n'=s.next then some w.heap.size else ι t' n')=some b:=h';split at g <;> split at g'
  ·rename_i e e'; exact ⟨e.1.trans e'.1.symm,e.2.trans e'.2.symm⟩
  ·injection g with g; have:=(R.mine _ _ _ g').2.1; omega
  ·injection g' with g'; have:=(R.mine _ _ _ g).2.1; omega
  ·exact R.inj t n t' n' b g g'
 ·obtain ⟨h1,h2,h3,h4,gc,h5,h6⟩:=R.tok k o h;exact ⟨h1,h2,h3,h4,gc,(bh _ (LA h5)).trans h5,h6⟩
 ·obtain ⟨_,_,_,_,gc,h5,_⟩:=R.tok k o h;exact R.apart k o t n h (fj t n _ h' (LA h5))
 ·obtain ⟨p,H,h1,h2,h3,h4⟩:=R.objs t n S h;exact ⟨p,H,je _ _ _ h1,h2,O.keep h3 (fun b hH=>bh b (O.lt h3 hH)) (by simp),h4.keep (fun t n b H h g=>⟨je _ _ _ h,H,g⟩) fun x hx=>(bh _ (LA hx)).trans hx⟩
 ·obtain ⟨h1,h2⟩:=R.obs t n H h;refine ⟨fun b hb=>?_,h2.imp id fun ⟨e,d⟩=>⟨e,.inl d⟩⟩;obtain ⟨g1,g2,g3,g4⟩:=h1 b hb;exact ⟨g1,by simp; omega,fun t' n' h'=>g3 t' n' (fj t' n' b h' g2),g4⟩
end
end
end
section
open Go Go.RowKit
section
variable {P:Program} {O:PH} {nt B:Nat} {F0:XO} {da:Av} {w0:World} {D:Nat->Prop} {s:aA} {a:Act} {w w':World} {ι:Ix} {Θ:CK} {o:Oper}
def eE (P:Program) (O:PH) (nt B:Nat) (F0:XO) (da:Av) (w0:World) (D:Nat->Prop) (s:aA) (a:Act) (w:World):Prop:=∃ ι Θ,mC P O nt B F0 da w0 D s a w ι Θ
theorem rE.of {av:Av}:∀ {r:List wA} {cur:List Value},FA ι av w (r.map (·.v)) cur->(∀ (j:Nat) (x:wA) (u:Value),r[j]?=some x->cur[j]?=some u->DL Θ x.a u)->rE ι Θ av w r cur.toArray:=by
 intro r cur h ha;refine ⟨by have:=iD h; simp at this; simp [this],fun j x hx=>?_⟩;obtain ⟨u,hu,h1,hr⟩:=JJ h (j:=j) (x:=x.v) (by simp [hx]);exact ⟨u,by simpa using hu,h1,hr,ha j x u hx hu⟩
theorem op_alloc (R:mC P O nt B F0 da w0 D s a w ι Θ) {t:TypeId} {zero:List AV} (hz:HJ P t=some zero) (ho:o.op=.alloc t) {d:Nat} (ca:o.dst=some d) (hd:d<nt) (hD:¬ D d) {call} {xe:wA × TD} (hr:(K.alloc zero).run call s=some xe) {g} {s':aA} (he:TA.eff ⟨o.dst,.alloc zero,g⟩ s xe=some s') :
  ∃ v w',(execOp a.eval o).run P w=.ok (.value v) w'/\eE P O nt B F0 da w0 (fun t=>D t\/t=d) s' (a.put o.dst v) w':=by
 obtain ⟨z,i,hi,xp,ja,hl⟩:=WH hz w;simp only [K.run] at hr;injection hr with hr;subst hr;simp only [TA.eff,ca] at he;injection he with he;subst he;refine ⟨.pointer (some ⟨w.heap.size,0,none⟩),w.alloc (.cells z.cells t),by simp [execOp,ho,Instr.alloc,ja,newVar,newRow],?_⟩;rw [ca];have kc:=ZJ (ι:=ι) hl (KC da ι Θ) w;have na:rE ι Θ (KC da ι Θ) w (zero.map fun v=>⟨v,rB v⟩) z.cells.toList.toArray:=rE.of (by
  rw [y3,show ((fun x:wA=>x.v) ∘ fun v=>(⟨v,rB v⟩:wA))=id from rfl,List.map_id];exact kc) (fun j x u hx hu=>by
  rw [yc] at hx;cases ls:zero[j]? with
  | none=>rw [ls] at hx; cases hx
  | some v =>
   rw [ls] at hx;injection hx with hx;subst hx;obtain ⟨u',er,_,hr⟩:=JJ kc ls;rw [hu] at er;injection er with er;subst er;show DL Θ (rB v) u;unfold rB;split
   ·simp only [wB,UE] at hr;obtain ⟨A,c,rfl,_,_,hn,_⟩:=hr;obtain ⟨rfl,h0,rfl⟩:=hn trivial;exact ⟨none,0,by rw [h0]⟩
   ·trivial)
 rw [yX] at na;exact let ⟨ι',h⟩:=R.new hd hD t na (x:=.ptr d s.next 0) (v:=.pointer (some ⟨w.heap.size,0,none⟩)) (fun ι' h _=>⟨_,h,rfl⟩); ⟨ι',Θ,h⟩
theorem op_boxE (R:mC P O nt B F0 da w0 D s a w ι Θ) {t:TypeId} {z:Nat} {X:Operand} {x:aC} (hx:opd X=some x) (ho:o.op=.box t X) {d:Nat} (ca:o.dst=some d) (hd:d<nt) (hD:¬ D d) {call} {xe:wA × TD} (hr:(K.box z x).run call s=some xe) {g} {s':aA} (he:TA.eff ⟨o.dst,.box z x,g⟩ s xe=some s') :
  ∃ v w',(execOp a.eval o).run P w=.ok (.value v) w'/\eE P O nt B F0 da w0 (fun t=>D t\/t=d) s' (a.put o.dst v) w':=by
 have hX:=R.opd hx;have ja:(execOp a.eval o).run P w=.ok (.value (.pointer (some ⟨w.heap.size,0,none⟩))) (w.alloc (.cells (a.eval X).cells t)):=by simp [execOp,ho,Instr.box,newVar,newRow]
 have key:∀ (r:List wA),rE ι Θ (KC da ι Θ) w r (a.eval X).cells->eE P O nt B F0 da w0 (fun t=>D t\/t=d) ((s.setRow d s.next r).put (some d) ⟨.ptr d s.next 0,.no⟩) (a.put (some d) (.pointer (some ⟨w.heap.size,0,none⟩))) (w.alloc (.cells (a.eval X).cells t)):=fun r h =>
  let ⟨ι',h⟩:=R.new hd hD t h (x:=.ptr d s.next 0) (v:=.pointer (some ⟨w.heap.size,0,none⟩)) (fun ι' h _=>⟨_,h,rfl⟩); ⟨ι',Θ,h⟩
 simp only [K.run] at hr;split at hr
 ·rename_i cs hv;split at hr
  ·injection hr with hr;subst hr;simp only [TA.eff,ca] at he;injection he with he;subst he;refine ⟨_,_,ja,?_⟩;rw [ca];refine key _ ?_;rw [hv] at hX;obtain ⟨us,hu,hc⟩:=hX.1;rw [hu];have:=rE.of (Θ:=Θ) (r:=cs.map fun v=>(⟨v,.no⟩:wA)) (cur:=us.toList) (ι:=ι) (w:=w) (av:=KC da ι Θ) (by rw [y3,show ((fun x:wA=>x.v) ∘ fun v=>(⟨v,.no⟩:wA))=id from rfl,List.map_id]; exact hc) (fun j x u hx _=>by
    rw [yc] at hx;cases ls:cs[j]? with
    | none=>rw [ls] at hx; cases hx
    | some v=>rw [ls] at hx; injection hx with hx; subst hx; trivial)
   simpa [Value.cells] using this
  ·cases hr
 ·rename_i hv;split at hr
  ·rename_i lu;injection hr with hr;subst hr;simp only [TA.eff,ca] at he;injection he with he;subst he;refine ⟨_,_,ja,?_⟩;rw [ca];refine key _ ?_;obtain ⟨h1,h2⟩:=WX hX.1 lu;have hc:(a.eval X).cells=#[a.eval X]:=by
    generalize a.eval X=u at *
    cases u <;> first | rfl | (simp [Value.oneCell'] at h2; done)
   rw [hc];refine ⟨yj _,fun j y hy=>?_⟩;cases j with
   | zero =>
    simp only [List.getElem?_cons_zero] at hy;injection hy with hy;subst hy;exact ⟨a.eval X,rfl,h2,h1,hX.2⟩
   | succ j=>simp at hy
  ·cases hr
theorem CU (zero:List Value) (av:Av) {zs:List AV} (hz:FA ι av w zs zero) (c:Nat):FA ι av w (yE c zs).flatten (yE c zero).flatten:=by
 induction c with
 | zero=>simp [FA]
 | succ c ih=>rw [List.replicate_succ,List.replicate_succ,yI,yI]; exact iH hz ih
theorem XU (zero:Array Value) (c:Nat):((Array.range (c * zero.size)).map (zero[· % zero.size]!)).toList=(yE c zero.toList).flatten:=by
 apply List.ext_getElem?;intro j;have ia:(yE c zero.toList).flatten.length=c * zero.size:=by simp
 rcases Nat.lt_or_ge j (c * zero.size) with h | h
 ·have lb:0<zero.size:=by
   rcases yN zero.size with h0 | h0
   ·rw [h0] at h; simp at h
   ·exact h0
  have hm:=Nat.mod_lt j lb;have e1:((Array.range (c * zero.size)).map (zero[· % zero.size]!)).toList[j]?=some zero[j % zero.size]:=by
   simp [h,hm]
  rw [e1];clear e1 ia
  induction c generalizing j with
  | zero=>simp at h
  | succ c ih =>
   rw [List.replicate_succ,yI];rcases Nat.lt_or_ge j zero.size with h1 | h1
   ·rw [yG (by simpa using h1)];have:j % zero.size=j:=Nat.mod_eq_of_lt h1;simp [this,h1]
   ·rw [yQ (by simpa using h1)];have h2:j - zero.size<c * zero.size:=by rw [yy] at h; omega
    have h3:(j - zero.size) % zero.size=j % zero.size:=by
     conv=>rhs; rw [show j=(j - zero.size) + zero.size from by omega,Nat.add_mod_right]
    have:=ih (j - zero.size) h2 (Nat.mod_lt _ lb);simp only [yW] at this ⊢;rw [<- this];simp [h3]
 ·rw [yY (by simpa using h),yY (by omega)]
theorem op_mks (R:mC P O nt B F0 da w0 D s a w ι Θ) {t e:TypeId} {i:TypeInfo} {zero:List AV} (ht:P.underlying t=some (.slice e)) (hi:P.info? e=some i) (hz:HJ P e=some zero) (tb:zero.length=i.size) {X Y:Operand} {x y:aC} (hx:opd X=some x) (hy:opd Y=some y) (ho:o.op=.makeSlice t X Y) {d:Nat} (ca:o.dst=some d) (hd:d<nt) (hD:¬ D d)
  {call} {xe:wA × TD} (hr:(K.mks i.size i.bytes zero x y).run call s=some xe) {g} {s':aA} (he:TA.eff ⟨o.dst,.mks i.size i.bytes zero x y,g⟩ s xe=some s') :
  ∃ v w',(execOp a.eval o).run P w=.ok (.value v) w'/\eE P O nt B F0 da w0 (fun t=>D t\/t=d) s' (a.put o.dst v) w':=by
 obtain ⟨z,i',nd,xp,bk,hl⟩:=WH hz w;rw [hi] at nd;injection nd with nd;subst nd;have hX:=(R.opd hx).1;have hY:=(R.opd hy).1;simp only [K.run] at hr;split at hr
 ·rename_i l c hln hcn;obtain ⟨k1,n1,h1,dt,mq⟩:=SL hln;obtain ⟨k2,n2,h2,h20,h21⟩:=SL hcn;rw [h1,TB] at hX;rw [h2,TB] at hY;split at hr
  ·rename_i aa;obtain ⟨ur,fg,jh,_⟩:=aa;injection hr with hr;subst hr;simp only [TA.eff,ca] at he;injection he with he;subst he;have oo:z.cells.size=i.size:=by
    have:=aH hl;simp only [yW] at this;omega
   have hc2:n2=(c:Int):=by omega
   have xw:(i.bytes:Int) * n2<=281474976710656:=by
    rw [hc2,<- Int.natCast_mul,Nat.mul_comm];omega
   have dk:madeCells z.cells (c * i.size)=(yE c z.cells.toList).flatten.toArray:=by
    have h:=XU z.cells c;rw [oo] at h;unfold madeCells;rw [<- oo] at h;rw [<- oo];have h':=congrArg List.toArray h;rw [yX] at h';exact h'
   have ja:(execOp a.eval o).run P w=.ok (.value (.slice (some ⟨w.heap.size,0,none⟩) l c)) (w.alloc (.cells (yE c z.cells.toList).flatten.toArray e)):=by
    have:=run_make (P:=P) w t e i z ht hi xp k1 k2 n1 n2 dt (by omega) xw (by omega);rw [mq,h21,dk] at this;simp [execOp,ho,hX,hY,this]
   refine ⟨_,_,ja,?_⟩;rw [ca];have na:rE ι Θ (KC da ι Θ) w ((yE c zero).flatten.map fun v=>(⟨v,.no⟩:wA)) (yE c z.cells.toList).flatten.toArray:=rE.of (by
    rw [y3,show ((fun x:wA=>x.v) ∘ fun v=>(⟨v,.no⟩:wA))=id from rfl,List.map_id];exact CU _ _ (ZJ hl _ _) c) (fun j x u hx _=>by
    rw [yc] at hx;cases ls:(yE c zero).flatten[j]? with
    | none=>rw [ls] at hx; cases hx
    | some v=>rw [ls] at hx; injection hx with hx; subst hx; trivial)
   exact let ⟨ι',h⟩:=R.new hd hD e na (x:=.ref d s.next i.size 0 l c) (v:=.slice (some ⟨w.heap.size,0,none⟩) l c) (fun ι' h hz=>⟨_,h,ur,c,yj _,by rw [hz,yK]; simp [List.length_flatten,oo],rfl⟩); ⟨ι',Θ,h⟩
  ·cases hr
 ·cases hr
end
end
section
open Go Go.RowKit
section
variable {P:Program} {O:PH} {nt B:Nat} {F0:XO} {da:Av} {w0:World} {D:Nat->Prop} {s:aA} {a:Act} {w w':World} {ι:Ix} {Θ:CK} {o:Oper}
theorem mC.alloc (R:mC P O nt B F0 da w0 D s a w ι Θ) (ob:Obj):mC P O nt B F0 da w0 D s a (w.alloc ob) ι Θ :=
 R.grow (fun b hb=>Below.heap_alloc w _ b hb) (by simp) (R.kept.alloc _)
theorem pH {av:Av}:∀ {xs:List AV} {us:List Value},FA ι av w xs us->(∀ x∈xs,x.free0=true)->lD av w xs us
 | [],_,h,_=>by simpa [lD,FA] using h
 | x :: r,_,h,hf=>by
  simp only [FA] at h;obtain ⟨u,ta,rfl,h0,h1,h⟩:=h;refine ⟨u,ta,rfl,?_,h1,pH h fun y hy=>hf y (yo _ hy)⟩;have hx:=hf x (yl);cases x <;> first | exact h0 | (simp [AV.free0] at hx; done)
theorem LT (sz:Nat):∀ (ps:List (Nat × aC)) (k:Nat) (A Z:List AV),ps.map (·.1)=List.range' k ps.length->A.length=k * sz->Z.length=ps.length * sz->(∀ p∈ps,(p.2.get s).cells.length=sz) →
  cS (A++Z) (ps.map fun p=>(p.1 * sz,sz,(p.2.get s).cells))=some (A++(ps.map fun p=>(p.2.get s).cells).flatten)
 | [],k,A,Z,_,_,hz,_=>by
  have:Z=[]:=yM (by simpa using hz);subst this;simp [cS]
 | (i,y) :: ps,k,A,Z,hp,hA,hZ,hl=>by
  simp only [yf,yF,List.range'_succ] at hp;injection hp with h1 h2;subst h1;have hy:(y.get s).cells.length=sz:=hl (_,y) (yl);simp only [yF] at hZ;have hZ2:sz<=Z.length:=by rw [hZ,yy]; omega
  simp only [yf,cS];rw [if_pos ⟨hy,by simp [hA]; omega⟩];have e1:(A++Z).take (i * sz)=A:=by rw [<- hA]; exact List.take_left
  have e2:(A++Z).drop (i * sz + sz)=Z.drop sz:=by rw [List.drop_append,<- hA,yk (by omega),List.nil_append]; congr 1; omega
  rw [e1,e2];have:=LT sz ps (i + 1) (A++(y.get s).cells) (Z.drop sz) h2 (by rw [yz,hA,hy,yy]) (by rw [List.length_drop,hZ,yy]; omega) (fun p hp=>hl p (yo _ hp));rw [this];simp
theorem DR (sz:Nat):∀ (ps:List (Nat × aC)),LP (fun i=>some (i * sz,sz)) ps=some (ps.map fun p=>(p.1 * sz,sz,p.2))
 | []=>rfl
 | (i,x) :: r=>by simp [LP,DR sz r]
theorem op_bsl (R:mC P O nt B F0 da w0 D s a w ι Θ) {t e:TypeId} {n z:Nat} {zero:List AV} (ht:P.underlying t=some (.slice e)) (hz:HJ P e=some zero) (hs:lC P e=some z) (tb:zero.length=z) (lb:0<z) (nh:n * z<=16777216) {ps:Array (Nat × Operand)} {ys:List (Nat × aC)} (hy:opds ps.toList=some ys) (ho:o.op=.buildSlice t n ps)
  {call} {x:wA} {ef:TD} (hr:(K.bsl zero n ys).run call s=some (x,ef)):ef=.none/\∃ v w',(execOp a.eval o).run P w=.ok (.value v) w'/\mC P O nt B F0 da w0 D s a w' ι Θ/\tB ι (KC da ι Θ) (DC ι Θ) w' x.v v/\DL Θ x.a v:=by
 obtain ⟨zv,i',nd,xp,bk,hl⟩:=WH hz w;have hisz:i'.size=z:=by simp [lC,nd] at hs; exact hs
 have oo:zv.cells.size=z:=by
  have:=aH hl;simp only [yW] at this;omega
 simp only [K.run] at hr;split at hr
 ·rename_i aa;obtain ⟨oh,za⟩:=aa;injection hr with hr; injection hr with e1 e2; subst e1; subst e2;have nc:∀ p∈ys,(p.2.get s).free=true/\(p.2.get s).cells.length=zero.length:=fun p hp=>by
   have:=y6.1 za p hp;simpa using this
  have hn:ys.length=n:=by
   have:=congrArg List.length oh;simpa using this
  have gk:=LT (s:=s) z ys 0 [] (yE n zero).flatten (by rw [oh,List.range_eq_range',hn]) (by simp) (by simp [hn,tb]) (fun p hp=>by rw [(nc p hp).2,tb]);rw [List.nil_append,List.nil_append] at gk;have hwhole:∀ p∈ys,(p.2.get s).whole=true:=fun p hp=>by
   have:=(nc p hp).1;generalize p.2.get s=v at this;cases v <;> first | rfl | (simp [AV.free,AV.free0] at this; done)
  have hp:=DR z ys;have dk:((Array.range (n * z)).map (((if n * z=0 then (#[]:Array Value) else zv.cells)[· % (if n * z=0 then (#[]:Array Value) else zv.cells).size]!))).toList=(yE n zv.cells.toList).flatten:=by
   rcases yN n with h0 | h0
   ·subst h0; simp
   ·have:¬ n * z=0:=by have:=Nat.mul_pos h0 lb; omega
    simp only [if_neg this];rw [<- oo];exact XU zv.cells n
  obtain ⟨ta,h1,h2⟩:=bS (pl:=fun i=>some (i * z,z)) (ι:=ι) (av:=KC da ι Θ) (avb:=DC ι Θ) (w:=w) (s:=s) (a:=a) rfl (fun X y h=>(R.opd h).1) hy hp (fun p hp=>by
   obtain ⟨q,hq,rfl⟩:=yp.1 hp;exact hwhole q hq) (by rw [y3]; exact gk) (us:=(Array.range (n * z)).map (((if n * z=0 then (#[]:Array Value) else zv.cells)[· % (if n * z=0 then (#[]:Array Value) else zv.cells).size]!))) (by
    rw [dk];exact CU _ _ (ZJ hl _ _) n)
  have ja:(execOp a.eval o).run P w=.ok (.value (.slice (some ⟨w.heap.size,0,none⟩) n n)) (w.alloc (.cells ta e)):=by
   have h3:Instr.fill (fun i=>some (i * z,z)) ((Array.range (n * z)).map (((if n * z=0 then (#[]:Array Value) else zv.cells)[· % (if n * z=0 then (#[]:Array Value) else zv.cells).size]!))) (ps.map fun (i,x)=>(i,a.eval x)).toList=some ta:=by
    rw [Array.toList_map];exact h1
   have bc:¬ (n * z > 2 ^ 24):=by omega
   by_cases h0:n * z=0
   ·simp only [if_pos h0] at h3;simp only [execOp,ho,Instr.buildSlice,Sem.run_bind,run_underlying ht,Result.andThen_ok,SC hs,if_neg bc,if_pos h0,Sem.run_pure,h3,newRow,run_newObj_alloc]
   ·simp only [if_neg h0] at h3;simp only [execOp,ho,Instr.buildSlice,Sem.run_bind,run_underlying ht,Result.andThen_ok,SC hs,if_neg bc,if_neg h0,Sem.run_pure,bk,h3,newRow,run_newObj_alloc]
  refine ⟨rfl,_,_,ja,R.alloc _,?_,⟨_,_,rfl⟩⟩;have R':=R.alloc (.cells ta e);have hA:qB (KC da ι Θ) (KC da ι Θ) w (w.alloc (.cells ta e)):=qB.grown (fun b hb=>Below.heap_alloc w _ b hb) fun _ _ _ h=>h
  rw [UF];simp only [UE];have ia:(ys.map fun p=>(p.2.get s).cells).length=n:=by simp [hn]
  refine ⟨_,n,by rw [ia],by rw [ia]; exact yj _,fun x hx y hy=>?_,(fun h=>by cases h),fun _=>⟨fun h=>(by cases h),fun _=>⟨w.heap.size,0,rfl,?_⟩⟩⟩
  ·obtain ⟨p,hp,rfl⟩:=yp.1 hx;obtain ⟨q,hq,rfl⟩:=yp.1 hy;rw [(nc p hp).2,(nc q hq).2]
  ·rw [IF];have cf:∀ x∈(ys.map fun p=>(p.2.get s).cells).flatten,x.free0=true:=fun x hx=>by
    obtain ⟨l,hl,hx⟩:=List.mem_flatten.1 hx;obtain ⟨p,hp,rfl⟩:=yp.1 hl;have:=(nc p hp).1;generalize p.2.get s=v at this hx;cases v <;> first | (simp [AV.cells] at hx; subst hx; exact this) | exact y6.1 this x hx
   refine RK (lD.held hA _ _ (pH h2 cf)) fun j u hu=>⟨?_,fun h=>?_⟩
   ·rw [yK,cell_of_row _ w.heap.size j ta e (0,0) (pU rfl)];simpa using hu
   ·have:=R.low h;omega
 ·cases hr
theorem set_run {t:TypeId} {z:Nat} (hz:lC P t=some z) {b off:Nat} {cur:Array Value} {ty:TypeId} (hb:w.heap[b]?=some (.cells cur ty (0,0))) {v:Value} (hv:v.cells.size=z) (bc:off + z<=cur.size) (h1:∀ u∈v.cells.toList,u.oneCell'=true) :
  (Instr.storeAt t (.pointer (some ⟨b,off,none⟩)) v).run P w=.ok () (w.setRow b (cur.toList.take off++v.cells.toList++cur.toList.drop (off + z)).toArray):=by
 have lc:=run_storeCells_at P b off ty v.cells.toList 0 cur w hb (by simp [hv]; omega) h1;simp only [Nat.add_zero,yW,hv] at lc;simp [Instr.storeAt,Instr.sureAddr,storeVar,SC hz,hv,lc]
theorem mC.set (R:mC P O nt B F0 da w0 D s a w ι Θ) {t n b:Nat} {cur:Array Value} {ty:TypeId} (hb:ι t n=some b) (nb:ι.ob t n=none) (ua:w.heap[b]?=some (.cells cur ty (0,0))) {r:List wA} {new:Array Value} (na:rE ι Θ (KC da ι Θ) w r new) (pk:B<=b\/F0.r b) (hnz:new.size=ι.z b) :
  mC P O nt B F0 da w0 D (s.setRow t n r) a (w.setRow b new) ι Θ:=by
 have ma:∀ b',b'≠b->(w.setRow b new).heap[b']?=w.heap[b']?:=fun b' h=>setRow_other w b b' new h
 have ne:(w.setRow b new).heap[b]?=some (.cells new ty (0,0)):=setRow_heap w b cur new ty (0,0) ua;have hB:qB (DC ι Θ) (DC ι Θ) w (w.setRow b new):=⟨fun b' o u hc hn=>by
  have:b'≠b:=fun e=>hn (.inl (.inl ⟨t,n,e ▸ hb⟩))
  exact ⟨(World.cell?_of_block (w:=w) (a:=⟨b',o,none⟩) (ma b' this)).trans hc,hn⟩⟩
 have hA:qB (KC da ι Θ) (KC da ι Θ) w (w.setRow b new):=⟨fun b' o u hc hn=>by
  have:b'≠b:=fun e=>hn (.inr (.inl (.inl ⟨t,n,e ▸ hb⟩)))
  exact ⟨(World.cell?_of_block (w:=w) (a:=⟨b',o,none⟩) (ma b' this)).trans hc,hn⟩⟩
 have pu:=R.mine t n b hb;refine ⟨R.defers,R.size,fun t=>tB.held (Ix.Le.refl _) hA hB _ _ (R.env t),R.ann,fun t' n' r' hr=>?_,fun t n b h=>?_,R.inj,fun k o h=>?_,R.tinj,R.apart,R.out,R.pin,?_,R.base,fun t' n' S h=>?_,fun t n H h=>(R.obs t n H h).grow (by simp),fun t=>tB.held (Ix.Le.refl _) hA hB _ _ (R.gen t),R.gann⟩
 ·simp only [aA.setRow] at hr;split at hr
  ·rename_i e;injection hr with hr;subst hr;exact ⟨by rw [e.1,e.2]; exact nb,b,new,ty,by rw [e.1,e.2]; exact hb,ne,na.held (Ix.Le.refl _) hA (fun _ _ h=>h),pk,hnz⟩
  ·rename_i e;obtain ⟨h0,b',gc,ss,h1,h2,h3,h4⟩:=R.rows t' n' r' hr;have:b'≠b:=fun e'=>e (R.inj _ _ _ _ _ (e' ▸ h1) hb)
   exact ⟨h0,b',gc,ss,h1,(ma b' this).trans h2,h3.held (Ix.Le.refl _) hA (fun _ _ h=>h),h4⟩
 ·obtain ⟨h1,h2,h3⟩:=R.mine t n b h;exact ⟨h1,by simpa using h2,h3⟩
 ·obtain ⟨h1,h2,h3,h4,gc,h5,h6⟩:=R.tok k o h;have:o.g≠b:=fun e=>R.apart k o t n h (e ▸ hb)
  exact ⟨h1,h2,h3,h4,gc,(ma _ this).trans h5,h6⟩
 ·refine R.kept.setRow (fun fa=>?_) _;rcases pu.1 with h | h
  ·have:=R.base; omega
  ·exact h
 ·obtain ⟨p,H,h1,h2,h3,h4⟩:=R.objs t' n' S h;have ru:∀ b',H b'->b'≠b:=fun b' hH e=>by
   subst e;have:=((R.obs _ _ _ h2).1 _ hH).2.2.1 t n hb;rw [this.1,this.2,h2] at nb;cases nb
  exact ⟨p,H,h1,h2,O.keep h3 (fun b' hH=>ma b' (ru b' hH)) (by simp),h4.keep (fun t n b H h g=>⟨h,H,g⟩) fun x hx=>(ma p (ru p (O.main h3))).trans hx⟩
theorem rE.splice {av:Av} {r:List wA} {cur:Array Value} (h:rE ι Θ av w r cur) {off z:Nat} {m:List wA} {us:Array Value} (hm:rE ι Θ av w m us) (zd:us.size=m.length) (hz:m.length=z) (bc:off + z<=r.length):rE ι Θ av w (r.take off++m++r.drop (off + z)) (cur.toList.take off++us.toList++cur.toList.drop (off + z)).toArray:=by
 obtain ⟨h1,h2⟩:=h;obtain ⟨m1,m2⟩:=hm;have hl:r.length<=cur.toList.length:=by simpa using h1
 refine ⟨by simp only [yz,yL,List.length_drop,List.size_toArray,yW,zd] at *; omega,fun j x hx=>?_⟩;have ht:(r.take off).length=off:=by rw [yL]; omega
 have ht':(cur.toList.take off).length=off:=by rw [yL]; omega
 simp only [List.getElem?_toArray];rcases Nat.lt_or_ge j off with hj | hj
 ·rw [List.append_assoc,yG (by omega),yV] at hx;rw [List.append_assoc,yG (by omega),yV];rw [if_pos hj] at hx ⊢;obtain ⟨u,hu,h⟩:=h2 j x hx;exact ⟨u,by simpa using hu,h⟩
 ·rcases Nat.lt_or_ge j (off + z) with hj2 | hj2
  ·rw [List.append_assoc,yQ (by omega),yG (by omega),ht] at hx;rw [List.append_assoc,yQ (by omega),yG (by simp [zd]; omega),ht'];obtain ⟨u,hu,h⟩:=m2 _ x hx;exact ⟨u,by simpa using hu,h⟩
  ·rw [List.append_assoc,yQ (by omega),yQ (by omega),ht,yU] at hx;rw [List.append_assoc,yQ (by omega),yQ (by simp [zd]; omega),ht',yU];obtain ⟨u,hu,h⟩:=h2 _ x hx;refine ⟨u,?_,h⟩;have:us.toList.length=m.length:=by simpa using zd
   rw [this];simpa using hu
theorem op_store (R:mC P O nt B F0 da w0 D s a w ι Θ) {t:TypeId} {agg:Bool} {z:Nat} (hz:lC P t=some z) (xz:agg=true\/z=1) {X Y:Operand} {x y:aC} (hx:opd X=some x) (hy:opd Y=some y) (ho:o.op=.store t X Y) (hd:∀ d,o.dst=some d->d<nt) {cl:Cl} {call} {xe:wA × TD} (hr:(K.store cl agg z x y).run call s=some xe) {g} {s':aA} (he:TA.eff ⟨o.dst,.store cl agg z x y,g⟩ s xe=some s') :
  ∃ w',(execOp a.eval o).run P w=.ok .skip w'/\eE P O nt B F0 da w0 D s' (a.put o.dst undef) w':=by
 have hX:=(R.opd hx).1;have hY:=R.opd hy;simp only [K.run] at hr;split at hr
 ·rename_i t' n off ee;rw [ee,mG] at hX;obtain ⟨b,hb,hv⟩:=hX;split at hr
  ·cases hm:s.mem t' n with
   | none=>rw [hm] at hr; cases hr
   | some r =>
    rw [hm,J] at hr;cases hs:UA agg z off r (y.get s) (y.an s) with
    | none=>rw [hs] at hr; cases hr
    | some r' =>
     rw [hs] at hr;injection hr with hr;subst hr;simp only [TA.eff] at he;injection he with he;subst he;obtain ⟨zm,b',cur,ty,wa,ua,na,pk,dw⟩:=R.rows t' n r hm;rw [hb] at wa;injection wa with wa;subst wa;have fin:∀ (m:List wA) (us:Array Value),r'=r.take off++m++r.drop (off + z)->m.length=z->off + z<=r.length->(a.eval Y).cells=us->us.size=m.length->rE ι Θ (KC da ι Θ) w m us->∃ w',(execOp a.eval o).run P w=.ok .skip w'/\eE P O nt B F0 da w0 D ((s.setRow t' n r').put o.dst ⟨.undef,.no⟩) (a.put o.dst undef) w':=fun m us h1 h2 h3 h4 h4' h5=>by
      have tb:(a.eval Y).cells.size=z:=by rw [h4,h4',h2]
      have xu:∀ u∈(a.eval Y).cells.toList,u.oneCell'=true:=fun u hu=>by
       rw [h4] at hu;obtain ⟨j,hj,rfl⟩:=yq hu;have hjm:j<m.length:=by simp at hj; omega
       obtain ⟨u',er,h6,_⟩:=h5.2 j m[j] (y5 hjm);have:us[j]?=some (us.toList[j]):=by simp at hj ⊢
       rw [this] at er;injection er with er;rw [er];exact h6
      have ja:=set_run (P:=P) hz ua tb (Nat.le_trans h3 na.1) xu;refine ⟨w.setRow b (cur.toList.take off++(a.eval Y).cells.toList++cur.toList.drop (off + z)).toArray,by simp only [execOp,ho,hv,Sem.run_bind,ja,Result.andThen_ok,Sem.run_pure],ι,Θ,mC.putN ?_ hd trivial trivial⟩;rw [h4];subst h1;exact R.set hb zm ua (na.splice h5 h4' h2 h3) pk (by
       rw [<- dw];have h6:=na.1;simp only [List.size_toArray,yz,yL,List.length_drop,yW];omega)
     cases agg with
     | true =>
      simp only [UA,if_true] at hs;split at hs
      ·rename_i cs hyv;split at hs
       ·rename_i aa;injection hs with hs;rw [hyv] at hY;obtain ⟨us,hu,hc⟩:=hY.1;refine fin (cs.map (⟨·,.no⟩)) us hs.symm (by simpa using aa.1) aa.2 (by rw [hu]; rfl) (by have:=iD hc; simpa using this) ?_;have:=rE.of (Θ:=Θ) (r:=cs.map fun v=>(⟨v,.no⟩:wA)) (cur:=us.toList) (ι:=ι) (w:=w) (av:=KC da ι Θ) (by rw [y3,show ((fun x:wA=>x.v) ∘ fun v=>(⟨v,.no⟩:wA))=id from rfl,List.map_id]; exact hc) (fun j x u hx _=>by
         rw [yc] at hx;cases ls:cs[j]? with
         | none=>rw [ls] at hx; cases hx
         | some v=>rw [ls] at hx; injection hx with hx; subst hx; trivial)
        simpa using this
       ·cases hs
      ·cases hs
     | false =>
      have dj:z=1:=by rcases xz with h | h; cases h; exact h
      subst dj;simp only [UA,yA,if_false] at hs;split at hs
      ·rename_i aa;injection hs with hs;obtain ⟨h1,h2⟩:=WX hY.1 aa.1;have hc:(a.eval Y).cells=#[a.eval Y]:=by
        generalize a.eval Y=u at *
        cases u <;> first | rfl | (simp [Value.oneCell'] at h2; done)
       refine fin [⟨y.get s,y.an s⟩] #[a.eval Y] ?_ rfl (by have:=aa.2; omega) hc rfl ⟨yj _,fun j x hx=>?_⟩
       ·rw [<- hs,List.set_eq_take_append_cons_drop,if_pos aa.2];simp
       ·cases j with
        | zero=>simp at hx; subst hx; exact ⟨a.eval Y,rfl,h2,h1,hY.2⟩
        | succ j=>simp at hx
      ·cases hs
  ·cases hr
 ·cases hr
theorem E0 {av:Av}:∀ {xs:List AV} {us:List Value},FA ι av w xs us->∀ u∈us,u.oneCell'=true
 | [],us,h,u,hu=>by simp only [FA] at h; subst h; cases hu
 | x :: r,us,h,u,hu=>by
  simp only [FA] at h;obtain ⟨u',ta,rfl,_,h1,h⟩:=h;rcases yg.1 hu with rfl | hu
  ·exact h1
  ·exact E0 h u hu
end
end
section
section
variable {call:JB} {s s':aA}
def o0 (s s':aA) (l:List aC):Prop:=∀ o∈l,o.get s=o.get s'/\o.an s=o.an s'
def K.reads (k:K) (t:Nat):Prop:=match k.cl with
 | none=>False
 | some .imm=>False
 | some (.root r)=>t=r
 | some (.out L)=>L.contains t=false
 | some .any=>True
theorem d7 {cl:Cl} (hm:cl.okMem=true->∀ t n,s.mem t n=s'.mem t n) (v:AV):TP s cl v=TP s' cl v:=by
 cases v <;> simp only [TP]
 split
 ·rename_i sa; rw [hm sa]
 ·rfl
theorem eO {cl:Cl} (hm:cl.okMem=true->∀ t n,s.mem t n=s'.mem t n):∀ (l:List AV),RD s cl l=RD s' cl l
 | []=>rfl
 | x :: r=>by simp only [RD,d7 hm x,eO hm r]
section
variable {cl:Cl} (hm:cl.okMem=true->∀ t n,s.mem t n=s'.mem t n) (uc:s.obj=s'.obj) (v:AV)
include cl hm uc v
theorem kR:US s cl v=US s' cl v:=by
 unfold US;split
 ·split
  ·rename_i sa; rw [hm sa]
  ·rfl
 ·rfl
 ·rfl
 ·rw [uc]
 ·rfl
theorem o7:KF s cl v=KF s' cl v:=by
 have:=kR hm uc v;cases v <;> simp only [KF,eO hm] <;> exact this
end
theorem rN {cl:Cl} (hm:cl.okMem=true->∀ t n,s.mem t n=s'.mem t n) (uc:s.obj=s'.obj):∀ {xs:List aC},o0 s s' xs->TF s cl xs=TF s' cl xs
 | [],_=>rfl
 | x :: r,h=>by
  have h1:=h x (yl);have h2:=rN hm uc (xs:=r) fun o ho=>h o (yo _ ho)
  unfold TF;rw [h2,h1.1];rw [o7 hm uc]
theorem IS {cl:Cl} {t n:Nat} (hm:cl.okMem=true->∀ t n,s.mem t n=s'.mem t n) (uc:s.obj=s'.obj):∀ {xs:List aC},o0 s s' xs->EB s cl t n xs=EB s' cl t n xs
 | [],_=>rfl
 | x :: r,h=>by
  have h1:=h x (yl);have h2:=IS (t:=t) (n:=n) hm uc (xs:=r) fun o ho=>h o (yo _ ho)
  unfold EB;rw [h2,h1.1];have:GC s cl t n (x.get s')=GC s' cl t n (x.get s'):=by
   unfold GC;split
   ·rfl
   ·rw [kR hm uc]
   ·rfl
   ·rw [kR hm uc]
  rw [this]
theorem GS {xs:List aC} (h:o0 s s' xs):rL s xs=rL s' xs:=by
 induction xs with
 | nil=>rfl
 | cons x r ih =>
  have h1:=h x (yl);unfold rL at ih ⊢;rw [List.filterMap_cons,List.filterMap_cons,h1.1,ih fun o ho=>h o (yo _ ho)]
section
variable {cl:Cl} (hm:cl.okMem=true->∀ t n,s.mem t n=s'.mem t n) (v:AV)
include cl hm v
theorem NM:v.elems s cl=v.elems s' cl:=by
 cases v <;> simp only [AV.elems]
 split
 ·rename_i sa; rw [hm sa]
 ·rfl
theorem raws_congr:v.raws s cl=v.raws s' cl:=by
 cases v <;> simp only [AV.raws]
 case ref t n sz off len c =>
  split
  ·rename_i h; rw [hm h t n]
  ·rfl
end
theorem MN {d:Nat} {o:Option aC} (h:o0 s s' o.toList):pJ s d o=pJ s' d o:=by
 cases o with
 | none=>rfl
 | some o=>simp only [pJ]; rw [(h o (by simp)).1]
theorem cQ (k:K) (h:o0 s s' k.opds) (hm:∀ t n,k.reads t->s.mem t n=s'.mem t n) (uc:BT k=true->s.obj=s'.obj):k.run call s=k.run call s':=by
 cases k with
 | mv x=>have h1:=h x (by simp [K.opds]); simp only [K.run,h1.1,h1.2]
 | pick c a b =>
  have h1:=h c (by simp [K.opds]); have h2:=h a (by simp [K.opds]); have h3:=h b (by simp [K.opds]);simp only [K.run,h1.1,h2.1,h2.2,h3.1,h3.2]
 | alloc z=>rfl
 | box z x=>have h1:=h x (by simp [K.opds]); simp only [K.run,h1.1,h1.2]
 | build z ps =>
  have h1:∀ p∈ps,p.2.2.get s=p.2.2.get s':=fun p hp=>(h p.2.2 (yp.2 ⟨p,hp,rfl⟩)).1
  have e1:ps.all (fun p=>(p.2.2.get s).whole)=ps.all (fun p=>(p.2.2.get s').whole):=by
   rw [Bool.eq_iff_iff,y6,y6];exact ⟨fun h p hp=>by rw [<- h1 p hp]; exact h p hp,fun h p hp=>by rw [h1 p hp]; exact h p hp⟩
  have e2:(ps.map fun p=>(p.1,p.2.1,(p.2.2.get s).cells))=ps.map fun p=>(p.1,p.2.1,(p.2.2.get s').cells):=yw fun p hp=>by rw [h1 p hp]
  simp only [K.run,e1,e2]
 | bsl z n ps =>
  have h1:∀ p∈ps,p.2.get s=p.2.get s':=fun p hp=>(h p.2 (yp.2 ⟨p,hp,rfl⟩)).1
  have e1:ps.all (fun p=>(p.2.get s).free&&decide ((p.2.get s).cells.length=z.length))=ps.all (fun p=>(p.2.get s').free&&decide ((p.2.get s').cells.length=z.length)):=by
   rw [Bool.eq_iff_iff,y6,y6];exact ⟨fun h p hp=>by rw [<- h1 p hp]; exact h p hp,fun h p hp=>by rw [h1 p hp]; exact h p hp⟩
  have e2:(ps.map fun p=>(p.2.get s).cells)=ps.map fun p=>(p.2.get s').cells:=yw fun p hp=>by rw [h1 p hp]
  simp only [K.run,e1,e2]
 | load cl g z x =>
  have h1:=h x (by simp [K.opds]);simp only [K.run,h1.1];split
  ·rename_i t n off _;split
   ·rename_i sa;rw [hm t n];cases cl with
    | any=>trivial
    | imm=>simp [Cl.okPtr] at sa
    | root r=>simp [Cl.okPtr] at sa; exact sa.symm
    | out L=>show L.contains t=false; simpa [Cl.okPtr] using sa
   ·rfl
  ·rfl
  ·rfl
  ·rfl
 | clr cl z x=>rfl
 | store cl g z x y =>
  have h1:=h x (by simp [K.opds]); have h2:=h y (by simp [K.opds]);simp only [K.run,h1.1,h2.1,h2.2];split
  ·rename_i t n off _;split
   ·rename_i sa;rw [hm t n];cases cl with
    | any=>trivial
    | imm=>simp [Cl.okPtr] at sa
    | root r=>simp [Cl.okPtr] at sa; exact sa.symm
    | out L=>show L.contains t=false; simpa [Cl.okPtr] using sa
   ·rfl
  ·rfl
 | mm b x y=>have h1:=h x (by simp [K.opds]); have h2:=h y (by simp [K.opds]); simp only [K.run,h1.1,h2.1]
 | bin op b x y=>have h1:=h x (by simp [K.opds]); have h2:=h y (by simp [K.opds]); simp only [K.run,h1.1,h2.1]
 | eqa n ks x y=>have h1:=h x (by simp [K.opds]); have h2:=h y (by simp [K.opds]); simp only [K.run,h1.1,h2.1]
 | eqn n p x y=>have h1:=h x (by simp [K.opds]); have h2:=h y (by simp [K.opds]); simp only [K.run,h1.1,h2.1]
 | un op x=>have h1:=h x (by simp [K.opds]); simp only [K.run,h1.1]
 | conv o x=>have h1:=h x (by simp [K.opds]); simp only [K.run,h1.1]
 | rstr x=>have h1:=h x (by simp [K.opds]); simp only [K.run,h1.1]
 | bstr cl x =>
  have h1:=h x (by simp [K.opds]);have h3:=NM (cl:=cl) (s:=s) (s':=s') (fun sa t n=>hm t n (by cases cl <;> simp [Cl.okMem] at sa; trivial)) (x.get s');simp only [K.run,h1.1,h3]
 | aslc cl l z x lo hi =>
  have h1:=h x (by simp [K.opds]);have h2:∀ d,pJ s d lo=pJ s' d lo:=fun d=>MN fun o ho=>h o (by simp only [K.opds,yg,yx]; exact .inr (.inl ho))
  have h3:∀ d,pJ s d hi=pJ s' d hi:=fun d=>MN fun o ho=>h o (by simp only [K.opds,yg,yx]; exact .inr (.inr ho))
  simp only [K.run,h1.1,h2,h3];split
  ·rename_i t n o _;cases hc:cl.okMem with
   | true=>rw [hm t n (by cases cl <;> simp [Cl.okMem] at hc; trivial)]
   | false =>
    simp only [yA,and_false,if_false];cases pJ s' 0 lo <;> try rfl
    cases pJ s' l hi <;> try rfl
    cases s.mem t n <;> cases s'.mem t n <;> rfl
  ·rfl
 | mkf f xs =>
  have h1:∀ x∈xs,x.get s=x.get s':=fun x hx=>(h x hx).1
  have e1:xs.all (fun x=>(x.get s).capOk)=xs.all (fun x=>(x.get s').capOk):=by
   rw [Bool.eq_iff_iff,y6,y6];exact ⟨fun h p hp=>by rw [<- h1 p hp]; exact h p hp,fun h p hp=>by rw [h1 p hp]; exact h p hp⟩
  have e2:xs.map (·.get s)=xs.map (·.get s'):=yw h1;simp only [K.run,e1,e2]
 | callv cl x xs =>
  have h0:=h x (by simp [K.opds]);have hx:o0 s s' xs:=fun o ho=>h o (by simp [K.opds,ho])
  have xm:cl.okMem=true->∀ t n,s.mem t n=s'.mem t n:=fun sa t n=>hm t n (by cases cl <;> simp [Cl.okMem] at sa; trivial)
  have h1:=rN (cl:=cl) (s:=s) (s':=s') xm (uc rfl) (xs:=xs) hx;have h2:=GS (xs:=xs) hx;have h3:∀ l,RD s cl l=RD s' cl l:=eO xm;simp only [K.run,h0.1,h1,h2,h3]
 | callr cl f xs =>
  have xm:cl.okMem=true->∀ t n,s.mem t n=s'.mem t n:=fun sa t n=>hm t n (by cases cl <;> simp [Cl.okMem] at sa; trivial)
  have h1:∀ t n,EB s cl t n xs=EB s' cl t n xs:=fun t n=>IS xm (uc rfl) (xs:=xs) h
  have h2:JA s xs=JA s' xs:=by
   cases xs with
   | nil=>rfl
   | cons x r=>simp only [JA,(h x (by simp [K.opds])).1]
  simp only [K.run,h1,h2];split
  ·rename_i t n _;split
   ·rename_i sa;rw [hm t n (by cases cl with
     | any=>trivial
     | imm=>simp [Cl.okPtr] at sa
     | root r=>simp [Cl.okPtr] at sa; exact sa.symm
     | out L=>show L.contains t=false; simpa [Cl.okPtr] using sa)]
   ·rfl
  ·rfl
 | callh nt x xs=>rfl
 | nxt x=>rfl
 | slz x=>rfl
 | ent x=>rfl
 | rng x=>rfl
 | mks z b zs x y=>have h1:=h x (by simp [K.opds]); have h2:=h y (by simp [K.opds]); simp only [K.run,h1.1,h2.1]
 | slc st z x lo hi mx =>
  have h1:=h x (by simp [K.opds]);have h2:∀ d,pJ s d lo=pJ s' d lo:=fun d=>MN fun o ho=>h o (by simp only [K.opds,yg,yx]; exact .inr (.inl ho))
  have h3:∀ d,pJ s d hi=pJ s' d hi:=fun d=>MN fun o ho=>h o (by simp only [K.opds,yg,yx]; exact .inr (.inr (.inl ho)))
  simp only [K.run,h1.1,h2,h3]
 | faddr f x=>have h1:=h x (by simp [K.opds]); simp only [K.run,h1.1]
 | field g f z x=>have h1:=h x (by simp [K.opds]); simp only [K.run,h1.1]
 | aaddr l z x i=>have h1:=h x (by simp [K.opds]); have h2:=h i (by simp [K.opds]); simp only [K.run,h1.1,h2.1]
 | iaddr z x i=>have h1:=h x (by simp [K.opds]); have h2:=h i (by simp [K.opds]); simp only [K.run,h1.1,h2.1]
 | index x i=>have h1:=h x (by simp [K.opds]); have h2:=h i (by simp [K.opds]); simp only [K.run,h1.1,h2.1]
 | ext x i=>have h1:=h x (by simp [K.opds]); simp only [K.run,h1.1]
 | call cl f xs =>
  have h1:=rN (cl:=cl) (s:=s) (s':=s') (fun sa t n=>hm t n (by cases cl <;> simp [Cl.okMem] at sa; trivial)) (uc rfl) (xs:=xs) h;have h2:=GS (xs:=xs) h;simp only [K.run,h1,h2,uc rfl]
 | callf cl f z xs=>rfl
 | len st x=>have h1:=h x (by simp [K.opds]); simp only [K.run,h1.1]
 | app cl e z b x y =>
  have h1:=h x (by simp [K.opds]); have h2:=h y (by simp [K.opds]);have h3:=NM (cl:=cl) (s:=s) (s':=s') (fun sa t n=>hm t n (by cases cl <;> simp [Cl.okMem] at sa; trivial)) (y.get s');simp only [K.run,h1.1,h1.2,h2.1,h3]
 | mkm=>rfl
 | bad=>rfl
 | mkb T e=>rfl
 | mget ok ty z x k=>have h1:=h x (by simp [K.opds]); have h2:=h k (by simp [K.opds]); simp only [K.run,h1.1,h2.1,uc rfl]
 | mset ty x k v=>have h1:=h x (by simp [K.opds]); have h2:=h k (by simp [K.opds]); have h3:=h v (by simp [K.opds]); simp only [K.run,h1.1,h2.1,h3.1,uc rfl]
 | mlen x=>rfl
 | appf cl e z b x y =>
  have h1:=h x (by simp [K.opds]); have h2:=h y (by simp [K.opds]);have h3:∀ v:AV,v.elems s cl=v.elems s' cl:=fun v=>NM (cl:=cl) (s:=s) (s':=s') (fun sa t n=>hm t n (by cases cl <;> simp [Cl.okMem] at sa; trivial)) v
  simp only [K.run,h1.1,h1.2,h2.1,h3]
 | appm cl e z b x y =>
  have h1:=h x (by simp [K.opds]); have h2:=h y (by simp [K.opds]);have h3:∀ v:AV,v.elems s cl=v.elems s' cl:=fun v=>NM (cl:=cl) (s:=s) (s':=s') (fun sa t n=>hm t n (by cases cl <;> simp [Cl.okMem] at sa; trivial)) v
  simp only [K.run,h1.1,h1.2,h2.1,h3]
 | appn cl e z b x y =>
  have h1:=h x (by simp [K.opds]); have h2:=h y (by simp [K.opds]);have h3:∀ v:AV,v.raws s cl=v.raws s' cl:=fun v=>raws_congr (cl:=cl) (s:=s) (s':=s') (fun sa t n=>hm t n (by cases cl <;> simp [Cl.okMem] at sa; trivial)) v
  simp only [K.run,h1.1,h1.2,h2.1,h3]
 | bslr sz z n ps =>
  have h1:∀ p∈ps,p.2.get s=p.2.get s':=fun p hp=>(h p.2 (yp.2 ⟨p,hp,rfl⟩)).1
  have e1:ps.all (fun p=>(p.2.get s).whole&&decide ((p.2.get s).cells.length=z.length))=ps.all (fun p=>(p.2.get s').whole&&decide ((p.2.get s').cells.length=z.length)):=by
   rw [Bool.eq_iff_iff,y6,y6];exact ⟨fun h p hp=>by rw [<- h1 p hp]; exact h p hp,fun h p hp=>by rw [h1 p hp]; exact h p hp⟩
  have e2:(ps.map fun p=>(p.2.get s).cells)=ps.map fun p=>(p.2.get s').cells:=yw fun p hp=>by rw [h1 p hp]
  simp only [K.run,e1,e2]
 | nilchk x=>have h1:=h x (by simp [K.opds]); simp only [K.run,h1.1]
structure w9 (f:An->An):Prop where
 no:f .no=.no
 ex:f .ex=.ex
 own:∀ k e,f (.own k e)≠.ex
def aA.mapAn (s:aA) (f:An->An):aA:=⟨fun t=>⟨(s.env t).v,f (s.env t).a⟩,fun t n=>(s.mem t n).map (·.map fun x=>⟨x.v,f x.a⟩),s.next,s.obj,fun t=>⟨(s.gh t).v,f (s.gh t).a⟩⟩
def wA.mapAn (f:An->An) (x:wA):wA:=⟨x.v,f x.a⟩
def TD.mapAn (f:An->An):TD->TD
 | .new r=>.new (r.map (wA.mapAn f))
 | .set t n r=>.set t n (r.map (wA.mapAn f))
 | .ob2 t n S r=>.ob2 t n S (r.map (wA.mapAn f))
 | e=>e
theorem KA (f:An->An) (o:aC):o.get (s.mapAn f)=o.get s:=by cases o <;> rfl
theorem anN_map {f:An->An} (hf:w9 f) (b:Bool) (a:An):AC b (f a)=f (AC b a):=by
 cases b with
 | true=>exact hf.ex.symm
 | false=>rfl
theorem dP {f:An->An} (hf:w9 f) (o:aC):o.an (s.mapAn f)=f (o.an s):=by
 cases o with
 | t n=>rfl
 | c v=>cases v <;> first | exact hf.no.symm | (rename_i b l; cases b; exact hf.no.symm; exact hf.ex.symm)
theorem IY (f:An->An) (r:List wA) (sz off len:Nat):zE (r.map (wA.mapAn f)) sz off len=zE r sz off len:=by
 unfold zE;have h1:(r.map (wA.mapAn f)).all (fun x=>x.v.free0)=r.all (fun x=>x.v.free0):=by rw [List.all_map]; rfl
 simp only [yu,h1];congr 1;congr 1;apply yw;intro i _;rw [<- List.map_drop,<- List.map_take,y3];rfl
theorem mV (f:An->An) (cl:Cl) (v:AV):v.elems (s.mapAn f) cl=v.elems s cl:=by
 cases v <;> simp only [AV.elems]
 rename_i t n sz off len cap;split
 ·simp only [aA.mapAn];cases s.mem t n with
  | none=>rfl
  | some r=>exact IY f r sz off len
 ·rfl
theorem j7 (f:An->An) (cl:Cl) (v:AV):TP (s.mapAn f) cl v=TP s cl v:=by
 cases v <;> simp only [TP]
 rename_i t n off;split
 ·simp only [aA.mapAn];cases s.mem t n with
  | none=>rfl
  | some r =>
   simp only [yr,<- List.map_drop,List.all_map,y3];rfl
 ·rfl
theorem rO (f:An->An) (cl:Cl):∀ (l:List AV),RD (s.mapAn f) cl l=RD s cl l
 | []=>rfl
 | x :: r=>by simp only [RD,j7 f cl x,rO f cl r]
theorem lR (f:An->An) (cl:Cl) (v:AV):US (s.mapAn f) cl v=US s cl v:=by
 unfold US;split
 ·rename_i t n sz off len cap;split
  ·simp only [aA.mapAn];cases s.mem t n with
   | none=>rfl
   | some r=>simp only [yr,J]; rw [show (fun x:wA=>(⟨x.v,f x.a⟩:wA))=wA.mapAn f from rfl,IY]
  ·rfl
 ·rfl
 ·rfl
 ·rfl
 ·rfl
theorem p7 (f:An->An) (cl:Cl) (v:AV):KF (s.mapAn f) cl v=KF s cl v:=by
 have:=lR (s:=s) f cl v;cases v <;> simp only [KF,rO] <;> exact this
theorem tN (f:An->An) (cl:Cl):∀ (xs:List aC),TF (s.mapAn f) cl xs=TF s cl xs
 | []=>rfl
 | x :: r=>by
  unfold TF;rw [tN f cl r,KA];rw [p7]
theorem OS (f:An->An) (cl:Cl) (t n:Nat):∀ (xs:List aC),EB (s.mapAn f) cl t n xs=EB s cl t n xs
 | []=>rfl
 | x :: r=>by
  unfold EB;rw [OS f cl t n r,KA];have:GC (s.mapAn f) cl t n (x.get s)=GC s cl t n (x.get s):=by
   unfold GC;split
   ·rfl
   ·rw [lR]
   ·rfl
   ·rw [lR]
  rw [this]
theorem FY (f:An->An) (xs:List aC):JA (s.mapAn f) xs=JA s xs:=by
 cases xs with
 | nil=>rfl
 | cons x r=>simp only [JA,KA]
theorem Z8 {f:An->An} (hf:w9 f) (v:AV):f (rB v)=rB v:=by
 unfold rB;split
 ·exact hf.ex
 ·exact hf.no
theorem HS (f:An->An) (xs:List aC):rL (s.mapAn f) xs=rL s xs:=by
 unfold rL;simp only [KA]
theorem NW (f:An->An) (d:Nat) (o:Option aC):pJ (s.mapAn f) d o=pJ s d o:=by
 cases o with
 | none=>rfl
 | some o=>simp only [pJ,KA]
theorem loadC_map (f:An->An) (hf:w9 f) (g:Bool) (z off:Nat) (r:List wA):RB g z off (r.map (wA.mapAn f))=(RB g z off r).map (wA.mapAn f):=by
 unfold RB;cases g with
 | true =>
  simp only [if_true,yu];split
  ·simp only [yr,wA.mapAn,hf.no,<- List.map_drop,<- List.map_take,y3];rfl
  ·rfl
 | false=>simp
theorem P8 (f:An->An) (hf:w9 f) (g:Bool) (z off:Nat) (r:List wA) (v:AV) (a:An):UA g z off (r.map (wA.mapAn f)) v (f a)=(UA g z off r v a).map (·.map (wA.mapAn f)):=by
 unfold UA;cases g with
 | true =>
  simp only [if_true,yu];cases v <;> try rfl
  simp only;split
  ·simp only [yr,yH,List.map_take,List.map_drop,y3];congr 3;apply yw;intro x _;simp [wA.mapAn,hf.no]
  ·rfl
 | false =>
  simp only [yA,if_false,yu];split
  ·simp [wA.mapAn,List.map_set]
  ·rfl
theorem run_mapAn {f:An->An} (hf:w9 f) (k:K) (hk:isT k=false):k.run call (s.mapAn f)=(k.run call s).map fun p=>(p.1.mapAn f,p.2.mapAn f):=by
  cases k with
  | mv x=>simp [K.run,KA,dP hf,wA.mapAn,TD.mapAn]
  | callh nt x xs=>rfl
  | nxt x=>rfl
  | slz x=>rfl
  | ent x=>rfl
  | rng x=>rfl
  | pick c a b =>
    simp only [K.run,KA,dP hf];split
    · rename_i t _
      cases t <;> simp [wA.mapAn,TD.mapAn]
    · rfl
  | alloc z =>
    simp only [K.run,yr,wA.mapAn,TD.mapAn,hf.no,y3];congr 3;apply yw;intro v _;simp only [Function.comp,wA.mapAn,rB];split <;> simp [hf.no,hf.ex]
  | box z x =>
    simp only [K.run,KA,dP hf];split
    · split
      · simp [wA.mapAn,TD.mapAn,hf.no,Function.comp_def]
      · rfl
    · split
      · simp [wA.mapAn,TD.mapAn,hf.no]
      · rfl
  | build z ps =>
    simp only [K.run,KA];split
    · rw [Option.map_map]
      congr 1;funext cs;simp [wA.mapAn,TD.mapAn,hf.no]
    · rfl
  | bsl z n ps =>
    simp only [K.run,KA];split
    · simp [wA.mapAn,TD.mapAn,hf.ex]
    · rfl
  | load cl g z x =>
    simp only [K.run,KA];split
    · rename_i t n off _
      split
      · simp only [aA.mapAn]
        cases s.mem t n with
        | none=>rfl
        | some r =>
          simp only [yr,J];rw [show (fun x:wA=>(⟨x.v,f x.a⟩:wA))=wA.mapAn f from rfl,loadC_map f hf];cases RB g z off r <;> rfl
      · rfl
    · split
      · rfl
      · rename_i cs _ _ _
        cases xG g z cs <;> simp [wA.mapAn,TD.mapAn,hf.no]
    · split
      · rfl
      · rename_i cs _ _ _
        cases xG g z cs <;> simp [wA.mapAn,TD.mapAn,hf.no]
    · rfl
  | clr cl z x=>rfl
  | store cl g z x y =>
    simp only [K.run,KA,dP hf];split
    · rename_i t n off _
      split
      · simp only [aA.mapAn]
        cases s.mem t n with
        | none=>rfl
        | some r =>
          simp only [yr,J];rw [show (fun x:wA=>(⟨x.v,f x.a⟩:wA))=wA.mapAn f from rfl,P8 f hf];cases UA g z off r (y.get s) (y.an s) <;> simp [wA.mapAn,TD.mapAn,hf.no]
      · rfl
    · rfl
  | mm b x y=>simp only [K.run,KA]; cases mmC b (x.get s) (y.get s) <;> simp [wA.mapAn,TD.mapAn,hf.no]
  | bin op b x y=>simp only [K.run,KA]; cases FT op b (x.get s) (y.get s) <;> simp [wA.mapAn,TD.mapAn,hf.no]
  | eqa n ks x y =>
    simp only [K.run,KA];split
    · rename_i a b _ _
      cases MK ks a b <;> simp [wA.mapAn,TD.mapAn,hf.no]
    · rfl
  | eqn n p x y =>
    simp only [K.run,KA];split
    · cases TS false (x.get s) <;> simp [wA.mapAn,TD.mapAn,hf.no]
    · cases TS true (x.get s) <;> simp [wA.mapAn,TD.mapAn,hf.no]
    · rfl
  | un op x=>simp only [K.run,KA]; split <;> simp [wA.mapAn,TD.mapAn,hf.no]
  | conv o x=>simp only [K.run,KA]; split <;> simp [wA.mapAn,TD.mapAn,hf.no]
  | rstr x=>simp only [K.run,KA]; split <;> simp [wA.mapAn,TD.mapAn,hf.no]
  | bstr cl x =>
    simp only [K.run,KA,mV];split
    · rename_i l _
      cases bytesOf l <;> simp [wA.mapAn,TD.mapAn,hf.no]
    · rfl
  | aslc cl l z x lo hi =>
    simp only [K.run,KA,NW];split
    · rename_i t n o _
      simp only [aA.mapAn];cases pJ s 0 lo <;> try rfl
      cases pJ s l hi <;> try rfl
      cases s.mem t n with
      | none=>rfl
      | some r =>
        simp only [yr,yu];split
        · split <;> simp [wA.mapAn,TD.mapAn,hf.no]
        · rfl
    · rfl
  | mkf g xs =>
    simp only [K.run,KA];split <;> simp [wA.mapAn,TD.mapAn,hf.no]
  | callv cl x xs =>
    simp only [K.run,KA,tN,HS,rO];split
    · split
      · rename_i vs ws _ _ _
        rename_i g cs _ _ _ _ _ _;cases call _ _ none with
        | none=>rfl
        | some r =>
          simp only [J];split
          · split <;> simp [wA.mapAn,TD.mapAn,hf.no]
          · rfl
      · rfl
    · rfl
  | callr cl g xs =>
    simp only [K.run,OS,FY];split
    · rename_i t n _
      split
      · simp only [aA.mapAn]
        cases s.mem t n with
        | none=>rfl
        | some r =>
          simp only [yr];cases EB s cl t n xs with
          | none=>rfl
          | some vs =>
            simp only [List.all_map,y3,yu];have e1:r.all ((fun x:wA=>x.v.free0) ∘ fun x=>(⟨x.v,f x.a⟩:wA))=r.all (fun x=>x.v.free0):=rfl;have e2:r.map ((fun x:wA=>x.v) ∘ fun x=>(⟨x.v,f x.a⟩:wA))=r.map (·.v):=rfl;rw [e1,e2];split
            · cases call g (.undef :: .undef :: vs) (some (.agg (r.map (·.v)))) with
              | none=>rfl
              | some q =>
                simp only [J];split
                · split <;> simp [wA.mapAn,TD.mapAn,hf.no,Function.comp_def,Z8 hf]
                · rfl
            · rfl
      · rfl
    · rfl
  | mks z b zs x y =>
    simp only [K.run,KA];split
    · split
      · simp only [yr,wA.mapAn,TD.mapAn,hf.no,y3]
        congr 3;apply yw;intro v _;simp [wA.mapAn,hf.no]
      · rfl
    · rfl
  | slc st z x lo hi mx =>
    simp only [K.run,KA,NW];split
    · rfl
    · split
      · rfl
      · split <;> first
          | rfl
          | (split
             · split <;> (try split) <;> simp [wA.mapAn,TD.mapAn,hf.no]
             · rfl)
  | faddr o x=>simp only [K.run,KA]; split <;> simp [wA.mapAn,TD.mapAn,hf.no]
  | field g o z x =>
    simp only [K.run,KA];split
    · rename_i cs _
      cases xG g z (cs.drop o) <;> simp [wA.mapAn,TD.mapAn,hf.no]
    · rfl
  | aaddr l z x i =>
    simp only [K.run,KA];split
    · split
      · split <;> simp [wA.mapAn,TD.mapAn,hf.no]
      · rfl
    · rfl
  | iaddr z x i =>
    simp only [K.run,KA];split
    · split
      · rename_i k _ _ _ l _
        cases l[k]? with
        | none=>rfl
        | some cs=>simp only [J]; split <;> simp [wA.mapAn,TD.mapAn,hf.no]
      · rename_i k _ _ l _
        cases l[k]? with
        | none=>rfl
        | some cs=>simp only [J]; split <;> simp [wA.mapAn,TD.mapAn,hf.no]
      · split <;> simp [wA.mapAn,TD.mapAn,hf.no]
      · rfl
    · rfl
  | index x i =>
    simp only [K.run,KA];split
    · rename_i k b _ _
      cases b[k]? <;> simp [wA.mapAn,TD.mapAn,hf.no]
    · rfl
  | ext x i =>
    simp only [K.run,KA];split
    · rename_i vs _
      cases vs[i]? <;> simp [wA.mapAn,TD.mapAn,hf.no]
    · rfl
  | call cl g xs =>
    simp only [K.run,tN,HS];cases TF s cl xs with
    | none=>rfl
    | some vs =>
      simp only [J];split
      · cases call g vs none with
        | none=>rfl
        | some r =>
          simp only [J];split
          · split <;> simp [wA.mapAn,TD.mapAn,hf.no]
          · split <;> simp [wA.mapAn,TD.mapAn,hf.no]
      · rename_i t n _
        simp only [show (s.mapAn f).obj=s.obj from rfl];cases call g vs (s.obj t n) with
        | none=>rfl
        | some r =>
          simp only [J];split
          · rfl
          · split <;> simp [wA.mapAn,TD.mapAn,hf.no]
      · rfl
  | callf cl g z xs=>rfl
  | len st x=>simp only [K.run,KA]; split <;> (try split) <;> simp [wA.mapAn,TD.mapAn,hf.no]
  | app cl e z b x y=>simp [isT] at hk
  | mkm=>simp [K.run,wA.mapAn,TD.mapAn,hf.no]
  | bad=>simp [K.run]
  | mkb T e=>simp [K.run,wA.mapAn,TD.mapAn,hf.no]
  | mget ok ty z x k =>
    simp only [K.run,KA,show (s.mapAn f).obj=s.obj from rfl];split
    · split
      · split <;> simp [wA.mapAn,TD.mapAn,hf.no]
      · rfl
    · rfl
  | mset ty x k v =>
    simp only [K.run,KA,show (s.mapAn f).obj=s.obj from rfl];split
    · split
      · split <;> simp [wA.mapAn,TD.mapAn,hf.no]
      · rfl
    · rfl
  | mlen x=>rfl
  | appf cl e z b x y =>
    simp only [K.run,KA,dP hf,mV];split
    · split
      · rename_i bb _ _ _ _ _
        rw [anN_map hf];cases hx:AC bb (x.an s) with
        | no=>simp [hf.no]
        | ex =>
          simp only [hf.ex];split
          · simp [wA.mapAn,TD.mapAn,hf.ex]
          · simp [wA.mapAn,TD.mapAn,hf.no,Function.comp_def,kA]
        | own k e =>
          simp only;have:=hf.own k e;split
          · contradiction
          · rfl
      · rfl
    · rfl
  | appm cl e z b x y=>simp [isT] at hk
  | appn cl e z b x y=>simp [isT] at hk
  | bslr sz z n ps =>
    simp only [K.run,KA];split
    · simp [wA.mapAn,TD.mapAn,hf.no,Function.comp_def,kA]
    · rfl
  | nilchk x=>simp only [K.run,KA]; split <;> simp [wA.mapAn,TD.mapAn,hf.no]
end
end
section
open Go Go.RowKit
section
variable {P:Program} {O:PH} {nt B:Nat} {F0:XO} {da:Av} {w0:World} {D:Nat->Prop} {s:aA} {a:Act} {w w':World} {ι:Ix} {Θ:CK} {o:Oper}
theorem W9 {α:Type} (sz:Nat):∀ (len:Nat) (L:List α),len * sz<=L.length->((List.range len).map fun i=>(L.drop (i * sz)).take sz).flatten=L.take (len * sz)
 | 0,L,_=>by simp
 | len + 1,L,h=>by
  have h1:len * sz<=L.length:=by rw [yy] at h; omega
  rw [y0,yH,List.flatten_append,W9 sz len L h1];simp only [yf,ym,yI,List.flatten_nil,List.append_nil];rw [yy,List.take_add]
theorem ZK {av:Av} {r:List wA} {cur:Array Value} (na:rE ι Θ av w r cur) {b:Nat} {ty:TypeId} (hb:w.heap[b]?=some (.cells cur ty (0,0))) {sz off len:Nat} {m:List (List AV)} (h:zE r sz off len=some m) :
  m.length=len/\(∀ c∈m,c.length=sz)/\∃ us,lD av w m.flatten us/\∀ (j:Nat) (u:Value),us[j]?=some u->w.cell? ⟨b,off + j,none⟩=some u:=by
 unfold zE at h;split at h
 ·rename_i hc;injection h with h;subst h;have cf:∀ x∈r.map (·.v),x.free0=true:=fun x hx=>by
   obtain ⟨y,hy,rfl⟩:=yp.1 hx;exact y6.1 hc.2 y hy
  have fk:((List.range len).map fun i=>((r.drop (off + i * sz)).take sz).map (·.v)).flatten=((r.map (·.v)).drop off).take (len * sz):=by
   rw [<- W9 sz len _ (by simp; omega)];congr 1;apply yw;intro i _;rw [List.drop_drop,List.map_take,List.map_drop]
  have kc:=XF (len * sz) (kF off na.rep);refine ⟨by simp,fun c rq=>?_,((cur.toList.take r.length).drop off).take (len * sz),?_,fun j u hu=>?_⟩
  ·obtain ⟨i,hi,rfl⟩:=yp.1 rq;have nd:i<len:=by simpa using hi
   have:(i + 1) * sz<=len * sz:=yZ _ nd;rw [yy] at this;simp;omega
  ·rw [fk];exact pH kc fun x hx=>cf x (List.mem_of_mem_drop (List.mem_of_mem_take hx))
  ·rw [cell_of_row w b (off + j) cur ty (0,0) hb];rw [yV] at hu;split at hu
   ·rw [yU,yV] at hu;split at hu
    ·simpa using hu
    ·cases hu
   ·cases hu
 ·cases h
theorem wM (R:mC P O nt B F0 da w0 D s a w ι Θ) {v:Value} {y:AV} (hY:tB ι (KC da ι Θ) (DC ι Θ) w y v) {cl:Cl} {m:List (List AV)} (h:y.elems s cl=some m) {sz:Nat} (lb:0<sz) (tb:∀ c∈m,c.length=sz) :
  ∃ us,lD (KC da ι Θ) w m.flatten us/\Sl (fun _=>False) w sz v m.length us:=by
 have gu:m.flatten.length=m.length * sz:=by
  clear h hY
  induction m with
  | nil=>simp
  | cons c r ih=>rw [yI,yz,tb c (by simp),ih (fun c hc=>tb c (by simp [hc])),yF,yy]; omega
 have ia:∀ {av:Av} {us:List Value},lD av w m.flatten us->us.length=m.length * sz:=fun h=>by
  have:=iD (GD (ι:=ι) h);omega
 cases y with
 | sl nil l =>
  injection h with h;subst h;rw [UF] at hY;simp only [UE] at hY;obtain ⟨A,c,hv,hc,_,hn,hs⟩:=hY;rcases yN l.length with h0 | h0
  ·have:l=[]:=yM h0;subst this;exact ⟨[],rfl,by simp,A,c,hv,hc,fun h=>by simp at h⟩
  ·cases nil with
   | true=>have:=(hn rfl).2.1; omega
   | false =>
    obtain ⟨b,off,rfl,na⟩:=(hs rfl).2 h0;obtain ⟨us,hl,zd⟩:=iR (IF.1 na);refine ⟨us,hl,ia hl,_,c,hv,hc,fun _=>⟨b,off,rfl,?_,fun h=>h,fun j u hu=>(zd j u hu).1⟩⟩;have hp:0<us.length:=by rw [ia hl]; exact Nat.mul_pos h0 lb
    exact QL (zd 0 us[0] (y5 hp)).1
 | bl l =>
  injection h with h;subst h;obtain ⟨a',c,hv,hc,_,hs⟩:=hY;rcases yN l.length with h0 | h0
  ·have:l=[]:=yM h0;subst this;exact ⟨[],rfl,by simp,some a',c,hv,hc,fun h=>by simp at h⟩
  ·obtain ⟨b,off,rfl,na⟩:=hs h0;obtain ⟨us,hl,zd⟩:=uP (KJ.1 na);refine ⟨us,hl,ia hl,_,c,hv,hc,fun _=>⟨b,off,rfl,?_,fun h=>h,fun j u hu=>(zd j u hu).1⟩⟩;have hp:0<us.length:=by rw [ia hl]; exact Nat.mul_pos h0 lb
   exact QL (zd 0 us[0] (y5 hp)).1
 | ref t n sz' off len cap =>
  simp only [AV.elems] at h;split at h
  ·cases hm:s.mem t n with
   | none=>rw [hm] at h; cases h
   | some r =>
    rw [hm,J] at h;obtain ⟨b,hb,bc,cc,oi,_,hv⟩:=XH.1 hY;obtain ⟨zm,b',cur,ty,wa,ua,na,_⟩:=R.rows t n r hm;rw [hb] at wa;injection wa with wa;subst wa;obtain ⟨h1,h2,us,hl,zd⟩:=ZK na ua h;subst h1;exact ⟨us,hl,ia hl,_,cc,hv,Nat.le_trans bc oi,fun _=>⟨b,off,rfl,LA ua,fun h=>h,zd⟩⟩
  ·cases h
 | _=>simp [AV.elems] at h
theorem BP {av:Av} {r:List wA} {cur:Array Value} (na:rE ι Θ av w r cur) {b:Nat} {ty:TypeId} (hb:w.heap[b]?=some (.cells cur ty (0,0))) {sz off len:Nat} {m:List (List AV)} (h:uH r sz off len=some m) :
  m.length=len/\(∀ c∈m,c.length=sz)/\∃ us,FA ι av w m.flatten us/\∀ (j:Nat) (u:Value),us[j]?=some u->w.cell? ⟨b,off + j,none⟩=some u:=by
 unfold uH at h;split at h
 ·rename_i hc;injection h with h;subst h;have fk:((List.range len).map fun i=>((r.drop (off + i * sz)).take sz).map (·.v)).flatten=((r.map (·.v)).drop off).take (len * sz):=by
   rw [<- W9 sz len _ (by simp; omega)];congr 1;apply yw;intro i _;rw [List.drop_drop,List.map_take,List.map_drop]
  have kc:=XF (len * sz) (kF off na.rep);refine ⟨by simp,fun c rq=>?_,((cur.toList.take r.length).drop off).take (len * sz),?_,fun j u hu=>?_⟩
  ·obtain ⟨i,hi,rfl⟩:=yp.1 rq;have nd:i<len:=by simpa using hi
   have:(i + 1) * sz<=len * sz:=yZ _ nd;rw [yy] at this;simp;omega
  ·rw [fk];exact kc
  ·rw [cell_of_row w b (off + j) cur ty (0,0) hb];rw [yV] at hu;split at hu
   ·rw [yU,yV] at hu;split at hu
    ·simpa using hu
    ·cases hu
   ·cases hu
 ·cases h
theorem raws_sl (R:mC P O nt B F0 da w0 D s a w ι Θ) {v:Value} {y:AV} (hY:tB ι (KC da ι Θ) (DC ι Θ) w y v) {cl:Cl} {m:List (List AV)} (h:y.raws s cl=some m) {sz:Nat} (lb:0<sz) (tb:∀ c∈m,c.length=sz) :
  ∃ us,FA ι (KC da ι Θ) w m.flatten us/\Sl (fun _=>False) w sz v m.length us:=by
 have gu:m.flatten.length=m.length * sz:=by
  clear h hY
  induction m with
  | nil=>simp
  | cons c r ih=>rw [yI,yz,tb c (by simp),ih (fun c hc=>tb c (by simp [hc])),yF,yy]; omega
 have ia:∀ {av:Av} {us:List Value},FA ι av w m.flatten us->us.length=m.length * sz:=fun h=>by
  have:=iD h;omega
 have old:∀ (hm:y.elems s cl=some m),∃ us,FA ι (KC da ι Θ) w m.flatten us/\Sl (fun _=>False) w sz v m.length us:=fun hm=>by
  obtain ⟨us,h1,h2⟩:=wM R hY hm lb tb;exact ⟨us,GD h1,h2⟩
 cases y with
 | sl nil l=>exact old h
 | bl l=>exact old h
 | ref t n sz' off len cap =>
  simp only [AV.raws] at h;split at h
  ·cases hm:s.mem t n with
   | none=>rw [hm] at h; cases h
   | some r =>
    rw [hm,J] at h;obtain ⟨b,hb,bc,cc,oi,_,hv⟩:=XH.1 hY;obtain ⟨zm,b',cur,ty,wa,ua,na,_⟩:=R.rows t n r hm;rw [hb] at wa;injection wa with wa;subst wa;obtain ⟨h1,h2,us,hl,zd⟩:=BP na ua h;subst h1;exact ⟨us,hl,ia hl,_,cc,hv,Nat.le_trans bc oi,fun _=>⟨b,off,rfl,LA ua,fun h=>h,zd⟩⟩
  ·cases h
 | _=>simp [AV.raws] at h
theorem N5 {t e:TypeId} {i:TypeInfo} {z:Value} (ht:P.underlying t=some (.slice e)) (hi:P.info? e=some i) (ty:TypeId) {g n c:Nat} {cur:Array Value} (hg:w.heap[g]?=some (.cells cur e (0,0))) (nf:cur.size=c * i.size) (_hz:i.zero=some z)
  {src:Value} {m:Nat} {news:List Value} (hs:Sl (fun _=>False) w i.size src m news) (h1:∀ u∈news,u.oneCell'=true) (bc:n + m<=c) :
  (Builtin.append_ #[t,t] ty #[.slice (some ⟨g,0,none⟩) n c,src]).run P w=.ok (.slice (some ⟨g,0,none⟩) (n + m) c) (w.setRow g (cur.toList.take (n * i.size)++news++cur.toList.drop (n * i.size + news.length)).toArray):=by
 obtain ⟨hl,A,c',rfl,hc,ec⟩:=hs;have ge:n * i.size + news.length<=cur.size:=by rw [hl,nf,<- Nat.add_mul]; exact yZ _ bc
 cases A with
 | none =>
  have hm:m=0:=by
   rcases yN m with h | h
   ·exact h
   ·obtain ⟨b,off,hA,_⟩:=ec h; cases hA
  subst hm;have sy:news=[]:=yM (by simpa using hl);subst sy;simp only [Nat.add_zero] at bc;have ev:w.setRow g (cur.toList.take (n * i.size)++[]++cur.toList.drop (n * i.size + ([]:List Value).length)).toArray=w:=by
   simp only [List.append_nil,List.length_nil,Nat.add_zero,List.take_append_drop,yX];exact setRow_self w g cur e (0,0) hg
  rw [ev];simp [Builtin.append_,run_underlying ht,sizeOf,typeInfo,hi,Builtin.lenOf,Builtin.firstCells,bc,storeCells]
 | some a =>
  refine run_append_room (P:=P) w t ty e i ht hi g n c cur hg a m c' news hl (fun j u hu=>?_) h1 bc ge;have hm:0<m:=by
   rcases yN m with h | h
   ·subst h; have:=(y9.1 hu).1; omega
   ·exact h
  obtain ⟨b,off,hA,_,_,fc⟩:=ec hm;injection hA with hA;subst hA;rw [Addr.add_lit];exact fc j u hu
theorem kV {t e:TypeId} {i:TypeInfo} (ht:P.underlying t=some (.slice e)) (hi:P.info? e=some i) (ty:TypeId) {A:Option Addr} {n c:Nat} (bc:n<=c) {src:Value} {news:List Value} (hs:Sl (fun _=>False) w i.size src 0 news) :
  (Builtin.append_ #[t,t] ty #[.slice A n c,src]).run P w=.ok (.slice A n c) w:=by
 obtain ⟨hl,A',c',rfl,hc,ec⟩:=hs;cases A' <;> cases A <;> simp [Builtin.append_,run_underlying ht,sizeOf,typeInfo,hi,Builtin.lenOf,Builtin.firstCells,bc,storeCells,loadCells,loadCellsFrom]
def grewW (w:World) (xs news:List Value) (z:Value) (e:TypeId) (need c:Nat):World:=w.drew.alloc (.cells (xs.toArray++news.toArray++Builtin.zeroCells z.cells (grownCap w need c e - need)) e)
theorem jV {t e:TypeId} {i:TypeInfo} {z:Value} (ht:P.underlying t=some (.slice e)) (hi:P.info? e=some i) (hz:i.zero=some z) (ty:TypeId) {A:Option Addr} {n c:Nat} {xs:List Value} (ed:xs.length=n * i.size) (hA:A=none->n=0/\c=0) (hx:∀ a,A=some a->∀ j u,xs[j]?=some u->w.cell? (a.add j)=some u)
  {src:Value} {m:Nat} {news:List Value} (hs:Sl (fun _=>False) w i.size src m news) (fa:c<n + m) (hnc:n<=c) (h63:n + m<=140737488355328) (fg:(n + m) * i.bytes<=140737488355328) :
  (Builtin.append_ #[t,t] ty #[.slice A n c,src]).run P w=.ok (.slice (some ⟨w.heap.size,0,none⟩) (n + m) (grownCap w (n + m) c e)) (grewW w xs news z e (n + m) c):=by
 obtain ⟨hl,A',c',rfl,hc,ec⟩:=hs;have hm:0<m:=by omega
 obtain ⟨b,off,rfl,_,_,fc⟩:=ec hm;have be:∀ j u,news[j]?=some u->w.cell? ((⟨b,off,none⟩:Addr).add j)=some u:=fun j u hu=>by rw [Addr.add_lit]; exact fc j u hu
 cases A with
 | none =>
  obtain ⟨rfl,rfl⟩:=hA rfl;have E5:xs=[]:=yM (by simpa using ed);subst E5;have:=run_append_nil (P:=P) w t ty e i z ht hi hz ⟨b,off,none⟩ m c' news hl be hm (by omega) (by rw [yK] at fg; omega);simpa [grewW] using this
 | some a =>
  exact run_append_grow (P:=P) w t ty e i z ht hi hz a n c xs ed (hx a rfl) ⟨b,off,none⟩ m c' news hl be fa (by omega) (growslice_fits (by omega) fg)
section
variable (R:mC P O nt B F0 da w0 D s a w ι Θ)
include R
theorem mC.fam (Θ':CK) (f:An->An) (oe:∀ b o,DC ι Θ' b o->DC ι Θ b o) (pq:∀ A v,DL Θ A v->DL Θ' (f A) v)
  (tok:∀ k o,Θ' k=some o->B<=o.g/\0<o.sz/\o.n<=o.c/\o.c<=maxLen/\∃ cur,w.heap[o.g]?=some (.cells cur o.e (0,0))/\(cur.size=o.c * o.sz/\lC P o.e=some o.sz)) (tinj:∀ k k' o o',Θ' k=some o->Θ' k'=some o'->o.g=o'.g->k=k') (apart:∀ k o t n,Θ' k=some o->ι t n≠some o.g)
  (apob:∀ k o t n H,Θ' k=some o->ι.ob t n=some H->¬ H o.g) :
  mC P O nt B F0 da w0 D (s.mapAn f) a w ι Θ':=by
 have hB:qB (DC ι Θ) (DC ι Θ') w w:=qB.less oe;have hA:qB (KC da ι Θ) (KC da ι Θ') w w:=qB.less fun b o h=>h.imp id (oe b o)
 refine ⟨R.defers,R.size,fun t=>tB.held (Ix.Le.refl _) hA hB _ _ (R.env t),fun t=>pq _ _ (R.ann t),fun t n r hr=>?_,R.mine,R.inj,tok,tinj,apart,R.out,R.pin,R.kept,R.base,R.objs,fun t n H h=>?_,fun t=>tB.held (Ix.Le.refl _) hA hB _ _ (R.gen t),fun t=>pq _ _ (R.gann t)⟩
 ·simp only [aA.mapAn] at hr;cases hm:s.mem t n with
  | none=>rw [hm] at hr; cases hr
  | some r0 =>
   rw [hm] at hr;injection hr with hr;subst hr;obtain ⟨h0,b,cur,ty,h1,h2,⟨h3,h4⟩,h8⟩:=R.rows t n r0 hm;refine ⟨h0,b,cur,ty,h1,h2,⟨by simpa using h3,fun j x hx=>?_⟩,h8⟩;rw [yc] at hx;cases hj:r0[j]? with
   | none=>rw [hj] at hx; cases hx
   | some y =>
    rw [hj] at hx;injection hx with hx;subst hx;obtain ⟨u,hu,h5,h6,h7⟩:=h4 j y hj;exact ⟨u,hu,h5,wB.held (Ix.Le.refl _) hA _ _ h6,pq _ _ h7⟩
 ·obtain ⟨h1,h2⟩:=R.obs t n H h;exact ⟨fun b hb=>let ⟨g1,g2,g3,_,g5⟩:=h1 b hb; ⟨g1,g2,g3,fun k o hk e=>apob k o t n H hk h (e ▸ hb),g5⟩,h2⟩
theorem mC.spare {k:Nat} {ow:Ow} (hk:Θ k=some ow) {cur new:Array Value} (nf:w.heap[ow.g]?=some (.cells cur ow.e (0,0))) (tb:new.size=cur.size) (gv:∀ j,j<ow.n * ow.sz->new[j]?=cur[j]?) :
  mC P O nt B F0 da w0 D s a (w.setRow ow.g new) ι Θ:=by
 have ma:∀ b',b'≠ow.g->(w.setRow ow.g new).heap[b']?=w.heap[b']?:=fun b' h=>setRow_other w ow.g b' new h
 have ne:(w.setRow ow.g new).heap[ow.g]?=some (.cells new ow.e (0,0)):=setRow_heap w ow.g cur new ow.e (0,0) nf;have zp:∀ b o u,w.cell? ⟨b,o,none⟩=some u->(b=ow.g->o<ow.n * ow.sz)->(w.setRow ow.g new).cell? ⟨b,o,none⟩=some u:=fun b o u hc fa=>by
  by_cases hb:b=ow.g
  ·subst hb;rw [cell_of_row _ ow.g o new ow.e (0,0) ne,gv o (fa rfl),<- cell_of_row w ow.g o cur ow.e (0,0) nf];exact hc
  ·exact (World.cell?_of_block (w:=w) (a:=⟨b,o,none⟩) (ma b hb)).trans hc
 have hB:qB (DC ι Θ) (DC ι Θ) w (w.setRow ow.g new):=⟨fun b o u hc hn=>⟨zp b o u hc fun e=>by
  rcases Nat.lt_or_ge o (ow.n * ow.sz) with h | h
  ·exact h
  ·exact absurd (.inr ⟨k,ow,hk,e.symm,h⟩) hn,hn⟩⟩
 have hA:qB (KC da ι Θ) (KC da ι Θ) w (w.setRow ow.g new):=⟨fun b o u hc hn=>⟨zp b o u hc fun e=>by
  rcases Nat.lt_or_ge o (ow.n * ow.sz) with h | h
  ·exact h
  ·exact absurd (.inr (.inr ⟨k,ow,hk,e.symm,h⟩)) hn,hn⟩⟩
 refine ⟨R.defers,R.size,fun t=>tB.held (Ix.Le.refl _) hA hB _ _ (R.env t),R.ann,fun t n r hr=>?_,fun t n b h=>?_,R.inj,fun j o h=>?_,R.tinj,R.apart,R.out,R.pin,?_,R.base,fun t n S h=>?_,fun t n H h=>(R.obs t n H h).grow (by simp),fun t=>tB.held (Ix.Le.refl _) hA hB _ _ (R.gen t),R.gann⟩
 ·obtain ⟨h0,b,gc,ty,h1,h2,h3,h8⟩:=R.rows t n r hr;have:b≠ow.g:=fun e=>R.apart k ow t n hk (e ▸ h1)
  exact ⟨h0,b,gc,ty,h1,(ma b this).trans h2,h3.held (Ix.Le.refl _) hA (fun _ _ h=>h),h8⟩
 ·obtain ⟨h1,h2,h3⟩:=R.mine t n b h;exact ⟨h1,by simpa using h2,h3⟩
 ·obtain ⟨h1,h2,h3,h4,gc,h5,h6⟩:=R.tok j o h;by_cases hg:o.g=ow.g
  ·have:=R.tinj _ _ _ _ h hk hg;subst this;rw [hk] at h;injection h with h;subst h;rw [nf] at h5;injection h5 with h5;injection h5 with h5;subst h5;exact ⟨h1,h2,h3,h4,new,ne,tb.trans h6.1,h6.2⟩
  ·exact ⟨h1,h2,h3,h4,gc,(ma _ hg).trans h5,h6⟩
 ·have:=(R.tok k ow hk).1;have hb:=R.base;exact R.kept.setRow (fun fa=>by omega) _
 ·obtain ⟨p,H,h1,h2,h3,h4⟩:=R.objs t n S h;have ru:∀ b',H b'->b'≠ow.g:=fun b' hH e=>(((R.obs _ _ _ h2).1 _ hH).2.2.2.1 k ow hk) e.symm
  exact ⟨p,H,h1,h2,O.keep h3 (fun b' hH=>ma b' (ru b' hH)) (by simp),h4.keep (fun t n b H h g=>⟨h,H,g⟩) fun x hx=>(ma p (ru p (O.main h3))).trans hx⟩
theorem mC.fresh {d:Nat} (hd:Θ d=none) {cur:Array Value} {e:TypeId} {n c sz:Nat} (nf:cur.size=c * sz) (tb:0<sz) (hn:n<=c) (hc:c<=maxLen) (htz:lC P e=some sz) :
  mC P O nt B F0 da w0 D s a (w.drew.alloc (.cells cur e)) ι (fun j=>if j=d then some ⟨w.heap.size,n,c,sz,e⟩ else Θ j):=by
 have bh:∀ b,b<w.heap.size->(w.drew.alloc (.cells cur e)).heap[b]?=w.heap[b]?:=fun b hb=>Below.heap_alloc w.drew _ b hb
 have tl:∀ b o,b<w.heap.size->DC ι (fun j=>if j=d then some ⟨w.heap.size,n,c,sz,e⟩ else Θ j) b o->DC ι Θ b o:=fun b o hb h=>h.imp id fun ⟨k,ow,h,h1,h2⟩=>by
  by_cases e:k=d
  ·simp only [if_pos e] at h; injection h with h; subst h; simp only at h1; omega
  ·simp only [if_neg e] at h; exact ⟨k,ow,h,h1,h2⟩
 have hB:qB (DC ι Θ) (DC ι (fun j=>if j=d then some ⟨w.heap.size,n,c,sz,e⟩ else Θ j)) w (w.drew.alloc (.cells cur e)):=qB.grown bh tl;have hA:qB (KC da ι Θ) (KC da ι (fun j=>if j=d then some ⟨w.heap.size,n,c,sz,e⟩ else Θ j)) w (w.drew.alloc (.cells cur e)):=qB.grown bh fun b o hb h=>h.imp id (tl b o hb)
 have hΘ:∀ k o,Θ k=some o->(fun j=>if j=d then some ⟨w.heap.size,n,c,sz,e⟩ else Θ j) k=some o:=fun k o h=>by
  by_cases e:k=d
  ·subst e; rw [hd] at h; cases h
  ·simp only [if_neg e]; exact h
 have pq:∀ A v,DL Θ A v->DL (fun j=>if j=d then some ⟨w.heap.size,n,c,sz,e⟩ else Θ j) A v:=fun A v h=>by
  cases A with
  | no=>trivial
  | ex=>exact h
  | own k e'=>exact h.imp id fun ⟨ow,h1,h2⟩=>⟨ow,hΘ _ _ h1,h2⟩
 have dv:w.heap.size<=(w.drew.alloc (.cells cur e)).heap.size:=by
  have:(w.drew.alloc (.cells cur e)).heap.size=w.drew.heap.size + 1:=World.size_alloc _ _;have h4:w.drew.heap.size=w.heap.size:=rfl;omega
 refine ⟨R.defers,R.size,fun t=>tB.held (Ix.Le.refl _) hA hB _ _ (R.env t),fun t=>pq _ _ (R.ann t),fun t n r hr=>?_,fun t n b h=>?_,R.inj,fun j o h=>?_,fun k k' o o' h h' hg=>?_,fun k o t n h h'=>?_,R.out,R.pin,R.kept.drew.alloc _,R.base,fun t n S h=>?_,fun t n H h=>?_,fun t=>tB.held (Ix.Le.refl _) hA hB _ _ (R.gen t),fun t=>pq _ _ (R.gann t)⟩
 ·obtain ⟨h0,b,gc,ty,h1,h2,h3,h8⟩:=R.rows t n r hr;exact ⟨h0,b,gc,ty,h1,(bh b (LA h2)).trans h2,h3.held (Ix.Le.refl _) hA hΘ,h8⟩
 ·obtain ⟨h1,h2,h3⟩:=R.mine t n b h;exact ⟨h1,by omega,h3⟩
 ·by_cases e':j=d
  ·simp only [if_pos e'] at h;injection h with h;subst h;exact ⟨R.lowB,tb,hn,hc,cur,pU rfl,nf,htz⟩
  ·simp only [if_neg e'] at h;obtain ⟨h1,h2,h3,h4,gc,h5,h6⟩:=R.tok j o h;exact ⟨h1,h2,h3,h4,gc,(bh _ (LA h5)).trans h5,h6⟩
 ·by_cases e1:k=d <;> by_cases e2:k'=d
  ·rw [e1,e2]
  ·simp only [if_pos e1] at h; simp only [if_neg e2] at h';injection h with h; subst h;obtain ⟨_,_,_,_,gc,h5,_⟩:=R.tok _ _ h';have:=LA h5;simp only at hg; omega
  ·simp only [if_neg e1] at h; simp only [if_pos e2] at h';injection h' with h'; subst h';obtain ⟨_,_,_,_,gc,h5,_⟩:=R.tok _ _ h;have:=LA h5;simp only at hg; omega
  ·simp only [if_neg e1] at h; simp only [if_neg e2] at h';exact R.tinj _ _ _ _ h h' hg
 ·by_cases e':k=d
  ·simp only [if_pos e'] at h;injection h with h;subst h;have:=(R.mine _ _ _ h').2.1;simp only at this; omega
  ·simp only [if_neg e'] at h;exact R.apart k o t n h h'
 ·obtain ⟨p,H,h1,h2,h3,h4⟩:=R.objs t n S h;exact ⟨p,H,h1,h2,O.keep h3 (fun b' hH=>bh b' (O.lt h3 hH)) dv,h4.keep (fun t n b H h g=>⟨h,H,g⟩) fun x hx=>(bh _ (LA hx)).trans hx⟩
 ·obtain ⟨h1,h2⟩:=R.obs t n H h;refine ⟨fun b hb=>?_,h2⟩;obtain ⟨g1,g2,g3,g4,g5⟩:=h1 b hb;refine ⟨g1,by omega,g3,fun k o hk=>?_,g5⟩;by_cases e':k=d
  ·simp only [if_pos e'] at hk;injection hk with hk;subst hk;simp only;omega
  ·simp only [if_neg e'] at hk;exact g4 k o hk
end
end
end
section
open Go Go.RowKit
section
variable {P:Program} {O:PH} {nt B:Nat} {F0:XO} {da:Av} {w0:World} {D:Nat->Prop} {s:aA} {a:Act} {w w':World} {ι:Ix} {Θ:CK} {o:Oper}
def An.twice (A:An) (d:Nat) (x:An):An:=match A with
 | .own k _=>(x.strip k).strip d
 | _=>x.strip d
theorem twice_eq (A:An) (d:Nat):(s.stripA A).strip d=s.mapAn (A.twice d):=by
 cases A with
 | own k e=>simp [aA.stripA,aA.strip,aA.mapAn,wA.strip,An.twice,Function.comp_def]
 | no=>rfl
 | ex=>rfl
def CK.less (Θ:CK) (A:An) (d:Nat):CK:=fun j=>match A with
 | .own k _=>if j=d\/j=k then none else Θ j
 | _=>if j=d then none else Θ j
theorem OC {A:An} {d j:Nat} {o:Ow} (h:Θ.less A d j=some o):Θ j=some o/\j≠d/\∀ k e,A=.own k e->j≠k:=by
 unfold CK.less at h;cases A with
 | own k e =>
  simp only at h;split at h
  ·cases h
  ·rename_i hn; exact ⟨h,fun e=>hn (.inl e),fun k' e' he=>by injection he with h1; subst h1; exact fun e=>hn (.inr e)⟩
 | no =>
  simp only at h;split at h
  ·cases h
  ·rename_i hn; exact ⟨h,hn,fun k' e' he=>by cases he⟩
 | ex =>
  simp only at h;split at h
  ·cases h
  ·rename_i hn; exact ⟨h,hn,fun k' e' he=>by cases he⟩
theorem less_d {A:An} {d:Nat}:Θ.less A d d=none:=by
 unfold CK.less;cases A <;> simp
theorem less_an {A:An} {d:Nat} {Θ':CK} (hΘ:∀ j o,Θ.less A d j=some o->Θ' j=some o) (x:An) (v:Value) (h:DL Θ x v):DL Θ' (A.twice d x) v:=by
 have h1:∀ k,x.strip k=.no\/(x.strip k=x/\∀ j e,x=.own j e->j≠k):=fun k=>by
  cases x with
  | no=>exact .inl rfl
  | ex=>exact .inr ⟨rfl,fun _ _ h=>by cases h⟩
  | own j e =>
   simp only [An.strip];split
   ·exact .inl rfl
   ·rename_i hn; exact .inr ⟨rfl,fun j' e' h=>by injection h with h; subst h; exact hn⟩
 have key:A.twice d x=.no\/(A.twice d x=x/\(∀ j e,x=.own j e->j≠d)/\∀ k e',A=.own k e'->∀ j e,x=.own j e->j≠k):=by
  cases A with
  | own k e' =>
   simp only [An.twice];rcases h1 k with h2 | ⟨h2,h3⟩
   ·rw [h2]; exact .inl rfl
   ·rw [h2];rcases h1 d with h4 | ⟨h4,h5⟩
    ·exact .inl h4
    ·exact .inr ⟨h4,h5,fun k' e'' he=>by injection he with he; subst he; exact h3⟩
  | no=>rcases h1 d with h4 | ⟨h4,h5⟩; exact .inl h4; exact .inr ⟨h4,h5,fun _ _ he=>by cases he⟩
  | ex=>rcases h1 d with h4 | ⟨h4,h5⟩; exact .inl h4; exact .inr ⟨h4,h5,fun _ _ he=>by cases he⟩
 rcases key with h2 | ⟨h2,h3,h4⟩
 ·rw [h2]; trivial
 ·rw [h2];cases x with
  | no=>trivial
  | ex=>exact h
  | own j e =>
   refine h.imp id fun ⟨ow,h5,h6⟩=>⟨ow,hΘ _ _ ?_,h6⟩
   unfold CK.less;cases A with
   | own k e'=>simp only; rw [if_neg]; exact h5; rintro (e1 | e1); exact h3 _ _ rfl e1; exact h4 _ _ rfl _ _ rfl e1
   | no=>simp only; rw [if_neg (h3 _ _ rfl)]; exact h5
   | ex=>simp only; rw [if_neg (h3 _ _ rfl)]; exact h5
theorem mC.apob (R:mC P O nt B F0 da w0 D s a w ι Θ) {k:Nat} {o:Ow} {t n:Nat} {H:Nat->Prop} (h:Θ k=some o) (hH:ι.ob t n=some H):¬ H o.g:=fun hb=>((R.obs t n H hH).1 _ hb).2.2.2.1 k o h rfl
theorem mC.less (R:mC P O nt B F0 da w0 D s a w ι Θ) (A:An) (d:Nat):mC P O nt B F0 da w0 D (s.mapAn (A.twice d)) a w ι (Θ.less A d) :=
 R.fam _ _ (fun _ _ h=>h.imp id fun ⟨k,ow,h1,h2⟩=>⟨k,ow,(OC h1).1,h2⟩) (less_an fun _ _ h=>h) (fun k o h=>R.tok k o (OC h).1) (fun k k' o o' h h'=>R.tinj k k' o o' (OC h).1 (OC h').1) (fun k o t n h=>R.apart k o t n (OC h).1) (fun _ _ _ _ _ h=>R.apob (OC h).1)
theorem RM {av:Av}:∀ {xs ys:List AV} {us vs:List Value},lD av w xs us->lD av w ys vs->lD av w (xs++ys) (us++vs)
 | [],_,_,_,h,h'=>by simp only [lD] at h; subst h; exact h'
 | x :: r,_,_,_,h,h'=>by
  simp only [lD] at h;obtain ⟨u,ta,rfl,h0,h1,h⟩:=h;exact ⟨u,ta++_,rfl,h0,h1,RM h h'⟩
theorem G5 {av:Av}:∀ {xs:List AV} {us:List Value},lD av w xs us->∀ u∈us,u.oneCell'=true
 | [],_,h,u,hu=>by simp only [lD] at h; subst h; cases hu
 | x :: r,_,h,u,hu=>by
  simp only [lD] at h;obtain ⟨v,ta,rfl,h0,h1,h⟩:=h;rcases yg.1 hu with rfl | hu
  ·exact h1
  ·exact G5 h u hu
theorem op_app (R:mC P O nt B F0 da w0 D s a w ι Θ) {t e:TypeId} {i:TypeInfo} {z:List AV} (ht:P.underlying t=some (.slice e)) (hi:P.info? e=some i) (hz:HJ P e=some z) (tb:z.length=i.size) (lb:0<i.size) {X Y:Operand} {x y:aC} (hx:opd X=some x) (hy:opd Y=some y)
  (ho:o.op=.call { callee:=.builtin .append,args:=#[X,Y],argTypes:=#[t,t] }) {d:Nat} (ca:o.dst=some d) (hd:d<nt) {cl:Cl} {call} {xe:wA × TD} (hr:(K.app cl e i.size i.bytes x y).run call s=some xe) {g} {s':aA} (he:TA.eff ⟨o.dst,.app cl e i.size i.bytes x y,g⟩ s xe=some s') :
  ∃ v w',(execOp a.eval o).run P w=.ok (.value v) w'/\eE P O nt B F0 da w0 D s' (a.put o.dst v) w':=by
 obtain ⟨zv,i',nd,xp,bk,hl⟩:=WH hz w;rw [hi] at nd;injection nd with nd;subst nd;have oo:zv.cells.size=i.size:=by
  have:=aH hl;simp only [yW] at this;omega
 have hX:=R.opd hx;have hY:=(R.opd hy).1;have zj:∀ v w',(Builtin.append_ #[t,t] o.type #[a.eval X,a.eval Y]).run P w=.ok v w'->(execOp a.eval o).run P w=.ok (.value v) w':=fun v w' h=>by
  simp only [execOp,ho,resolve,invoke,builtin,Sem.run_bind,Sem.run_pure,Result.andThen_ok,List.map_toArray,yf,ym,h]
 simp only [K.run] at hr;split at hr
 ·rename_i b l m ee ac;split at hr
  ·rename_i aa;obtain ⟨oa,za⟩:=aa;obtain ⟨fg,jh⟩:=xA.1 oa;have nc:∀ c∈l++m,c.length=i.size:=fun c hc=>by simpa using y6.1 za c hc
   have tc:∀ c∈m,c.length=i.size:=fun c hc=>nc c (List.mem_append_right _ hc)
   have um:∀ c∈l,c.length=i.size:=fun c hc=>nc c (yS _ hc)
   obtain ⟨news,be,mf⟩:=wM R hY ac lb tc;rw [ee] at hX;have uz:=hX.1;rw [UF] at uz;obtain ⟨xs,ed,sv⟩:=wM (cl:=cl) R hX.1 (m:=l) rfl lb um;simp only [UE] at uz;obtain ⟨A,c,hv,ur,hu,hn,hs⟩:=uz;have ze:xs.length=l.length * i.size:=sv.1;have lf:∀ a',A=some a'->∀ j u,xs[j]?=some u->w.cell? (a'.add j)=some u:=fun a' ha j u hj=>by
    obtain ⟨_,A2,c2,hv2,_,h2⟩:=sv;rw [hv] at hv2;injection hv2 with e1 e2 e3;subst e1;have hp:0<l.length:=by
     rcases yN l.length with h | h
     ·rw [h] at ze; have:=(y9.1 hj).1; omega
     ·exact h
    obtain ⟨b',off,hA,_,_,fc⟩:=h2 hp;rw [ha] at hA;injection hA with hA;subst hA;rw [Addr.add_lit];exact fc j u hj
   have jd:news.length=m.length * i.size:=mf.1;have xu:∀ u∈news,u.oneCell'=true:=G5 be;have pq:∃ A0,AC b (x.an s)=A0/\(A0=.ex\/∃ k,A0=.own k e)/\xe=(⟨.sl (b&&m.isEmpty) (l++m),.own 0 e⟩,.app A0 0):=by
    cases uo:AC b (x.an s) with
    | no=>rw [uo] at hr; cases hr
    | ex=>rw [uo] at hr; injection hr with hr; exact ⟨_,rfl,.inl rfl,hr.symm⟩
    | own k e' =>
     rw [uo] at hr;simp only at hr;split at hr
     ·rename_i hee; subst hee; injection hr with hr; exact ⟨_,rfl,.inr ⟨k,rfl⟩,hr.symm⟩
     ·cases hr
   obtain ⟨A0,uo,hAk,rfl⟩:=pq;simp only [TA.eff,ca] at he;injection he with he;subst he;rw [twice_eq,ca];have ew:DL Θ A0 (a.eval X):=by
    rw [<- uo];cases b with
    | false=>exact hX.2
    | true =>
     obtain ⟨h1,h2,h3⟩:=hn rfl;exact ⟨none,0,by rw [hv,h1,h2,h3]⟩
   -- what is read of the old elements and the new ones behind
   have kc:lD (KC da ι Θ) w (l++m).flatten (xs++news):=by rw [List.flatten_append]; exact RM ed be
   have huni:∀ c∈l++m,∀ c'∈l++m,c.length=c'.length:=fun c hc c' ae=>(nc c hc).trans (nc c' ae).symm
   -- a new block
   have grow:c<l.length + m.length->∃ v w',(execOp a.eval o).run P w=.ok (.value v) w'/\eE P O nt B F0 da w0 D ((s.mapAn (A0.twice d)).put (some d) ⟨.sl (b&&m.isEmpty) (l++m),.own d e⟩) (a.put (some d) v) w':=fun fa=>by
    have ja:=jV (P:=P) (w:=w) ht hi xp o.type ze (fun hA=>by
     cases b with
     | true=>have:=hn rfl; exact ⟨this.2.1,this.2.2⟩
     | false =>
      obtain ⟨h1,h2⟩:=hs rfl;refine ⟨?_,h1 hA⟩;rcases yN l.length with h0 | h0
      ·exact h0
      ·obtain ⟨_,_,ha,_⟩:=h2 h0; rw [hA] at ha; cases ha) lf mf fa ur jh fg
    rw [<- hv] at ja;have uf:=grownCap_ge w (l.length + m.length) c e;have rq:grownCap w (l.length + m.length) c e<=maxLen:=grownCap_le_maxLen w (l.length + m.length) c e (by unfold maxLen; omega);have dv:(xs.toArray++news.toArray++Builtin.zeroCells zv.cells (grownCap w (l.length + m.length) c e - (l.length + m.length))).size=grownCap w (l.length + m.length) c e * i.size:=by
     simp only [Array.size_append,List.size_toArray,size_zeroCells,oo,ze,jd,<- Nat.add_mul];congr 1;omega
    have R1:=(R.less A0 d).fresh (d:=d) less_d dv lb uf rq (e:=e) (by simp [lC,hi]);refine ⟨_,_,zj _ _ ja,ι,_,R1.put hd ?_ (.inr ⟨_,if_pos rfl,rfl,rfl⟩)⟩;have hb:(b&&m.isEmpty)=false:=by
     cases b with
     | false=>rfl
     | true =>
      have:=(hn rfl);have:m≠[]:=fun h=>by subst h; simp at fa; omega
      simpa using this
    show tB _ _ _ _ (.sl (b&&m.isEmpty) (l++m)) _;rw [hb,UF];simp only [UE,yz];refine ⟨_,_,rfl,uf,huni,(fun h=>by cases h),fun _=>⟨fun h=>(by cases h),fun _=>⟨w.heap.size,0,rfl,?_⟩⟩⟩;rw [IF];have du:qB (KC da ι Θ) (KC da ι (fun j=>if j=d then some ⟨w.heap.size,l.length + m.length,grownCap w (l.length + m.length) c e,i.size,e⟩ else Θ.less A0 d j)) w (grewW w xs news zv e (l.length + m.length) c):=qB.grown (fun b hb=>Below.heap_alloc w.drew _ b hb) fun b' o' wa h=>h.imp id fun h=>h.imp id fun ⟨k,ow,h1,h2,h3⟩=>by
     by_cases ek:k=d
     ·simp only [if_pos ek] at h1; injection h1 with h1; subst h1; simp only at h2; omega
     ·simp only [if_neg ek] at h1; exact ⟨k,ow,(OC h1).1,h2,h3⟩
    refine RK (lD.held du _ _ kc) fun j u hj=>⟨?_,fun h=>?_⟩
    ·rw [yK];rw [cell_of_row _ w.heap.size j _ e (0,0) (pU (w:=w.drew) rfl)];have bi:=(y9.1 hj).1;rw [Array.getElem?_append_left (by simp only [Array.size_append,List.size_toArray]; simpa using bi)];simpa using hj
    ·rw [yK] at h;have bi:=(y9.1 hj).1;rw [yz,ze,jd,<- Nat.add_mul] at bi;rcases h with h | (⟨t',n',h⟩ | ⟨t',n',H,h,wa⟩) | ⟨k,ow,h1,h2,h3⟩
     ·have:=R.out _ _ h; have:=R.lowB; omega
     ·have:=(R.mine _ _ _ h).2.1; omega
     ·have:=((R.obs _ _ _ h).1 _ wa).2.1; omega
     ·by_cases ek:k=d
      ·simp only [if_pos ek] at h1; injection h1 with h1; subst h1; simp only at h3; omega
      ·simp only [if_neg ek] at h1;obtain ⟨_,_,_,_,gc,h5,_⟩:=R.tok _ _ (OC h1).1;have:=LA h5;omega
   -- nothing new
   have same:m=[]->exV (a.eval X)->∃ v w',(execOp a.eval o).run P w=.ok (.value v) w'/\eE P O nt B F0 da w0 D ((s.mapAn (A0.twice d)).put (some d) ⟨.sl (b&&m.isEmpty) (l++m),.own d e⟩) (a.put (some d) v) w':=fun oj sq=>by
    subst oj;have ja:=kV (P:=P) (w:=w) ht hi o.type (A:=A) ur mf;rw [<- hv] at ja;have R1:=R.less A0 d;refine ⟨_,_,zj _ _ ja,ι,_,R1.put hd ?_ (.inl sq)⟩;have hb:(b&&List.isEmpty ([]:List (List AV)))=b:=by simp
    show tB _ _ _ _ (.sl (b&&List.isEmpty []) (l++[])) _;rw [hb,List.append_nil];have hless:qB (KC da ι Θ) (KC da ι (Θ.less A0 d)) w w:=qB.less fun b o h=>h.imp id fun h=>h.imp id fun ⟨k,ow,h1,h2⟩=>⟨k,ow,(OC h1).1,h2⟩
    have hlessB:qB (DC ι Θ) (DC ι (Θ.less A0 d)) w w:=qB.less fun b o h=>h.imp id fun ⟨k,ow,h1,h2⟩=>⟨k,ow,(OC h1).1,h2⟩
    exact tB.held (Ix.Le.refl _) hless hlessB _ _ hX.1
   have exact:exV (a.eval X)->∃ v w',(execOp a.eval o).run P w=.ok (.value v) w'/\eE P O nt B F0 da w0 D ((s.mapAn (A0.twice d)).put (some d) ⟨.sl (b&&m.isEmpty) (l++m),.own d e⟩) (a.put (some d) v) w':=fun sq=>by
    obtain ⟨A',n',hex'⟩:=sq;rw [hv] at hex';injection hex' with e1 e2 e3;rcases yN m.length with h0 | h0
    ·exact same (yM h0) ⟨A',n',by rw [hv,e1,e2,e3]⟩
    ·exact grow (by omega)
   rcases hAk with rfl | ⟨k,rfl⟩
   ·exact exact ew
   ·rcases ew with ew | ⟨ow,hk,hoe,ew⟩
    ·exact exact ew
    ·rw [hv] at ew;injection ew with e1 e2 e3;obtain ⟨hgB,hosz,honc,hocm,cur,nf,zw⟩:=R.tok k ow hk;rw [hoe] at nf;have cq:ow.sz=i.size:=by
      have:=zw.2;rw [hoe] at this;simp [lC,hi] at this;exact this.symm
     rcases Nat.lt_or_ge c (l.length + m.length) with fa | uf
     ·exact grow fa
     ·subst e1;have ja:=N5 (P:=P) (w:=w) ht hi o.type nf (by rw [zw.1,cq]) xp mf xu (n:=l.length) (m:=m.length) (c:=ow.c) (by omega);have ge:l.length * i.size + news.length<=cur.toList.length:=by
       have fc:cur.toList.length=ow.c * i.size:=by rw [yW,zw.1,cq]
       rw [jd,<- Nat.add_mul,fc];exact yZ _ (by omega)
      obtain ⟨new,oc⟩:∃ new,new=(cur.toList.take (l.length * i.size)++news++cur.toList.drop (l.length * i.size + news.length)).toArray:=⟨_,rfl⟩;rw [<- oc] at ja;have hnl:new.size=cur.size:=by
       rw [oc];simp only [List.size_toArray,yz,yL,List.length_drop];simp only [yW] at ge ⊢;omega
      have xr:ow.n * ow.sz=l.length * i.size:=by rw [<- e2,cq]
      have nv:(cur.toList.take (l.length * i.size)).length=l.length * i.size:=by rw [yL]; omega
      have su:∀ j,j<l.length * i.size->new[j]?=cur[j]?:=fun j hj=>by
       rw [oc,List.getElem?_toArray,List.append_assoc,yG (by omega),yV,if_pos hj];simp
      have hxs':∀ j u,(xs++news)[j]?=some u->new[j]?=some u:=fun j u hj=>by
       rcases Nat.lt_or_ge j (l.length * i.size) with bi | bi
       ·rw [su j bi];rw [yG (by omega)] at hj;have:=lf _ rfl j u hj;rw [Addr.add_lit,yK,cell_of_row w ow.g j cur e (0,0) nf] at this;exact this
       ·rw [yQ (by omega),ze] at hj;have hjn:=(y9.1 hj).1;rw [oc,List.getElem?_toArray,List.append_assoc,yQ (by omega),nv,yG hjn];exact hj
      have R1:=R.spare (new:=new) hk (by rw [hoe]; exact nf) hnl (fun j hj=>su j (by omega));have ut:(w.setRow ow.g new).heap[ow.g]?=some (.cells new e (0,0)):=setRow_heap w ow.g cur new e (0,0) nf;have oe:∀ b o,DC ι (fun j=>if j=d then some ⟨ow.g,l.length + m.length,ow.c,i.size,e⟩ else Θ.less (.own k e) d j) b o->DC ι Θ b o:=fun b o h=>h.imp id fun ⟨k',ow',h1,h2,h3⟩=>by
       by_cases ek:k'=d
       ·simp only [if_pos ek] at h1;injection h1 with h1;subst h1;refine ⟨k,ow,hk,h2,?_⟩;simp only [Nat.add_mul] at h3;omega
       ·simp only [if_neg ek] at h1; exact ⟨k',ow',(OC h1).1,h2,h3⟩
      have R2:=R1.fam (fun j=>if j=d then some ⟨ow.g,l.length + m.length,ow.c,i.size,e⟩ else Θ.less (.own k e) d j) ((An.own k e).twice d) oe
       (less_an fun j o' h=>by have:=(OC h).2.1; simp only [if_neg this]; exact h)
       (fun k' o' h=>by
        by_cases ek:k'=d
        ·simp only [if_pos ek] at h;injection h with h;subst h;exact ⟨hgB,lb,by simp only; omega,hocm,new,ut,by rw [hnl,zw.1,cq],by simp [lC,hi]⟩
        ·simp only [if_neg ek] at h;exact R1.tok k' o' (OC h).1)
       (fun k' k'' o' o'' h h' hg=>by
        by_cases e1:k'=d <;> by_cases e2:k''=d
        ·rw [e1,e2]
        ·simp only [if_pos e1] at h; simp only [if_neg e2] at h';injection h with h; subst h;exact absurd (R.tinj _ _ _ _ hk (OC h').1 hg).symm ((OC h').2.2 k e rfl)
        ·simp only [if_neg e1] at h; simp only [if_pos e2] at h';injection h' with h'; subst h';exact absurd (R.tinj _ _ _ _ (OC h).1 hk hg) ((OC h).2.2 k e rfl)
        ·simp only [if_neg e1] at h; simp only [if_neg e2] at h';exact R.tinj _ _ _ _ (OC h).1 (OC h').1 hg)
       (fun k' o' t' n' h=>by
        by_cases ek:k'=d
        ·simp only [if_pos ek] at h;injection h with h;subst h;exact R.apart k ow t' n' hk
        ·simp only [if_neg ek] at h;exact R.apart k' o' t' n' (OC h).1)
       (fun k' o' t' n' H h hH=>by
        by_cases ek:k'=d
        ·simp only [if_pos ek] at h;injection h with h;subst h;show ¬ H ow.g;exact R.apob hk hH
        ·simp only [if_neg ek] at h;exact R.apob (OC h).1 hH)
      have hv':a.eval X=.slice (some ⟨ow.g,0,none⟩) l.length ow.c:=by rw [hv,e3]
      rw [<- hv'] at ja;refine ⟨_,_,zj _ _ ja,ι,_,R2.put hd ?_ (.inr ⟨_,if_pos rfl,rfl,rfl⟩)⟩;show tB _ _ _ _ (.sl (b&&m.isEmpty) (l++m)) _;have hb:b=false:=by
       cases b with
       | false=>rfl
       | true=>have:=(hn rfl).1; cases this
      rw [hb,Bool.false_and,UF];simp only [UE,yz];refine ⟨_,_,rfl,by omega,huni,(fun h=>by cases h),fun _=>⟨fun h=>(by cases h),fun _=>⟨ow.g,0,rfl,?_⟩⟩⟩;rw [IF];have du:qB (KC da ι Θ) (KC da ι (fun j=>if j=d then some ⟨ow.g,l.length + m.length,ow.c,i.size,e⟩ else Θ.less (.own k e) d j)) w (w.setRow ow.g new):=⟨fun b' o' u hc hna=>by
       refine ⟨?_,fun h=>hna (h.imp id (oe b' o'))⟩;by_cases wa:b'=ow.g
       ·subst wa;rw [cell_of_row _ ow.g o' new e (0,0) ut];have:o'<l.length * i.size:=by
         rcases Nat.lt_or_ge o' (l.length * i.size) with h | h
         ·exact h
         ·exact absurd (.inr (.inr ⟨k,ow,hk,rfl,by omega⟩)) hna
        rw [su o' this,<- cell_of_row w ow.g o' cur e (0,0) nf];exact hc
       ·exact (World.cell?_of_block (w:=w) (a:=⟨b',o',none⟩) (setRow_other w ow.g b' new wa)).trans hc⟩
      refine RK (lD.held du _ _ kc) fun j u hj=>⟨?_,fun h=>?_⟩
      ·rw [yK,cell_of_row _ ow.g j new e (0,0) ut];exact hxs' j u hj
      ·rw [yK] at h;have bi:=(y9.1 hj).1;rw [yz,ze,jd,<- Nat.add_mul] at bi;rcases h with h | (⟨t',n',h⟩ | ⟨t',n',H,h,wa⟩) | ⟨k',ow',h1,h2,h3⟩
       ·have:=R.out _ _ h; omega
       ·exact R.apart k ow t' n' hk h
       ·exact R.apob hk h wa
       ·by_cases ek:k'=d
        ·simp only [if_pos ek] at h1; injection h1 with h1; subst h1; simp only at h3; omega
        ·simp only [if_neg ek] at h1;exact absurd (R.tinj _ _ _ _ (OC h1).1 hk h2) ((OC h1).2.2 k e rfl)
  ·cases hr
 ·cases hr
def Ix.del (ι:Ix) (t n:Nat):Ix:=⟨fun t' n'=>if t'=t/\n'=n then .none else ι t' n',ι.ob,ι.z⟩
theorem Ix.del_some {ι:Ix} {t n t' n' b:Nat} (h:(ι.del t n) t' n'=some b):ι t' n'=some b/\¬ (t'=t/\n'=n):=by
 have h':(if t'=t/\n'=n then Option.none else ι t' n')=Option.some b:=h;split at h'
 ·cases h'
 ·rename_i hn; exact ⟨h',hn⟩
theorem Ix.del_lk (ι:Ix) (t n:Nat):Ix.Lk t n ι (ι.del t n):=⟨fun t' n' b hn h=>by
 show (if t'=t/\n'=n then Option.none else ι t' n')=Option.some b;rw [if_neg hn]; exact h,fun _ _ _ _=>rfl⟩
theorem rE.kill {t n:Nat} {ι':Ix} {av db:Av} {r:List wA} {cur:Array Value} (h:rE ι Θ av w r cur) (hι:Ix.Lk t n ι ι') (hh:qB av db w w):rE ι' Θ db w (r.map (wA.kill t n)) cur:=by
 refine ⟨by simpa using h.1,fun j x hx=>?_⟩;rw [yc] at hx;cases hj:r[j]? with
 | none=>rw [hj] at hx; cases hx
 | some y =>
  rw [hj] at hx;injection hx with hx;subst hx;obtain ⟨u,hu,h1,hr,ha⟩:=h.2 j y hj;refine ⟨u,hu,h1,?_,ha⟩;have hk:=wB.kill hι hh y.v u hr;show wB ι' db w (y.v.kill t n) u;cases hy:y.v with
  | agg cs=>rw [hy] at hr; obtain ⟨us,rfl,_⟩:=hr; simp [Value.oneCell'] at h1
  | tup cs=>rw [hy] at hr; obtain ⟨us,rfl,_⟩:=hr; simp [Value.oneCell'] at h1
  | _=>rw [hy] at hk; exact hk
theorem mC.kill (R:mC P O nt B F0 da w0 D s a w ι Θ) {t n:Nat} (xr:t≠0) {r:List wA} (hm:s.mem t n=some r):mC P O nt B F0 da w0 D (s.kill t n) a w (ι.del t n) Θ:=by
 have nb:=(R.rows t n r hm).1;have il:=Ix.del_lk ι t n;have tl:∀ b o,DC (ι.del t n) Θ b o->DC ι Θ b o:=fun b o h=>h.imp (fun h=>h.imp (fun ⟨t',n',h⟩=>⟨t',n',(Ix.del_some h).1⟩) id) id
 have hB:qB (DC ι Θ) (DC (ι.del t n) Θ) w w:=qB.less tl;have hA:qB (KC da ι Θ) (KC da (ι.del t n) Θ) w w:=qB.less fun b o h=>h.imp id (tl b o)
 refine ⟨R.defers,R.size,fun j=>tB.kill il hA hB _ _ (R.env j),R.ann,fun t' n' r' hr=>?_,fun t' n' b h=>R.mine t' n' b (Ix.del_some h).1,fun t1 n1 t2 n2 b h h'=>R.inj t1 n1 t2 n2 b (Ix.del_some h).1 (Ix.del_some h').1,R.tok,R.tinj,fun k o t' n' h h'=>R.apart k o t' n' h (Ix.del_some h').1,R.out,fun p h=>?_,R.kept,R.base,fun t' n' S h=>?_,fun t' n' H h=>?_,fun j=>tB.kill il hA hB _ _ (R.gen j),R.gann⟩
 ·simp only [aA.kill] at hr;split at hr
  ·cases hr
  ·rename_i hn;cases tc:s.mem t' n' with
   | none=>rw [tc] at hr; cases hr
   | some r0 =>
    rw [tc] at hr;injection hr with hr;subst hr;obtain ⟨h0,b,cur,ty,h1,h2,h3,h4⟩:=R.rows t' n' r0 tc;exact ⟨h0,b,cur,ty,il.f _ _ _ hn h1,h2,h3.kill il hA,h4⟩
 ·obtain ⟨h1,h2⟩:=R.pin p h;exact ⟨il.f _ _ _ (fun e=>xr e.1.symm) h1,h2.imp (fun g=>⟨g.1,(il.z _ _ _ h1).trans g.2⟩) id⟩
 ·obtain ⟨p,H,h1,h2,h3,h4⟩:=R.objs t' n' S h;have dx:∀ t1 n1 b1 H1,ι t1 n1=some b1->ι.ob t1 n1=some H1->(ι.del t n) t1 n1=some b1:=fun t1 n1 b1 H1 g1 g2=>il.f _ _ _ (fun e=>by rw [<- e.1,<- e.2,g2] at nb; cases nb) g1
  exact ⟨p,H,dx _ _ _ _ h1 h2,h2,h3,h4.keep (fun t1 n1 b1 H1 g1 g2=>⟨dx _ _ _ _ g1 g2,H1,g2⟩) fun x hx=>hx⟩
 ·obtain ⟨h1,h2⟩:=R.obs t' n' H h;refine ⟨fun b hb=>?_,h2⟩;obtain ⟨g1,g2,g3,g4,g5⟩:=h1 b hb;exact ⟨g1,g2,fun t2 n2 h=>g3 t2 n2 (Ix.del_some h).1,g4,g5⟩
theorem mC.ren (R:mC P O nt B F0 da w0 D s a w ι Θ) {t n:Nat} (xr:t≠0) {r:List wA} (hm:s.mem t n=some r) (cf:r.map (wA.kill t n)=r) {d:Nat} (hd:d<nt) (hD:¬ D d) {x:AV} {v:Value}
  (hx:∀ ι':Ix,ι' d s.next=ι t n->(∀ b,ι'.z b=ι.z b)->tB ι' (KC da ι' Θ) (DC ι' Θ) w x v) :
  ∃ ι',mC P O nt B F0 da w0 (fun j=>D j\/j=d) (((s.kill t n).setRow d s.next r).put (some d) ⟨x,.no⟩) (a.put (some d) v) w ι' Θ:=by
 obtain ⟨nb,b0,cur0,ty0,ww,hheap0,zu,xv,ic⟩:=R.rows t n r hm;have mh:ι d s.next=none:=by
  cases h:ι d s.next with
  | none=>rfl
  | some b =>
   rcases (R.mine _ _ _ h).2.2 with h1 | h1
   ·omega
   ·exact absurd h1.2 hD
 have sg:ι.ob d s.next=none:=by
  cases h:ι.ob d s.next with
  | none=>rfl
  | some b =>
   rcases (R.obs _ _ _ h).2 with h1 | h1
   ·omega
   ·exact absurd h1.2 hD
 have ma:¬ (t=d/\n=s.next):=fun e=>by rw [e.1,e.2,mh] at ww; cases ww
 obtain ⟨ι',hι'⟩:∃ ι':Ix,ι'=⟨fun t' n'=>if t'=d/\n'=s.next then some b0 else (ι.del t n) t' n',ι.ob,ι.z⟩:=⟨_,rfl⟩;have oc:ι' d s.next=some b0:=by subst hι'; show (if d=d/\s.next=s.next then some b0 else _)=_; rw [if_pos ⟨rfl,rfl⟩]
 have fj:∀ t' n' b,ι' t' n'=some b->(t'=d/\n'=s.next/\b=b0)\/(ι t' n'=some b/\¬ (t'=t/\n'=n)/\¬ (t'=d/\n'=s.next)):=fun t' n' b h=>by
  subst hι';have h':(if t'=d/\n'=s.next then some b0 else (ι.del t n) t' n')=some b:=h;split at h'
  ·rename_i e; injection h' with h'; exact .inl ⟨e.1,e.2,h'.symm⟩
  ·rename_i e; exact .inr ⟨(Ix.del_some h').1,(Ix.del_some h').2,e⟩
 have uc:ι'.ob=ι.ob:=by subst hι'; rfl
 have il:Ix.Lk t n ι ι':=⟨fun t' n' b hn h=>by
  subst hι';show (if t'=d/\n'=s.next then some b0 else (ι.del t n) t' n')=some b;rw [if_neg (fun e=>by rw [e.1,e.2,mh] at h; cases h)];exact (Ix.del_lk ι t n).f _ _ _ hn h,fun _ _ _ _=>by subst hι'; rfl⟩
 have cz:∀ b,ι'.z b=ι.z b:=fun b=>by subst hι'; rfl
 clear hι';have tl:∀ b o,DC ι' Θ b o->DC ι Θ b o:=fun b o h=>h.imp (fun h=>h.imp (fun ⟨t',n',h⟩=>by
  rcases fj _ _ _ h with ⟨_,_,e⟩ | ⟨h,_⟩
  ·exact ⟨t,n,e ▸ ww⟩
  ·exact ⟨t',n',h⟩) (fun ⟨t',n',H,h,hb⟩=>⟨t',n',H,uc ▸ h,hb⟩)) id
 have hB:qB (DC ι Θ) (DC ι' Θ) w w:=qB.less tl;have hA:qB (KC da ι Θ) (KC da ι' Θ) w w:=qB.less fun b o h=>h.imp id (tl b o)
 refine ⟨ι',mC.put (s:=(s.kill t n).setRow d s.next r) ⟨R.defers,R.size,fun j=>tB.kill il hA hB _ _ (R.env j),R.ann,fun t' n' r' hr=>?_,fun t' n' b h=>?_,fun t1 n1 t2 n2 b h h'=>?_,R.tok,R.tinj,fun k o t' n' h h'=>?_,R.out,fun p h=>?_,R.kept,R.base,fun t' n' S h=>?_,fun t' n' H h=>?_,fun j=>tB.kill il hA hB _ _ (R.gen j),R.gann⟩ hd (hx _ (oc.trans ww.symm) cz) trivial⟩
 ·simp only [aA.setRow] at hr;split at hr
  ·rename_i e;injection hr with hr;subst hr;refine ⟨by rw [uc,e.1,e.2]; exact sg,b0,cur0,ty0,by rw [e.1,e.2]; exact oc,hheap0,?_,xv,ic.trans (cz _).symm⟩;have:=zu.kill il hA;rw [cf] at this;exact this
  ·simp only [aA.kill] at hr;split at hr
   ·cases hr
   ·rename_i hn;cases tc:s.mem t' n' with
    | none=>rw [tc] at hr; cases hr
    | some r0 =>
     rw [tc] at hr;injection hr with hr;subst hr;obtain ⟨h0,b,cur,ty,h1,h2,h3,h4,h5⟩:=R.rows t' n' r0 tc;exact ⟨uc ▸ h0,b,cur,ty,il.f _ _ _ hn h1,h2,h3.kill il hA,h4,h5.trans (cz _).symm⟩
 ·rcases fj _ _ _ h with ⟨e1,e2,e3⟩ | ⟨h,_⟩
  ·subst e1; subst e3;obtain ⟨h1,h2,_⟩:=R.mine t n b ww;exact ⟨h1,h2,.inr ⟨e2,.inr rfl⟩⟩
  ·obtain ⟨h1,h2,h3⟩:=R.mine t' n' b h;exact ⟨h1,h2,h3.imp id fun ⟨e,d⟩=>⟨e,.inl d⟩⟩
 ·rcases fj _ _ _ h with ⟨e1,e2,e3⟩ | ⟨h,hn,_⟩ <;> rcases fj _ _ _ h' with ⟨f1,f2,f3⟩ | ⟨h',zf,_⟩
  ·exact ⟨e1.trans f1.symm,e2.trans f2.symm⟩
  ·subst e3; exact absurd (R.inj _ _ _ _ _ h' ww) zf
  ·subst f3; exact absurd (R.inj _ _ _ _ _ h ww) hn
  ·exact R.inj _ _ _ _ _ h h'
 ·rcases fj _ _ _ h' with ⟨e1,e2,e3⟩ | ⟨h',_⟩
  ·exact R.apart k o t n h (e3 ▸ ww)
  ·exact R.apart k o t' n' h h'
 ·obtain ⟨h1,h2⟩:=R.pin p h;exact ⟨il.f _ _ _ (fun e=>xr e.1.symm) h1,h2.imp (fun g=>⟨g.1,(il.z _ _ _ h1).trans g.2⟩) fun g=>uc ▸ g⟩
 ·obtain ⟨p,H,h1,h2,h3,h4⟩:=R.objs t' n' S h;have dx:∀ t1 n1 b1 H1,ι t1 n1=some b1->ι.ob t1 n1=some H1->ι' t1 n1=some b1:=fun t1 n1 b1 H1 g1 g2=>il.f _ _ _ (fun e=>by rw [<- e.1,<- e.2,g2] at nb; cases nb) g1
  exact ⟨p,H,dx _ _ _ _ h1 h2,uc ▸ h2,h3,h4.keep (fun t1 n1 b1 H1 g1 g2=>⟨dx _ _ _ _ g1 g2,H1,uc ▸ g2⟩) fun x hx=>hx⟩
 ·rw [uc] at h;obtain ⟨h1,h2⟩:=R.obs t' n' H h;refine ⟨fun b hb=>?_,h2.imp id fun ⟨e,d⟩=>⟨e,.inl d⟩⟩;obtain ⟨g1,g2,g3,g4,g5⟩:=h1 b hb;refine ⟨g1,g2,fun t2 n2 h'=>?_,g4,uc ▸ g5⟩;rcases fj _ _ _ h' with ⟨e1,e2,e3⟩ | ⟨h',_⟩
  ·exfalso;have e:=g3 t n (e3 ▸ ww);rw [<- e.1,<- e.2] at h;rw [nb] at h;cases h
  ·exact g3 t2 n2 h'
theorem row_of {av:Av} {cs:List AV} {us:List Value} (h:lD av w cs us) {cur:Array Value} (hc:∀ (j:Nat) (u:Value),us[j]?=some u->cur[j]?=some u):rE ι Θ av w (cs.map (⟨·,.no⟩)) cur:=by
 have ia:=iD (GD (ι:=ι) h);constructor
 ·rw [yu];rcases yN cs.length with h0 | h0
  ·omega
  ·have:=hc (cs.length - 1) us[cs.length - 1] (y5 (by omega));have:=(Array.getElem?_eq_some_iff.1 this).1;omega
 ·intro j x hx;rw [yc] at hx;cases hj:cs[j]? with
  | none=>rw [hj] at hx; cases hx
  | some y =>
   rw [hj] at hx;injection hx with hx;subst hx;obtain ⟨u,hu,h1,hr⟩:=JJ (GD (ι:=ι) h) hj;exact ⟨u,hc j u hu,h1,hr,trivial⟩
theorem mC.drew (R:mC P O nt B F0 da w0 D s a w ι Θ):mC P O nt B F0 da w0 D s a w.drew ι Θ:=R.grow (w':=w.drew) (fun _ _=>rfl) (yj _) R.kept.drew
theorem A8 (s:aA) (t n:Nat) (r:List wA):(s.setRow t n r).kill t n=s.kill t n:=by
 simp only [aA.setRow,aA.kill];congr 1;funext t' n';by_cases h:t'=t/\n'=n <;> simp [h]
theorem u5 {av:Av} {cs:List AV} {us:List Value} (h:FA ι av w cs us) {cur:Array Value} (hc:∀ (j:Nat) (u:Value),us[j]?=some u->cur[j]?=some u):rE ι Θ av w (cs.map (⟨·,.no⟩)) cur:=by
 have ia:=iD h;constructor
 ·rw [yu];rcases yN cs.length with h0 | h0
  ·omega
  ·have:=hc (cs.length - 1) us[cs.length - 1] (y5 (by omega));have:=(Array.getElem?_eq_some_iff.1 this).1;omega
 ·intro j x hx;rw [yc] at hx;cases hj:cs[j]? with
  | none=>rw [hj] at hx; cases hx
  | some y =>
   rw [hj] at hx;injection hx with hx;subst hx;obtain ⟨u,hu,h1,hr⟩:=JJ h hj;exact ⟨u,hc j u hu,h1,hr,trivial⟩
theorem FS {t n:Nat} {v:AV} (h:v.noName t n=true):v.kill0 t n=v/\v.kill t n=v:=by
  cases v <;> first
    | exact ⟨rfl,rfl⟩
    | (simp only [AV.noName,Bool.not_eq_true',Bool.and_eq_false_imp,decide_eq_true_eq,decide_eq_false_iff_not] at h
       have h':¬ (_=t/\_=n):=fun e=>h e.1 e.2
       exact ⟨by simp only [AV.kill0,if_neg h'],by simp only [AV.kill,AV.kill0,if_neg h']⟩)
    | cases h
theorem A7 {t n:Nat} {l:List AV} (h:l.all (AV.noName t n)=true):l.map (AV.kill0 t n)=l:=by
 have:l.map (AV.kill0 t n)=l.map id:=yw fun x hx=>(FS (y6.1 h x hx)).1
 rwa [List.map_id] at this
theorem P7 {t n:Nat} {l:List AV} (h:l.all (AV.noName t n)=true):(l.map (⟨·,.no⟩)).map (wA.kill t n)=l.map (⟨·,.no⟩):=by
 rw [y3];apply yw;intro x hx;show (⟨x.kill t n,.no⟩:wA)=⟨x,.no⟩;rw [(FS (y6.1 h x hx)).2]
theorem L4 (R:mC P O nt B F0 da w0 D s a w ι Θ) {t e:TypeId} {i:TypeInfo} {z:List AV} (ht:P.underlying t=some (.slice e)) (hi:P.info? e=some i) (hz:HJ P e=some z) (tb:z.length=i.size) (lb:0<i.size) {X Y:Operand} {x y:aC} (hx:opd X=some x) (hy:opd Y=some y)
  (ho:o.op=.call { callee:=.builtin .append,args:=#[X,Y],argTypes:=#[t,t] }) {d:Nat} (ca:o.dst=some d) (hd:d<nt) (hD:¬ D d) {cl:Cl} {call} {xe:wA × TD} (hr:(K.appn cl e i.size i.bytes x y).run call s=some xe) {g} {s':aA} (he:TA.eff ⟨o.dst,.appn cl e i.size i.bytes x y,g⟩ s xe=some s') :
  ∃ v w',(execOp a.eval o).run P w=.ok (.value v) w'/\eE P O nt B F0 da w0 (fun t=>D t\/t=d) s' (a.put o.dst v) w':=by
 obtain ⟨zv,i',nd,xp,bk,hl⟩:=WH hz w;rw [hi] at nd;injection nd with nd;subst nd;have oo:zv.cells.size=i.size:=by
  have:=aH hl;simp only [yW] at this;omega
 have hX:=R.opd hx;have hY:=(R.opd hy).1;have zj:∀ v w',(Builtin.append_ #[t,t] o.type #[a.eval X,a.eval Y]).run P w=.ok v w'->(execOp a.eval o).run P w=.ok (.value v) w':=fun v w' h=>by
  simp only [execOp,ho,resolve,invoke,builtin,Sem.run_bind,Sem.run_pure,Result.andThen_ok,List.map_toArray,yf,ym,h]
 -- a new block for l++m
 have grow:∀ {s1:aA} {ι1:Ix} {l m:List (List AV)} {xs news:List Value} {A:Option Addr} {ln c:Nat},mC P O nt B F0 da w0 D s1 a w.drew ι1 Θ->a.eval X=.slice A ln c->xs.length=ln * i.size->(A=none->ln=0/\c=0)->(∀ a',A=some a'->∀ j u,xs[j]?=some u->w.cell? (a'.add j)=some u) →
   l.length=ln->Sl (fun _=>False) w i.size (a.eval Y) m.length news->c<ln + m.length->ln<=c->FA ι1 (KC da ι1 Θ) w.drew (l++m).flatten (xs++news)->ZA i.bytes (ln + m.length)=true →
   ∃ v w',(execOp a.eval o).run P w=.ok (.value v) w'/\eE P O nt B F0 da w0 (fun t=>D t\/t=d) ((s1.setRow d s1.next ((l++m).flatten.map (⟨·,.no⟩))).put (some d) ⟨.ref d s1.next i.size 0 (ln + m.length) (ln + m.length),.no⟩) (a.put (some d) v) w':=by
  intro s1 ι1 l m xs news A ln c R1 hv ed hA hxc ti mf fa ur kc oa;obtain ⟨fg,jh⟩:=xA.1 oa;have ja:=jV (P:=P) (w:=w) ht hi xp o.type ed hA hxc mf fa ur jh fg;rw [<- hv] at ja;have uf:=grownCap_ge w (ln + m.length) c e;have hnl:news.length=m.length * i.size:=mf.1;have na:rE ι1 Θ (KC da ι1 Θ) w.drew ((l++m).flatten.map (⟨·,.no⟩)) (xs.toArray++news.toArray++Builtin.zeroCells zv.cells (grownCap w (ln + m.length) c e - (ln + m.length))):=u5 kc fun j u hj=>by
   have bi:=(y9.1 hj).1;rw [Array.getElem?_append_left (by simp only [Array.size_append,List.size_toArray]; simpa using bi)];simpa using hj
  obtain ⟨ι',h⟩:=R1.new hd hD e na (x:=.ref d s1.next i.size 0 (ln + m.length) (ln + m.length)) (v:=.slice (some ⟨w.heap.size,0,none⟩) (ln + m.length) (grownCap w (ln + m.length) c e)) (fun ι' h hz=>⟨_,h,yj _,_,uf,by
   rw [show ι'.z w.drew.heap.size=_ from hz,yK];simp only [Array.size_append,List.size_toArray,size_zeroCells,oo,ed,hnl,<- Nat.add_mul];exact yZ _ (by omega),rfl⟩)
  exact ⟨_,_,zj _ _ ja,ι',Θ,h⟩
 have drewHeld:qB (KC da ι Θ) (KC da ι Θ) w w.drew:=qB.grown (fun _ _=>rfl) fun _ _ _ h=>h
 simp only [K.run] at hr;split at hr
 ·rename_i b l m ee ac;split at hr
  ·rename_i aa;obtain ⟨oa,za,oj⟩:=aa;have nc:∀ c∈l++m,c.length=i.size:=fun c hc=>by simpa using y6.1 za c hc
   have tc:∀ c∈m,c.length=i.size:=fun c hc=>nc c (List.mem_append_right _ hc)
   have um:∀ c∈l,c.length=i.size:=fun c hc=>nc c (yS _ hc)
   obtain ⟨news,be,mf⟩:=raws_sl R hY ac lb tc;rw [ee] at hX;have uz:=hX.1;rw [UF] at uz;obtain ⟨xs,ed,sv⟩:=wM (cl:=cl) R hX.1 (m:=l) rfl lb um;simp only [UE] at uz;obtain ⟨A,c,hv,ur,hu,hn,hs⟩:=uz;have ze:xs.length=l.length * i.size:=sv.1;have lf:∀ a',A=some a'->∀ j u,xs[j]?=some u->w.cell? (a'.add j)=some u:=fun a' ha j u hj=>by
    obtain ⟨_,A2,c2,hv2,_,h2⟩:=sv;rw [hv] at hv2;injection hv2 with e1 e2 e3;subst e1;have hp:0<l.length:=by
     rcases yN l.length with h | h
     ·rw [h] at ze; have:=(y9.1 hj).1; omega
     ·exact h
    obtain ⟨b',off,hA,_,_,fc⟩:=h2 hp;rw [ha] at hA;injection hA with hA;subst hA;rw [Addr.add_lit];exact fc j u hj
   split at hr
   ·rename_i uo;have hXe:exV (a.eval X):=by
     cases b with
     | false=>have h2:=hX.2; rw [show x.an s=.ex from uo] at h2; exact h2
     | true =>
      obtain ⟨h1,h2,h3⟩:=hn rfl;exact ⟨none,0,by rw [hv,h1,h2,h3]⟩
    obtain ⟨A',n',sq⟩:=hXe;rw [hv] at sq;injection sq with e1 e2 e3;injection hr with hr;subst hr;simp only [TA.eff,ca] at he;injection he with he;subst he;rw [ca];exact grow R.drew hv ze (fun hA=>by
     cases b with
     | true=>have:=hn rfl; exact ⟨this.2.1,this.2.2⟩
     | false =>
      obtain ⟨h1,h2⟩:=hs rfl;refine ⟨?_,h1 hA⟩;rcases yN l.length with h0 | h0
      ·exact h0
      ·obtain ⟨_,_,ha,_⟩:=h2 h0; rw [hA] at ha; cases ha) lf rfl mf (by omega) ur (by rw [List.flatten_append]; exact iH (GD (lD.held drewHeld _ _ ed)) (FA.held (Ix.Le.refl _) drewHeld _ _ be)) oa
   ·cases hr
  ·cases hr
 ·rename_i t' n sz off ln cp m ee ac;split at hr
  ·rename_i l ti;split at hr
   ·rename_i aa;obtain ⟨rfl,rfl,oa,za,xr,sy⟩:=aa;injection hr with hr;subst hr;have tc:∀ c∈m,c.length=i.size:=fun c hc=>by simpa using y6.1 za c hc
    obtain ⟨news,be,mf⟩:=raws_sl R hY ac lb tc;rw [ee] at hX;obtain ⟨b,hb,bc,cc,oi,hzb,hv⟩:=XH.1 hX.1;simp only [AV.raws] at ti;split at ti
    ·cases hm:s.mem t' n with
     | none=>rw [hm] at ti; cases ti
     | some r =>
      rw [hm,J] at ti;obtain ⟨nb,b',cur,ty,wa,ua,na,pk,dw⟩:=R.rows t' n r hm;rw [hb] at wa;injection wa with wa;subst wa;obtain ⟨hln,um,xs,ed,lf⟩:=BP na ua ti;simp only [yK] at lf hzb;have gu:∀ {q:List (List AV)},(∀ c∈q,c.length=i.size)->q.flatten.length=q.length * i.size:=fun {q} hq=>by
       induction q with
       | nil=>simp
       | cons c r ih=>rw [yI,yz,hq c (by simp),ih (fun c hc=>hq c (by simp [hc])),yF,yy]; omega
      have ze:xs.length=ln * i.size:=by
       have:=iD ed;rw [this,gu um,hln]
      have jd:news.length=m.length * i.size:=mf.1;have kc:FA ι (KC da ι Θ) w (l++m).flatten (xs++news):=by rw [List.flatten_append]; exact iH ed be
      have iu:(l++m).flatten.map (AV.kill0 t' n)=(l++m).flatten:=A7 sy;simp only [TA.eff,ca,aA.killO] at he;injection he with he;subst he;rw [ca];rcases Nat.lt_or_ge cc (ln + m.length) with fa | uf
      ·have il:qB (KC da ι Θ) (KC da (ι.del t' n) Θ) w w.drew:=qB.grown (fun _ _=>rfl) fun b o _ h=>h.imp id fun h=>h.imp (fun h=>h.imp (fun ⟨t',n',h⟩=>⟨t',n',(Ix.del_some h).1⟩) id) id
       exact grow (R.drew.kill xr hm) hv ze (fun h=>by cases h) (fun a' ha j u hj=>by
        injection ha with ha;subst ha;rw [Addr.add_lit,yK];exact lf j u hj) hln mf fa (Nat.le_trans bc oi) (by have:=FA.kill (Ix.del_lk ι t' n) il _ _ kc; rwa [iu] at this) oa
      ·obtain ⟨new,oc⟩:∃ new,new=(cur.toList.take (ln * i.size)++news++cur.toList.drop (ln * i.size + news.length)).toArray:=⟨_,rfl⟩;have ge:ln * i.size + news.length<=cur.size:=by
        rw [jd,<- Nat.add_mul,dw];exact Nat.le_trans (yZ _ uf) hzb
       have ja:(Builtin.append_ #[t,t] o.type #[a.eval X,a.eval Y]).run P w=.ok (.slice (some ⟨b,0,none⟩) (ln + m.length) cc) (w.setRow b new):=by
        rw [hv,oc];obtain ⟨fh,A,c',hsv,hc,ec⟩:=mf;rw [hsv];cases A with
        | none =>
         have oj:m.length=0:=by
          rcases yN m.length with h | h
          ·exact h
          ·obtain ⟨b,off,hA,_⟩:=ec h; cases hA
         have sy:news=[]:=yM (by rw [jd,oj,Nat.zero_mul]);subst sy;rw [oj] at uf ⊢;have ev:w.setRow b (cur.toList.take (ln * i.size)++[]++cur.toList.drop (ln * i.size + ([]:List Value).length)).toArray=w:=by
          simp only [List.append_nil,List.length_nil,Nat.add_zero,List.take_append_drop,yX];exact setRow_self w b cur ty (0,0) ua
         rw [ev];simp only [Nat.add_zero] at uf;simp [Builtin.append_,run_underlying ht,sizeOf,typeInfo,hi,Builtin.lenOf,Builtin.firstCells,uf,storeCells]
        | some a' =>
         have hnews':∀ (j:Nat) (u:Value),news[j]?=some u->w.cell? (a'.add j)=some u:=fun j u hu=>by
          have oj:0<m.length:=by
           rcases yN m.length with h | h
           ·rw [h] at jd; have:=(y9.1 hu).1; omega
           ·exact h
          obtain ⟨b,off,hA,_,_,fc⟩:=ec oj;injection hA with hA;subst hA;rw [Addr.add_lit];exact fc j u hu
         have ku:=run_loadCells_list (P:=P) w a' news hnews';rw [jd] at ku;have lc:=run_storeCells_at P b (ln * i.size) ty news 0 cur w ua (by simpa using ge) (E0 be);simp only [Nat.add_zero] at lc;simp [Builtin.append_,run_underlying ht,sizeOf,typeInfo,hi,Builtin.lenOf,Builtin.firstCells,uf,ku,Addr.add_lit,lc]
       have hns:new.size=cur.size:=by
        rw [oc];simp only [List.size_toArray,yz,yL,List.length_drop,yW];omega
       have bn:rE ι Θ (KC da ι Θ) w ((l++m).flatten.map (⟨·,.no⟩)) new:=u5 kc fun j u hj=>by
        have nv:(cur.toList.take (ln * i.size)).length=ln * i.size:=by rw [yL,yW]; omega
        rw [oc,List.getElem?_toArray,List.append_assoc];rcases Nat.lt_or_ge j (ln * i.size) with h | h
        ·rw [yG (by omega)] at hj;have:=lf j u hj;rw [cell_of_row w b j cur ty (0,0) ua] at this;rw [yG (by omega),yV,if_pos h];simpa using this
        ·rw [yQ (by omega),ze] at hj;have hjn:=(y9.1 hj).1;rw [yQ (by omega),nv,yG hjn];exact hj
       have R1:=R.set hb nb ua bn pk (hns.trans dw);have R2:=R1.ren (t:=t') (n:=n) xr (d:=d) (r:=(l++m).flatten.map (⟨·,.no⟩)) (by simp [aA.setRow]) (P7 sy) hd hD (x:=.ref d s.next i.size 0 (ln + m.length) (ln + m.length)) (v:=.slice (some ⟨b,0,none⟩) (ln + m.length) cc) (fun ι' h1 h2=>⟨b,h1.trans hb,yj _,cc,uf,by rw [h2,yK]; exact hzb,rfl⟩);rw [A8] at R2;obtain ⟨ι',R2⟩:=R2;exact ⟨_,_,zj _ _ ja,ι',Θ,R2⟩
    ·cases ti
   ·cases hr
  ·cases hr
 ·cases hr
theorem Z4 {v:AV} {cl:Cl} {l:List (List AV)} (h:v.elems s cl=some l):v.raws s cl=some l:=by
 cases v with
 | ref t n sz off len cap =>
  simp only [AV.elems,AV.raws] at h ⊢;split at h
  ·rename_i hc;rw [if_pos hc];cases hm:s.mem t n with
   | none=>rw [hm] at h; cases h
   | some r =>
    rw [hm,J,zE] at h;split at h
    ·rename_i hr;rw [J,uH,if_pos hr.1];exact h
    ·cases h
  ·cases h
 | _=>exact h
theorem J3 {av:Av} (t n:Nat):∀ {xs:List AV} {us:List Value},lD av w xs us->xs.all (AV.noName t n)=true
 | [],_,_=>rfl
 | x :: r,_,h=>by
  simp only [lD] at h;obtain ⟨u,ta,rfl,h0,h1,h⟩:=h;rw [List.all_cons,J3 t n h,Bool.and_true];cases x <;> first | rfl | (simp [UE] at h0; done) | (simp only [UE] at h0; obtain ⟨us,rfl,_⟩:=h0; simp [Value.oneCell'] at h1; done)
theorem op_appf (R:mC P O nt B F0 da w0 D s a w ι Θ) {t e:TypeId} {i:TypeInfo} {z:List AV} (ht:P.underlying t=some (.slice e)) (hi:P.info? e=some i) (hz:HJ P e=some z) (tb:z.length=i.size) (lb:0<i.size) {X Y:Operand} {x y:aC} (hx:opd X=some x) (hy:opd Y=some y)
  (ho:o.op=.call { callee:=.builtin .append,args:=#[X,Y],argTypes:=#[t,t] }) {d:Nat} (ca:o.dst=some d) (hd:d<nt) (hD:¬ D d) {cl:Cl} {call} {xe:wA × TD} (hr:(K.appf cl e i.size i.bytes x y).run call s=some xe) {g} {s':aA} (he:TA.eff ⟨o.dst,.appf cl e i.size i.bytes x y,g⟩ s xe=some s') :
  ∃ v w',(execOp a.eval o).run P w=.ok (.value v) w'/\eE P O nt B F0 da w0 (fun t=>D t\/t=d) s' (a.put o.dst v) w':=by
 have hX:=R.opd hx;have hY:=(R.opd hy).1;simp only [K.run] at hr;split at hr
 ·rename_i b l m ee ac;split at hr
  ·rename_i aa;split at hr
   ·rename_i uo;split at hr
    ·rename_i wk;cases hr;have oj:m=[]:=by simpa using wk
     subst oj;have nc:∀ c∈l,c.length=i.size:=fun c hc=>by simpa using y6.1 aa.2 c (yS _ hc)
     obtain ⟨news,be,mf⟩:=wM R hY ac lb (fun _ h=>by cases h);rw [ee] at hX;obtain ⟨hX,ew⟩:=hX;obtain ⟨A,c,hv,ur,_,hn,_⟩:=UF.1 hX;cases he;have ja:=kV (P:=P) (w:=w) ht hi o.type (A:=A) ur mf;rw [<- hv] at ja;refine ⟨_,_,by simp only [execOp,ho,resolve,invoke,builtin,Sem.run_bind,Sem.run_pure,Result.andThen_ok,List.map_toArray,yf,ym,ja],ι,Θ,(R.putN (d:=o.dst) (x:=⟨.sl b l,.ex⟩) (fun t h=>by rw [ca] at h; cases h; exact hd) hX ?_).more fun _ h=>.inl h⟩;cases b with
     | false=>rw [show x.an s=.ex from uo] at ew; exact ew
     | true=>obtain ⟨h1,h2,h3⟩:=hn rfl; exact ⟨none,0,by rw [hv,h1,h2,h3]⟩
    ·rename_i wk;exact L4 R ht hi hz tb lb hx hy ho ca hd hD (cl:=cl) (call:=call) (xe:=xe) (by simp only [K.run,ee,Z4 ac]; rw [if_pos ⟨aa.1,aa.2,by cases m <;> simp at wk ⊢⟩,uo]; exact hr) (g:=g) he
   ·cases hr
  ·cases hr
 ·cases hr
theorem op_appm (R:mC P O nt B F0 da w0 D s a w ι Θ) {t e:TypeId} {i:TypeInfo} {z:List AV} (ht:P.underlying t=some (.slice e)) (hi:P.info? e=some i) (hz:HJ P e=some z) (tb:z.length=i.size) (lb:0<i.size) {X Y:Operand} {x y:aC} (hx:opd X=some x) (hy:opd Y=some y)
  (ho:o.op=.call { callee:=.builtin .append,args:=#[X,Y],argTypes:=#[t,t] }) {d:Nat} (ca:o.dst=some d) (hd:d<nt) (hD:¬ D d) {cl:Cl} {call} {xe:wA × TD} (hr:(K.appm cl e i.size i.bytes x y).run call s=some xe) {g} {s':aA} (he:TA.eff ⟨o.dst,.appm cl e i.size i.bytes x y,g⟩ s xe=some s') :
  ∃ v w',(execOp a.eval o).run P w=.ok (.value v) w'/\eE P O nt B F0 da w0 (fun t=>D t\/t=d) s' (a.put o.dst v) w':=by
 have hX:=R.opd hx;have hY:=(R.opd hy).1;simp only [K.run] at hr;split at hr
 ·rename_i b l m ee ac;exact op_appf R ht hi hz tb lb hx hy ho ca hd hD (cl:=cl) (call:=call) (xe:=xe) (by simp only [K.run,ee,ac]; exact hr) (g:=g) he
 ·rename_i t' n sz off ln cp m ee ac;split at hr
  ·rename_i l ti;split at hr
   ·rename_i aa;obtain ⟨h1,h2,oa,za,xr⟩:=aa;obtain ⟨news,be,mf⟩:=wM R hY ac lb fun c hc=>by simpa using y6.1 za c hc
    rw [ee] at hX;have nb:(l++m).flatten.all (AV.noName t' n)=true:=by
     rw [List.flatten_append,List.all_append,J3 t' n be,Bool.and_true];simp only [AV.elems] at ti;split at ti
     ·cases hm:s.mem t' n with
      | none=>rw [hm] at ti; cases ti
      | some r =>
       rw [hm,J] at ti;obtain ⟨_,b',cur,ty,_,ua,na,_⟩:=R.rows t' n r hm;obtain ⟨_,_,xs,ed,_⟩:=ZK na ua ti;exact J3 t' n ed
     ·cases ti
    exact L4 R ht hi hz tb lb hx hy ho ca hd hD (cl:=cl) (call:=call) (xe:=xe) (by simp only [K.run,ee,Z4 ac,Z4 ti]; rw [if_pos ⟨h1,h2,oa,za,xr,nb⟩]; exact hr) (g:=g) he
   ·cases hr
  ·cases hr
 ·cases hr
theorem op_bslr (R:mC P O nt B F0 da w0 D s a w ι Θ) {t e:TypeId} {n z:Nat} {zero:List AV} (ht:P.underlying t=some (.slice e)) (hz:HJ P e=some zero) (hs:lC P e=some z) (tb:zero.length=z) (lb:0<z) (nh:n * z<=16777216) {ps:Array (Nat × Operand)} {ys:List (Nat × aC)} (hy:opds ps.toList=some ys) (ho:o.op=.buildSlice t n ps)
  {d:Nat} (ca:o.dst=some d) (hd:d<nt) (hD:¬ D d) {call} {xe:wA × TD} (hr:(K.bslr z zero n ys).run call s=some xe) {g} {s':aA} (he:TA.eff ⟨o.dst,.bslr z zero n ys,g⟩ s xe=some s') :
  ∃ v w',(execOp a.eval o).run P w=.ok (.value v) w'/\eE P O nt B F0 da w0 (fun t=>D t\/t=d) s' (a.put o.dst v) w':=by
 obtain ⟨zv,i',nd,xp,bk,hl⟩:=WH hz w;have hisz:i'.size=z:=by simp [lC,nd] at hs; exact hs
 have oo:zv.cells.size=z:=by
  have:=aH hl;simp only [yW] at this;omega
 simp only [K.run] at hr;split at hr
 ·rename_i aa;obtain ⟨oh,za,_,_⟩:=aa;injection hr with hr; subst hr;simp only [TA.eff,ca] at he;injection he with he;subst he;have nc:∀ p∈ys,(p.2.get s).whole=true/\(p.2.get s).cells.length=zero.length:=fun p hp=>by
   have:=y6.1 za p hp;simpa using this
  have hn:ys.length=n:=by
   have:=congrArg List.length oh;simpa using this
  have gk:=LT (s:=s) z ys 0 [] (yE n zero).flatten (by rw [oh,List.range_eq_range',hn]) (by simp) (by simp [hn,tb]) (fun p hp=>by rw [(nc p hp).2,tb]);rw [List.nil_append,List.nil_append] at gk;have hp:=DR z ys;have dk:((Array.range (n * z)).map (((if n * z=0 then (#[]:Array Value) else zv.cells)[· % (if n * z=0 then (#[]:Array Value) else zv.cells).size]!))).toList=(yE n zv.cells.toList).flatten:=by
   rcases yN n with h0 | h0
   ·subst h0; simp
   ·have:¬ n * z=0:=by have:=Nat.mul_pos h0 lb; omega
    simp only [if_neg this];rw [<- oo];exact XU zv.cells n
  obtain ⟨ta,h1,h2⟩:=bS (pl:=fun i=>some (i * z,z)) (ι:=ι) (av:=KC da ι Θ) (avb:=DC ι Θ) (w:=w) (s:=s) (a:=a) rfl (fun X y h=>(R.opd h).1) hy hp (fun p hp=>by
   obtain ⟨q,hq,rfl⟩:=yp.1 hp;exact (nc q hq).1) (by rw [y3]; exact gk) (us:=(Array.range (n * z)).map (((if n * z=0 then (#[]:Array Value) else zv.cells)[· % (if n * z=0 then (#[]:Array Value) else zv.cells).size]!))) (by
    rw [dk];exact CU _ _ (ZJ hl _ _) n)
  have ja:(execOp a.eval o).run P w=.ok (.value (.slice (some ⟨w.heap.size,0,none⟩) n n)) (w.alloc (.cells ta e)):=by
   have h3:Instr.fill (fun i=>some (i * z,z)) ((Array.range (n * z)).map (((if n * z=0 then (#[]:Array Value) else zv.cells)[· % (if n * z=0 then (#[]:Array Value) else zv.cells).size]!))) (ps.map fun (i,x)=>(i,a.eval x)).toList=some ta:=by
    rw [Array.toList_map];exact h1
   have bc:¬ (n * z > 2 ^ 24):=by omega
   by_cases h0:n * z=0
   ·simp only [if_pos h0] at h3;simp only [execOp,ho,Instr.buildSlice,Sem.run_bind,run_underlying ht,Result.andThen_ok,SC hs,if_neg bc,if_pos h0,Sem.run_pure,h3,newRow,run_newObj_alloc]
   ·simp only [if_neg h0] at h3;simp only [execOp,ho,Instr.buildSlice,Sem.run_bind,run_underlying ht,Result.andThen_ok,SC hs,if_neg bc,if_neg h0,Sem.run_pure,bk,h3,newRow,run_newObj_alloc]
  refine ⟨_,_,ja,?_⟩;rw [ca];have ia:=iD h2;have nr:(ys.map fun p=>(p.2.get s).cells).flatten.length=n * z:=by
   rw [<- hn];clear gk h2 ia h1 oh za hp hy nh dk hn
   induction ys with
   | nil=>simp
   | cons p r ih=>rw [yf,yI,yz,(nc p (by simp)).2,ih (fun q hq=>nc q (by simp [hq])),tb,yF,yy]; omega
  have zd:ta.size=n * z:=by
   rw [nr,yW] at ia;exact ia
  have na:rE ι Θ (KC da ι Θ) w (kA (ys.map fun p=>(p.2.get s).cells)) ta:=u5 h2 fun j u hj=>by simpa using hj
  obtain ⟨ι',h⟩:=R.new hd hD e na (x:=.ref d s.next z 0 n n) (v:=.slice (some ⟨w.heap.size,0,none⟩) n n) (fun ι' h hz=>⟨_,h,yj _,_,yj _,by
   rw [show ι'.z w.heap.size=_ from hz,yK,zd];exact yj _,rfl⟩)
  exact ⟨ι',Θ,h⟩
 ·cases hr
end
end
end Go.Proofs.YtbhbeakhognieaaGreat
