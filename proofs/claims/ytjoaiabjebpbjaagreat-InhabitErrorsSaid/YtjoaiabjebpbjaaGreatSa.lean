/- A part of the proof. -/
import Derived.Calls
import Derived.Orders
import Derived.Below
import Derived.Scope
import Derived.Test.YtjoaiabjebpbjaaGreatRows
import Derived.WalkKit
import Derived.WalkSpells
import Derived.WalkLawsBesides
import Derived.Handy
import Derived.Maps.AppendAt
import Derived.Lib.FrozenHead
import Derived.Laws.Cells
import Derived.ChangeKeysEq
import Derived.Laws.Tables
set_option linter.all false
set_option maxRecDepth 100000
set_option maxHeartbeats 8000000
open Option renaming bind_some → V, bind_eq_some_iff → yb, map_eq_some_iff → yg, map_some → yq
open List renaming range_succ → J, map_map → y0, getElem?_eq_getElem → y4, all_eq_true → y6, getElem?_map → y8, drop_eq_getElem_cons → y9, mem_cons → yc, drop_eq_nil_of_le → ye, mem_cons_of_mem → yh, replicate → yj, mem_cons_self → yk, map_cons → yl, getElem?_eq_some_iff → ym, length_map → yn, map_nil → yo, take_of_length_le → yv, cons_append → yx, getElem_of_mem → yy, map_congr_left → yz, length_append → yA, mem_map → yB, flatten_cons → yC, mem_append → yE, eq_nil_of_length_eq_zero → yF, length_cons → yI, nil_append → yK, length_take → yN, getElem?_append_right → yP, mem_of_getElem? → yQ, take_append_drop → yR, getElem?_drop → yT, getElem?_take → yU, getElem?_append_left → yV, getElem?_eq_none → yZ
open Nat renaming le_refl → yf, succ_mul → yt, le_trans → yw, zero_add → yD, eq_zero_or_pos → yG, lt_of_lt_of_le → yW, mul_le_mul_right → yX
open Bool renaming false_eq_true → yp
open Array renaming length_toList → yO, toArray_toList → yS, getD_eq_getD_getElem? → yY
namespace Go.Proofs.YtjoaiabjebpbjaaGreat
open Go
inductive AV where
 | int (k:IntKind) (n:Int)
 | bool (b:Bool)
 | str (s:ByteArray)
 | nilP
 | ptr (t n off:Nat)
 | ip (cs:List AV)
 | bp (cs:List AV)
 | sl (nil:Bool) (l:List (List AV))
 | bl (l:List (List AV))
 | ref (t n sz off len cap:Nat)
 | mp (t n:Nat)
 | fn (f:Nat) (caps:List AV)
 | agg (cs:List AV)
 | tup (vs:List AV)
 | undef
 deriving Inhabited
inductive An where
 | no
 | ex
 | own (k:Nat) (e:TypeId)
structure rA where
 v:AV
 a:An
inductive CB where
 | t (n:Nat)
 | c (v:AV)
 deriving Inhabited
inductive Cl where
 | any
 | imm
 | root (t:Nat)
 /-- in no box of these slots -/
 | out (L:List Nat)
inductive KTy where
 | none
 | some (k:IntKind)
 | agg (l:List (Option IntKind))
instance:Inhabited KTy:=⟨.none⟩
inductive K where
 | mv (x:CB)
 | pick (c a b:CB)
 | alloc (zero:List AV)
 | box (size:Nat) (x:CB)
 | build (zero:List AV) (parts:List (Nat × Nat × CB))
 | bsl (zero:List AV) (n:Nat) (parts:List (Nat × CB))
 | load (cl:Cl) (agg:Bool) (size:Nat) (x:CB)
 | store (cl:Cl) (agg:Bool) (size:Nat) (x y:CB)
 | clr (cl:Cl) (zero:List AV) (x:CB)
 | bin (op:BinOp) (bl:Bool) (x y:CB)
 | mm (mx:Bool) (x y:CB)
 | eqa (neg:Bool) (ks:List Nat) (x y:CB)
 | eqn (neg ptr:Bool) (x y:CB)
 | un (op:UnOp) (x:CB)
 | conv (k:Option IntKind) (x:CB)
 | rstr (x:CB)
 | bstr (cl:Cl) (x:CB)
 | mks (size bytes:Nat) (zero:List AV) (len cap:CB)
 | slc (str:Bool) (size:Nat) (x:CB) (lo hi mx:Option CB)
 | aslc (cl:Cl) (len size:Nat) (x:CB) (lo hi:Option CB)
 | faddr (off:Nat) (x:CB)
 | field (agg:Bool) (off size:Nat) (x:CB)
 | iaddr (size:Nat) (x i:CB)
 | aaddr (len size:Nat) (x i:CB)
 | index (x i:CB)
 | ext (x:CB) (i:Nat)
 | call (cl:Cl) (f:Nat) (xs:List CB)
 | callf (cl:Cl) (f:Nat) (sz:Nat) (xs:List CB)
 | mkf (f:Nat) (xs:List CB)
 | callv (cl:Cl) (x:CB) (xs:List CB)
 | callr (cl:Cl) (f:Nat) (xs:List CB)
 | callh (nt:Nat) (x:CB) (xs:List CB)
 | len (str:Bool) (x:CB)
 | app (cl:Cl) (e:TypeId) (size bytes:Nat) (x y:CB)
 | appf (cl:Cl) (e:TypeId) (size bytes:Nat) (x y:CB)
 | appm (cl:Cl) (e:TypeId) (size bytes:Nat) (x y:CB)
 | appn (cl:Cl) (e:TypeId) (size bytes:Nat) (x y:CB)
 | bslr (size:Nat) (zero:List AV) (n:Nat) (parts:List (Nat × CB))
 | mkm
 | mkb (T e:TypeId)
 | mget (ok:Bool) (ty:KTy) (zero:AV) (x k:CB)
 | mset (ty:KTy) (x k v:CB)
 | mlen (x:CB)
 | rng (x:CB)
 | slz (x:CB)
 | ent (x:CB)
 | nxt (x:CB)
 | nilchk (x:CB)
 | bad
 deriving Inhabited
instance:Inhabited Cl:=⟨.any⟩
structure PA where
 dst:Option Nat
 op:K
 guard:Option (Nat × Bool)
inductive C where
 | skip
 | seq (a b:C)
 | reg (ops:List PA)
 | cond (c:CB) (t e:C)
 | block (id:Nat) (b:C)
 | loop (b:C)
 | exit (id:Nat)
 | ret
inductive Ex where
 | nrm
 | exit (id:Nat)
 | ret
structure aA where
 env:Nat->rA
 mem:Nat->Nat->Option (List rA)
 next:Nat
 obj:Nat->Nat->Option AV
 /-- the slots of the calls that wait -/
 gh:Nat->rA
def An.strip (k:Nat):An->An
 | .own j e=>if j=k then .no else .own j e
 | a=>a
def rA.strip (k:Nat) (x:rA):rA:=⟨x.v,x.a.strip k⟩
def aA.strip (s:aA) (k:Nat):aA:=⟨fun t=>(s.env t).strip k,fun t n=>(s.mem t n).map (·.map (rA.strip k)),s.next,s.obj,fun t=>(s.gh t).strip k⟩
def aA.stripA (s:aA):An->aA
 | .own k _=>s.strip k
 | _=>s
def aA.put (s:aA) (d:Option Nat) (x:rA):aA:=match d with
 | some d=>{ s with env:=fun t=>if t=d then x else s.env t }
 | none=>s
def aA.setRow (s:aA) (t n:Nat) (r:List rA):aA:={ s with mem:=fun t' n'=>if t'=t/\n'=n then some r else s.mem t' n' }
def aA.setObj (s:aA) (t n:Nat) (S:AV):aA:={ s with obj:=fun t' n'=>if t'=t/\n'=n then some S else s.obj t' n' }
def jA (l:List (List AV)):List rA:=l.flatten.map (⟨·,.no⟩)
def AV.kill0 (t n:Nat):AV->AV
 | .ptr t' n' o=>if t'=t/\n'=n then .undef else .ptr t' n' o
 | .ref t' n' z o l c=>if t'=t/\n'=n then .undef else .ref t' n' z o l c
 | .mp t' n'=>if t'=t/\n'=n then .undef else .mp t' n'
 | v=>v
def AV.kill1 (t n:Nat):AV->AV
 | .agg cs=>.agg (cs.map (AV.kill0 t n))
 | v=>v.kill0 t n
def AV.kill (t n:Nat):AV->AV
 | .agg cs=>.agg (cs.map (AV.kill0 t n))
 | .tup vs=>.tup (vs.map (AV.kill1 t n))
 | .fn f vs=>.fn f (vs.map (AV.kill0 t n))
 | v=>v.kill0 t n
def rA.kill (t n:Nat) (x:rA):rA:=⟨x.v.kill t n,x.a⟩
def aA.kill (s:aA) (t n:Nat):aA:=⟨fun j=>(s.env j).kill t n,fun t' n'=>if t'=t/\n'=n then none else (s.mem t' n').map (·.map (rA.kill t n)),s.next,s.obj,fun j=>(s.gh j).kill t n⟩
def aA.killO (s:aA):Option (Nat × Nat)->aA
 | none=>s
 | some p=>s.kill p.1 p.2
def CB.get (s:aA):CB->AV
 | .t n=>(s.env n).v
 | .c v=>v
def CB.an (s:aA):CB->An
 | .t n=>(s.env n).a
 | .c (.sl true _)=>.ex
 | .c _=>.no
def AV.cells:AV->List AV
 | .agg cs=>cs
 | v=>[v]
def AV.leaf:AV->Bool
 | .agg _ | .tup _ | .bp _ | .bl _ | .fn .. | .undef=>false
 | _=>true
def AV.whole:AV->Bool
 | .agg _=>true
 | v=>v.leaf
def AV.free0:AV->Bool
 | .ptr .. | .bp _ | .bl _ | .ref .. | .mp .. | .fn .. | .undef | .agg _ | .tup _=>false
 | _=>true
def AV.free:AV->Bool
 | .agg cs=>cs.all AV.free0
 | v=>v.free0
def iF (row:List rA) (sz off len:Nat):Option (List (List AV)) :=
 if off + len * sz<=row.length/\row.all (fun x=>x.v.free0) then some ((List.range len).map fun i=>((row.drop (off + i * sz)).take sz).map (·.v)) else none
def Cl.okMem:Cl->Bool
 | .any=>true
 | _=>false
def AV.elems (s:aA) (cl:Cl):AV->Option (List (List AV))
 | .sl _ l=>some l
 | .bl l=>some l
 | .ref t n sz off len _=>if cl.okMem then (s.mem t n).bind fun r=>iF r sz off len else none
 | _=>none
def GK (row:List rA) (sz off len:Nat):Option (List (List AV)) :=
 if off + len * sz<=row.length then some ((List.range len).map fun i=>((row.drop (off + i * sz)).take sz).map (·.v)) else none
def AV.raws (s:aA) (cl:Cl):AV->Option (List (List AV))
 | .sl _ l=>some l
 | .bl l=>some l
 | .ref t n sz off len _=>if cl.okMem then (s.mem t n).bind fun r=>GK r sz off len else none
 | _=>none
def AV.noName (t n:Nat):AV->Bool
 | .ptr t' n' _ | .ref t' n' _ _ _ _ | .mp t' n'=>!(decide (t'=t)&&decide (n'=n))
 | .agg _ | .tup _ | .fn ..=>false
 | _=>true
def pT:AV->Option Nat
 | .int _ n=>if 0<=n then some n.toNat else none
 | _=>none
def EK (s:aA) (d:Nat):Option CB->Option Nat
 | none=>some d
 | some o=>pT (o.get s)
def GS (cells:List AV):List (Nat × Nat × List AV)->Option (List AV)
 | []=>some cells
 | (off,size,v) :: r=>if v.length=size/\off + size<=cells.length then GS (cells.take off++v++cells.drop (off + size)) r else none
def xS (k:IntKind) (r:BitVec k.bits):AV:=.int k (k.wrap r.toNat)
def shN (k:IntKind) (b:Int):Nat:=min b.toNat k.bits
def WJ (op:BinOp) (bl:Bool):AV->AV->Option AV
 | .int k a,.int k' b=>match op with
  | .shl=>if 0<=b then some (.int k (k.wrap (a * 2 ^ shN k b))) else none
  | .shr=>if 0<=b then some (.int k (a.fdiv (2 ^ shN k b))) else none
  | _=>if k=k' then (match op with
  | .and=>some (xS k (BitVec.ofInt k.bits a &&& BitVec.ofInt k.bits b))
  | .or=>some (xS k (BitVec.ofInt k.bits a ||| BitVec.ofInt k.bits b))
  | .xor=>some (xS k (BitVec.ofInt k.bits a ^^^ BitVec.ofInt k.bits b))
  | .andNot=>some (xS k (BitVec.ofInt k.bits a &&& ~~~ BitVec.ofInt k.bits b))
  | .add=>some (.int k (k.wrap (a + b)))
  | .sub=>some (.int k (k.wrap (a - b)))
  | .mul=>some (.int k (k.wrap (a * b)))
  | .quo=>if b=0 then none else some (.int k (k.wrap (a.tdiv b)))
  | .rem=>if b=0 then none else some (.int k (a.tmod b))
  | .eql=>some (.bool (decide (a=b)))
  | .neq=>some (.bool (!decide (a=b)))
  | .lss=>some (.bool (decide (a<b)))
  | .leq=>some (.bool (decide (a<=b)))
  | .gtr=>some (.bool (decide (b<a)))
  | .geq=>some (.bool (decide (b<=a)))
  | _=>none) else none
 | .str a,.str b=>match op with
  | .add=>if a.size + b.size<=9223372036854775807 then some (.str (a++b)) else none
  | .eql=>some (.bool (decide (a=b)))
  | .neq=>some (.bool (!decide (a=b)))
  | .lss=>some (.bool (Op.bytesLess a.toList b.toList))
  | .gtr=>some (.bool (!(Op.bytesLess a.toList b.toList||decide (a=b))))
  | .leq=>some (.bool (Op.bytesLess a.toList b.toList||decide (a=b)))
  | .geq=>some (.bool (!Op.bytesLess a.toList b.toList))
  | _=>none
 | .bool a,.bool b=>if bl then (match op with
  | .eql=>some (.bool (a == b))
  | .neq=>some (.bool (!(a == b)))
  | _=>none) else none
 | _,_=>none
def Z9 (mx:Bool):AV->AV->Option AV
 | .int k a,.int k' b=>if k=k' then some (.int k (if mx then max a b else min a b)) else none
 | _,_=>none
def GL:List Nat->List AV->List AV->Option Bool
 | [],[],[]=>some true
 | 0 :: ks,.int k a :: r,.int k' b :: r'=>if k=k' then (if a=b then GL ks r r' else some false) else none
 | 1 :: ks,.str a :: r,.str b :: r'=>if a=b then GL ks r r' else some false
 | 2 :: ks,.bool a :: r,.bool b :: r'=>if a=b then GL ks r r' else some false
 | _,_,_=>none
def iW:Bool->AV->Option Bool
 | false,.sl true _=>some true
 | false,.sl false l=>if l.isEmpty then none else some false
 | false,.bl _=>some false
 | false,.ref ..=>some false
 | true,.nilP=>some true
 | true,.ptr ..=>some false
 | true,.ip _=>some false
 | true,.bp _=>some false
 | _,_=>none
inductive nD where
 | none
 | new (r:List rA)
 | set (t n:Nat) (r:List rA)
 | app (a:An) (k:Nat)
 | obj (t n:Nat) (S:AV)
 | mk (S:AV)
 | rn (k:Option (Nat × Nat)) (r:List rA)
 | ob2 (t n:Nat) (S:AV) (r:List rA)
def Cl.okPtr:Cl->Nat->Bool
 | .any,_=>true
 | .imm,_=>false
 | .root r,t=>r == t
 | .out L,t=>!L.contains t
def SA (agg:Bool) (size off:Nat) (row:List rA):Option rA :=
 if agg then (if off + size<=row.length then some ⟨.agg (((row.drop off).take size).map (·.v)),.no⟩ else none)
 else row[off]?
def DG (agg:Bool) (size:Nat) (cs:List AV):Option AV :=
 if agg then (if size<=cs.length then some (.agg (cs.take size)) else none) else cs[0]?
def qT (s:aA) (cl:Cl):AV->Option AV
 | .ref t n sz off len _=>if cl.okMem then ((s.mem t n).bind fun r=>iF r sz off len).map .bl else none
 | .bl l=>some (.bl l)
 | .bp l=>some (.bp l)
 | .ptr t n off=>if off=0/\cl.okMem/\(s.obj t n).isSome then some (.ptr 0 0 0) else none
 | v=>if v.free then some v else none
def wQ (s:aA) (cl:Cl):AV->Option AV
 | .ptr t n off=>if cl.okMem then match s.mem t n with
  | some r=>if (r.drop off).all (fun x=>x.v.free0) then some (.bp ((r.drop off).map (·.v))) else none
  | none=>none else none
 | .bp l=>some (.bp l)
 | .nilP=>some .nilP
 | _=>none
def JD (s:aA) (cl:Cl):List AV->Option (List AV)
 | []=>some []
 | x :: r=>match wQ s cl x,JD s cl r with
  | some v,some vs=>some (v :: vs)
  | _,_=>none
def gG (s:aA) (cl:Cl):AV->Option AV
 | .fn f cs=>(JD s cl cs).map (.fn f)
 | v=>qT s cl v
def cE:AV->Option (Nat × Nat)
 | .ptr t n _=>some (t,n)
 | .ref t n _ _ _ _=>some (t,n)
 | _=>none
def pG (s:aA) (cl:Cl) (t n:Nat):AV->Option AV
 | .ptr t' n' off=>if t'=t/\n'=n then some (.ptr 0 0 off) else none
 | .ref t' n' sz off len cap=>if t'=t/\n'=n then some (.ref 0 0 sz off len cap) else qT s cl (.ref t' n' sz off len cap)
 | .fn f cs=>if cs.isEmpty then some (.fn f []) else none
 | v=>qT s cl v
def pD (s:aA) (cl:Cl) (t n:Nat):List CB->Option (List AV)
 | []=>some []
 | x :: r=>match pG s cl t n (x.get s),pD s cl t n r with
  | some v,some vs=>some (v :: vs)
  | _,_=>none
def eC (s:aA):List CB->Option (Nat × Nat)
 | []=>none
 | x :: _=>cE (x.get s)
def AV.capOk:AV->Bool
 | .ptr .. | .bp _ | .nilP=>true
 | _=>false
def bytesOf:List (List AV)->Option (List UInt8)
 | []=>some []
 | c :: r=>match c,bytesOf r with
  | [.int .u8 n],some l=>some (UInt8.ofNat n.toNat :: l)
  | _,_=>none
def NJ (s:aA) (xs:List CB):List (Nat × Nat):=xs.filterMap fun x=>match x.get s with
 | .ptr t n _=>some (t,n)
 | _=>none
def IE (s:aA) (cl:Cl):List CB->Option (List AV)
 | []=>some []
 | x :: r=>match gG s cl (x.get s),IE s cl r with
  | some v,some vs=>some (v :: vs)
  | _,_=>none
def AV.isUn:AV->Bool
 | .undef=>true
 | _=>false
def AV.back:AV->Bool
 | .tup vs=>vs.all fun v=>v.free||v.isUn
 | v=>v.free
def AV.isObj:AV->Bool
 | .ptr 0 0 0=>true
 | _=>false
def AV.backN:AV->Bool
 | .tup vs=>vs.all fun v=>v.free||v.isObj
 | v=>v.isObj
def AV.named (d n:Nat):AV->AV
 | .tup vs=>.tup (vs.map fun v=>if v.isObj then .ptr d n 0 else v)
 | .mp _ _=>.mp d n
 | v=>if v.isObj then .ptr d n 0 else v
def kB (size:Nat) (l:List (List AV)):Bool:=l.all (·.length == size)
def PB (bytes n:Nat):Bool:=decide (n * bytes<=140737488355328)&&decide (n<=140737488355328)
theorem CA {b n:Nat}:PB b n=true ↔ n * b<=140737488355328/\n<=140737488355328:=by simp [PB]
theorem elsOk_nil (z:Nat):kB z []=true:=rfl
theorem PR (z:Nat) (c:List AV) (l:List (List AV)):kB z (c :: l)=(decide (c.length=z)&&kB z l):=rfl
theorem X4 (z:Nat) (l m:List (List AV)):kB z (l++m)=(kB z l&&kB z m):=by simp [kB]
theorem rD {α:Type} (z:Nat) (f:α->List AV) (l:List α) (h:∀ x,(f x).length=z):kB z (l.map f)=true:=by simp [kB,h]
theorem PX {z:Nat} {l:List (List AV)} (h:kB z l=true) (n:Nat):kB z (l.take n)=true:=by
 simp only [kB,y6] at h ⊢;exact fun x hx=>h x (List.mem_of_mem_take hx)
theorem elsOk_drop {z:Nat} {l:List (List AV)} (h:kB z l=true) (n:Nat):kB z (l.drop n)=true:=by
 simp only [kB,y6] at h ⊢;exact fun x hx=>h x (List.mem_of_mem_drop hx)
def AV.scal:AV->Bool
 | .int .. | .bool _ | .str _=>true
 | _=>false
def AV.flat:AV->Bool
 | .agg cs=>cs.all AV.scal
 | v=>v.scal
def zH (L:List (List AV)):AV:=.tup [.undef,.sl false L]
def aJ:AV->Option (List (List AV))
 | .tup [.undef,.sl false L]=>some L
 | _=>none
theorem BJ (L:List (List AV)):aJ (zH L)=some L:=rfl
def iH (T e:TypeId) (s:ByteArray):AV:=.tup [.undef,.undef,.int .i64 (T:Nat),.int .i64 (e:Nat),.str s]
def bldOf:AV->Option (TypeId × TypeId × ByteArray)
 | .tup [.undef,.undef,.int _ T,.int _ e,.str s]=>some (T.toNat,e.toNat,s)
 | _=>none
def t5 (tm nm N:Nat) (seen:List Nat):AV:=.tup [.undef,.undef,.undef,.mp tm nm,.int .i64 N,.sl false (seen.map fun i:Nat=>[.int .i64 i])]
def i5:List (List AV)->List Nat
 | [.int _ i] :: r=>i.toNat :: i5 r
 | _=>[]
def uY:AV->Option (Nat × Nat × Nat × List Nat)
 | .tup [.undef,.undef,.undef,.mp tm nm,.int _ N,.sl false l]=>some (tm,nm,N.toNat,i5 l)
 | _=>none
theorem iY:∀ l:List Nat,i5 (l.map fun i:Nat=>[AV.int .i64 i])=l
 | []=>rfl
 | i :: r=>by simp [i5,iY r]
theorem wX (tm nm N:Nat) (seen:List Nat):uY (t5 tm nm N seen)=some (tm,nm,N,seen):=by simp [uY,t5,iY]
def Q5 (S:AV):Bool:=(uY S).isNone
def noItO:Option AV->Bool
 | none=>true
 | some S=>Q5 S
noncomputable def G5 (f:Nat->Option (AV × Option AV)) (z:Option (AV × Option AV)):List Nat->Option (AV × Option AV)
 | []=>z
 | [i]=>f i
 | i :: j :: r=>open Classical in if ∀ x∈j :: r,f x=f i then f i else none
def MP:List (Option IntKind)->List AV->Bool
 | [],[]=>true
 | .some k :: r,.int k' _ :: cs=>decide (k=k')&&MP r cs
 | .none :: r,.str _ :: cs=>MP r cs
 | _,_=>false
def uJ:KTy->AV->Bool
 | .some k,.int k' _=>decide (k=k')
 | .none,.str _=>true
 | .agg l,.agg cs=>MP l cs
 | _,_=>false
def GN (ty:KTy) (L:List (List AV)):Bool:=L.all fun e=>match e with
 | [k,v]=>uJ ty k&&v.flat
 | _=>false
def aY:List AV->List AV->Bool
 | [],[]=>true
 | .int k a :: r,.int k' b :: r'=>(decide (k=k')&&decide (a=b))&&aY r r'
 | .str a :: r,.str b :: r'=>decide (a=b)&&aY r r'
 | _,_=>false
def xR:AV->AV->Bool
 | .int k a,.int k' b=>decide (k=k')&&decide (a=b)
 | .str a,.str b=>decide (a=b)
 | .agg a,.agg b=>aY a b
 | _,_=>false
def UK:List (List AV)->AV->Option AV
 | [],_=>none
 | e :: r,k=>match e with
  | [k',v]=>if xR k' k then some v else UK r k
  | _=>UK r k
def NI:List (List AV)->AV->AV->List (List AV)
 | [],k,v=>[[k,v]]
 | e :: r,k,v=>match e with
  | [k',_]=>if xR k' k then [k,v] :: r else e :: NI r k v
  | _=>e :: NI r k v
abbrev RV:=AV × Option AV
abbrev DB:=Nat->List AV->Option AV->Option RV
abbrev LpT:=C->aA->(Ex->aA->Option RV)->Option RV
abbrev HpT:=Nat->List rA->aA->(rA->aA->Option RV)->Option RV
structure LH where
 l:LpT
 h:HpT
instance:CoeFun LH (fun _=>LpT):=⟨LH.l⟩
def xA (agg:Bool) (size off:Nat) (row:List rA) (x:AV) (a:An):Option (List rA) :=
 if agg then match x with
  | .agg cs=>if cs.length=size/\off + size<=row.length then some (row.take off++cs.map (⟨·,.no⟩)++row.drop (off + size)) else none
  | _=>none
 else if x.leaf/\off<row.length then some (row.set off ⟨x,a⟩) else none
def clrC (zero:List AV) (off ln:Nat) (r:List rA):Option (List rA) :=
 if off + ln * zero.length<=r.length then some (r.take off++jA (List.replicate ln zero)++r.drop (off + ln * zero.length)) else none
def GC:Bool->An->An
 | true,_=>.ex
 | false,a=>a
def rB:AV->An
 | .sl true _=>.ex
 | _=>.no
def K.run (call:DB) (s:aA):K->Option (rA × nD)
 | .mv x=>some (⟨x.get s,x.an s⟩,.none)
 | .pick c a b=>match c.get s with
  | .bool t=>some (if t then ⟨a.get s,a.an s⟩ else ⟨b.get s,b.an s⟩,.none)
  | _=>none
 | .alloc zero=>some (⟨.ptr 0 0 0,.no⟩,.new (zero.map fun v=>⟨v,rB v⟩))
 | .box size x=>match x.get s with
  | .agg cs=>if cs.length=size then some (⟨.ptr 0 0 0,.no⟩,.new (cs.map (⟨·,.no⟩))) else none
  | v=>if v.leaf then some (⟨.ptr 0 0 0,.no⟩,.new [⟨v,x.an s⟩]) else none
 | .build zero parts=>if parts.all (fun p=>(p.2.2.get s).whole) then
   (GS zero (parts.map fun p=>(p.1,p.2.1,(p.2.2.get s).cells))).map fun cs=>(⟨.agg cs,.no⟩,.none) else none
 | .bsl zero n parts=>if parts.map (·.1)=List.range n/\parts.all (fun p=>(p.2.get s).free&&decide ((p.2.get s).cells.length=zero.length)) then
   some (⟨.sl false (parts.map fun p=>(p.2.get s).cells),.ex⟩,.none) else none
 | .load cl agg size x=>match x.get s with
  | .ptr t n off=>if cl.okPtr t then ((s.mem t n).bind (SA agg size off)).map fun x=>(x,.none) else none
  | .ip cs=>match cl with
   | .root _=>none
   | _=>(DG agg size cs).map fun v=>(⟨v,.no⟩,.none)
  | .bp cs=>match cl with
   | .root _=>none
   | _=>(DG agg size cs).map fun v=>(⟨v,.no⟩,.none)
  | _=>none
 | .store cl agg size x y=>match x.get s with
  | .ptr t n off=>if cl.okPtr t then ((s.mem t n).bind fun r=>xA agg size off r (y.get s) (y.an s)).map fun r=>(⟨.undef,.no⟩,.set t n r) else none
  | _=>none
 | .clr cl zero x=>match x.get s with
  | .sl _ []=>some (⟨.undef,.no⟩,.none)
  | .ref t n sz off ln _=>if cl.okPtr t=true/\zero.length=sz/\0<ln then ((s.mem t n).bind fun r=>clrC zero off ln r).map fun r=>(⟨.undef,.no⟩,.set t n r) else none
  | _=>none
 | .bin op t x y=>(WJ op t (x.get s) (y.get s)).map fun v=>(⟨v,.no⟩,.none)
 | .mm mx x y=>(Z9 mx (x.get s) (y.get s)).map fun v=>(⟨v,.no⟩,.none)
 | .eqa neg ks x y=>match x.get s,y.get s with
  | .agg a,.agg b=>(GL ks a b).map fun t=>(⟨.bool (t != neg),.no⟩,.none)
  | _,_=>none
 | .eqn neg ptr x y=>match ptr,y.get s with
  | false,.sl true _=>(iW false (x.get s)).map fun t=>(⟨.bool (t != neg),.no⟩,.none)
  | true,.nilP=>(iW true (x.get s)).map fun t=>(⟨.bool (t != neg),.no⟩,.none)
  | _,_=>none
 | .un op x=>match op,x.get s with
  | .not,.bool b=>some (⟨.bool (!b),.no⟩,.none)
  | .neg,.int k n=>some (⟨.int k (k.wrap (0 - n)),.no⟩,.none)
  | _,_=>none
 | .conv k x=>match k,x.get s with
  | some k,.int _ n=>some (⟨.int k (k.wrap n),.no⟩,.none)
  | none,.str b=>some (⟨.str b,.no⟩,.none)
  | _,_=>none
 | .rstr x=>match x.get s with
  | .int _ n=>some (⟨.str (Utf8.encode n),.no⟩,.none)
  | _=>none
 | .bstr cl x=>match (x.get s).elems s cl with
  | some l=>(bytesOf l).map fun bs=>(⟨.str ⟨bs.toArray⟩,.no⟩,.none)
  | none=>none
 | .aslc cl ln size x lo hi=>match x.get s with
  | .ptr t n o=>match EK s 0 lo,EK s ln hi,s.mem t n with
   | some l,some h,some r=>if l<=h/\h<=ln/\0<size/\o + ln * size<=r.length/\cl.okMem=true then
     (if h=l then some (⟨.sl false [],.no⟩,.none) else some (⟨.ref t n size (o + l * size) (h - l) (ln - l),.no⟩,.none)) else none
   | _,_,_=>none
  | _=>none
 | .mkf f xs=>if xs.all (fun x=>(x.get s).capOk) then some (⟨.fn f (xs.map (·.get s)),.no⟩,.none) else none
 | .callv cl x xs=>match x.get s with
  | .fn f cs=>match IE s cl xs,JD s cl cs,NJ s xs with
   | some vs,some ws,[]=>(call f (vs++ws) none).bind fun r=>match r.2 with
    | none=>if r.1.back then some (⟨r.1,.no⟩,.none) else none
    | some _=>none
   | _,_,_=>none
  | _=>none
 | .callr cl f xs=>match eC s xs with
  | some (t,n)=>if cl.okPtr t then (match s.mem t n,pD s cl t n xs with
   | some r,some vs=>if r.all (fun x=>x.v.free0) then (call f (.undef :: .undef :: vs) (some (.agg (r.map (·.v))))).bind fun q=>match q.2 with
     | some (.agg cs)=>if q.1.back/\cs.length=r.length/\cs.all AV.free0=true then some (⟨q.1,.no⟩,.set t n (cs.map fun v=>⟨v,rB v⟩)) else none
     | _=>none else none
   | _,_=>none) else none
  | none=>none
 | .callh ..=>none
 | .bad=>none
 | .mks size bytes zero ln cap=>match pT (ln.get s),pT (cap.get s) with
  | some l,some c=>if l<=c/\c * bytes<=140737488355328/\c<=140737488355328/\zero.length=size then some (⟨.ref 0 0 size 0 l c,.no⟩,.new ((List.replicate c zero).flatten.map (⟨·,.no⟩))) else none
  | _,_=>none
 | .slc str size x lo hi mx=>match mx with
  | some _=>none
  | none =>
   match EK s 0 lo with
   | none=>none
   | some l=>match x.get s with
    | .sl b e=>match EK s e.length hi with
     | some h=>if l<=h/\h<=e.length/\kB size e=true/\str=false then some (⟨.sl b ((e.take h).drop l),.no⟩,.none) else none
     | _=>none
    | .bl e=>match EK s e.length hi with
     | some h=>if l<=h/\h<=e.length/\kB size e=true/\str=false then some (⟨.bl ((e.take h).drop l),.no⟩,.none) else none
     | _=>none
    | .ref t n sz off ln cap=>match EK s ln hi with
     | some h=>if l<=h/\h<=cap/\sz=size/\str=false then (if h=l/\¬ (l=0/\0<cap) then some (⟨.sl false [],.no⟩,.none) else some (⟨.ref t n sz (off + l * sz) (h - l) (cap - l),.no⟩,.none)) else none
     | _=>none
    | .str b=>match EK s b.size hi with
     | some h=>if l<=h/\h<=b.size/\str=true then some (⟨.str (b.extract l h),.no⟩,.none) else none
     | _=>none
    | _=>none
 | .faddr off x=>match x.get s with
  | .ptr t n o=>some (⟨.ptr t n (o + off),.no⟩,.none)
  | .ip cs=>some (⟨.ip (cs.drop off),.no⟩,.none)
  | .bp cs=>some (⟨.bp (cs.drop off),.no⟩,.none)
  | _=>none
 | .field agg off size x=>match x.get s with
  | .agg cs=>(DG agg size (cs.drop off)).map fun v=>(⟨v,.no⟩,.none)
  | _=>none
 | .aaddr ln size x i=>match pT (i.get s) with
  | some k=>if k<ln then (match x.get s with
   | .ptr t n o=>some (⟨.ptr t n (o + k * size),.no⟩,.none)
   | .ip cs=>some (⟨.ip (cs.drop (k * size)),.no⟩,.none)
   | .bp cs=>some (⟨.bp (cs.drop (k * size)),.no⟩,.none)
   | _=>none) else none
  | none=>none
 | .iaddr size x i=>match pT (i.get s) with
  | some k=>match x.get s with
   | .sl _ l=>l[k]?.bind fun cs=>if cs.length=size then some (⟨.ip cs,.no⟩,.none) else none
   | .bl l=>l[k]?.bind fun cs=>if cs.length=size then some (⟨.bp cs,.no⟩,.none) else none
   | .ref t n sz off ln _=>if k<ln/\sz=size then some (⟨.ptr t n (off + k * sz),.no⟩,.none) else none
   | _=>none
  | none=>none
 | .index x i=>match pT (i.get s),x.get s with
  | some k,.str b=>b[k]?.map fun u=>(⟨.int .u8 u.toNat,.no⟩,.none)
  | _,_=>none
 | .ext x i=>match x.get s with
  | .tup vs=>vs[i]?.map fun v=>(⟨v,.no⟩,.none)
  | _=>none
 | .call cl f xs=>(IE s cl xs).bind fun vs=>match NJ s xs with
  | []=>(call f vs none).bind fun r=>match r.2 with
   | none=>if r.1.back then some (⟨r.1,.no⟩,.none) else none
   | some S=>if r.1.backN/\cl.okMem/\Q5 S=true then some (⟨r.1,.no⟩,.mk S) else none
  | [(t,n)]=>(call f vs (s.obj t n)).bind fun r=>match r.2 with
   | none=>none
   | some S=>if r.1.back/\(s.obj t n).isSome/\Q5 S=true then some (⟨r.1,.no⟩,.obj t n S) else none
  | _=>none
 | .callf cl f sz xs=>(IE s cl xs).bind fun vs=>match NJ s xs with
  | [(t,n)]=>(call f (.undef :: vs) (s.obj t n)).bind fun r=>match r with
   | (.sl false l,some S)=>if (s.obj t n).isSome=true/\kB sz l=true/\l.all (fun c=>c.all AV.scal)=true/\Q5 S=true then
     (if l.isEmpty then some (⟨.sl false [],.no⟩,.obj t n S) else some (⟨.ref 0 0 sz 0 l.length l.length,.no⟩,.ob2 t n S (jA l))) else none
   | _=>none
  | _=>none
 | .len str x=>match x.get s with
  | .sl _ l=>if str then none else some (⟨.int .i64 l.length,.no⟩,.none)
  | .bl l=>if str then none else some (⟨.int .i64 l.length,.no⟩,.none)
  | .ref _ _ _ _ ln _=>if str then none else some (⟨.int .i64 ln,.no⟩,.none)
  | .str b=>if str then some (⟨.int .i64 b.size,.no⟩,.none) else none
  | _=>none
 | .app cl e size bytes x y=>match x.get s,(y.get s).elems s cl with
  | .sl b l,some m=>if PB bytes (l.length + m.length)=true/\kB size (l++m)=true then
    (match GC b (x.an s) with
    | .no=>none
    | .own k e'=>if e'=e then some (⟨.sl (b&&m.isEmpty) (l++m),.own 0 e⟩,.app (.own k e') 0) else none
    | .ex=>some (⟨.sl (b&&m.isEmpty) (l++m),.own 0 e⟩,.app .ex 0)) else none
  | _,_=>none
 | .appf cl e size bytes x y=>match x.get s,(y.get s).elems s cl with
  | .sl b l,some m=>if PB bytes (l.length + m.length)=true/\kB size (l++m)=true then
    (match GC b (x.an s) with
    | .ex=>if m.isEmpty then some (⟨.sl b l,.ex⟩,.none) else some (⟨.ref 0 0 size 0 (l.length + m.length) (l.length + m.length),.no⟩,.new (jA (l++m)))
    | _=>none) else none
  | _,_=>none
 | .appm cl e size bytes x y=>match x.get s,(y.get s).elems s cl with
  | .sl b l,some m=>if PB bytes (l.length + m.length)=true/\kB size (l++m)=true then
    (match GC b (x.an s) with
    | .ex=>if m.isEmpty then some (⟨.sl b l,.ex⟩,.none) else some (⟨.ref 0 0 size 0 (l.length + m.length) (l.length + m.length),.no⟩,.new (jA (l++m)))
    | _=>none) else none
  | .ref t n sz off ln _,some m=>match (AV.ref t n sz off ln 0).elems s cl with
   | some l=>if off=0/\sz=size/\PB bytes (ln + m.length)=true/\kB size m=true/\t≠0 then
     some (⟨.ref 0 0 size 0 (ln + m.length) (ln + m.length),.no⟩,.rn (some (t,n)) (jA (l++m))) else none
   | none=>none
  | _,_=>none
 | .appn cl e size bytes x y=>match x.get s,(y.get s).raws s cl with
  | .sl b l,some m=>if PB bytes (l.length + m.length)=true/\kB size (l++m)=true/\0<m.length then
    (match GC b (x.an s) with
    | .ex=>some (⟨.ref 0 0 size 0 (l.length + m.length) (l.length + m.length),.no⟩,.new (jA (l++m)))
    | _=>none) else none
  | .ref t n sz off ln _,some m=>match (AV.ref t n sz off ln 0).raws s cl with
   | some l=>if off=0/\sz=size/\PB bytes (ln + m.length)=true/\kB size m=true/\t≠0/\(l++m).flatten.all (AV.noName t n)=true then
     some (⟨.ref 0 0 size 0 (ln + m.length) (ln + m.length),.no⟩,.rn (some (t,n)) (jA (l++m))) else none
   | none=>none
  | _,_=>none
 | .bslr size zero n parts=>if parts.map (·.1)=List.range n/\parts.all (fun p=>(p.2.get s).whole&&decide ((p.2.get s).cells.length=zero.length))/\0<n/\zero.length=size then
   some (⟨.ref 0 0 size 0 n n,.no⟩,.new (jA (parts.map fun p=>(p.2.get s).cells))) else none
 | .mkm=>some (⟨.mp 0 0,.no⟩,.mk (zH []))
 | .mkb T e=>some (⟨.ptr 0 0 0,.no⟩,.mk (iH T e ⟨#[]⟩))
 | .mget ok ty zero x k=>match x.get s with
  | .mp t n=>match (s.obj t n).bind aJ with
   | some L=>if GN ty L=true/\uJ ty (k.get s)=true/\zero.flat=true then
     some (⟨if ok then .tup [(UK L (k.get s)).getD zero,.bool (UK L (k.get s)).isSome] else (UK L (k.get s)).getD zero,.no⟩,.none) else none
   | none=>none
  | _=>none
 | .mset ty x k v=>match x.get s with
  | .mp t n=>match (s.obj t n).bind aJ with
   | some L=>if GN ty L=true/\uJ ty (k.get s)=true/\(v.get s).flat=true then
     some (⟨.undef,.no⟩,.obj t n (zH (NI L (k.get s) (v.get s)))) else none
   | none=>none
  | _=>none
 | .mlen x=>match x.get s with
  | .mp t n=>match (s.obj t n).bind aJ with
   | some L=>some (⟨.int .i64 L.length,.no⟩,.none)
   | none=>none
  | _=>none
 | .rng x=>match x.get s with
  | .mp t n=>match (s.obj t n).bind aJ with
   | some L=>some (⟨.ptr 0 0 0,.no⟩,.mk (t5 t n L.length []))
   | none=>none
  | _=>none
 | .nxt _=>none
 | .ent x=>match x.get s with
  | .ptr t n 0=>match (s.obj t n).bind uY with
   | some (tm,nm,N,seen)=>match (s.obj tm nm).bind aJ,seen.getLast? with
    | some L,some i=>if L.length=N then (match L[i]? with
      | some [y,v]=>if y.flat&&v.flat then some (⟨.tup [y,v],.no⟩,.none) else none
      | _=>none) else none
    | _,_=>none
   | none=>none
  | _=>none
 | .slz x=>match x.get s with
  | .sl b _=>some (⟨.sl b [],.ex⟩,.none)
  | .bl _=>some (⟨.sl false [],.ex⟩,.none)
  | .ref ..=>some (⟨.sl false [],.ex⟩,.none)
  | _=>none
 | .nilchk x=>match x.get s with
  | .ptr t n o=>some (⟨.ptr t n o,.no⟩,.none)
  | .ip cs=>some (⟨.ip cs,.no⟩,.none)
  | .bp cs=>some (⟨.bp cs,.no⟩,.none)
  | _=>none
def PA.eff (o:PA) (s:aA):rA × nD->Option aA
 | (x,.none)=>some (s.put o.dst x)
 | (x,.new r)=>match o.dst with
  | none=>none
  | some d=>some ((s.setRow d s.next r).put (some d) ⟨match x.v with | .ref _ _ sz off l c=>.ref d s.next sz off l c | _=>.ptr d s.next 0,.no⟩)
 | (x,.set t n r)=>some ((s.setRow t n r).put o.dst x)
 | (x,.app a _)=>match o.dst with
  | none=>none
  | some d=>some (((s.stripA a).strip d).put (some d) ⟨x.v,match x.a with | .own _ e=>.own d e | a=>a⟩)
 | (x,.obj t n S)=>some ((s.setObj t n S).put o.dst x)
 | (x,.mk S)=>match o.dst with
  | none=>none
  | some d=>some ((s.setObj d s.next S).put (some d) ⟨x.v.named d s.next,.no⟩)
 | (x,.ob2 t n S r)=>match o.dst with
  | none=>none
  | some d=>some (((s.setObj t n S).setRow d s.next r).put (some d) ⟨match x.v with | .ref _ _ sz off l c=>.ref d s.next sz off l c | _=>.ptr d s.next 0,.no⟩)
 | (x,.rn k r)=>match o.dst with
  | none=>none
  | some d=>some (((s.killO k).setRow d s.next r).put (some d) ⟨match x.v with | .ref _ _ sz off l c=>.ref d s.next sz off l c | _=>.ptr d s.next 0,.no⟩)
def PA.step (call:DB) (o:PA) (s:aA):Option aA :=
 match o.guard with
 | none=>(o.op.run call s).bind (o.eff s)
 | some (t,want)=>match (s.env t).v with
  | .bool b=>if b=want then (o.op.run call s).bind (o.eff s) else some (s.put o.dst ⟨.tup [],.no⟩)
  | .tup []=>some (s.put o.dst ⟨.tup [],.no⟩)
  | _=>none
def aA.enter (s:aA) (nt:Nat):aA:={ s with next:=s.next + 1,gh:=fun t=>if t<nt then s.env t else s.gh (t - nt) }
def aA.leave (s:aA) (nt:Nat):aA:={ s with env:=fun t=>if t<nt then s.gh t else ⟨.undef,.no⟩,gh:=fun t=>s.gh (t + nt) }
def JP (s:aA) (xs:List CB):List rA:=xs.map fun x=>⟨x.get s,x.an s⟩
def xP (lh:LH) (d:Option Nat) (nt:Nat) (x:CB) (xs:List CB) (s:aA) (k:aA->Option RV):Option RV:=match x.get s with
 | .fn f cs=>lh.h f (JP s xs++cs.map (⟨·,.no⟩)) (s.enter nt) fun y s'=>k ((s'.leave nt).put d y)
 | _=>none
noncomputable def nY (d:Option Nat) (x:CB) (s:aA) (k:aA->Option RV):Option RV:=match x.get s with
 | .ptr t n 0=>match (s.obj t n).bind uY with
  | some (tm,nm,N,seen)=>match (s.obj tm nm).bind aJ with
   | some L=>if L.length=N then G5 (fun i=>match L[i]? with
     | some [y,v]=>if y.flat&&v.flat then k ((s.setObj t n (t5 tm nm N (seen++[i]))).put d ⟨.tup [.bool true,y,v],.no⟩) else none
     | _=>none) (k (s.put d ⟨.tup [.bool false],.no⟩)) ((List.range N).filter fun i=>!seen.contains i) else none
   | none=>none
  | none=>none
 | _=>none
def RK (s:aA) (d:Option Nat) (g:Option (Nat × Bool)) (a:Option RV) (k:aA->Option RV):Option RV:=match g with
 | none=>a
 | some (t,want)=>match (s.env t).v with
  | .bool b=>if b=want then a else k (s.put d ⟨.tup [],.no⟩)
  | .tup []=>k (s.put d ⟨.tup [],.no⟩)
  | _=>none
noncomputable def PA.stepK (call:DB) (lh:LH) (o:PA) (s:aA) (k:aA->Option RV):Option RV:=match o.op with
 | .callh nt x xs=>RK s o.dst o.guard (xP lh o.dst nt x xs s k) k
 | .nxt x=>RK s o.dst o.guard (nY o.dst x s k) k
 | _=>(o.step call s).bind k
noncomputable def XG (call:DB) (lh:LH):List PA->aA->(aA->Option RV)->Option RV
 | [],s,k=>k s
 | o :: r,s,k=>o.stepK call lh s fun s=>XG call lh r s k
noncomputable def C.run (call:DB) (lp:LH):C->aA->(Ex->aA->Option RV)->Option RV
 | .skip,s,k=>k .nrm s
 | .seq a b,s,k=>a.run call lp s fun e s=>match e with
  | .nrm=>b.run call lp s k
  | e=>k e s
 | .reg ops,s,k=>XG call lp ops s fun s=>k .nrm { s with next:=s.next + 1 }
 | .cond c t e,s,k=>match c.get s with
  | .bool b=>if b then t.run call lp s k else e.run call lp s k
  | _=>none
 | .block id b,s,k=>b.run call lp s fun e s=>match e with
  | .exit j=>if j=id then k .nrm s else k (.exit j) s
  | e=>k e s
 | .loop b,s,k=>lp b s k
 | .exit id,s,k=>k (.exit id) s
 | .ret,s,k=>k .ret s
inductive ResC where
 | tmp (t:Nat)
 | cell (t:Nat) (agg:Bool) (size:Nat)
structure qB where
 code:C
 res:List ResC
 np:Nat
 mu:List Nat:=[]
def ZW (s:aA):List ResC->Option (List AV)
 | []=>some []
 | .tmp t :: r=>(ZW s r).map ((s.env t).v :: ·)
 | .cell t agg size :: r=>match (s.env t).v with
  | .ptr t n off=>((s.mem t n).bind (SA agg size off)).bind fun x=>(ZW s r).map (x.v :: ·)
  | _=>none
def U1:List AV->AV
 | [v]=>v
 | vs=>.tup vs
def objAt:List AV->Option (Nat × Nat)
 | []=>none
 | .ptr t n 0 :: _=>some (t,n)
 | _ :: r=>objAt r
def uK (t n:Nat):AV->AV
 | .ptr t' n' o=>if t'=t/\n'=n/\o=0 then .ptr 0 0 0 else .undef
 | v=>v
def AV.frz1 (s:aA):AV->AV
 | .ref t n sz off len c=>match (s.mem t n).bind fun r=>iF r sz off len with
  | some l=>.sl false l
  | none=>.ref t n sz off len c
 | v=>v
def rowDeep (s:aA) (row:List rA) (sz off len:Nat):Option (List (List AV)):=(GK row sz off len).bind fun l =>
 if (l.map fun c=>c.map (AV.frz1 s)).flatten.all AV.free0=true then some (l.map fun c=>c.map (AV.frz1 s)) else none
def AV.frz0 (s:aA):AV->AV
 | .ref t n sz off len c=>match (s.mem t n).bind fun r=>iF r sz off len with
  | some l=>.sl false l
  | none=>match (s.mem t n).bind fun r=>rowDeep s r sz off len with
   | some l=>.sl false l
   | none=>.ref t n sz off len c
 | v=>v
def AV.frz (s:aA):AV->AV
 | .agg cs=>.agg (cs.map (AV.frz0 s))
 | v=>v.frz0 s
def B4 (S0:Option AV) (s:aA) (vs:List AV):Option RV :=
 match S0 with
 | some _=>if vs.all AV.free then (s.obj 0 0).map fun S=>(U1 vs,some S) else none
 | none=>if vs.all AV.free then some (U1 vs,none) else match objAt vs with
  | some (t,n)=>match s.obj t n with
   | some S=>if (vs.map (uK t n)).all (fun v=>v.free||v.isObj) then some (U1 (vs.map (uK t n)),some S) else none
   | none=>none
  | none=>none
def fin (f:qB) (S0:Option AV):Ex->aA->Option RV
 | .exit _,_=>none
 | _,s=>(ZW s f.res).bind fun vs=>B4 S0 s (vs.map (AV.frz s))
def aA.init (args:List AV) (S0:Option AV):aA:=⟨fun t=>⟨args.getD t .undef,.no⟩,fun _ _=>none,1,fun t n=>if t=0/\n=0 then S0 else none,fun _=>⟨.undef,.no⟩⟩
def aA.initR (args:List AV) (cs:List AV):aA:=⟨fun t=>⟨args.getD t .undef,.no⟩,fun t n=>if t=0/\n=0 then some (cs.map fun v=>⟨v,rB v⟩) else none,1,fun _ _=>none,fun _=>⟨.undef,.no⟩⟩
def aA.drop0 (s:aA):aA:={ s with mem:=fun t n=>if t=0/\n=0 then none else s.mem t n }
def rJ (n:Nat) (s:aA) (vs:List AV):Option RV :=
 if vs.all AV.free then (s.mem 0 0).bind fun r =>
  if (r.map fun x=>AV.frz0 s.drop0 x.v).all AV.free0=true/\r.length=n then some (U1 vs,some (.agg (r.map fun x=>AV.frz0 s.drop0 x.v))) else none
 else none
def gM (f:qB) (n:Nat):Ex->aA->Option RV
 | .exit _,_=>none
 | _,s=>(ZW s f.res).bind fun vs=>rJ n s (vs.map (AV.frz s.drop0))
def cR:List AV->Option (List AV)
 | .undef :: .undef :: r=>some r
 | _=>none
def AM (lp:LpT) (b:C) (k:Ex->aA->Option RV):Ex->aA->Option RV
 | .nrm,s=>lp b s k
 | e,s=>k e s
def IK:List AV->Bool
 | .undef :: _=>true
 | _=>false
def tR (s:aA):List ResC->Option (List rA)
 | []=>some []
 | .tmp t :: r=>(tR s r).map (s.env t :: ·)
 | .cell t agg size :: r=>match (s.env t).v with
  | .ptr t n off=>((s.mem t n).bind (SA agg size off)).bind fun x=>(tR s r).map (⟨x.v,.no⟩ :: ·)
  | _=>none
def AV.tupOk:AV->Bool
 | .bp _ | .bl _ | .fn .. | .tup _=>false
 | _=>true
def kO:List rA->Option rA
 | [x]=>some x
 | l=>if l.all (fun x=>x.v.tupOk) then some ⟨.tup (l.map (·.v)),.no⟩ else none
def sN (f:qB) (k:rA->aA->Option RV):Ex->aA->Option RV
 | .exit _,_=>none
 | _,s=>((tR s f.res).bind kO).bind fun x=>k x s
def aA.initH (s:aA) (args:List rA):aA:={ s with env:=fun t=>args.getD t ⟨.undef,.no⟩ }
mutual
noncomputable def gE (T:Nat->Option qB) (ext:DB):Nat->DB
 | 0,f,args,S0=>match T f with
  | none=>ext f args S0
  | some _=>none
 | n + 1,f,args,S0=>match T f with
  | none=>ext f args S0
  | some c=>match cR args,S0 with
   | some rest,some (.agg cs)=>if rest.length=c.np/\IK rest=false then c.code.run (gE T ext n) ⟨OL T ext n,pN T ext n⟩ (aA.initR rest cs) (gM c cs.length) else none
   | some _,_=>none
   | none,_=>if args.length=c.np/\IK args=false/\noItO S0=true then c.code.run (gE T ext n) ⟨OL T ext n,pN T ext n⟩ (aA.init args S0) (fin c S0) else none
noncomputable def OL (T:Nat->Option qB) (ext:DB):Nat->LpT
 | 0,_,_,_=>none
 | n + 1,b,s,k=>b.run (gE T ext n) ⟨OL T ext n,pN T ext n⟩ s (AM (OL T ext n) b k)
noncomputable def pN (T:Nat->Option qB) (ext:DB):Nat->HpT
 | 0,_,_,_,_=>none
 | n + 1,f,args,s,k=>match T f with
  | none=>none
  | some c=>if args.length=c.np then c.code.run (gE T ext n) ⟨OL T ext n,pN T ext n⟩ (s.initH args) (sN c k) else none
end
section
def NZ:Value->Option AV
 | .int k n=>some (.int k n)
 | .bool b=>some (.bool b)
 | .string s=>some (.str s)
 | .pointer none=>some .nilP
 | .slice none 0 0=>some (.sl true [])
 | _=>none
def lL:List Value->Option (List AV)
 | []=>some []
 | v :: r=>match NZ v,lL r with
  | some x,some l=>some (x :: l)
  | _,_=>none
def avC:Value->Option AV
 | .agg cs=>(lL cs.toList).map .agg
 | v=>NZ v
def opd:Operand->Option CB
 | .tmp t=>some (.t t)
 | .const v=>(avC v).map .c
 | .func f=>some (.c (.fn f []))
 | _=>none
section
variable (P:Program)
def rK (t:TypeId):Option Bool:=(P.underlying t).map fun | .struct _=>true | .array ..=>true | _=>false
def gC (t:TypeId):Option Nat:=(P.info? t).map (·.size)
def tK (t:TypeId):Option (List AV):=((P.info? t).bind (·.zero)).bind fun z=>lL z.cells.toList
def tScal (t:TypeId):Bool:=match P.underlying t with | some (.int _)=>true | some .string=>true | some .bool=>true | _=>false
def opds:List (Nat × Operand)->Option (List (Nat × CB))
 | []=>some []
 | (i,x) :: r=>match opd x,opds r with
  | some x,some l=>some ((i,x) :: l)
  | _,_=>none
def bH:List Operand->Option (List CB)
 | []=>some []
 | x :: r=>match opd x,bH r with
  | some x,some l=>some (x :: l)
  | _,_=>none
def KW:Option Operand->Option (Option CB)
 | none=>some none
 | some x=>(opd x).map some
def gQ (pl:Nat->Option (Nat × Nat)):List (Nat × CB)->Option (List (Nat × Nat × CB))
 | []=>some []
 | (i,x) :: r=>match pl i,gQ pl r with
  | some (off,z),some l=>some ((off,z,x) :: l)
  | _,_=>none
def GZ (t:TypeId):Option Nat:=match P.underlying t,gC P t with
 | some (.int _),some 1=>some 0
 | some .string,some 1=>some 1
 | some .bool,some 1=>some 2
 | _,_=>none
def IQ (r:TypeId->Option (List Nat)) (i:Nat):List Field->Option (List Nat)
 | []=>some []
 | f :: fs=>(r f.type).bind fun l=>if f.name≠"_"/\f.offset=i then (IQ r (i + l.length) fs).map (l++·) else none
def kH:Nat->TypeId->Option (List Nat)
 | 0,_=>none
 | n + 1,t=>match GZ P t with
  | some k=>some [k]
  | none=>match P.underlying t with
   | some (.array m e)=>(kH n e).bind fun l=>if P.cellsOf e=l.length/\gC P e=some l.length/\gC P t=some (List.replicate m l).flatten.length then some (List.replicate m l).flatten else none
   | some (.struct fs)=>if P.stoodInHeld t then none else (IQ (kH n) 0 fs.toList).bind fun l=>if gC P t=some l.length then some l else none
   | _=>none
def QR (t:TypeId):Option (List Nat):=if P.eqGuardType P.depth t then none else match P.underlying t with
 | some (.array ..)=>kH P 8 t
 | some (.struct _)=>kH P 8 t
 | _=>none
def scalK (t:TypeId):Option (Option IntKind):=match P.underlying t with
 | some (.int k)=>some (some k)
 | some .string=>some none
 | _=>none
def keysT (t:TypeId):Option (List (Option IntKind)):=match P.underlying t with
 | some (.array n e)=>(scalK P e).map (List.replicate n)
 | some (.struct fs)=>fs.toList.mapM fun f=>scalK P f.type
 | _=>none
def pL:Option IntKind->Nat
 | some _=>0
 | none=>1
def sY (t:TypeId):Option KTy:=match P.underlying t with
 | some (.int k)=>some (.some k)
 | some .string=>some .none
 | _=>(keysT P t).bind fun l=>if QR P t=some (l.map pL)/\l≠[] then some (.agg l) else none
def isBld:List AV->Bool
 | [.nilP,.sl true []]=>true
 | _=>false
def bldEl (e:TypeId):Option TypeId:=if (tK P e).map isBld=some true then (match P.underlying e with
  | some (.struct fs)=>(fs[1]?).bind fun f=>match P.underlying f.type with
   | some (.slice el)=>some el
   | _=>none
  | _=>none) else none
def isZ:Option Operand->Bool
 | some (.const (.int .i64 n))=>decide (n=0)
 | _=>false
def compOp (cl:Cl) (mu:Option Bool) (o:Go.Op) (nest:Bool:=false):Option K :=
 match o with
 | .move x | .assign x=>(opd x).map .mv
 | .pick c a b=>match opd c,opd a,opd b with
  | some c,some a,some b=>some (.pick c a b)
  | _,_,_=>none
 | .alloc e=>match mu with
  | none=>(tK P e).map .alloc
  | some _=>(bldEl P e).map (.mkb e)
 | .box e x=>match gC P e,opd x with
  | some z,some x=>some (.box z x)
  | _,_=>none
 | .build t ps=>match P.underlying t,tK P t,opds ps.toList with
  | some (.struct fs),some z,some ps=>(match fs.toList.mapM (fun f=>(P.info? f.type).map fun i=>(f.offset,i.size)) with
   | some pl=>(gQ (pl.toArray[·]?) ps).map (.build z)
   | none=>none)
  | some (.array _ e),some z,some ps=>(match P.info? e with
   | some ie=>(gQ (fun i=>some (i * ie.size,ie.size)) ps).map (.build z)
   | none=>none)
  | _,_,_=>none
 | .buildSlice t n ps=>match P.underlying t,opds ps.toList with
  | some (.slice e),some ps=>match tK P e,gC P e with
   | some z,some k=>if z.length=k/\0<k/\n * k<=16777216 then (match mu with | none=>some (.bsl z n ps) | some _=>some (.bslr k z n ps)) else none
   | _,_=>none
  | _,_=>none
 | .load t x=>match rK P t,gC P t,opd x with
  | some a,some z,some x=>some (.load cl a z x)
  | _,_,_=>none
 | .store t x y=>match rK P t,gC P t,opd x,opd y with
  | some a,some z,some x,some y=>if a||z == 1 then some (.store cl a z x y) else none
  | _,_,_,_=>none
 | .binOp op t x y _=>match opd x,opd y with
  | some x,some y=>if tScal P t then some (.bin op (match P.underlying t with | some .bool=>true | _=>false) x y) else
   match op with
   | .eql=>(match P.underlying t with
    | some (.slice _)=>some (.eqn false false x y)
    | some (.pointer _)=>some (.eqn false true x y)
    | _=>(QR P t).map fun ks=>.eqa false ks x y)
   | .neq=>(match P.underlying t with
    | some (.slice _)=>some (.eqn true false x y)
    | some (.pointer _)=>some (.eqn true true x y)
    | _=>(QR P t).map fun ks=>.eqa true ks x y)
   | _=>none
  | _,_=>none
 | .unOp op t x=>if tScal P t then (opd x).map (.un op) else none
 | .convert s d x=>match P.underlying s,P.underlying d,opd x with
  | some (.int _),some (.int k),some x=>some (.conv (some k) x)
  | some .string,some .string,some x=>some (.conv none x)
  | some (.int _),some .string,some x=>some (.rstr x)
  | some (.slice e),some .string,some x=>(match P.underlying e with
   | some (.int .u8)=>if gC P e=some 1 then some (.bstr cl x) else none
   | _=>none)
  | _,_,_=>none
 | .makeSlice t l c=>match P.underlying t,opd l,opd c with
  | some (.slice e),some l,some c=>match tK P e,P.info? e with
   | some z,some i=>if z.length=i.size/\0<i.size then some (.mks i.size i.bytes z l c) else none
   | _,_=>none
  | _,_,_=>none
 | .entry x=>(opd x).map .ent
 | .slice t x lo hi mx0=>match opd x,KW lo,KW hi,KW mx0 with
  | some x,some l,some h,some m=>match P.underlying t with
   | some .string=>some (.slc true 1 x l h m)
   | some (.slice e)=>(match lo,isZ hi&&isZ mx0 with
    | none,true=>(gC P e).map fun _=>.slz x
    | _,_=>(gC P e).map fun k=>.slc false k x l h m)
   | some (.array n e)=>(match m with
    | none=>(gC P e).map fun k=>.aslc cl n k x l h
    | some _=>none)
   | _=>none
  | _,_,_,_=>none
 | .fieldAddr t x i=>match P.underlying t,opd x with
  | some (.struct fs),some x=>match fs[i]? with
   | some f=>match gC P f.type with
    | some (_ + 1)=>some (.faddr f.offset x)
    | _=>none
   | none=>none
  | _,_=>none
 | .field t x i=>match P.underlying t,opd x with
  | some (.struct fs),some x=>match fs[i]? with
   | some f=>match rK P f.type,gC P f.type with
    | some a,some z=>some (.field a f.offset z x)
    | _,_=>none
   | none=>none
  | _,_=>none
 | .indexAddr t x i=>match P.underlying t,opd x,opd i with
  | some (.slice e),some x,some i=>(gC P e).map fun k=>.iaddr k x i
  | some (.array n e),some x,some i=>(gC P e).map fun k=>.aaddr n k x i
  | _,_,_=>none
 | .index t x i=>match P.underlying t,opd x,opd i with
  | some .string,some x,some i=>some (.index x i)
  | _,_,_=>none
 | .range t x=>match P.underlying t with
  | some (.map _ _)=>(opd x).map .rng
  | _=>none
 | .makeMap t r=>match r,P.underlying t with
  | none,some (.map kT _)=>(sY P kT).map fun _=>.mkm
  | _,_=>none
 | .lookup t x i ok=>match P.underlying t,opd x,opd i with
  | some (.map kT eT),some x,some i=>match sY P kT,((P.info? eT).bind (·.zero)).bind avC with
   | some ty,some z=>some (.mget ok ty z x i)
   | _,_=>none
  | _,_,_=>none
 | .mapUpdate t m k v=>match P.underlying t,opd m,opd k,opd v with
  | some (.map kT _),some m,some k,some v=>(sY P kT).map fun ty=>.mset ty m k v
  | _,_,_,_=>none
 | .insert t m k v=>match P.underlying t,opd m,opd k,opd v with
  | some (.map kT _),some m,some k,some v=>(sY P kT).map fun ty=>.mset ty m k v
  | _,_,_,_=>none
 | .extract x i=>(opd x).map fun x=>.ext x i
 | .nilCheck x=>(opd x).map .nilchk
 | .call { callee:=.value (.func f),args:=xs,.. }=>match mu with
  | some false=>(match P.funcs[f]? with
   | some fn=>(match fn.resultTypes.toList with
    | [t]=>(match P.underlying t with
     | some (.slice e)=>(match gC P e,bH xs.toList with
      | some z,some xs=>if 0<z then some (.callf cl f z xs) else none
      | _,_=>none)
     | _=>none)
    | _=>none)
   | none=>none)
  | some true=>(bH xs.toList).map (.callr cl f)
  | none=>(bH xs.toList).map (.call cl f)
 | .makeFunc (.func f) fs xs=>if fs.size=0 then (bH xs.toList).map (.mkf f) else none
 | .call { callee:=.value (.tmp t),args:=xs,.. }=>(bH xs.toList).map (.callv cl (.t t))
 | .call { callee:=.builtin .len,args:=xs,argTypes:=ts }=>match bH xs.toList,ts.toList with
  | some [x],[t]=>(match P.underlying t with
   | some .string=>some (.len true x)
   | some (.slice _)=>some (.len false x)
   | some (.map _ _)=>some (.mlen x)
   | _=>none)
  | _,_=>none
 | .call { callee:=.builtin .clear,args:=xs,argTypes:=ts }=>match bH xs.toList,ts.toList with
  | some [x],[t]=>(match P.underlying t with
   | some (.slice e)=>(tK P e).map fun z=>.clr cl z x
   | _=>none)
  | _,_=>none
 | .call { callee:=.builtin .max,args:=xs,.. }=>match xs.toList with
  | [X,Y]=>(match opd X,opd Y with
   | some x,some y=>some (.mm true x y)
   | _,_=>none)
  | _=>none
 | .call { callee:=.builtin .min,args:=xs,.. }=>match xs.toList with
  | [X,Y]=>(match opd X,opd Y with
   | some x,some y=>some (.mm false x y)
   | _,_=>none)
  | _=>none
 | .call { callee:=.builtin .append,args:=xs,argTypes:=ts }=>match bH xs.toList,ts.toList with
  | some [x,y],[t,t']=>if t=t' then match P.underlying t with
   | some (.slice e)=>match P.info? e,tK P e with
    | some i,some z=>if z.length=i.size/\0<i.size then some (match mu with | some true=>(if nest then .appn cl e i.size i.bytes x y else .appm cl e i.size i.bytes x y) | some false=>.appf cl e i.size i.bytes x y | none=>.app cl e i.size i.bytes x y) else none
    | _,_=>none
   | _=>none else none
  | _,_=>none
 | _=>none
def g7 (cl:Cl) (mu:Option Bool) (bad nest:Bool) (o:Go.Op):Option K:=match compOp P cl mu o nest with
 | some k=>some k
 | none=>if bad then some .bad else none
def O2 (nt:Nat) (hs:Nat->Bool) (o:Go.Op):Option K:=match o with
 | .call { callee:=.value (.func f),args:=xs,.. }=>if hs (1000000 + f) then (bH xs.toList).map (.callh nt (.c (.fn f []))) else none
 | .call { callee:=.value (.tmp t),args:=xs,.. }=>if hs (2000000 + t) then (bH xs.toList).map (.callh nt (.t t)) else none
 | .next x false=>(opd x).map .nxt
 | _=>none
def lQ (boxes:List Nat) (ops:List Oper):Nat->Operand->Option Nat
 | 0,_=>none
 | n + 1,.tmp t=>if boxes.contains t then some t else
  match ops.find? (fun o=>o.dst == some t) with
  | some o=>match o.op with
   | .fieldAddr _ x _=>lQ boxes ops n x
   | .move x=>lQ boxes ops n x
   | .nilCheck x=>lQ boxes ops n x
   | _=>none
  | none=>none
 | _ + 1,_=>none
def isS:K->Bool
 | .store .. | .callr .. | .clr ..=>true
 | _=>false
def isH:K->Bool
 | .callh ..=>true
 | .nxt _=>true
 | _=>false
def isA:K->Bool
 | .alloc _ | .box .. | .mks .. | .appf .. | .appm .. | .appn .. | .bslr .. | .callf ..=>true
 | _=>false
def isM:K->Bool
 | .appm ..=>true
 | .appn ..=>true
 | .callh ..=>true
 | .nxt _=>true
 | _=>false
def QU:K->Bool
 | .call .. | .callf .. | .callv .. | .callr .. | .mkm | .mkb .. | .mget .. | .mset .. | .mlen _ | .rng _ | .ent _=>true
 | _=>false
def isR:K->Bool
 | .mget .. | .mlen _ | .ent _=>true
 | _=>false
def isT:K->Bool
 | .app .. | .appm .. | .appn ..=>true
 | _=>false
def K.cl:K->Option Cl
 | .load cl ..=>some cl
 | .store cl ..=>some cl
 | .clr cl ..=>some cl
 | .call cl ..=>some cl
 | .callf cl ..=>some cl
 | .callv cl ..=>some cl
 | .callr cl ..=>some cl
 | .bstr cl _=>some cl
 | .aslc cl ..=>some cl
 | .app cl ..=>some cl
 | .appf cl ..=>some cl
 | .appm cl ..=>some cl
 | .appn cl ..=>some cl
 | _=>none
def FI (a b:PA):Bool :=
 !isM a.op&&!isM b.op&&(!isT a.op||!isT b.op)&&(!QU a.op||!QU b.op||(isR a.op&&isR b.op)) &&
 (match a.op.cl,b.op.cl with
  | some c,some d=>!(isS a.op||isS b.op)||(match c,d with
   | .imm,_=>true
   | _,.imm=>true
   | .root r,.root r'=>r != r'
   | .root r,.out L=>L.contains r
   | .out L,.root r=>L.contains r
   | _,_=>false)
  | _,_=>true) &&
 (!isA a.op||(match b.op.cl with | none=>true | some .imm=>true | some (.root r)=>a.dst != some r | some (.out L)=>(match a.dst with | some d=>L.contains d | none=>false) | some .any=>false)) &&
 (!isA b.op||(match a.op.cl with | none=>true | some .imm=>true | some (.root r)=>b.dst != some r | some (.out L)=>(match b.dst with | some d=>L.contains d | none=>false) | some .any=>false)) &&
 (!isA a.op||!isA b.op||a.dst != b.dst)
def isMv (o:PA):Bool:=match o.op,o.guard with
 | .mv (.t _),none=>true
 | _,_=>false
def isN:K->Bool
 | .appm ..=>true
 | .appn ..=>true
 | _=>false
def LO (a b:PA):Bool:=FI a b||((isMv a&&isN b.op)||(isMv b&&isN a.op))
def RQ (ops:List Oper):List Nat :=
 (ops.foldl (fun acc o=>acc.push (o.after.foldl (fun s e=>if Region.binds .any e then s ||| 2 ^ e.on ||| acc.getD e.on 0 else s) 0)) (#[]:Array Nat)).toList
def K.opds:K->List CB
 | .mv x | .box _ x | .load _ _ _ x | .un _ x | .conv _ x | .rstr x | .bstr _ x | .faddr _ x | .field _ _ _ x | .ext x _ | .len _ x | .nilchk x | .rng x | .nxt x | .slz x | .ent x | .clr _ _ x=>[x]
 | .pick c a b=>[c,a,b]
 | .alloc _ | .mkm | .mkb .. | .bad=>[]
 | .mget _ _ _ x k=>[x,k]
 | .mset _ x k v=>[x,k,v]
 | .mlen x=>[x]
 | .build _ ps=>ps.map (·.2.2)
 | .bsl _ _ ps=>ps.map (·.2)
 | .bslr _ _ _ ps=>ps.map (·.2)
 | .store _ _ _ x y | .bin _ _ x y | .mm _ x y | .eqa _ _ x y | .eqn _ _ x y | .mks _ _ _ x y | .iaddr _ x y | .aaddr _ _ x y | .index x y | .app _ _ _ _ x y | .appf _ _ _ _ x y | .appm _ _ _ _ x y | .appn _ _ _ _ x y=>[x,y]
 | .slc _ _ x lo hi mx=>x :: (lo.toList++(hi.toList++mx.toList))
 | .aslc _ _ _ x lo hi=>x :: (lo.toList++hi.toList)
 | .mkf _ xs=>xs
 | .callv _ x xs=>x :: xs
 | .callr _ _ xs=>xs
 | .callh _ x xs=>x :: xs
 | .call _ _ xs=>xs
 | .callf _ _ _ xs=>xs
def PA.looks (o:PA):List Nat:=o.op.opds.filterMap (fun | .t n=>some n | _=>none)++(match o.guard with | some (t,_)=>[t] | none=>[])
def PA.clear (a b:PA):Bool:=match a.dst with
 | some d=>!b.looks.contains d&&b.dst != some d
 | none=>true
def lK (a b:PA):Bool:=a.clear b&&b.clear a
def iL (o:Oper):List Nat:=o.after.toList.filterMap fun e=>if Region.binds .any e then some e.on else none
def bfOk (ops:List Oper) (bf:List Nat):Bool:=(List.range ops.length).all fun i=>match ops[i]? with
 | some o=>(iL o).all (fun e=>decide (e<i))&&(List.range i).all fun r=>!(bf.getD i 0).testBit r||(iL o).any fun e=>e == r||(decide (r<e)&&(bf.getD e 0).testBit r)
 | none=>false
def kU (ops:List Oper) (cs:List PA):Bool :=
 let bf:=RQ ops
 bfOk ops bf&&(List.range ops.length).all fun j=>(List.range j).all fun i =>
  (bf.getD j 0).testBit i||(match cs[i]?,cs[j]? with
   | some x,some y=>lK x y&&LO x y
   | _,_=>false)
def KS (cs:List PA):Bool:=(List.range cs.length).all fun j=>match cs[j]? with
 | some y=>!((isA y.op||QU y.op)&&y.dst.isSome)||(List.range cs.length).all fun i=>i == j||(match cs[i]? with | some x=>x.dst != y.dst | none=>false)
 | none=>false
def turns (o:Oper):Bool:=match o.op with | .store ..=>true | .alloc _=>true | .box ..=>true | .makeSlice ..=>true | .call { callee:=.builtin .append,.. }=>true | .call { callee:=.builtin .clear,.. }=>true | _=>false
def fixed (ops:List Oper) (o:Oper):Bool:=match o.dst with
 | none=>false
 | some d=>match ops.findIdx? (fun p=>p.dst == some d) with
  | none=>false
  | some i=>let bf:=RQ ops
   (List.range ops.length).all fun j=>i == j||!(match ops[j]? with | some p=>turns p | none=>false)||(bf.getD j 0).testBit i||(bf.getD i 0).testBit j
def claim (boxes:List Nat) (adv:Bool) (out:Option (List Nat)) (ops:List Oper) (draw:Bool) (o:Oper):Cl :=
 if !draw then .any else
 if adv then (match o.op with
  | .load _ x=>(match lQ boxes ops 10 x with | some t=>.root t | none=>if fixed ops o then .any else .imm)
  | .store _ x _=>(match lQ boxes ops 10 x,out with | some t,_=>.root t | none,some L=>.out (L++ops.filterMap fun p=>if turns p then p.dst else none) | none,none=>.any)
  | .call { callee:=.value (.func _),args:=xs,.. }=>(match (xs[0]?).bind (lQ (boxes.filter (· == 0)) ops 10) with | some t=>.root t | none=>if fixed ops o||!(ops.any turns) then .any else .imm)
  | _=>if fixed ops o||!(ops.any turns) then .any else .imm) else
 if ops.any (fun o=>match o.op with | .store ..=>true | .call { callee:=.builtin .clear,.. }=>true | .alloc _=>true | .box ..=>true | .makeSlice ..=>true | _=>false) then
  match o.op with
  | .load _ x=>(match lQ boxes ops 10 x with | some t=>.root t | none=>.imm)
  | .store _ x _=>(match lQ boxes ops 10 x with | some t=>.root t | none=>.any)
  | _=>.imm
 else .any
def dstOk (nt:Nat):Option Nat->Bool
 | some d=>decide (d<nt)
 | none=>true
def IS (boxes:List Nat) (nt:Nat) (all:List Oper) (draw:Bool):List Oper->Option (List PA)
 | []=>some []
 | o :: r=>match (match O2 nt (fun c=>boxes.contains (nt + 1 + c)) o.op with | some k=>some k | none=>(g7 P (claim boxes (boxes.any (nt<·)) (if boxes.contains (nt + 1 + 6000000) then some (boxes.filter (·<nt)) else none) all draw o) (match o.dst with | some d=>if boxes.contains (nt + 1 + (2 * d + 1)) then some true else if boxes.contains (nt + 1 + 2 * d) then some false else none | none=>none) (boxes.contains (nt + 1 + 4000000)) (boxes.contains (nt + 1 + 5000000)) o.op).filter (fun k=>!isH k)),IS boxes nt all draw r with
  | some k,some l =>
   if dstOk nt o.dst then
    match o.guard with
    | none=>some (⟨o.dst,k,none⟩ :: l)
    | some (g,want)=>match (all[g]?).bind (·.dst) with
     | some t=>some (⟨o.dst,k,some (t,want)⟩ :: l)
     | none=>none
   else none
  | _,_=>none
def comp (boxes:List Nat) (nt:Nat):Code->Option C
 | .skip=>some .skip
 | .seq a b=>match comp boxes nt a,comp boxes nt b with
  | some a,some b=>some (.seq a b)
  | _,_=>none
 | .region _ ops draw=>match IS P boxes nt ops.toList draw ops.toList with
  | some cs=>if KS cs&&(!draw||kU ops.toList cs) then some (.reg cs) else none
  | none=>none
 | .cond c t e=>match opd c,comp boxes nt t,comp boxes nt e with
  | some c,some t,some e=>some (.cond c t e)
  | _,_,_=>none
 | .block id b=>(comp boxes nt b).map (.block id)
 | .loop b=>(comp boxes nt b).map .loop
 | .exit id=>some (.exit id)
 | .scope b=>comp boxes nt b
 | .ret=>some .ret
 | _=>none
def kN:Code->List Nat
 | .seq a b=>kN a++kN b
 | .region _ ops _=>ops.toList.filterMap fun o=>match o.op with | .alloc _=>o.dst | .box ..=>o.dst | _=>none
 | .cond _ t e=>kN t++kN e
 | .block _ b=>kN b
 | .loop b=>kN b
 | .scope b=>kN b
 | _=>[]
def dM:List ResultVar->Option (List ResC)
 | []=>some []
 | .tmp t :: r=>(dM r).map (.tmp t :: ·)
 | .cell t ty :: r=>match rK P ty,gC P ty,dM r with
  | some a,some z,some l=>some (.cell t a z :: l)
  | _,_,_=>none
def BV (mu:List Nat) (fn:Func):Option qB:=match fn.body with
 | none=>none
 | some b=>match comp P (kN b++(if mu.contains 3000000 then [0] else [])++mu.map (fn.ntmps + 1 + ·)) fn.ntmps b,dM P fn.results.toList with
  | some c,some r=>if fn.params.size + fn.nfree<=fn.ntmps then some ⟨c,r,fn.params.size + fn.nfree,mu⟩ else none
  | _,_=>none
end
end
section
open Go.RowKit
structure QC (F:Nat->Prop) (w w':World):Prop where
 os:w'.os=w.os
 tape:w'.tape=w.tape
 output:w'.output=w.output
 size:w.heap.size<=w'.heap.size
 block:∀ k,k<w.heap.size->¬ F k->w'.heap[k]?=w.heap[k]?
section
variable {F G:Nat->Prop} {w w1 w2:World}
theorem QC.refl (F:Nat->Prop) (w:World):QC F w w:=⟨rfl,rfl,rfl,yf _,fun _ _ _=>rfl⟩
theorem QC.trans (h:QC F w w1) (k:QC G w1 w2) (hG:∀ i,i<w.heap.size->G i->F i):QC F w w2 :=
 ⟨k.os.trans h.os,k.tape.trans h.tape,k.output.trans h.output,yw h.size k.size,fun i hi hF =>
  (k.block i (yW hi h.size) (fun g=>hF (hG i hi g))).trans (h.block i hi hF)⟩
theorem QC.mono (h:QC F w w1) (hG:∀ i,i<w.heap.size->F i->G i):QC G w w1 :=
 ⟨h.os,h.tape,h.output,h.size,fun i hi hg=>h.block i hi fun hf=>hg (hG i hi hf)⟩
theorem QC.of_below (h:Below w.heap.size w w1) (F:Nat->Prop):QC F w w1:=⟨h.os,h.tape,h.output,h.size,fun k hk _=>h.block k hk⟩
theorem QC.below (h:QC (fun _=>False) w w1):Below w.heap.size w w1:=⟨h.os,h.tape,h.output,h.size,fun k hk=>h.block k hk id⟩
theorem QC.alloc (h:QC F w w1) (o:Obj):QC F w (w1.alloc o) :=
 ⟨h.os,h.tape,h.output,by have:=h.size; simp; omega,fun k hk hF=>(Below.heap_alloc w1 o k (yW hk h.size)).trans (h.block k hk hF)⟩
theorem QC.drew (h:QC F w w1):QC F w w1.drew:=⟨h.os,h.tape,h.output,h.size,h.block⟩
theorem QC.setCell (h:QC F w w1) {a:Addr} (ha:a.block<w.heap.size->F a.block) (u:Value):QC F w (w1.setCell a u) :=
 ⟨h.os,h.tape,h.output,by have:=h.size; simpa [World.setCell] using this,fun k hk hF =>
  (Below.heap_setCell w1 a u k (fun e=>hF (e ▸ ha (e ▸ hk)))).trans (h.block k hk hF)⟩
theorem QC.trans_below (h:QC F w w1) (k:Below w1.heap.size w1 w2):QC F w w2:=h.trans (QC.of_below k (fun _=>False)) (fun _ _ h=>h.elim)
theorem QC.grown (h:QC F w w1) {row:Option Nat} (hg:w1.grownBy w2 row) (hr:∀ k,k<w.heap.size->row=some k->F k):QC F w w2 :=
 ⟨hg.os.trans h.os,hg.tape.trans h.tape,hg.output.trans h.output,yw h.size hg.size,fun k hk hF =>
  (hg.block k (yW hk h.size) (fun e=>hF (hr k hk e.symm))).trans (h.block k hk hF)⟩
theorem QC.cell (h:QC F w w1) {a:Addr} (ha:a.block<w.heap.size) (hF:¬ F a.block):w1.cell? a=w.cell? a:=World.cell?_of_block (w:=w) (h.block _ ha hF)
theorem QC.frozen (h:QC F w w1) {a:Addr} (ha:a.block<w.heap.size) (hF:¬ F a.block):w1.frozen? a=w.frozen? a:=World.frozen?_of_block (w:=w) (h.block _ ha hF)
end
theorem LN {p:Prop} (h:p):Hid p:=h
theorem TA {w:World} {k:Nat} {o:Obj} (h:w.heap[k]?=some o):k<w.heap.size:=by
 rcases Nat.lt_or_ge k w.heap.size with h' | h'
 ·exact h'
 ·rw [Array.getElem?_eq_none h'] at h; cases h
theorem QC.at_ {F:Nat->Prop} {w w1:World} (h:QC F w w1) {a:Addr} {v:Value} (hc:w.cell? a=some v) (hF:¬ F a.block):w1.cell? a=some v:=(h.cell (World.block_lt_of_cell? w a hc) hF).trans hc
theorem QC.fz {F:Nat->Prop} {w w1:World} (h:QC F w w1) {a:Addr} (hc:w.frozen? a=false) (hl:a.block<w.heap.size) (hF:¬ F a.block):w1.frozen? a=false:=(h.frozen hl hF).trans hc
theorem JR {w:World} {o:Obj} {n:Nat} (h:n=w.heap.size):(w.alloc o).heap[n]?=some o:=by rw [h]; exact heap_alloc_new w o
def Sl (av:Nat->Prop) (w:World) (sz:Nat) (v:Value) (n:Nat) (cs:List Value):Prop :=
 cs.length=n * sz/\∃ A c,v=.slice A n c/\n<=c ∧
  (0<n->∃ b off,A=some ⟨b,off,none⟩/\b<w.heap.size/\¬ av b/\∀ j u,cs[j]?=some u->w.cell? ⟨b,off + j,none⟩=some u)
section
variable {av lb:Nat->Prop} {w w':World} {sz n:Nat} {v:Value} {cs:List Value}
theorem Sl.nil (av:Nat->Prop) (w:World) (sz:Nat):Sl av w sz (.slice none 0 0) 0 []:=⟨by simp,none,0,rfl,yf _,fun h=>absurd h (by omega)⟩
theorem Sl.keep {F:Nat->Prop} (h:Sl av w sz v n cs) (hk:QC F w w') (hF:∀ b,b<w.heap.size->F b->av b):Sl av w' sz v n cs:=by
 obtain ⟨hl,A,c,rfl,hc,hn⟩:=h;refine ⟨hl,A,c,rfl,hc,fun h0=>?_⟩;obtain ⟨b,off,rfl,hb,zd,gc⟩:=hn h0;exact ⟨b,off,rfl,yW hb hk.size,zd,fun j u hu=>(hk.cell (a:=⟨b,off + j,none⟩) hb (fun f=>zd (hF b hb f))).trans (gc j u hu)⟩
theorem Sl.below (h:Sl av w sz v n cs) (hk:Below w.heap.size w w'):Sl av w' sz v n cs:=h.keep (QC.of_below hk (fun _=>False)) (fun _ _ h=>h.elim)
theorem Sl.len (h:Sl av w sz v n cs):cs.length=n * sz:=h.1
theorem Sl.zero (av:Nat->Prop) (w:World) (sz:Nat) (A:Option Addr) (c:Nat):Sl av w sz (.slice A 0 c) 0 []:=⟨by simp,A,c,rfl,Nat.zero_le _,fun h=>absurd h (by omega)⟩
end
theorem QC.setRow {F:Nat->Prop} {w w1:World} (h:QC F w w1) {B:Nat} (hF:B<w.heap.size->F B) (cs:Array Value):QC F w (w1.setRow B cs) :=
 ⟨h.os,h.tape,h.output,by have:=h.size; simpa using this,fun k hk hn=>(setRow_other w1 B k cs (fun e=>hn (e ▸ hF (e ▸ hk)))).trans (h.block k hk hn)⟩
/-! maps -/
def HL {κ β:Type} [DecidableEq κ]:List (κ × β)->κ->Option β
 | [],_=>none
 | p :: l,k=>if k=p.1 then some p.2 else HL l k
def I1 {κ β:Type} [DecidableEq κ]:List (κ × β)->κ->β->List (κ × β)
 | [],k,v=>[(k,v)]
 | p :: l,k,v=>if k=p.1 then (k,v) :: l else p :: I1 l k v
section
variable {κ β:Type} [DecidableEq κ]
end
structure SP (P:Program) (T:TypeId) {κ:Type} [DecidableEq κ] (ke:κ->Value):Prop where
 check:∀ (empty:Bool) (k:κ) (w:World),(Instr.checkKey empty 10000 T (ke k)).run P w=.ok () w
 find:∀ (k:κ) (es:List MapEntry) (L:List (κ × Value)) (w:World),es.map (fun e=>(e.key,e.val))=L.map (fun p=>(ke p.1,p.2)) →
  (Instr.findKey T (ke k) es).run P w=.ok (((L.map (·.1)).idxOf? k).bind fun i=>(L[i]?).map fun p=>(i,p.2)) w
 same:∀ (k:κ),Instr.sameBits 10000 (ke k) (ke k)=true
def iP {κ:Type} (ke:κ->Value) (w:World) (m:Nat) (L:List (κ × Value)):Prop :=
 ∃ es clock,w.heap[m]?=some (.map es clock)/\es.toList.map (fun e=>(e.key,e.val))=L.map (fun p=>(ke p.1,p.2))
theorem idx_get {κ β:Type} [DecidableEq κ] (L:List (κ × β)) (k:κ):(((L.map (·.1)).idxOf? k).bind fun i=>(L[i]?).map fun p=>(i,p.2)).map (·.2)=HL L k:=by
 induction L with
 | nil=>simp [HL]
 | cons p l ih =>
  unfold HL;simp only [yl,List.idxOf?_cons];by_cases h:p.1=k
  ·subst h; simp
  ·have h':(p.1 == k)=false:=by simpa using h
   have h2:¬ k=p.1:=fun e=>h e.symm
   rw [h',if_neg h2,<- ih];cases hi:List.idxOf? k (List.map (fun x=>x.1) l) with
   | none=>simp
   | some i=>simp [Function.comp_def]
section
theorem iP.keep {κ:Type} {ke:κ->Value} {w:World} {m:Nat} {L:List (κ × Value)} {F:Nat->Prop} {w':World} (h:iP ke w m L) (hk:QC F w w') (hF:¬ F m):iP ke w' m L:=by
 obtain ⟨es,clock,h1,h2⟩:=h;exact ⟨es,clock,(hk.block m (TA h1) hF).trans h1,h2⟩
theorem iP.lt {κ:Type} {ke:κ->Value} {w:World} {m:Nat} {L:List (κ × Value)} (h:iP ke w m L):m<w.heap.size:=by
 obtain ⟨es,clock,h1,h2⟩:=h;exact TA h1
theorem idx_set {κ β:Type} [DecidableEq κ] (L:List (κ × β)) (k:κ) (v:β):I1 L k v=match (L.map (·.1)).idxOf? k with | some i=>L.set i (k,v) | none=>L++[(k,v)]:=by
 induction L with
 | nil=>simp [I1]
 | cons p l ih =>
  unfold I1;simp only [yl,List.idxOf?_cons];by_cases h:p.1=k
  ·subst h; simp
  ·have h':(p.1 == k)=false:=by simpa using h
   have h2:¬ k=p.1:=fun e=>h e.symm
   rw [h',if_neg h2,ih];cases hi:List.idxOf? k (List.map (fun x=>x.1) l) <;> simp
variable {κ:Type} [DecidableEq κ] {P:Program} {T kT eT:TypeId} {ke:κ->Value} {w:World} {m:Nat} {L:List (κ × Value)}
theorem iP.lookup (h:iP ke w m L) (K:SP P kT ke) (hT:P.underlying T=some (.map kT eT)) {z:Value} (hz:(zeroValue eT).run P w=.ok z w) (k:κ) :
  (Instr.lookup T (.map (some m)) (ke k) false).run P w=.ok ((HL L k).getD z) w:=by
 obtain ⟨es,clock,h1,h2⟩:=h;have hg:(getObj m).run P w=.ok (.map es clock) w:=by simp [getObj,Sem.run,h1]
 have hf:=K.find k es.toList L w h2;have hi:=idx_get L k;simp only [Instr.lookup,Sem.run_bind,run_underlying hT,Result.andThen_ok,hg,Sem.run_pure,K.check,hf];rw [<- hi];cases hq:((L.map (·.1)).idxOf? k).bind fun i=>(L[i]?).map fun p=>(i,p.2) with
 | none=>simp [hz]
 | some x=>obtain ⟨i,v⟩:=x; simp
theorem iP.lookup_ok (h:iP ke w m L) (K:SP P kT ke) (hT:P.underlying T=some (.map kT eT)) {z:Value} (hz:(zeroValue eT).run P w=.ok z w) (k:κ) :
  (Instr.lookup T (.map (some m)) (ke k) true).run P w=.ok (.tuple #[(HL L k).getD z,.bool (HL L k).isSome]) w:=by
 obtain ⟨es,clock,h1,h2⟩:=h;have hg:(getObj m).run P w=.ok (.map es clock) w:=by simp [getObj,Sem.run,h1]
 have hf:=K.find k es.toList L w h2;have hi:=idx_get L k;simp only [Instr.lookup,Sem.run_bind,run_underlying hT,Result.andThen_ok,hg,Sem.run_pure,K.check,hf];rw [<- hi];cases hq:((L.map (·.1)).idxOf? k).bind fun i=>(L[i]?).map fun p=>(i,p.2) with
 | none=>simp [hz]
 | some x=>obtain ⟨i,v⟩:=x; simp
theorem QC.setObj {F:Nat->Prop} {w w1:World} (h:QC F w w1) {m:Nat} (hF:F m) (o:Obj):QC F w { w1 with heap:=w1.heap.setIfInBounds m o } :=
 ⟨h.os,h.tape,h.output,by have:=h.size; simpa using this,fun k hk hn=>by
  have:m≠k:=fun e=>hn (e ▸ hF)
  show (w1.heap.setIfInBounds m o)[k]?=_;rw [Array.getElem?_setIfInBounds_ne this];exact h.block k hk hn⟩
end
end
section
open Go Go.RowKit
abbrev Av:=Nat->Nat->Prop
structure Ix where
 f:Nat->Nat->Option Nat
 ob:Nat->Nat->Option (Nat->Prop)
 z:Nat->Nat
instance:CoeFun Ix (fun _=>Nat->Nat->Option Nat):=⟨Ix.f⟩
def Ix.none:Ix:=⟨fun _ _=>.none,fun _ _=>.none,fun _=>0⟩
structure Ix.Le (ι ι':Ix):Prop where
 f:∀ t n b,ι t n=some b->ι' t n=some b
 z:∀ t n b,ι t n=some b->ι'.z b=ι.z b
theorem Ix.Le.refl (ι:Ix):Ix.Le ι ι:=⟨fun _ _ _ h=>h,fun _ _ _ _=>rfl⟩
def AV.scalV:AV->Value
 | .int k n=>.int k n
 | .bool b=>.bool b
 | .str s=>.string s
 | _=>Go.undef
def AV.flatV:AV->Value
 | .agg cs=>.agg (cs.map AV.scalV).toArray
 | v=>v.scalV
def entV:List AV->Value × Value
 | [k,v]=>(k.flatV,v.flatV)
 | _=>(Go.undef,Go.undef)
def D4 (es:Array MapEntry) (clock:Nat):Prop:=clock=es.size/\∀ i (h:i<es.size),es[i].born=i
theorem it_none {S:AV} (h:(uY S).isSome=true):aJ S=none/\bldOf S=none:=by
 unfold uY at h;split at h
 ·exact ⟨rfl,rfl⟩
 ·cases h
def MapO (L:List (List AV)) (H:Nat->Prop) (p:Nat) (w:World):Prop:=(∀ b,H b ↔ b=p)/\∃ es clock,w.heap[p]?=some (.map es clock)/\es.toList.map (fun e=>(e.key,e.val))=L.map entV/\D4 es clock
def C9 (T e:TypeId) (s:ByteArray) (H:Nat->Prop) (p:Nat) (w:World):Prop :=
 ∃ v q,w.heap[p]?=some (.cells #[q,v] T (0,0))/\(q=.pointer none\/q=.pointer (some ⟨p,0,none⟩))/\w.ownsRowF 0 e 1 v s.size (Go.Lib.strCells s)/\v.ownBlock≠some p/\∀ b,H b ↔ b=p\/v.ownBlock=some b
theorem C9.keep {T e:TypeId} {s:ByteArray} {H:Nat->Prop} {p:Nat} {w w':World} (h:C9 T e s H p w) (hb:∀ b,H b->w'.heap[b]?=w.heap[b]?):C9 T e s H p w':=by
 obtain ⟨v,q,h1,h2,h3,h4,h5⟩:=h;refine ⟨v,q,(hb p ((h5 p).2 (.inl rfl))).trans h1,h2,⟨h3.1,?_⟩,h4,h5⟩;rcases h3.2 with hn | ⟨g,cap,cur,fz,rfl,hbg,hg,rest⟩
 ·exact .inl hn
 ·exact .inr ⟨g,cap,cur,fz,rfl,hbg,(hb g ((h5 g).2 (.inr rfl))).trans hg,rest⟩
theorem C9.lt {T e:TypeId} {s:ByteArray} {H:Nat->Prop} {p b:Nat} {w:World} (h:C9 T e s H p w) (hb:H b):b<w.heap.size:=by
 obtain ⟨v,q,h1,h2,h3,h4,h5⟩:=h;rcases (h5 b).1 hb with rfl | hv
 ·exact TA h1
 ·exact (h3.lt b hv).2
structure sR where
 at_:AV->(Nat->Prop)->Nat->World->Prop
 keep:∀ {S H p w w'},at_ S H p w->(∀ b,H b->w'.heap[b]?=w.heap[b]?)->w.heap.size<=w'.heap.size->at_ S H p w'
 main:∀ {S H p w},at_ S H p w->H p
 lt:∀ {S H p w b},at_ S H p w->H b->b<w.heap.size
structure GI extends sR where
 maps:∀ L H p w,at_ (zH L) H p w ↔ MapO L H p w
 blds:∀ T e s H p w,at_ (iH T e s) H p w ↔ C9 T e s H p w
 iters:∀ S H p w,(uY S).isSome=true->(at_ S H p w ↔ ((∀ b,H b ↔ b=p)/\p<w.heap.size))
def sR.ofAt (O:sR) (A:AV) (H:Nat->Prop) (p:Nat) (w:World):Prop:=match aJ A with
 | some L=>MapO L H p w
 | none=>match bldOf A with
  | some (T,e,s)=>C9 T e s H p w
  | none=>if (uY A).isSome=true then (∀ b,H b ↔ b=p)/\p<w.heap.size else O.at_ A H p w
def sR.of (O:sR):GI where
 at_:=O.ofAt
 keep:=fun {A H p w w'} h hb hs=>by
  unfold sR.ofAt at h ⊢
  split at h
  ·obtain ⟨h1,es,clock,h2,h3⟩:=h
   exact ⟨h1,es,clock,(hb p ((h1 p).2 rfl)).trans h2,h3⟩
  ·split at h
   ·exact h.keep hb
   ·split at h
    ·rename_i hi
     simp only [hi,if_true]
     exact ⟨h.1,Nat.lt_of_lt_of_le h.2 hs⟩
    ·rename_i hi
     simp only [hi,if_false]
     exact O.keep h hb hs
 main:=fun {A H p w} h=>by
  unfold sR.ofAt at h
  split at h
  ·exact (h.1 p).2 rfl
  ·split at h
   ·obtain ⟨v,q,h1,h2,h3,h4,h5⟩:=h
    exact (h5 p).2 (.inl rfl)
   ·split at h
    ·exact (h.1 p).2 rfl
    ·exact O.main h
 lt:=fun {A H p w b} h hb=>by
  unfold sR.ofAt at h
  split at h
  ·obtain ⟨h1,es,clock,h2,h3⟩:=h
   rw [(h1 b).1 hb]
   exact TA h2
  ·split at h
   ·exact h.lt hb
   ·split at h
    ·rw [(h.1 b).1 hb]; exact h.2
    ·exact O.lt h hb
 maps:=fun L H p w=>Iff.rfl
 blds:=fun T e s H p w=>Iff.rfl
 iters:=fun S H p w h=>by
  unfold sR.ofAt
  rw [(it_none h).1,(it_none h).2]
  simp only [h,if_true]
def noObjs:sR where
 at_:=fun _ _ _ _=>False
 keep:=fun h _ _=>h.elim
 main:=fun h=>h.elim
 lt:=fun h _=>h.elim
mutual
/-- v reads as x in w,and nothing that it reads lies in av -/
def bE (av:Av) (w:World):AV->Value->Prop
 | .int k n,v=>v=.int k n
 | .bool b,v=>v=.bool b
 | .str s,v=>v=.string s
 | .nilP,v=>v=.pointer none
 | .ip cs,v=>∃ b off,v=.pointer (some ⟨b,off,none⟩)/\SE av w cs b off
 | .sl nil l,v=>∃ A c,v=.slice A l.length c/\l.length<=c/\(∀ x∈l,∀ y∈l,x.length=y.length)/\(nil=true->A=none/\l.length=0/\c=0)/\(nil=false->(A=none->c=0)/\(0<l.length->∃ b off,A=some ⟨b,off,none⟩/\Rows av w l b off))
 | .agg cs,v=>∃ us,v=.agg us/\DC av w cs us.toList
 | .tup xs,v=>∃ us,v=.tuple us/\QO av w xs us.toList
 | .ptr ..,_=>False
 | .bp ..,_=>False
 | .bl ..,_=>False
 | .ref ..,_=>False
 | .mp ..,_=>False
 | .fn ..,_=>False
 | .undef,_=>True
def DC (av:Av) (w:World):List AV->List Value->Prop
 | [],us=>us=[]
 | x :: r,us=>∃ u oa,us=u :: oa/\bE av w x u/\u.oneCell'=true/\DC av w r oa
def QO (av:Av) (w:World):List AV->List Value->Prop
 | [],us=>us=[]
 | x :: r,us=>∃ u oa,us=u :: oa/\bE av w x u/\QO av w r oa
def SE (av:Av) (w:World):List AV->Nat->Nat->Prop
 | [],_,_=>True
 | x :: r,b,off=>(∃ u,w.cell? ⟨b,off,none⟩=some u/\bE av w x u/\u.oneCell'=true)/\¬ av b off/\SE av w r b (off + 1)
def Rows (av:Av) (w:World):List (List AV)->Nat->Nat->Prop
 | [],_,_=>True
 | cs :: r,b,off=>SE av w cs b off/\Rows av w r b (off + cs.length)
end
structure XA (av lb:Av) (w w':World):Prop where
 cell:∀ b o u,w.cell? ⟨b,o,none⟩=some u->¬ av b o->w'.cell? ⟨b,o,none⟩=some u/\¬ lb b o
mutual
theorem bE.held {av lb:Av} {w w':World} (h:XA av lb w w'):∀ (x:AV) (v:Value),bE av w x v->bE lb w' x v
 | .int _ _,_,hr=>by simpa [bE] using hr
 | .bool _,_,hr=>by simpa [bE] using hr
 | .str _,_,hr=>by simpa [bE] using hr
 | .nilP,_,hr=>by simpa [bE] using hr
 | .ip cs,_,hr=>by
  simp only [bE] at hr ⊢
  obtain ⟨b,off,rfl,hc⟩:=hr
  exact ⟨b,off,rfl,SE.held h cs b off hc⟩
 | .sl nil l,_,hr=>by
  simp only [bE] at hr ⊢
  obtain ⟨A,c,rfl,hc,hu,hn,hs⟩:=hr
  refine ⟨A,c,rfl,hc,hu,hn,fun hf=>⟨(hs hf).1,fun h0=>?_⟩⟩
  obtain ⟨b,off,rfl,ka⟩:=(hs hf).2 h0
  exact ⟨b,off,rfl,Rows.held h l b off ka⟩
 | .agg cs,_,hr=>by
  simp only [bE] at hr ⊢
  obtain ⟨us,rfl,hc⟩:=hr
  exact ⟨us,rfl,DC.held h cs _ hc⟩
 | .tup xs,_,hr=>by
  simp only [bE] at hr ⊢
  obtain ⟨us,rfl,hc⟩:=hr
  exact ⟨us,rfl,QO.held h xs _ hc⟩
 | .ptr ..,_,hr=>by simp [bE] at hr
 | .bp ..,_,hr=>by simp [bE] at hr
 | .bl ..,_,hr=>by simp [bE] at hr
 | .ref ..,_,hr=>by simp [bE] at hr
 | .mp ..,_,hr=>by simp [bE] at hr
 | .fn ..,_,hr=>by simp [bE] at hr
 | .undef,_,hr=>trivial
theorem DC.held {av lb:Av} {w w':World} (h:XA av lb w w'):∀ (xs:List AV) (us:List Value),DC av w xs us->DC lb w' xs us
 | [],_,hr=>by simpa [DC] using hr
 | x :: r,_,hr=>by
  simp only [DC] at hr ⊢
  obtain ⟨u,oa,rfl,hx,h1,hr⟩:=hr
  exact ⟨u,oa,rfl,bE.held h x u hx,h1,DC.held h r oa hr⟩
theorem QO.held {av lb:Av} {w w':World} (h:XA av lb w w'):∀ (xs:List AV) (us:List Value),QO av w xs us->QO lb w' xs us
 | [],_,hr=>by simpa [QO] using hr
 | x :: r,_,hr=>by
  simp only [QO] at hr ⊢
  obtain ⟨u,oa,rfl,hx,hr⟩:=hr
  exact ⟨u,oa,rfl,bE.held h x u hx,QO.held h r oa hr⟩
theorem SE.held {av lb:Av} {w w':World} (h:XA av lb w w'):∀ (cs:List AV) (b off:Nat),SE av w cs b off->SE lb w' cs b off
 | [],_,_,_=>by simp [SE]
 | x :: r,b,off,hr=>by
  simp only [SE] at hr ⊢
  obtain ⟨⟨u,hc,hx,h1⟩,ha,hr⟩:=hr
  obtain ⟨lf,ha'⟩:=h.cell b off u hc ha
  exact ⟨⟨u,lf,bE.held h x u hx,h1⟩,ha',SE.held h r b (off + 1) hr⟩
theorem Rows.held {av lb:Av} {w w':World} (h:XA av lb w w'):∀ (l:List (List AV)) (b off:Nat),Rows av w l b off->Rows lb w' l b off
 | [],_,_,_=>by simp [Rows]
 | cs :: r,b,off,hr=>by
  simp only [Rows] at hr ⊢
  exact ⟨SE.held h cs b off hr.1,Rows.held h r b (off + cs.length) hr.2⟩
end
theorem XA.refl (av:Av) (w:World):XA av av w w:=⟨fun _ _ _ hc ha=>⟨hc,ha⟩⟩
theorem XA.less {av lb:Av} {w:World} (h:∀ b o,lb b o->av b o):XA av lb w w:=⟨fun _ _ _ hc ha=>⟨hc,fun hx=>ha (h _ _ hx)⟩⟩
def bC (av SC:Av) (w:World):List AV->Nat->Nat->Prop
 | [],_,_=>True
 | x :: r,b,off=>(∃ u,w.cell? ⟨b,off,none⟩=some u/\bE av w x u/\u.oneCell'=true)/\¬ SC b off/\bC av SC w r b (off + 1)
def OM (av SC:Av) (w:World):List (List AV)->Nat->Nat->Prop
 | [],_,_=>True
 | cs :: r,b,off=>bC av SC w cs b off/\OM av SC w r b (off + cs.length)
theorem bC.held {av lb SC avB':Av} {w w':World} (h:XA av lb w w') (hB:XA SC avB' w w'):∀ (cs:List AV) (b off:Nat),bC av SC w cs b off->bC lb avB' w' cs b off
 | [],_,_,_=>by simp [bC]
 | x :: r,b,off,hr=>by
  simp only [bC] at hr ⊢;obtain ⟨⟨u,hc,hx,h1⟩,ha,hr⟩:=hr;obtain ⟨lf,ha'⟩:=hB.cell b off u hc ha;exact ⟨⟨u,lf,bE.held h x u hx,h1⟩,ha',bC.held h hB r b (off + 1) hr⟩
theorem OM.held {av lb SC avB':Av} {w w':World} (h:XA av lb w w') (hB:XA SC avB' w w'):∀ (l:List (List AV)) (b off:Nat),OM av SC w l b off->OM lb avB' w' l b off
 | [],_,_,_=>by simp [OM]
 | cs :: r,b,off,hr=>by
  simp only [OM] at hr ⊢;exact ⟨bC.held h hB cs b off hr.1,OM.held h hB r b (off + cs.length) hr.2⟩
def BA (ι:Ix) (av:Av) (w:World):AV->Value->Prop
 | .ptr t n off,v=>∃ b,ι t n=some b/\v=.pointer (some ⟨b,off,none⟩)
 | .ref t n sz off len cap,v=>∃ b,ι t n=some b/\len<=cap/\∃ c,cap<=c/\off + c * sz<=ι.z b/\v=.slice (some ⟨b,off,none⟩) len c
 | .mp t n,v=>∃ b,ι t n=some b/\v=.map (some b)
 | .undef,_=>True
 | x,v=>bE av w x v
def KA (ι:Ix) (av:Av) (w:World):List AV->List Value->Prop
 | [],us=>us=[]
 | x :: r,us=>∃ u oa,us=u :: oa/\BA ι av w x u/\u.oneCell'=true/\KA ι av w r oa
def GP (ι:Ix) (av:Av) (w:World):AV->Value->Prop
 | .agg cs,v=>∃ us,v=.agg us/\KA ι av w cs us.toList
 | x,v=>BA ι av w x v
def CG (ι:Ix) (av:Av) (w:World):List AV->List Value->Prop
 | [],us=>us=[]
 | x :: r,us=>∃ u oa,us=u :: oa/\GP ι av w x u/\CG ι av w r oa
def kW (ι:Ix) (av SC:Av) (w:World):AV->Value->Prop
 | .bp cs,v=>∃ b off,v=.pointer (some ⟨b,off,none⟩)/\bC av SC w cs b off
 | x,v=>BA ι av w x v
def tH (ι:Ix) (av SC:Av) (w:World):List AV->List Value->Prop
 | [],us=>us=[]
 | x :: r,us=>∃ u oa,us=u :: oa/\kW ι av SC w x u/\tH ι av SC w r oa
def NA (ι:Ix) (av SC:Av) (w:World):AV->Value->Prop
 | .bp cs,v=>∃ b off,v=.pointer (some ⟨b,off,none⟩)/\bC av SC w cs b off
 | .bl l,v=>∃ a c,v=.slice (some a) l.length c/\l.length<=c/\(∀ x∈l,∀ y∈l,x.length=y.length)/\(0<l.length->∃ b off,a=⟨b,off,none⟩/\OM av SC w l b off)
 | .agg cs,v=>∃ us,v=.agg us/\KA ι av w cs us.toList
 | .tup xs,v=>∃ us,v=.tuple us/\CG ι av w xs us.toList
 | .fn f cs,v=>∃ us,v=.func (.func f) #[] us/\tH ι av SC w cs us.toList
 | .undef,_=>True
 | x,v=>BA ι av w x v
theorem BA.held {ι ι':Ix} {av lb:Av} {w w':World} (hι:Ix.Le ι ι') (h:XA av lb w w') (x:AV) (v:Value) (hr:BA ι av w x v):BA ι' lb w' x v:=by
 cases x <;> first
  | exact bE.held h _ v hr
  | (obtain ⟨b,hb,h1,c,h2,h3,hv⟩:=hr; exact ⟨b,hι.f _ _ _ hb,h1,c,h2,by rw [hι.z _ _ _ hb]; exact h3,hv⟩)
  | (obtain ⟨b,hb,hv⟩:=hr; exact ⟨b,hι.f _ _ _ hb,hv⟩)
  | trivial
theorem KA.held {ι ι':Ix} {av lb:Av} {w w':World} (hι:Ix.Le ι ι') (h:XA av lb w w'):∀ (xs:List AV) (us:List Value),KA ι av w xs us->KA ι' lb w' xs us
 | [],_,hr=>by simpa [KA] using hr
 | x :: r,_,hr=>by
  simp only [KA] at hr ⊢;obtain ⟨u,oa,rfl,hx,h1,hr⟩:=hr;exact ⟨u,oa,rfl,BA.held hι h x u hx,h1,KA.held hι h r oa hr⟩
theorem GP.held {ι ι':Ix} {av lb:Av} {w w':World} (hι:Ix.Le ι ι') (h:XA av lb w w') (x:AV) (v:Value) (hr:GP ι av w x v):GP ι' lb w' x v:=by
 cases x with
 | agg cs=>obtain ⟨us,hv,hc⟩:=hr; exact ⟨us,hv,KA.held hι h _ _ hc⟩
 | int=>exact BA.held hι h (.int _ _) v hr
 | bool=>exact BA.held hι h (.bool _) v hr
 | str=>exact BA.held hι h (.str _) v hr
 | nilP=>exact BA.held hι h .nilP v hr
 | ptr t n o=>exact BA.held hι h (.ptr t n o) v hr
 | ip cs=>exact BA.held hι h (.ip cs) v hr
 | bp cs=>exact BA.held hι h (.bp cs) v hr
 | sl n l=>exact BA.held hι h (.sl n l) v hr
 | bl l=>exact BA.held hι h (.bl l) v hr
 | ref a b c d e f=>exact BA.held hι h (.ref a b c d e f) v hr
 | mp t n=>exact BA.held hι h (.mp t n) v hr
 | fn f cs=>exact BA.held hι h (.fn f cs) v hr
 | tup cs=>exact BA.held hι h (.tup cs) v hr
 | undef=>trivial
theorem CG.held {ι ι':Ix} {av lb:Av} {w w':World} (hι:Ix.Le ι ι') (h:XA av lb w w'):∀ (xs:List AV) (us:List Value),CG ι av w xs us->CG ι' lb w' xs us
 | [],_,hr=>by simpa [CG] using hr
 | x :: r,_,hr=>by
  simp only [CG] at hr ⊢;obtain ⟨u,oa,rfl,hx,hr⟩:=hr;exact ⟨u,oa,rfl,GP.held hι h x u hx,CG.held hι h r oa hr⟩
theorem kW.held {ι ι':Ix} {av lb SC avB':Av} {w w':World} (hι:Ix.Le ι ι') (h:XA av lb w w') (hB:XA SC avB' w w') (x:AV) (v:Value) (hr:kW ι av SC w x v):kW ι' lb avB' w' x v:=by
 match x,hr with
 | .bp cs,⟨b,off,hv,hc⟩=>exact ⟨b,off,hv,bC.held h hB _ b off hc⟩
 | .int k n,hr=>exact BA.held hι h (.int k n) v hr
 | .bool b,hr=>exact BA.held hι h (.bool b) v hr
 | .str s,hr=>exact BA.held hι h (.str s) v hr
 | .nilP,hr=>exact BA.held hι h .nilP v hr
 | .ptr t n off,hr=>exact BA.held hι h (.ptr t n off) v hr
 | .ip cs,hr=>exact BA.held hι h (.ip cs) v hr
 | .sl n l,hr=>exact BA.held hι h (.sl n l) v hr
 | .mp t n,hr=>exact BA.held hι h (.mp t n) v hr
 | .ref t n sz off len cap,hr=>exact BA.held hι h (.ref t n sz off len cap) v hr
 | .undef,hr=>trivial
 | .agg cs,hr=>exact BA.held hι h (.agg cs) v hr
 | .tup cs,hr=>exact BA.held hι h (.tup cs) v hr
theorem tH.held {ι ι':Ix} {av lb SC avB':Av} {w w':World} (hι:Ix.Le ι ι') (h:XA av lb w w') (hB:XA SC avB' w w'):∀ (xs:List AV) (us:List Value),tH ι av SC w xs us->tH ι' lb avB' w' xs us
 | [],_,hr=>by simpa [tH] using hr
 | x :: r,_,hr=>by
  simp only [tH] at hr ⊢;obtain ⟨u,oa,rfl,hx,hr⟩:=hr;exact ⟨u,oa,rfl,kW.held hι h hB x u hx,tH.held hι h hB r oa hr⟩
theorem NA.held {ι ι':Ix} {av lb SC avB':Av} {w w':World} (hι:Ix.Le ι ι') (h:XA av lb w w') (hB:XA SC avB' w w') (x:AV) (v:Value) (hr:NA ι av SC w x v):NA ι' lb avB' w' x v:=by
 match x,hr with
 | .bp cs,⟨b,off,hv,hc⟩=>exact ⟨b,off,hv,bC.held h hB _ b off hc⟩
 | .bl l,⟨a,c,hv,hl,hu,hc⟩ =>
  refine ⟨a,c,hv,hl,hu,fun h0=>?_⟩;obtain ⟨b,off,ha,hr⟩:=hc h0;exact ⟨b,off,ha,OM.held h hB _ b off hr⟩
 | .agg cs,⟨us,hv,hc⟩=>exact ⟨us,hv,KA.held hι h _ _ hc⟩
 | .undef,_=>trivial
 | .int k n,hr=>exact BA.held hι h (.int k n) v hr
 | .bool b,hr=>exact BA.held hι h (.bool b) v hr
 | .str s,hr=>exact BA.held hι h (.str s) v hr
 | .nilP,hr=>exact BA.held hι h .nilP v hr
 | .ptr t n off,hr=>exact BA.held hι h (.ptr t n off) v hr
 | .ip cs,hr=>exact BA.held hι h (.ip cs) v hr
 | .sl n l,hr=>exact BA.held hι h (.sl n l) v hr
 | .mp t n,hr=>exact BA.held hι h (.mp t n) v hr
 | .ref t n sz off len cap,hr=>exact BA.held hι h (.ref t n sz off len cap) v hr
 | .tup vs,⟨us,hv,hc⟩=>exact ⟨us,hv,CG.held hι h _ _ hc⟩
 | .fn f cs,⟨us,hv,hc⟩=>exact ⟨us,hv,tH.held hι h hB _ _ hc⟩
end
section
open Go Go.RowKit
structure cP where
 b:Nat->Prop
 p:Option Nat
 r:Nat->Prop
 z:Nat
 /-- what the slots of the calls that wait mi -/
 g:Nat->Value
instance:CoeFun cP (fun _=>Nat->Prop):=⟨cP.b⟩
structure Ow where
 g:Nat
 n:Nat
 c:Nat
 sz:Nat
 e:TypeId
abbrev IL:=Nat->Option Ow
def Ix.has (ι:Ix) (b:Nat):Prop:=(∃ t n,ι t n=some b)\/∃ t n H,ι.ob t n=some H/\H b
def SC (ι:Ix) (Θ:IL):Av:=fun b o=>ι.has b\/(∃ k ow,Θ k=some ow/\ow.g=b/\ow.n * ow.sz<=o)
def AC (da:Av) (ι:Ix) (Θ:IL):Av:=fun b o=>da b o\/SC ι Θ b o
def exV (v:Value):Prop:=∃ A n,v=.slice A n n
def RM (Θ:IL):An->Value->Prop
 | .no,_=>True
 | .ex,v=>exV v
 | .own k e,v=>exV v\/∃ ow,Θ k=some ow/\ow.e=e/\v=.slice (some ⟨ow.g,0,none⟩) ow.n ow.c
def BD (ι:Ix) (Θ:IL) (av:Av) (w:World) (r:List rA) (cur:Array Value):Prop :=
 r.length<=cur.size/\∀ (j:Nat) (x:rA),r[j]?=some x->∃ u,cur[j]?=some u/\u.oneCell'=true/\BA ι av w x.v u/\RM Θ x.a u
def ObOk (B:Nat) (F0:cP) (D:Nat->Prop) (next:Nat) (w:World) (ι:Ix) (Θ:IL) (t n:Nat) (H:Nat->Prop):Prop :=
 (∀ b,H b->(B<=b\/F0 b)/\b<w.heap.size/\(∀ t' n',ι t' n'=some b->t'=t/\n'=n)/\(∀ k o,Θ k=some o->o.g≠b)/\∀ t' n' H',ι.ob t' n'=some H'->H' b->t'=t/\n'=n)/\(n<next\/n=next/\D t)
def Q6 (ι:Ix) (S:AV) (p:Nat) (w:World):Prop:=∀ tm nm N seen,uY S=some (tm,nm,N,seen)->∃ m H,ι tm nm=some m/\ι.ob tm nm=some H/\w.heap[p]?=some (.mapIter (some m) N seen.toArray N)
theorem Q6.no {ι:Ix} {S:AV} {p:Nat} {w:World} (h:Q5 S=true):Q6 ι S p w:=fun tm nm N seen e=>by
 unfold Q5 at h;rw [e] at h;cases h
theorem Q6.keep {ι ι':Ix} {S:AV} {p:Nat} {w w':World} (h:Q6 ι S p w) (hι:∀ t n b H,ι t n=some b->ι.ob t n=some H->ι' t n=some b/\∃ H',ι'.ob t n=some H') (hp:∀ x,w.heap[p]?=some x->w'.heap[p]?=some x):Q6 ι' S p w':=fun tm nm N seen e=>by
 obtain ⟨m,H,h1,h2,h3⟩:=h tm nm N seen e;obtain ⟨g1,H',g2⟩:=hι _ _ _ _ h1 h2;exact ⟨m,H',g1,g2,hp _ h3⟩
structure dC (P:Program) (O:GI) (nt B:Nat) (F0:cP) (da:Av) (w0:World) (D:Nat->Prop) (s:aA) (a:Act) (w:World) (ι:Ix) (Θ:IL):Prop where
 defers:a.defers=[]
 size:a.tmps.size=nt
 env:∀ t,NA ι (AC da ι Θ) (SC ι Θ) w (s.env t).v (a.tmps.getD t undef)
 ann:∀ t,RM Θ (s.env t).a (a.tmps.getD t undef)
 rows:∀ t n r,s.mem t n=some r->ι.ob t n=none/\∃ b cur ty,ι t n=some b/\w.heap[b]?=some (.cells cur ty (0,0))/\BD ι Θ (AC da ι Θ) w r cur/\(B<=b\/F0.r b)/\cur.size=ι.z b
 mine:∀ t n b,ι t n=some b->(B<=b\/F0 b)/\b<w.heap.size/\(n<s.next\/n=s.next/\D t)
 inj:∀ t n t' n' b,ι t n=some b->ι t' n'=some b->t=t'/\n=n'
 tok:∀ k o,Θ k=some o->B<=o.g/\0<o.sz/\o.n<=o.c/\o.c<=maxLen/\∃ cur,w.heap[o.g]?=some (.cells cur o.e (0,0))/\(cur.size=o.c * o.sz/\gC P o.e=some o.sz)
 tinj:∀ k k' o o',Θ k=some o->Θ k'=some o'->o.g=o'.g->k=k'
 apart:∀ k o t n,Θ k=some o->ι t n≠some o.g
 out:∀ b o,da b o->b<B
 pin:∀ p,F0.p=some p->ι 0 0=some p/\((F0.r p/\ι.z p=F0.z)\/∃ H,ι.ob 0 0=some H)
 kept:QC F0.b w0 w
 base:B=w0.heap.size
 objs:∀ t n S,s.obj t n=some S->∃ p H,ι t n=some p/\ι.ob t n=some H/\O.at_ S H p w/\Q6 ι S p w
 obs:∀ t n H,ι.ob t n=some H->ObOk B F0 D s.next w ι Θ t n H
 gen:∀ t,NA ι (AC da ι Θ) (SC ι Θ) w (s.gh t).v (F0.g t)
 gann:∀ t,RM Θ (s.gh t).a (F0.g t)
section
variable {P:Program} {O:GI} {nt B:Nat} {F0:cP} {da:Av} {w0:World} {D:Nat->Prop} {s:aA} {a:Act} {w w':World} {ι:Ix} {Θ:IL}
theorem SI {w:World} {b o:Nat} {u:Value} (h:w.cell? ⟨b,o,none⟩=some u):b<w.heap.size:=World.block_lt_of_cell? w ⟨b,o,none⟩ (by exact h)
theorem XA.grown {av lb:Av} (hb:∀ b,b<w.heap.size->w'.heap[b]?=w.heap[b]?) (ha:∀ b o,b<w.heap.size->lb b o->av b o):XA av lb w w' :=
 ⟨fun b o _ hc hn=>⟨(World.cell?_of_block (w:=w) (a:=⟨b,o,none⟩) (hb b (SI hc))).trans hc,fun h=>hn (ha b o (SI hc) h)⟩⟩
theorem BD.held {ι ι':Ix} {Θ Θ':IL} {av lb:Av} {r:List rA} {cur:Array Value} (h:BD ι Θ av w r cur) (hι:Ix.Le ι ι') (hh:XA av lb w w') (hΘ:∀ k o,Θ k=some o->Θ' k=some o):BD ι' Θ' lb w' r cur:=by
 refine ⟨h.1,fun j x hx=>?_⟩;obtain ⟨u,hu,h1,hr,ha⟩:=h.2 j x hx;refine ⟨u,hu,h1,BA.held hι hh _ _ hr,?_⟩;cases hxa:x.a with
 | no=>trivial
 | ex=>rw [hxa] at ha; exact ha
 | own k e =>
  rw [hxa] at ha;rcases ha with ha | ⟨ow,h1,h2⟩
  ·exact .inl ha
  ·exact .inr ⟨ow,hΘ _ _ h1,h2⟩
theorem ObOk.grow {t n:Nat} {H:Nat->Prop} {next:Nat} (h:ObOk B F0 D next w ι Θ t n H) (hs:w.heap.size<=w'.heap.size):ObOk B F0 D next w' ι Θ t n H :=
 ⟨fun b hb=>let ⟨h1,h2,h3⟩:=h.1 b hb; ⟨h1,yW h2 hs,h3⟩,h.2⟩
theorem dC.grow (R:dC P O nt B F0 da w0 D s a w ι Θ) (hb:∀ b,b<w.heap.size->w'.heap[b]?=w.heap[b]?) (hs:w.heap.size<=w'.heap.size) (hw:QC F0.b w0 w'):dC P O nt B F0 da w0 D s a w' ι Θ:=by
 have hA:XA (AC da ι Θ) (AC da ι Θ) w w':=XA.grown hb fun _ _ _ h=>h
 have hB:XA (SC ι Θ) (SC ι Θ) w w':=XA.grown hb fun _ _ _ h=>h
 refine ⟨R.defers,R.size,fun t=>NA.held (Ix.Le.refl _) hA hB _ _ (R.env t),R.ann,fun t n r hr=>?_,fun t n b h=>?_,R.inj,fun k o h=>?_,R.tinj,R.apart,R.out,R.pin,hw,R.base,fun t n S h=>?_,fun t n H h=>(R.obs t n H h).grow hs,fun t=>NA.held (Ix.Le.refl _) hA hB _ _ (R.gen t),R.gann⟩
 ·obtain ⟨h0,b,cur,ty,h1,h2,h3,h4⟩:=R.rows t n r hr;exact ⟨h0,b,cur,ty,h1,(hb b (TA h2)).trans h2,h3.held (Ix.Le.refl _) hA (fun _ _ h=>h),h4⟩
 ·obtain ⟨h1,h2,h3⟩:=R.mine t n b h;exact ⟨h1,by omega,h3⟩
 ·obtain ⟨h1,h2,h3,h4,cur,h5,h6⟩:=R.tok k o h;exact ⟨h1,h2,h3,h4,cur,(hb _ (TA h5)).trans h5,h6⟩
 ·obtain ⟨p,H,h1,h2,h3,h4⟩:=R.objs t n S h;exact ⟨p,H,h1,h2,O.keep h3 (fun b hH=>hb b (O.lt h3 hH)) hs,h4.keep (fun t n b H h g=>⟨h,H,g⟩) fun x hx=>(hb _ (TA hx)).trans hx⟩
theorem I7 {a:Act} {d t:Nat} {v:Value} (hd:d<a.tmps.size):(a.put (some d) v).tmps.getD t undef=if t=d then v else a.tmps.getD t undef:=by
 simp only [Act.put,yY,Array.getElem?_setIfInBounds];by_cases h:d=t
 ·subst h; simp [hd]
 ·have h':¬ t=d:=fun e=>h e.symm
  simp [h,h']
theorem dC.put (R:dC P O nt B F0 da w0 D s a w ι Θ) {d:Nat} (hd:d<nt) {x:rA} {v:Value} (hx:NA ι (AC da ι Θ) (SC ι Θ) w x.v v) (ha:RM Θ x.a v):dC P O nt B F0 da w0 D (s.put (some d) x) (a.put (some d) v) w ι Θ:=by
 have sr:d<a.tmps.size:=by rw [R.size]; exact hd
 refine ⟨R.defers,by simpa [Act.put] using R.size,fun t=>?_,fun t=>?_,R.rows,R.mine,R.inj,R.tok,R.tinj,R.apart,R.out,R.pin,R.kept,R.base,R.objs,R.obs,R.gen,R.gann⟩
 ·rw [I7 sr];simp only [aA.put];by_cases h:t=d
  ·simp only [if_pos h]; exact hx
  ·simp only [if_neg h]; exact R.env t
 ·rw [I7 sr];simp only [aA.put];by_cases h:t=d
  ·simp only [if_pos h]; exact ha
  ·simp only [if_neg h]; exact R.ann t
theorem dC.putN (R:dC P O nt B F0 da w0 D s a w ι Θ) {d:Option Nat} (hd:∀ t,d=some t->t<nt) {x:rA} {v:Value} (hx:NA ι (AC da ι Θ) (SC ι Θ) w x.v v) (ha:RM Θ x.a v):dC P O nt B F0 da w0 D (s.put d x) (a.put d v) w ι Θ:=by
 cases d with
 | none=>exact R
 | some d=>exact R.put (hd d rfl) hx ha
theorem dC.more (R:dC P O nt B F0 da w0 D s a w ι Θ) {D':Nat->Prop} (h:∀ t,D t->D' t):dC P O nt B F0 da w0 D' s a w ι Θ :=
 ⟨R.defers,R.size,R.env,R.ann,R.rows,fun t n b hb=>let ⟨h1,h2,h3⟩:=R.mine t n b hb; ⟨h1,h2,h3.imp id fun ⟨e,d⟩=>⟨e,h t d⟩⟩,R.inj,R.tok,R.tinj,R.apart,R.out,R.pin,R.kept,R.base,R.objs,fun t n H hb=>⟨(R.obs t n H hb).1,(R.obs t n H hb).2.imp id fun ⟨e,d⟩=>⟨e,h t d⟩⟩,R.gen,R.gann⟩
structure Ix.Lk (t n:Nat) (ι ι':Ix):Prop where
 f:∀ t' n' b,¬ (t'=t/\n'=n)->ι t' n'=some b->ι' t' n'=some b
 z:∀ t n b,ι t n=some b->ι'.z b=ι.z b
theorem BA.kill {t n:Nat} {ι ι':Ix} {av lb:Av} (hι:Ix.Lk t n ι ι') (h:XA av lb w w') (x:AV) (v:Value) (hr:BA ι av w x v):BA ι' lb w' (x.kill0 t n) v:=by
 cases x with
 | ptr t' n' o =>
  obtain ⟨b,hb,hv⟩:=hr;simp only [AV.kill0];split
  ·trivial
  ·rename_i ta; exact ⟨b,hι.f _ _ _ ta hb,hv⟩
 | ref t' n' sz o l c =>
  obtain ⟨b,hb,h1,c',h2,h3,hv⟩:=hr;simp only [AV.kill0];split
  ·trivial
  ·rename_i ta; exact ⟨b,hι.f _ _ _ ta hb,h1,c',h2,by rw [hι.z _ _ _ hb]; exact h3,hv⟩
 | mp t' n' =>
  obtain ⟨b,hb,hv⟩:=hr;simp only [AV.kill0];split
  ·trivial
  ·rename_i ta; exact ⟨b,hι.f _ _ _ ta hb,hv⟩
 | undef=>trivial
 | _=>exact bE.held h _ v hr
theorem KA.kill {t n:Nat} {ι ι':Ix} {av lb:Av} (hι:Ix.Lk t n ι ι') (h:XA av lb w w'):∀ (xs:List AV) (us:List Value),KA ι av w xs us->KA ι' lb w' (xs.map (AV.kill0 t n)) us
 | [],_,hr=>by simpa [KA] using hr
 | x :: r,_,hr=>by
  simp only [KA] at hr;obtain ⟨u,oa,rfl,hx,h1,hr⟩:=hr;exact ⟨u,oa,rfl,BA.kill hι h x u hx,h1,KA.kill hι h r oa hr⟩
theorem GP.kill {t n:Nat} {ι ι':Ix} {av lb:Av} (hι:Ix.Lk t n ι ι') (h:XA av lb w w') (x:AV) (v:Value) (hr:GP ι av w x v):GP ι' lb w' (x.kill1 t n) v:=by
 cases x with
 | agg cs=>obtain ⟨us,hv,hc⟩:=hr; exact ⟨us,hv,KA.kill hι h _ _ hc⟩
 | ptr t' n' o =>
  have:=BA.kill hι h (.ptr t' n' o) v hr;show GP ι' lb w' (AV.kill0 t n (.ptr t' n' o)) v;simp only [AV.kill0] at this ⊢;split
  ·trivial
  ·rename_i ta; rw [if_neg ta] at this; exact this
 | ref t' n' sz o l c =>
  have:=BA.kill hι h (.ref t' n' sz o l c) v hr;show GP ι' lb w' (AV.kill0 t n (.ref t' n' sz o l c)) v;simp only [AV.kill0] at this ⊢;split
  ·trivial
  ·rename_i ta; rw [if_neg ta] at this; exact this
 | mp t' n' =>
  have:=BA.kill hι h (.mp t' n') v hr;show GP ι' lb w' (AV.kill0 t n (.mp t' n')) v;simp only [AV.kill0] at this ⊢;split
  ·trivial
  ·rename_i ta; rw [if_neg ta] at this; exact this
 | undef=>trivial
 | int=>exact BA.kill hι h (.int _ _) v hr
 | bool=>exact BA.kill hι h (.bool _) v hr
 | str=>exact BA.kill hι h (.str _) v hr
 | nilP=>exact BA.kill hι h .nilP v hr
 | ip=>exact BA.kill hι h (.ip _) v hr
 | sl n' l=>exact BA.kill hι h (.sl n' l) v hr
 | tup cs=>exact BA.kill hι h (.tup cs) v hr
 | bl cs=>exact BA.kill hι h (.bl cs) v hr
 | bp cs=>exact BA.kill hι h (.bp cs) v hr
 | fn f cs=>exact BA.kill hι h (.fn f cs) v hr
theorem CG.kill {t n:Nat} {ι ι':Ix} {av lb:Av} (hι:Ix.Lk t n ι ι') (h:XA av lb w w'):∀ (xs:List AV) (us:List Value),CG ι av w xs us->CG ι' lb w' (xs.map (AV.kill1 t n)) us
 | [],_,hr=>by simpa [CG] using hr
 | x :: r,_,hr=>by
  simp only [CG] at hr;obtain ⟨u,oa,rfl,hx,hr⟩:=hr;exact ⟨u,oa,rfl,GP.kill hι h x u hx,CG.kill hι h r oa hr⟩
theorem kW.kill {t n:Nat} {ι ι':Ix} {av lb SC avB':Av} (hι:Ix.Lk t n ι ι') (h:XA av lb w w') (hB:XA SC avB' w w') (x:AV) (v:Value) (hr:kW ι av SC w x v):kW ι' lb avB' w' (x.kill0 t n) v:=by
 cases x with
 | bp cs=>obtain ⟨b,off,hv,hc⟩:=hr; exact ⟨b,off,hv,bC.held h hB _ b off hc⟩
 | ptr t' n' o =>
  have:=BA.kill hι h (.ptr t' n' o) v hr;simp only [AV.kill0] at this ⊢;split
  ·trivial
  ·rename_i ta; rw [if_neg ta] at this; exact this
 | ref t' n' sz o l c =>
  have:=BA.kill hι h (.ref t' n' sz o l c) v hr;simp only [AV.kill0] at this ⊢;split
  ·trivial
  ·rename_i ta; rw [if_neg ta] at this; exact this
 | mp t' n' =>
  have:=BA.kill hι h (.mp t' n') v hr;simp only [AV.kill0] at this ⊢;split
  ·trivial
  ·rename_i ta; rw [if_neg ta] at this; exact this
 | undef=>trivial
 | int=>exact BA.kill hι h (.int _ _) v hr
 | bool=>exact BA.kill hι h (.bool _) v hr
 | str=>exact BA.kill hι h (.str _) v hr
 | nilP=>exact BA.kill hι h .nilP v hr
 | ip=>exact BA.kill hι h (.ip _) v hr
 | sl=>exact BA.kill hι h (.sl _ _) v hr
 | agg cs=>exact BA.kill hι h (.agg cs) v hr
 | tup cs=>exact BA.kill hι h (.tup cs) v hr
 | bl cs=>exact BA.kill hι h (.bl cs) v hr
 | fn f cs=>exact BA.kill hι h (.fn f cs) v hr
theorem tH.kill {t n:Nat} {ι ι':Ix} {av lb SC avB':Av} (hι:Ix.Lk t n ι ι') (h:XA av lb w w') (hB:XA SC avB' w w'):∀ (xs:List AV) (us:List Value),tH ι av SC w xs us->tH ι' lb avB' w' (xs.map (AV.kill0 t n)) us
 | [],_,hr=>by simpa [tH] using hr
 | x :: r,_,hr=>by
  simp only [tH] at hr;obtain ⟨u,oa,rfl,hx,hr⟩:=hr;exact ⟨u,oa,rfl,kW.kill hι h hB x u hx,tH.kill hι h hB r oa hr⟩
theorem NA.kill {t n:Nat} {ι ι':Ix} {av lb SC avB':Av} (hι:Ix.Lk t n ι ι') (h:XA av lb w w') (hB:XA SC avB' w w') (x:AV) (v:Value) (hr:NA ι av SC w x v):NA ι' lb avB' w' (x.kill t n) v:=by
 cases x with
 | bp cs=>obtain ⟨b,off,hv,hc⟩:=hr; exact ⟨b,off,hv,bC.held h hB _ b off hc⟩
 | bl l =>
  obtain ⟨a,c,hv,hl,hu,hc⟩:=hr;refine ⟨a,c,hv,hl,hu,fun h0=>?_⟩;obtain ⟨b,off,ha,hr⟩:=hc h0;exact ⟨b,off,ha,OM.held h hB _ b off hr⟩
 | agg cs=>obtain ⟨us,hv,hc⟩:=hr; exact ⟨us,hv,KA.kill hι h _ _ hc⟩
 | tup cs=>obtain ⟨us,hv,hc⟩:=hr; exact ⟨us,hv,CG.kill hι h _ _ hc⟩
 | fn f cs=>obtain ⟨us,hv,hc⟩:=hr; exact ⟨us,hv,tH.kill hι h hB _ _ hc⟩
 | undef=>trivial
 | ptr t' n' o =>
  have:=BA.kill hι h (.ptr t' n' o) v hr;show NA ι' lb avB' w' (AV.kill0 t n (.ptr t' n' o)) v;simp only [AV.kill0] at this ⊢;split
  ·trivial
  ·rename_i ta; rw [if_neg ta] at this; exact this
 | ref t' n' sz o l c =>
  have:=BA.kill hι h (.ref t' n' sz o l c) v hr;show NA ι' lb avB' w' (AV.kill0 t n (.ref t' n' sz o l c)) v;simp only [AV.kill0] at this ⊢;split
  ·trivial
  ·rename_i ta; rw [if_neg ta] at this; exact this
 | mp t' n' =>
  have:=BA.kill hι h (.mp t' n') v hr;show NA ι' lb avB' w' (AV.kill0 t n (.mp t' n')) v;simp only [AV.kill0] at this ⊢;split
  ·trivial
  ·rename_i ta; rw [if_neg ta] at this; exact this
 | int=>exact BA.kill hι h (.int _ _) v hr
 | bool=>exact BA.kill hι h (.bool _) v hr
 | str=>exact BA.kill hι h (.str _) v hr
 | nilP=>exact BA.kill hι h .nilP v hr
 | ip=>exact BA.kill hι h (.ip _) v hr
 | sl=>exact BA.kill hι h (.sl _ _) v hr
theorem xX {v:Value} {x:AV} (h:NZ v=some x) (av:Av) (w:World):bE av w x v/\v.oneCell'=true/\x.leaf=true/\(∀ n l,x=.sl n l->n=true/\v=.slice none 0 0):=by
 unfold NZ at h;split at h <;> first
  | (injection h with h; subst h; simp [bE,Value.oneCell',AV.leaf]; done)
  | (cases h; done)
theorem DP {ι:Ix} {av SC:Av} {w:World} {x:AV} {v:Value} (h:bE av w x v) (hx:x.leaf=true):NA ι av SC w x v:=by
 cases x <;> first | exact h | (simp [AV.leaf] at hx; done) | (simp [bE] at h; done)
theorem jL {ι:Ix} {av:Av} {w:World} {x:AV} {v:Value} (h:bE av w x v):BA ι av w x v:=by
 cases x <;> first | exact h | simp [bE] at h
theorem wJ {ι:Ix}:∀ {vs:List Value} {xs:List AV} (_:lL vs=some xs) (av:Av) (w:World),KA ι av w xs vs
 | [],_,h,_,_=>by injection h with h; subst h; rfl
 | v :: r,_,h,av,w=>by
  unfold lL at h;cases hv:NZ v with
  | none=>rw [hv] at h; cases h
  | some x =>
   rw [hv] at h;cases hr:lL r with
   | none=>rw [hr] at h; cases h
   | some l =>
    rw [hr] at h;injection h with h;subst h;have h1:=xX hv av w;exact ⟨v,r,rfl,jL h1.1,h1.2.1,wJ hr av w⟩
theorem avC_rep {v:Value} {x:AV} (h:avC v=some x) (ι:Ix) (av SC:Av) (w:World):NA ι av SC w x v:=by
 unfold avC at h;split at h
 ·rename_i cs;cases hc:lL cs.toList with
  | none=>rw [hc] at h; cases h
  | some l =>
   rw [hc] at h;injection h with h;subst h;exact ⟨cs,rfl,wJ hc av w⟩
 ·have:=xX h av w;exact DP this.1 this.2.2.1
theorem avC_nil {v:Value} {b:Bool} {l:List (List AV)} (h:avC v=some (.sl b l)):b=true/\v=.slice none 0 0:=by
 unfold avC at h;split at h
 ·rename_i cs;cases hc:lL cs.toList with
  | none=>rw [hc] at h; cases h
  | some l=>rw [hc] at h; injection h with h; cases h
 ·exact (xX h (fun _ _=>False) default).2.2.2 _ _ rfl
theorem dC.opd (R:dC P O nt B F0 da w0 D s a w ι Θ) {x:Operand} {y:CB} (h:opd x=some y):NA ι (AC da ι Θ) (SC ι Θ) w (y.get s) (a.eval x)/\RM Θ (y.an s) (a.eval x):=by
 unfold YtjoaiabjebpbjaaGreat.opd at h;split at h
 ·injection h with h;subst h;exact ⟨R.env _,R.ann _⟩
 ·rename_i v;cases hc:avC v with
  | none=>rw [hc] at h; cases h
  | some x =>
   rw [hc] at h;injection h with h;subst h;refine ⟨avC_rep hc _ _ _ _,?_⟩;cases x with
   | sl b l =>
    obtain ⟨rfl,hv⟩:=avC_nil hc;exact ⟨none,0,hv⟩
   | _=>trivial
 ·injection h with h;subst h;exact ⟨⟨#[],rfl,rfl⟩,trivial⟩
 ·cases h
end
end
section
open Go Go.RowKit
section
variable {P:Program} {O:GI} {nt B:Nat} {F0:cP} {da:Av} {w0:World} {D:Nat->Prop} {s:aA} {a:Act} {w w':World} {ι:Ix} {Θ:IL}
theorem bQ {t:TypeId} {b:Bool} (h:rK P t=some b) (w:World):(isAgg t).run P w=.ok b w:=by
 unfold rK at h;cases hu:P.underlying t with
 | none=>rw [hu] at h; cases h
 | some d =>
  rw [hu] at h;injection h with h;subst h;cases d <;> simp [isAgg,run_underlying hu]
theorem nC {t:TypeId} {z:Nat} (h:gC P t=some z) (w:World):(sizeOf t).run P w=.ok z w:=by
 unfold gC at h;cases hu:P.info? t with
 | none=>rw [hu] at h; cases h
 | some d =>
  rw [hu] at h;injection h with h;subst h;simp [sizeOf,typeInfo,hu]
theorem LG {t:TypeId} {l:List AV} (h:tK P t=some l) (w:World):∃ z i,P.info? t=some i/\i.zero=some z/\(zeroValue t).run P w=.ok z w/\lL z.cells.toList=some l:=by
 unfold tK at h;cases hu:P.info? t with
 | none=>rw [hu] at h; cases h
 | some d =>
  rw [hu] at h;cases hz:d.zero with
  | none=>simp [hz] at h
  | some z =>
   simp only [V,hz] at h;exact ⟨z,d,rfl,hz,by simp [zeroValue,typeInfo,hu,hz],h⟩
theorem kG:∀ {vs:List Value} {xs:List AV},lL vs=some xs->xs.length=vs.length
 | [],_,h=>by injection h with h; subst h; rfl
 | v :: r,_,h=>by
  unfold lL at h;cases hv:NZ v with
  | none=>rw [hv] at h; cases h
  | some x =>
   rw [hv] at h;cases hr:lL r with
   | none=>rw [hr] at h; cases h
   | some l=>rw [hr] at h; injection h with h; subst h; simp [kG hr]
def lS (P:Program) (da:Av) (a:Act) (w:World) (ι:Ix) (Θ:IL) (o:Oper) (x:rA):Prop :=
 ∃ v,(execOp a.eval o).run P w=.ok (.value v) w/\NA ι (AC da ι Θ) (SC ι Θ) w x.v v/\RM Θ x.a v
section
variable {av avb:Av}
include av avb
theorem jB {k:IntKind} {n:Int} {v:Value}:NA ι av avb w (.int k n) v ↔ v=.int k n:=by simp [NA,BA,bE]
theorem SB {b:Bool} {v:Value}:NA ι av avb w (.bool b) v ↔ v=.bool b:=by simp [NA,BA,bE]
theorem GG {b:ByteArray} {v:Value}:NA ι av avb w (.str b) v ↔ v=.string b:=by simp [NA,BA,bE]
theorem Z3 {v:Value}:NA ι av avb w .nilP v ↔ v=.pointer none:=by simp [NA,BA,bE]
theorem AF {t n off:Nat} {v:Value}:NA ι av avb w (.ptr t n off) v ↔ ∃ b,ι t n=some b/\v=.pointer (some ⟨b,off,none⟩):=Iff.rfl
theorem nH {t n sz off len cap:Nat} {v:Value}:NA ι av avb w (.ref t n sz off len cap) v ↔ ∃ b,ι t n=some b/\len<=cap/\∃ c,cap<=c/\off + c * sz<=ι.z b/\v=.slice (some ⟨b,off,none⟩) len c:=Iff.rfl
theorem zM {cs:List AV} {v:Value}:NA ι av avb w (.ip cs) v ↔ ∃ b off,v=.pointer (some ⟨b,off,none⟩)/\SE av w cs b off:=by simp [NA,BA,bE]
theorem XD {nil:Bool} {l:List (List AV)} {v:Value}:NA ι av avb w (.sl nil l) v ↔ bE av w (.sl nil l) v:=Iff.rfl
theorem lZ {cs:List AV} {v:Value}:NA ι av avb w (.agg cs) v ↔ ∃ us,v=.agg us/\KA ι av w cs us.toList:=Iff.rfl
theorem repS_tup {cs:List AV} {v:Value}:NA ι av avb w (.tup cs) v ↔ ∃ us,v=.tuple us/\CG ι av w cs us.toList:=Iff.rfl
end
theorem gD {av:Av}:∀ {xs:List AV} {us:List Value},KA ι av w xs us->us.length=xs.length
 | [],_,h=>by simp only [KA] at h; subst h; rfl
 | x :: r,_,h=>by
  simp only [KA] at h;obtain ⟨u,oa,rfl,_,_,h⟩:=h;simp [gD h]
theorem SF {av:Av}:∀ {xs:List AV} {us:List Value} (n:Nat),KA ι av w xs us->KA ι av w (xs.drop n) (us.drop n)
 | [],_,n,h=>by simp only [KA] at h; subst h; simp [KA]
 | x :: r,_,n,h=>by
  cases n with
  | zero=>exact h
  | succ n =>
   simp only [KA] at h;obtain ⟨u,oa,rfl,_,_,h⟩:=h;exact SF n h
theorem jG {av:Av}:∀ {xs:List AV} {us:List Value} (n:Nat),KA ι av w xs us->KA ι av w (xs.take n) (us.take n)
 | [],_,n,h=>by simp only [KA] at h; subst h; simp [KA]
 | x :: r,_,n,h=>by
  cases n with
  | zero=>simp [KA]
  | succ n =>
   simp only [KA] at h;obtain ⟨u,oa,rfl,h0,h1,h⟩:=h;exact ⟨u,oa.take n,rfl,h0,h1,jG n h⟩
theorem jK {av:Av}:∀ {xs:List AV} {us:List Value} (_:KA ι av w xs us) {j:Nat} {x:AV},xs[j]?=some x->∃ u,us[j]?=some u/\u.oneCell'=true/\BA ι av w x u
 | [],_,_,_,_,hx=>by simp at hx
 | y :: r,_,h,j,x,hx=>by
  simp only [KA] at h;obtain ⟨u,oa,rfl,h0,h1,h⟩:=h;cases j with
  | zero=>simp at hx; subst hx; exact ⟨u,rfl,h1,h0⟩
  | succ j=>exact jK h (j:=j) (by simpa using hx)
theorem WH {av:Av}:∀ {xs ys:List AV} {us vs:List Value},KA ι av w xs us->KA ι av w ys vs->KA ι av w (xs++ys) (us++vs)
 | [],_,_,_,h,h'=>by simp only [KA] at h; subst h; exact h'
 | x :: r,_,_,_,h,h'=>by
  simp only [KA] at h;obtain ⟨u,oa,rfl,h0,h1,h⟩:=h;exact ⟨u,oa++_,rfl,h0,h1,WH h h'⟩
theorem mD {av:Av}:∀ {xs:List AV} {us:List Value},DC av w xs us->KA ι av w xs us
 | [],_,h=>by simpa [DC,KA] using h
 | x :: r,_,h=>by
  simp only [DC] at h;obtain ⟨u,oa,rfl,h0,h1,h⟩:=h;exact ⟨u,oa,rfl,jL h0,h1,mD h⟩
theorem TR {av:Av}:∀ {cs:List AV} {b off:Nat},SE av w cs b off->∃ us,DC av w cs us/\∀ (j:Nat) (u:Value),us[j]?=some u->w.cell? ⟨b,off + j,none⟩=some u/\¬ av b (off + j)
 | [],_,_,_=>⟨[],rfl,fun j u h=>by simp at h⟩
 | x :: r,b,off,h=>by
  simp only [SE] at h;obtain ⟨⟨u,hc,hx,h1⟩,ha,hr⟩:=h;obtain ⟨us,hl,hj⟩:=TR hr;refine ⟨u :: us,⟨u,us,rfl,hx,h1,hl⟩,fun j v hv=>?_⟩;cases j with
  | zero=>simp at hv; subst hv; exact ⟨hc,ha⟩
  | succ j =>
   have:=hj j v (by simpa using hv);rw [show off + (j + 1)=off + 1 + j from by omega];exact this
theorem AP {av avb:Av}:∀ {cs:List AV} {b off:Nat},bC av avb w cs b off->∃ us,DC av w cs us/\∀ (j:Nat) (u:Value),us[j]?=some u->w.cell? ⟨b,off + j,none⟩=some u/\¬ avb b (off + j)
 | [],_,_,_=>⟨[],rfl,fun j u h=>by simp at h⟩
 | x :: r,b,off,h=>by
  simp only [bC] at h;obtain ⟨⟨u,hc,hx,h1⟩,ha,hr⟩:=h;obtain ⟨us,hl,hj⟩:=AP hr;refine ⟨u :: us,⟨u,us,rfl,hx,h1,hl⟩,fun j v hv=>?_⟩;cases j with
  | zero=>simp at hv; subst hv; exact ⟨hc,ha⟩
  | succ j =>
   have:=hj j v (by simpa using hv);rw [show off + (j + 1)=off + 1 + j from by omega];exact this
theorem cJ {av:Av}:∀ {cs:List AV} {us:List Value} {b off:Nat},DC av w cs us->(∀ (j:Nat) (u:Value),us[j]?=some u->w.cell? ⟨b,off + j,none⟩=some u/\¬ av b (off + j))->SE av w cs b off
 | [],_,_,_,_,_=>by simp [SE]
 | x :: r,_,b,off,h,hj=>by
  simp only [DC] at h;obtain ⟨u,oa,rfl,h0,h1,h⟩:=h;simp only [SE];have h2:=hj 0 u rfl;refine ⟨⟨u,h2.1,h0,h1⟩,h2.2,cJ h fun j v hv=>?_⟩;have:=hj (j + 1) v (by simpa using hv);rw [show off + 1 + j=off + (j + 1) from by omega];exact this
theorem NL {av:Av}:∀ {cs ds:List AV} {b off:Nat},SE av w (cs++ds) b off ↔ SE av w cs b off/\SE av w ds b (off + cs.length)
 | [],ds,b,off=>by simp [SE]
 | x :: r,ds,b,off=>by
  simp only [yx,SE,NL (cs:=r),yI];rw [show off + (r.length + 1)=off + 1 + r.length from by omega];exact ⟨fun ⟨h1,h2,h3,h4⟩=>⟨⟨h1,h2,h3⟩,h4⟩,fun ⟨⟨h1,h2,h3⟩,h4⟩=>⟨h1,h2,h3,h4⟩⟩
theorem MF {av:Av}:∀ {l:List (List AV)} {b off:Nat},Rows av w l b off ↔ SE av w l.flatten b off
 | [],b,off=>by simp [Rows,SE]
 | cs :: r,b,off=>by
  simp only [Rows,yC,NL,MF (l:=r)]
theorem ZK {av avb:Av}:∀ {cs ds:List AV} {b off:Nat},bC av avb w (cs++ds) b off ↔ bC av avb w cs b off/\bC av avb w ds b (off + cs.length)
 | [],ds,b,off=>by simp [bC]
 | x :: r,ds,b,off=>by
  simp only [yx,bC,ZK (cs:=r),yI];rw [show off + (r.length + 1)=off + 1 + r.length from by omega];exact ⟨fun ⟨h1,h2,h3,h4⟩=>⟨⟨h1,h2,h3⟩,h4⟩,fun ⟨⟨h1,h2,h3⟩,h4⟩=>⟨h1,h2,h3,h4⟩⟩
theorem kK {av avb:Av}:∀ {l:List (List AV)} {b off:Nat},OM av avb w l b off ↔ bC av avb w l.flatten b off
 | [],b,off=>by simp [OM,bC]
 | cs :: r,b,off=>by
  simp only [OM,yC,ZK,kK (l:=r)]
theorem OQ {sz:Nat}:∀ {l:List (List AV)} (_:∀ c∈l,c.length=sz) (k:Nat),l.flatten.drop (k * sz)=(l.drop k).flatten
 | [],_,k=>by simp
 | c :: r,h,k=>by
  cases k with
  | zero=>simp
  | succ k =>
   have hc:c.length=sz:=h c (by simp);rw [yC,List.drop_succ_cons,List.drop_append,hc,show (k + 1) * sz - sz=k * sz from by rw [yt]; omega,
    ye (by rw [hc,yt]; omega),yK]
   exact OQ (fun c hc=>h c (by simp [hc])) k
theorem part_run {t:TypeId} {agg:Bool} {z:Nat} (hA:rK P t=some agg) (hz:gC P t=some z) {av:Av} {cs:List AV} {us:Array Value} (h:KA ι av w cs us.toList) {off:Nat} {x:AV} {avb:Av}
  (hx:DG agg z (cs.drop off)=some x):∃ v,(part t us off).run P w=.ok v w/\NA ι av avb w x v:=by
 cases agg with
 | true =>
  simp only [DG,if_true] at hx;split at hx
  ·rename_i ub;injection hx with hx;subst hx;refine ⟨.agg (us.extract off (off + z)),by simp [part,bQ hA,nC hz],_,rfl,?_⟩;have:=jG z (SF off h);have he:(us.extract off (off + z)).toList=(us.toList.drop off).take z:=by
    rw [Array.toList_extract,List.extract_eq_take_drop,Nat.add_sub_cancel_left]
   rw [he];exact this
  ·cases hx
 | false =>
  simp only [DG,yp,if_false,yT,Nat.add_zero] at hx;obtain ⟨u,hu,h1,hr⟩:=jK h hx;have gt:us[off]?=some u:=by simpa using hu
  refine ⟨u,by simp [part,bQ hA,gt],?_⟩;cases x <;> first | exact hr | (simp [BA,bE] at hr; obtain ⟨oa,rfl,_⟩:=hr; simp [Value.oneCell'] at h1) | (simp [BA,bE] at hr)
end
end
section
open Go Go.RowKit
section
variable {P:Program} {O:GI} {nt B:Nat} {F0:cP} {da:Av} {w0:World} {D:Nat->Prop} {s:aA} {a:Act} {w w':World} {ι:Ix} {Θ:IL} {o:Oper}
theorem RepC_to_S {av avb:Av} {x:AV} {u:Value} (h:BA ι av w x u) (h1:u.oneCell'=true):NA ι av avb w x u:=by
 cases x <;> first | exact h | (simp [BA,bE] at h; obtain ⟨oa,rfl,_⟩:=h; simp [Value.oneCell'] at h1; done) | (simp [BA,bE] at h; done)
theorem val_mv (R:dC P O nt B F0 da w0 D s a w ι Θ) {X:Operand} {y:CB} (h:opd X=some y) (ho:o.op=.move X\/o.op=.assign X):lS P da a w ι Θ o ⟨y.get s,y.an s⟩ :=
 ⟨a.eval X,by rcases ho with ho | ho <;> simp [execOp,ho],(R.opd h).1,(R.opd h).2⟩
theorem val_pick (R:dC P O nt B F0 da w0 D s a w ι Θ) {C X Y:Operand} {c x y:CB} (hc:opd C=some c) (hx:opd X=some x) (hy:opd Y=some y) (ho:o.op=.pick C X Y) {t:Bool} (ht:c.get s=.bool t) :
  lS P da a w ι Θ o (if t then ⟨x.get s,x.an s⟩ else ⟨y.get s,y.an s⟩):=by
 have h:=(R.opd hc).1;rw [ht,SB] at h;cases t with
 | true=>exact ⟨a.eval X,by simp [execOp,ho,h,asBool],(R.opd hx).1,(R.opd hx).2⟩
 | false=>exact ⟨a.eval Y,by simp [execOp,ho,h,asBool],(R.opd hy).1,(R.opd hy).2⟩
theorem BD.rep {av:Av} {r:List rA} {cur:Array Value} (h:BD ι Θ av w r cur):KA ι av w (r.map (·.v)) (cur.toList.take r.length):=by
 obtain ⟨hl,hj⟩:=h;obtain ⟨l⟩:=cur;simp only [List.size_toArray] at hl;simp only [List.getElem?_toArray] at hj;simp only
 induction r generalizing l with
 | nil=>rfl
 | cons x r ih =>
  cases l with
  | nil=>simp at hl
  | cons u us =>
   obtain ⟨u',hu,h1,hr,_⟩:=hj 0 x rfl;simp at hu;subst hu;exact ⟨_,us.take r.length,rfl,hr,h1,ih us (by simpa using hl) fun j y hy=>hj (j + 1) y hy⟩
theorem eQ {t:TypeId} {agg:Bool} {z:Nat} (hA:rK P t=some agg) (hz:gC P t=some z) {av avb:Av} {cs:List AV} {us:List Value} (h:KA ι av w cs us) {b off:Nat} (sd:∀ (j:Nat) (u:Value),us[j]?=some u->w.cell? ⟨b,off + j,none⟩=some u)
  {x:AV} (hx:DG agg z cs=some x):∃ v,(loadVar t ⟨b,off,none⟩).run P w=.ok v w/\NA ι av avb w x v/\(agg=false->w.cell? ⟨b,off,none⟩=some v):=by
 cases agg with
 | true =>
  simp only [DG,if_true] at hx;split at hx
  ·rename_i ub;injection hx with hx;subst hx;have ba:=gD h;have hl:(us.take z).length=z:=by rw [yN,ba]; omega
   have hr:=run_loadCells_list (P:=P) w ⟨b,off,none⟩ (us.take z) (fun j v hv=>by
    rw [Addr.add_lit];refine sd j v ?_;rw [yU] at hv;split at hv
    ·exact hv
    ·cases hv)
   rw [hl] at hr;exact ⟨.agg (us.take z).toArray,by simp [loadVar,bQ hA,nC hz,hr],⟨_,rfl,jG z h⟩,fun h=>by cases h⟩
  ·cases hx
 | false =>
  simp only [DG,yp,if_false] at hx;obtain ⟨u,hu,h1,hr⟩:=jK h hx;have hc:=sd 0 u hu;rw [Nat.add_zero] at hc;refine ⟨u,by simp [loadVar,bQ hA,hc],RepC_to_S hr h1,fun _=>hc⟩
theorem val_load (R:dC P O nt B F0 da w0 D s a w ι Θ) {t:TypeId} {agg:Bool} {z:Nat} (hA:rK P t=some agg) (hz:gC P t=some z) {X:Operand} {y:CB} (h:opd X=some y) (ho:o.op=.load t X) {cl:Cl} {call} {x:rA} {e:nD}
  (hr:(K.load cl agg z y).run call s=some (x,e)):e=.none/\lS P da a w ι Θ o x:=by
 have hX:=(R.opd h).1;simp only [K.run] at hr;split at hr
 ·rename_i t' n off hy;rw [hy,AF] at hX;obtain ⟨b,hb,hv⟩:=hX;split at hr
  ·cases hm:s.mem t' n with
   | none=>rw [hm] at hr; cases hr
   | some r =>
    rw [hm,V] at hr;obtain ⟨ij,b',cur,ty,sa,la,ka,_⟩:=R.rows t' n r hm;rw [hb] at sa;injection sa with sa;subst sa;have gc:∀ (j:Nat) (u:Value),((cur.toList.take r.length).drop off)[j]?=some u->w.cell? ⟨b,off + j,none⟩=some u:=fun j u hu=>by
     rw [cell_of_row w b (off + j) cur ty (0,0) la];rw [yT,yU] at hu;split at hu
     ·simpa using hu
     ·cases hu
    cases hl:SA agg z off r with
    | none=>rw [hl] at hr; cases hr
    | some y' =>
     rw [hl] at hr;injection hr with hr;injection hr with h1 h2;subst h1; subst h2;refine ⟨rfl,?_⟩;have lc:=SF off ka.rep;have hi:DG agg z ((r.map (·.v)).drop off)=some y'.v:=by
      cases agg with
      | true =>
       simp only [SA,if_true] at hl;split at hl
       ·rename_i ub;injection hl with hl;subst hl;simp only [DG,if_true,List.length_drop,yn];rw [if_pos (by omega)];simp [List.map_take,List.map_drop]
       ·cases hl
      | false =>
       simp only [SA,yp,if_false] at hl;simp [DG,yT,hl]
     obtain ⟨v,ia,hS,hc⟩:=eQ (avb:=SC ι Θ) hA hz lc gc hi;refine ⟨v,by simp [execOp,ho,Instr.loadAt,Instr.sureAddr,hv,ia],hS,?_⟩;cases agg with
     | true =>
      simp only [SA,if_true] at hl;split at hl
      ·injection hl with hl; subst hl; trivial
      ·cases hl
     | false =>
      simp only [SA,yp,if_false] at hl;obtain ⟨u,hu,_,_,ha⟩:=ka.2 off y' hl;have h3:=hc rfl;rw [cell_of_row w b off cur ty (0,0) la,hu] at h3;injection h3 with h3;subst h3;exact ha
  ·cases hr
 ·rename_i cs hy;rw [hy,zM] at hX;obtain ⟨b,off,hv,di⟩:=hX;obtain ⟨us,hl,sd⟩:=TR di;split at hr
  ·cases hr
  ·cases hi:DG agg z cs with
   | none=>rw [hi] at hr; cases hr
   | some x' =>
    rw [hi] at hr;injection hr with hr;injection hr with h1 h2;subst h1; subst h2;obtain ⟨v,ia,hS,_⟩:=eQ (avb:=SC ι Θ) hA hz (mD (ι:=ι) hl) (fun j u hu=>(sd j u hu).1) hi;exact ⟨rfl,v,by simp [execOp,ho,Instr.loadAt,Instr.sureAddr,hv,ia],hS,trivial⟩
 ·rename_i cs hy;rw [hy] at hX;obtain ⟨b,off,hv,di⟩:=hX;obtain ⟨us,hl,sd⟩:=AP di;split at hr
  ·cases hr
  ·cases hi:DG agg z cs with
   | none=>rw [hi] at hr; cases hr
   | some x' =>
    rw [hi] at hr;injection hr with hr;injection hr with h1 h2;subst h1; subst h2;obtain ⟨v,ia,hS,_⟩:=eQ (avb:=SC ι Θ) hA hz (mD (ι:=ι) hl) (fun j u hu=>(sd j u hu).1) hi;exact ⟨rfl,v,by simp [execOp,ho,Instr.loadAt,Instr.sureAddr,hv,ia],hS,trivial⟩
 ·cases hr
theorem qO (a b:ByteArray):(a.toList == b.toList)=decide (a=b):=by
 rw [ByteArray.toList_eq,ByteArray.toList_eq];obtain ⟨⟨x⟩⟩:=a;obtain ⟨⟨y⟩⟩:=b;rw [Bool.eq_iff_iff];simp
theorem GB {op:BinOp} {t t':TypeId} {X Y:Operand} {u v r:Value} (ho:o.op=.binOp op t X Y t') (hX:a.eval X=u) (hY:a.eval Y=v) (hu:u.oneCell'=true) (hn:u≠.nilIface) (hv:(Go.binOp op t u v).run P w=.ok r w):(execOp a.eval o).run P w=.ok (.value r) w:=by
 have hg:(eqGuard op t X Y u v).run P w=.ok () w:=by
  unfold eqGuard;cases u <;> first | exact absurd rfl hn | (simp [Value.oneCell'] at hu; done) | (simp; done) | (split <;> simp; done)
 simp [execOp,ho,hX,hY,hg,hv]
theorem val_mm (R:dC P O nt B F0 da w0 D s a w ι Θ) {mx:Bool} {ts:Array TypeId} {X Y:Operand} {x y:CB} (hx:opd X=some x) (hy:opd Y=some y) (ho:o.op=.call { callee:=.builtin (if mx then .max else .min),args:=#[X,Y],argTypes:=ts }) {v:AV} (hr:Z9 mx (x.get s) (y.get s)=some v) :
  lS P da a w ι Θ o ⟨v,.no⟩:=by
 have hX:=(R.opd hx).1;have hY:=(R.opd hy).1;unfold Z9 at hr;split at hr
 ·rename_i k n k' n' e1 e2;rw [e1,jB] at hX;rw [e2,jB] at hY;split at hr
  ·rename_i hk;subst hk;injection hr with hr;subst hr;cases mx with
   | true =>
    have e:(if n' > n then n' else n)=max n n':=by rw [Int.max_def]; split <;> split <;> omega
    exact ⟨.int k (max n n'),by simp [execOp,ho,resolve,invoke,builtin,Builtin.max_,Builtin.max2,hX,hY,e],by simp [jB],trivial⟩
   | false =>
    have e:(if n'<n then n' else n)=min n n':=by rw [Int.min_def]; split <;> split <;> omega
    exact ⟨.int k (min n n'),by simp [execOp,ho,resolve,invoke,builtin,Builtin.min_,Builtin.min2,hX,hY,e],by simp [jB],trivial⟩
  ·cases hr
 ·cases hr
theorem val_bin (R:dC P O nt B F0 da w0 D s a w ι Θ) {op:BinOp} {t t':TypeId} {bl:Bool} (ht:bl=true->P.underlying t=some .bool) {X Y:Operand} {x y:CB} (hx:opd X=some x) (hy:opd Y=some y) (ho:o.op=.binOp op t X Y t') {v:AV} (hr:WJ op bl (x.get s) (y.get s)=some v) :
  lS P da a w ι Θ o ⟨v,.no⟩:=by
 have hX:=(R.opd hx).1;have hY:=(R.opd hy).1;unfold WJ at hr;split at hr
 ·rename_i k n k' n' e1 e2;rw [e1,jB] at hX;rw [e2,jB] at hY;by_cases te:op=.shl
  ·subst te;simp only at hr;split at hr
   ·rename_i h0;injection hr with hr;subst hr;exact ⟨.int k (k.wrap (n * 2 ^ shN k n')),GB ho hX hY rfl (by simp) (by simp [Go.binOp,Op.shift,shN,Int.not_lt.2 h0]),by rw [jB],trivial⟩
   ·cases hr
  by_cases hsr:op=.shr
  ·subst hsr;simp only at hr;split at hr
   ·rename_i h0;injection hr with hr;subst hr;exact ⟨.int k (n.fdiv (2 ^ shN k n')),GB ho hX hY rfl (by simp) (by simp [Go.binOp,Op.shift,shN,Int.not_lt.2 h0]),by rw [jB],trivial⟩
   ·cases hr
  split at hr
  ·exact absurd rfl te
  ·exact absurd rfl hsr
  split at hr
  ·rename_i hk;subst hk;cases op <;> simp only at hr
   case and=>injection hr with hr; subst hr; exact ⟨_,GB ho hX hY rfl (by simp) (by simp only [Go.binOp,ne_eq,not_true_eq_false,if_false]; rfl),by rw [xS,jB],trivial⟩
   case or=>injection hr with hr; subst hr; exact ⟨_,GB ho hX hY rfl (by simp) (by simp only [Go.binOp,ne_eq,not_true_eq_false,if_false]; rfl),by rw [xS,jB],trivial⟩
   case xor=>injection hr with hr; subst hr; exact ⟨_,GB ho hX hY rfl (by simp) (by simp only [Go.binOp,ne_eq,not_true_eq_false,if_false]; rfl),by rw [xS,jB],trivial⟩
   case andNot=>injection hr with hr; subst hr; exact ⟨_,GB ho hX hY rfl (by simp) (by simp only [Go.binOp,ne_eq,not_true_eq_false,if_false]; rfl),by rw [xS,jB],trivial⟩
   case add=>injection hr with hr; subst hr; exact ⟨.int k (k.wrap (n + n')),GB ho hX hY rfl (by simp) (by simp [Go.binOp,Op.intArith]),by rw [jB],trivial⟩
   case sub=>injection hr with hr; subst hr; exact ⟨.int k (k.wrap (n - n')),GB ho hX hY rfl (by simp) (by simp [Go.binOp,Op.intArith]),by rw [jB],trivial⟩
   case mul=>injection hr with hr; subst hr; exact ⟨.int k (k.wrap (n * n')),GB ho hX hY rfl (by simp) (by simp [Go.binOp,Op.intArith]),by rw [jB],trivial⟩
   case quo =>
    split at hr
    ·cases hr
    ·rename_i h0;injection hr with hr;subst hr;exact ⟨.int k (k.wrap (n.tdiv n')),GB ho hX hY rfl (by simp) (by simp [Go.binOp,Op.intDiv,h0]),by rw [jB],trivial⟩
   case rem =>
    split at hr
    ·cases hr
    ·rename_i h0;injection hr with hr;subst hr;exact ⟨.int k (n.tmod n'),GB ho hX hY rfl (by simp) (by simp [Go.binOp,Op.intDiv,h0]),by rw [jB],trivial⟩
   case eql=>injection hr with hr; subst hr; exact ⟨.bool (n == n'),GB ho hX hY rfl (by simp) (by simp [Go.binOp,Op.intCmp]),SB.2 (congrArg Value.bool (by first | rfl | (rw [Bool.eq_iff_iff]; simp))),trivial⟩
   case neq=>injection hr with hr; subst hr; exact ⟨.bool (n != n'),GB ho hX hY rfl (by simp) (by simp [Go.binOp,Op.intCmp]),SB.2 (congrArg Value.bool (by first | rfl | (rw [Bool.eq_iff_iff]; simp))),trivial⟩
   case lss=>injection hr with hr; subst hr; exact ⟨.bool (decide (n<n')),GB ho hX hY rfl (by simp) (by simp [Go.binOp,Op.intCmp]),SB.2 (congrArg Value.bool (by first | rfl | (rw [Bool.eq_iff_iff]; simp))),trivial⟩
   case leq=>injection hr with hr; subst hr; exact ⟨.bool (decide (n<=n')),GB ho hX hY rfl (by simp) (by simp [Go.binOp,Op.intCmp]),SB.2 (congrArg Value.bool (by first | rfl | (rw [Bool.eq_iff_iff]; simp))),trivial⟩
   case gtr=>injection hr with hr; subst hr; exact ⟨.bool (decide (n > n')),GB ho hX hY rfl (by simp) (by simp [Go.binOp,Op.intCmp]),SB.2 (congrArg Value.bool (by first | rfl | (rw [Bool.eq_iff_iff]; simp))),trivial⟩
   case geq=>injection hr with hr; subst hr; exact ⟨.bool (decide (n>=n')),GB ho hX hY rfl (by simp) (by simp [Go.binOp,Op.intCmp]),SB.2 (congrArg Value.bool (by first | rfl | (rw [Bool.eq_iff_iff]; simp))),trivial⟩
   all_goals cases hr
  ·cases hr
 ·rename_i n n' e1 e2;rw [e1,GG] at hX;rw [e2,GG] at hY;cases op <;> simp only at hr
  case add =>
   split at hr
   ·rename_i ub;injection hr with hr;subst hr;have hm:IntKind.i64.max=9223372036854775807:=by decide
    have:¬ ((n.size + n'.size:Nat):Int) > IntKind.i64.max:=by rw [hm]; omega
    exact ⟨.string (n++n'),GB ho hX hY rfl (by simp) (by simp only [Go.binOp,Op.stringOp,if_neg this]; simp),by rw [GG],trivial⟩
   ·cases hr
  case eql=>injection hr with hr; subst hr; exact ⟨.bool (n.toList == n'.toList),GB ho hX hY rfl (by simp) (by simp [Go.binOp,Op.stringOp]),SB.2 (congrArg Value.bool (by first | rfl | (rw [qO]))),trivial⟩
  case neq=>injection hr with hr; subst hr; exact ⟨.bool (!(n.toList == n'.toList)),GB ho hX hY rfl (by simp) (by simp [Go.binOp,Op.stringOp]),SB.2 (congrArg Value.bool (by first | rfl | (rw [qO]))),trivial⟩
  case lss=>injection hr with hr; subst hr; exact ⟨.bool (Op.bytesLess n.toList n'.toList),GB ho hX hY rfl (by simp) (by simp [Go.binOp,Op.stringOp]),SB.2 (congrArg Value.bool (by first | rfl | (rw [qO]))),trivial⟩
  case gtr=>injection hr with hr; subst hr; exact ⟨.bool (!(Op.bytesLess n.toList n'.toList||n.toList == n'.toList)),GB ho hX hY rfl (by simp) (by simp [Go.binOp,Op.stringOp]),by rw [SB,qO],trivial⟩
  case leq=>injection hr with hr; subst hr; exact ⟨.bool (Op.bytesLess n.toList n'.toList||n.toList == n'.toList),GB ho hX hY rfl (by simp) (by simp [Go.binOp,Op.stringOp]),by rw [SB,qO],trivial⟩
  case geq=>injection hr with hr; subst hr; exact ⟨.bool (!Op.bytesLess n.toList n'.toList),GB ho hX hY rfl (by simp) (by simp [Go.binOp,Op.stringOp]),by rw [SB],trivial⟩
  all_goals cases hr
 ·rename_i n n' e1 e2;rw [e1,SB] at hX;rw [e2,SB] at hY;split at hr
  case isFalse=>cases hr
  rename_i hb;have hq:(Op.equal t (.bool n) (.bool n')).run P w=.ok (n == n') w:=run_equalIn_bool' w 9999 t n n' (ht hb);cases op <;> simp only at hr
  case eql=>injection hr with hr; subst hr; exact ⟨.bool (n == n'),GB ho hX hY rfl (by simp) (by simp [Go.binOp,hq]),by rw [SB],trivial⟩
  case neq=>injection hr with hr; subst hr; exact ⟨.bool (!(n == n')),GB ho hX hY rfl (by simp) (by simp [Go.binOp,hq]),by rw [SB],trivial⟩
  all_goals cases hr
 ·cases hr
end
end
section
open Go Go.RowKit
section
variable {P:Program} {O:GI} {nt B:Nat} {F0:cP} {da:Av} {w0:World} {D:Nat->Prop} {s:aA} {a:Act} {w w':World} {ι:Ix} {Θ:IL} {o:Oper}
theorem TM {av:Av}:∀ {cs:List AV} {b off:Nat} (k:Nat),SE av w cs b off->SE av w (cs.drop k) b (off + k)
 | [],_,_,k,_=>by simp [SE]
 | x :: r,b,off,0,h=>h
 | x :: r,b,off,k + 1,h=>by
  simp only [SE] at h;rw [List.drop_succ_cons,show off + (k + 1)=off + 1 + k from by omega];exact TM k h.2.2
theorem dL {av avb:Av}:∀ {cs:List AV} {b off:Nat} (k:Nat),bC av avb w cs b off->bC av avb w (cs.drop k) b (off + k)
 | [],_,_,k,_=>by simp [bC]
 | x :: r,b,off,0,h=>h
 | x :: r,b,off,k + 1,h=>by
  simp only [bC] at h;rw [List.drop_succ_cons,show off + (k + 1)=off + 1 + k from by omega];exact dL k h.2.2
section
variable (R:dC P O nt B F0 da w0 D s a w ι Θ) {t:TypeId} {fs:Array Field} {f:Field} {i z:Nat}
include R t fs f i z
theorem val_faddr (ht:P.underlying t=some (.struct fs)) (hf:fs[i]?=some f) (hz:gC P f.type=some (z + 1)) {X:Operand} {y:CB} (h:opd X=some y) (ho:o.op=.fieldAddr t X i)
  {call} {x:rA} {e:nD} (hr:(K.faddr f.offset y).run call s=some (x,e)):e=.none/\lS P da a w ι Θ o x:=by
 have hX:=(R.opd h).1;have ia:∀ b off,a.eval X=.pointer (some ⟨b,off,none⟩)->(execOp a.eval o).run P w=.ok (.value (.pointer (some ⟨b,off + f.offset,none⟩))) w:=fun b off hv=>by
  simp [execOp,ho,Instr.fieldAt,run_underlying ht,hf,hv,Instr.sureAddr,fieldPlace,nC hz,Addr.add_lit]
 simp only [K.run] at hr;split at hr
 ·rename_i t' n off hy;injection hr with hr; injection hr with h1 h2; subst h1; subst h2;rw [hy,AF] at hX;obtain ⟨b,hb,hv⟩:=hX;exact ⟨rfl,_,ia _ _ hv,⟨b,hb,rfl⟩,trivial⟩
 ·rename_i cs hy;injection hr with hr; injection hr with h1 h2; subst h1; subst h2;rw [hy,zM] at hX;obtain ⟨b,off,hv,hc⟩:=hX;exact ⟨rfl,_,ia _ _ hv,by rw [zM]; exact ⟨b,_,rfl,TM _ hc⟩,trivial⟩
 ·rename_i cs hy;injection hr with hr; injection hr with h1 h2; subst h1; subst h2;rw [hy] at hX;obtain ⟨b,off,hv,hc⟩:=hX;exact ⟨rfl,_,ia _ _ hv,⟨b,_,rfl,dL _ hc⟩,trivial⟩
 ·cases hr
theorem val_field {agg:Bool} (ht:P.underlying t=some (.struct fs)) (hf:fs[i]?=some f) (hA:rK P f.type=some agg) (hz:gC P f.type=some z) {X:Operand} {y:CB} (h:opd X=some y) (ho:o.op=.field t X i)
  {call} {x:rA} {e:nD} (hr:(K.field agg f.offset z y).run call s=some (x,e)):e=.none/\lS P da a w ι Θ o x:=by
 have hX:=(R.opd h).1;simp only [K.run] at hr;split at hr
 ·rename_i cs hy;rw [hy,lZ] at hX;obtain ⟨us,hv,hc⟩:=hX;cases hl:DG agg z (cs.drop f.offset) with
  | none=>rw [hl] at hr; cases hr
  | some v =>
   rw [hl] at hr;injection hr with hr; injection hr with h1 h2; subst h1; subst h2;obtain ⟨u,hu,hS⟩:=part_run (avb:=SC ι Θ) hA hz hc hl;exact ⟨rfl,u,by simp [execOp,ho,Instr.field,run_underlying ht,hf,hv,asAgg,hu],hS,trivial⟩
 ·cases hr
end
theorem QM {v:AV} {n:Nat} (h:pT v=some n):∃ k i,v=.int k i/\0<=i/\i.toNat=n:=by
 unfold pT at h;split at h
 ·rename_i k i;split at h
  ·injection h with h; exact ⟨k,i,rfl,by assumption,h⟩
  ·cases h
 ·cases h
theorem Rows_get {av:Av} {l:List (List AV)} {b off sz k:Nat} {cs:List AV} (h:Rows av w l b off) (hu:∀ c∈l,c.length=sz) (hk:l[k]?=some cs):SE av w cs b (off + k * sz):=by
 have h1:=TM (k * sz) (MF.1 h);rw [OQ hu] at h1;have fa:k<l.length:=(ym.1 hk).1;have db:l[k]=cs:=(ym.1 hk).2;rw [y9 fa,yC,NL,db] at h1;exact h1.1
theorem RowsB_get {av avb:Av} {l:List (List AV)} {b off sz k:Nat} {cs:List AV} (h:OM av avb w l b off) (hu:∀ c∈l,c.length=sz) (hk:l[k]?=some cs):bC av avb w cs b (off + k * sz):=by
 have h1:=dL (k * sz) (kK.1 h);rw [OQ hu] at h1;have fa:k<l.length:=(ym.1 hk).1;have db:l[k]=cs:=(ym.1 hk).2;rw [y9 fa,yC,ZK,db] at h1;exact h1.1
section
variable (R:dC P O nt B F0 da w0 D s a w ι Θ)
include R
theorem val_iaddr {t e':TypeId} {z:Nat} (ht:P.underlying t=some (.slice e')) (hz:gC P e'=some z) {X I:Operand} {y i:CB} (h:opd X=some y) (hi:opd I=some i) (ho:o.op=.indexAddr t X I)
  {call} {x:rA} {e:nD} (hr:(K.iaddr z y i).run call s=some (x,e)):e=.none/\lS P da a w ι Θ o x:=by
 have hX:=(R.opd h).1;have hI:=(R.opd hi).1;simp only [K.run] at hr;split at hr
 ·rename_i k hk;obtain ⟨kk,n,jc,h0,hn⟩:=QM hk;rw [jc,jB] at hI;have ia:∀ b off len cap,a.eval X=.slice (some ⟨b,off,none⟩) len cap->k<len->(execOp a.eval o).run P w=.ok (.value (.pointer (some ⟨b,off + k * z,none⟩))) w:=fun b off len cap hv fa=>by
   have hc:0<=n/\n<(len:Int):=⟨h0,by omega⟩;simp [execOp,ho,Instr.indexAt,run_underlying ht,hv,hI,asIntOf,hc,nC hz,Addr.add_lit,hn]
  split at hr
  ·rename_i nl l hy;rw [hy,XD] at hX;simp only [bE] at hX;obtain ⟨A,c,hv,hc,hu,ko,hs⟩:=hX;cases hl:l[k]? with
   | none=>rw [hl] at hr; cases hr
   | some cs =>
    rw [hl,V] at hr;split at hr
    ·rename_i di;injection hr with hr; injection hr with h1 h2; subst h1; subst h2;have fa:k<l.length:=(ym.1 hl).1;have jb:cs∈l:=yQ hl;have hnf:nl=false:=by
      cases nl with
      | false=>rfl
      | true=>have:=(ko rfl).2.1; omega
     obtain ⟨b,off,rfl,ka⟩:=(hs hnf).2 (by omega);exact ⟨rfl,_,ia _ _ _ _ hv fa,by rw [zM]; exact ⟨b,_,rfl,Rows_get ka (fun c hc=>(hu c hc cs jb).trans di) hl⟩,trivial⟩
    ·cases hr
  ·rename_i l hy;rw [hy] at hX;obtain ⟨a',c,hv,hc,hu,hs⟩:=hX;cases hl:l[k]? with
   | none=>rw [hl] at hr; cases hr
   | some cs =>
    rw [hl,V] at hr;split at hr
    ·rename_i di;injection hr with hr; injection hr with h1 h2; subst h1; subst h2;have fa:k<l.length:=(ym.1 hl).1;have jb:cs∈l:=yQ hl;obtain ⟨b,off,rfl,ka⟩:=hs (by omega);exact ⟨rfl,_,ia _ _ _ _ hv fa,⟨b,_,rfl,RowsB_get ka (fun c hc=>(hu c hc cs jb).trans di) hl⟩,trivial⟩
    ·cases hr
  ·rename_i t' n' sz off ln cap hy;rw [hy,nH] at hX;obtain ⟨b,hb,ub,_,_,_,hv⟩:=hX;split at hr
   ·rename_i fa;injection hr with hr; injection hr with h1 h2; subst h1; subst h2;obtain ⟨fa,rfl⟩:=fa;exact ⟨rfl,_,ia _ _ _ _ hv fa,⟨b,hb,rfl⟩,trivial⟩
   ·cases hr
  ·cases hr
 ·cases hr
theorem val_aaddr {t e':TypeId} {n z:Nat} (ht:P.underlying t=some (.array n e')) (hz:gC P e'=some z) {X I:Operand} {y i:CB} (h:opd X=some y) (hi:opd I=some i) (ho:o.op=.indexAddr t X I)
  {call} {x:rA} {e:nD} (hr:(K.aaddr n z y i).run call s=some (x,e)):e=.none/\lS P da a w ι Θ o x:=by
 have hX:=(R.opd h).1;have hI:=(R.opd hi).1;simp only [K.run] at hr;split at hr
 ·rename_i k hk;obtain ⟨kk,m,jc,h0,hn⟩:=QM hk;rw [jc,jB] at hI;split at hr
  ·rename_i fa;have ia:∀ b off,a.eval X=.pointer (some ⟨b,off,none⟩)->(execOp a.eval o).run P w=.ok (.value (.pointer (some ⟨b,off + k * z,none⟩))) w:=fun b off hv=>by
    have hc:0<=m/\m<(n:Int):=⟨h0,by omega⟩;simp [execOp,ho,Instr.indexAt,run_underlying ht,hv,hI,asIntOf,hc,Instr.sureAddr,nC hz,Addr.add_lit,hn]
   split at hr
   ·rename_i t' n' off hy;injection hr with hr; injection hr with h1 h2; subst h1; subst h2;rw [hy,AF] at hX;obtain ⟨b,hb,hv⟩:=hX;exact ⟨rfl,_,ia _ _ hv,⟨b,hb,rfl⟩,trivial⟩
   ·rename_i cs hy;injection hr with hr; injection hr with h1 h2; subst h1; subst h2;rw [hy,zM] at hX;obtain ⟨b,off,hv,hc⟩:=hX;exact ⟨rfl,_,ia _ _ hv,by rw [zM]; exact ⟨b,_,rfl,TM _ hc⟩,trivial⟩
   ·rename_i cs hy;injection hr with hr; injection hr with h1 h2; subst h1; subst h2;rw [hy] at hX;obtain ⟨b,off,hv,hc⟩:=hX;exact ⟨rfl,_,ia _ _ hv,⟨b,_,rfl,dL _ hc⟩,trivial⟩
   ·cases hr
  ·cases hr
 ·cases hr
theorem val_index {t:TypeId} (ht:P.underlying t=some .string) {X I:Operand} {y i:CB} (h:opd X=some y) (hi:opd I=some i) (ho:o.op=.index t X I)
  {call} {x:rA} {e:nD} (hr:(K.index y i).run call s=some (x,e)):e=.none/\lS P da a w ι Θ o x:=by
 have hX:=(R.opd h).1;have hI:=(R.opd hi).1;simp only [K.run] at hr;split at hr
 ·rename_i k b hk hy;obtain ⟨kk,n,jc,h0,hn⟩:=QM hk;rw [jc,jB] at hI;rw [hy,GG] at hX;cases hb:b[k]? with
  | none=>rw [hb] at hr; cases hr
  | some u =>
   rw [hb] at hr;injection hr with hr; injection hr with h1 h2; subst h1; subst h2;exact ⟨rfl,.int .u8 u.toNat,by simp [execOp,ho,Instr.index,run_underlying ht,hX,hI,asIntOf,h0,hn,hb],by rw [jB],trivial⟩
 ·cases hr
end
theorem K1 {av:Av}:∀ {xs:List AV} {us:List Value} (_:CG ι av w xs us) {j:Nat} {x:AV},xs[j]?=some x->∃ u,us[j]?=some u/\GP ι av w x u
 | [],_,_,_,_,hx=>by simp at hx
 | y :: r,_,h,j,x,hx=>by
  simp only [CG] at h;obtain ⟨u,oa,rfl,h0,h⟩:=h;cases j with
  | zero=>simp at hx; subst hx; exact ⟨u,rfl,h0⟩
  | succ j=>exact K1 h (j:=j) (by simpa using hx)
theorem uH {av:Av} {x:AV} {u:Value} (h:bE av w x u):GP ι av w x u:=by
 cases x <;> first
  | (simp only [bE] at h; obtain ⟨us,hv,hc⟩:=h; exact ⟨us,hv,mD hc⟩)
  | exact jL (ι:=ι) h
theorem Z1 {av:Av}:∀ {xs:List AV} {us:List Value},QO av w xs us->CG ι av w xs us
 | [],_,h=>by simpa [QO,CG] using h
 | x :: r,_,h=>by
  simp only [QO] at h;obtain ⟨u,oa,rfl,h0,h⟩:=h;exact ⟨u,oa,rfl,uH h0,Z1 h⟩
theorem BN {av avb:Av} {x:AV} {u:Value} (h:bE av w x u):NA ι av avb w x u:=by
 cases x <;> first
  | exact h
  | (simp only [bE] at h; obtain ⟨us,hv,hc⟩:=h; exact ⟨us,hv,mD hc⟩)
  | (simp only [bE] at h; obtain ⟨us,hv,hc⟩:=h; exact ⟨us,hv,Z1 hc⟩)
  | (simp [bE] at h; done)
theorem RepU_to_S {av avb:Av} {x:AV} {u:Value} (h:GP ι av w x u):NA ι av avb w x u:=by
 cases x <;> first
  | exact h
  | exact BN h
theorem wE {av avb:Av} {x:AV} {u:Value} (h:BA ι av w x u):NA ι av avb w x u:=by
 cases x <;> first | exact h | exact BN h
section
variable (R:dC P O nt B F0 da w0 D s a w ι Θ)
include R
theorem val_ext {i:Nat} {X:Operand} {y:CB} (h:opd X=some y) (ho:o.op=.extract X i)
  {call} {x:rA} {e:nD} (hr:(K.ext y i).run call s=some (x,e)):e=.none/\lS P da a w ι Θ o x:=by
 have hX:=(R.opd h).1;simp only [K.run] at hr;split at hr
 ·rename_i vs hy;rw [hy,repS_tup] at hX;obtain ⟨us,hv,hc⟩:=hX;cases hb:vs[i]? with
  | none=>rw [hb] at hr; cases hr
  | some u =>
   rw [hb] at hr;injection hr with hr; injection hr with h1 h2; subst h1; subst h2;obtain ⟨u',hu,lc⟩:=K1 hc hb;have gt:us[i]?=some u':=by simpa using hu
   exact ⟨rfl,u',by simp [execOp,ho,Instr.extract,hv,gt],RepU_to_S lc,trivial⟩
 ·cases hr
theorem val_nilchk {X:Operand} {y:CB} (h:opd X=some y) (ho:o.op=.nilCheck X)
  {call} {x:rA} {e:nD} (hr:(K.nilchk y).run call s=some (x,e)):e=.none/\lS P da a w ι Θ o x:=by
 have hX:=(R.opd h).1;simp only [K.run] at hr;split at hr
 ·rename_i t n off hy;injection hr with hr; injection hr with h1 h2; subst h1; subst h2;rw [hy] at hX;obtain ⟨b,hb,hv⟩:=AF.1 hX;exact ⟨rfl,.pointer (some ⟨b,off,none⟩),by simp [execOp,ho,hv],by rw [AF]; exact ⟨b,hb,rfl⟩,trivial⟩
 ·rename_i cs hy;injection hr with hr; injection hr with h1 h2; subst h1; subst h2;rw [hy] at hX;obtain ⟨b,off,hv,hc⟩:=zM.1 hX;exact ⟨rfl,.pointer (some ⟨b,off,none⟩),by simp [execOp,ho,hv],by rw [zM]; exact ⟨b,off,rfl,hc⟩,trivial⟩
 ·rename_i cs hy;injection hr with hr; injection hr with h1 h2; subst h1; subst h2;rw [hy] at hX;obtain ⟨b,off,hv,hc⟩:=hX;exact ⟨rfl,.pointer (some ⟨b,off,none⟩),by simp [execOp,ho,hv],⟨b,off,rfl,hc⟩,trivial⟩
 ·cases hr
theorem val_len {t:TypeId} {str:Bool} (ht:if str then P.underlying t=some .string else ∃ e,P.underlying t=some (.slice e)) {X:Operand} {y:CB} (h:opd X=some y) (ho:o.op=.call { callee:=.builtin .len,args:=#[X],argTypes:=#[t] })
  {call} {x:rA} {e:nD} (hr:(K.len str y).run call s=some (x,e)):e=.none/\lS P da a w ι Θ o x:=by
 have hX:=(R.opd h).1;have te:∀ A n c,str=false->a.eval X=.slice A n c->(execOp a.eval o).run P w=.ok (.value (.int .i64 n)) w:=fun A n c hs hv=>by
  subst hs;obtain ⟨e',ht⟩:=ht;simp [execOp,ho,resolve,invoke,builtin,Builtin.len_,run_underlying ht,hv,goInt]
 simp only [K.run] at hr;split at hr
 ·rename_i nl l hy;rw [hy,XD] at hX;simp only [bE] at hX;obtain ⟨A,c,hv,_⟩:=hX;cases str with
  | true=>simp at hr
  | false =>
   simp only [yp,if_false] at hr;injection hr with hr; injection hr with h1 h2; subst h1; subst h2;exact ⟨rfl,_,te _ _ _ rfl hv,by rw [jB],trivial⟩
 ·rename_i l hy;rw [hy] at hX;obtain ⟨A,c,hv,_⟩:=hX;cases str with
  | true=>simp at hr
  | false =>
   simp only [yp,if_false] at hr;injection hr with hr; injection hr with h1 h2; subst h1; subst h2;exact ⟨rfl,_,te _ _ _ rfl hv,by rw [jB],trivial⟩
 ·rename_i t' n sz off ln cap hy;rw [hy,nH] at hX;obtain ⟨b,_,_,_,_,_,hv⟩:=hX;cases str with
  | true=>simp at hr
  | false =>
   simp only [yp,if_false] at hr;injection hr with hr; injection hr with h1 h2; subst h1; subst h2;exact ⟨rfl,_,te _ _ _ rfl hv,by rw [jB],trivial⟩
 ·rename_i b hy;rw [hy,GG] at hX;cases str with
  | false=>simp at hr
  | true =>
   simp only [if_true] at hr ht;injection hr with hr; injection hr with h1 h2; subst h1; subst h2;exact ⟨rfl,.int .i64 b.size,by simp [execOp,ho,resolve,invoke,builtin,Builtin.len_,run_underlying ht,hX,goInt],by rw [jB],trivial⟩
 ·cases hr
theorem val_un {op:UnOp} {t:TypeId} {X:Operand} {y:CB} (h:opd X=some y) (ho:o.op=.unOp op t X)
  {call} {x:rA} {e:nD} (hr:(K.un op y).run call s=some (x,e)):e=.none/\lS P da a w ι Θ o x:=by
 have hX:=(R.opd h).1;simp only [K.run] at hr;split at hr
 ·rename_i b hy;injection hr with hr; injection hr with h1 h2; subst h1; subst h2;rw [hy,SB] at hX;exact ⟨rfl,.bool (!b),by simp [execOp,ho,Op.unary,hX],by rw [SB],trivial⟩
 ·rename_i k n hy;injection hr with hr; injection hr with h1 h2; subst h1; subst h2;rw [hy,jB] at hX;exact ⟨rfl,.int k (k.wrap (0 - n)),by simp [execOp,ho,Op.unary,Op.intArith,hX],by rw [jB],trivial⟩
 ·cases hr
theorem H9 {k:Option IntKind} {t t':TypeId} (hk:match k with | some k=>(∃ j,P.underlying t=some (.int j))/\P.underlying t'=some (.int k) | none=>P.underlying t=some .string/\P.underlying t'=some .string)
  {X:Operand} {y:CB} (h:opd X=some y) (ho:o.op=.convert t t' X) {call} {x:rA} {e:nD} (hr:(K.conv k y).run call s=some (x,e)):e=.none/\lS P da a w ι Θ o x:=by
 have hX:=(R.opd h).1;simp only [K.run] at hr;split at hr
 ·rename_i k' j n hy;injection hr with hr; injection hr with h1 h2; subst h1; subst h2;rw [hy,jB] at hX;obtain ⟨⟨i,h1⟩,h2⟩:=hk;exact ⟨rfl,.int k' (k'.wrap n),by simp [execOp,ho,Go.convert,run_underlying h1,run_underlying h2,Conv.intToInt,hX],by rw [jB],trivial⟩
 ·rename_i b hy;injection hr with hr; injection hr with h1 h2; subst h1; subst h2;rw [hy,GG] at hX;exact ⟨rfl,.string b,by simp [execOp,ho,Go.convert,run_underlying hk.1,run_underlying hk.2,hX],by rw [GG],trivial⟩
 ·cases hr
end
end
end
section
open Go Go.RowKit
section
variable {P:Program} {O:GI} {nt B:Nat} {F0:cP} {da:Av} {w0:World} {D:Nat->Prop} {s:aA} {a:Act} {w w':World} {ι:Ix} {Θ:IL} {o:Oper}
def DX (a:Act) (d:Nat):Option Operand->Option Value × Nat->Prop
 | none,(v,n)=>v=none/\n=d
 | some x,(v,n)=>v=some (a.eval x)/\∃ k i,a.eval x=.int k i/\0<=i/\i.toNat=n
theorem JN {t e:TypeId} {z:Nat} (ht:P.underlying t=some (.slice e)) (hz:gC P e=some z) {A:Option Addr} {n c:Nat} {L H:Option Operand} {l h:Nat} (hl:DX a 0 L (L.map a.eval,l)) (hh:DX a n H (H.map a.eval,h)) (h1:l<=h) (h2:h<=c) :
  (Instr.sliceAt t (.slice A n c) (L.map a.eval) (H.map a.eval) none).run P w=.ok (.slice (if c=l then A else A.map (·.add (l * z))) (h - l) (c - l)) w:=by
 cases L with
 | none =>
  obtain ⟨_,rfl⟩:=hl;cases H with
  | none =>
   obtain ⟨_,rfl⟩:=hh;simp [Instr.sliceAt,Instr.slice,Instr.sliceBounds,run_underlying ht,nC hz]
  | some x =>
   obtain ⟨_,k,i,hx,h0,rfl⟩:=hh;have:0<=i/\i<=(c:Int):=⟨h0,by omega⟩;simp [Instr.sliceAt,Instr.slice,Instr.sliceBounds,Instr.sliceBound,run_underlying ht,nC hz,hx,asIntOf,this]
 | some y =>
  obtain ⟨_,k',i',hy,sf,rfl⟩:=hl;cases H with
  | none =>
   obtain ⟨_,rfl⟩:=hh;have:0<=i'/\i'<=(h:Int):=⟨sf,by omega⟩;simp [Instr.sliceAt,Instr.slice,Instr.sliceBounds,Instr.sliceBound,run_underlying ht,nC hz,hy,asIntOf,this]
  | some x =>
   obtain ⟨_,k,i,hx,h0,rfl⟩:=hh;have h3:0<=i/\i<=(c:Int):=⟨h0,by omega⟩;have h4:0<=i'/\i'<=(i.toNat:Int):=⟨sf,by omega⟩;have h5:i'<=max i 0:=by omega
   simp [Instr.sliceAt,Instr.slice,Instr.sliceBounds,Instr.sliceBound,run_underlying ht,nC hz,hx,hy,asIntOf,h3,h4,h5]
theorem OZ {t:TypeId} (ht:P.underlying t=some .string) {b:ByteArray} {L H:Option Operand} {l h:Nat} (hl:DX a 0 L (L.map a.eval,l)) (hh:DX a b.size H (H.map a.eval,h)) (h1:l<=h) (h2:h<=b.size) :
  (Instr.sliceAt t (.string b) (L.map a.eval) (H.map a.eval) none).run P w=.ok (.string (b.extract l h)) w:=by
 cases L with
 | none =>
  obtain ⟨_,rfl⟩:=hl;cases H with
  | none =>
   obtain ⟨_,rfl⟩:=hh;simp [Instr.sliceAt,Instr.slice,Instr.sliceBounds,run_underlying ht]
  | some x =>
   obtain ⟨_,k,i,hx,h0,rfl⟩:=hh;have:0<=i/\i<=(b.size:Int):=⟨h0,by omega⟩;simp [Instr.sliceAt,Instr.slice,Instr.sliceBounds,Instr.sliceBound,run_underlying ht,hx,asIntOf,this]
 | some y =>
  obtain ⟨_,k',i',hy,sf,rfl⟩:=hl;cases H with
  | none =>
   obtain ⟨_,rfl⟩:=hh;have:0<=i'/\i'<=(b.size:Int):=⟨sf,by omega⟩;simp [Instr.sliceAt,Instr.slice,Instr.sliceBounds,Instr.sliceBound,run_underlying ht,hy,asIntOf,this]
  | some x =>
   obtain ⟨_,k,i,hx,h0,rfl⟩:=hh;have h3:0<=i/\i<=(b.size:Int):=⟨h0,by omega⟩;have h4:0<=i'/\i'<=(i.toNat:Int):=⟨sf,by omega⟩;have h5:i'<=max i 0:=by omega
   simp [Instr.sliceAt,Instr.slice,Instr.sliceBounds,Instr.sliceBound,run_underlying ht,hx,hy,asIntOf,h3,h4,h5]
theorem FK (R:dC P O nt B F0 da w0 D s a w ι Θ) {L:Option Operand} {l:Option CB} (h:KW L=some l) {d n:Nat} (hn:EK s d l=some n):DX a d L (L.map a.eval,n):=by
 cases L with
 | none =>
  injection h with h;subst h;injection hn with hn;exact ⟨rfl,hn.symm⟩
 | some X =>
  simp only [KW] at h;cases hx:opd X with
  | none=>rw [hx] at h; cases h
  | some x =>
   rw [hx] at h;injection h with h;subst h;obtain ⟨k,i,hi,h0,hn⟩:=QM hn;have:=(R.opd hx).1;rw [hi,jB] at this;exact ⟨rfl,k,i,this,h0,hn⟩
theorem W9 {sz:Nat} {e:List (List AV)} (hu:∀ c∈e,c.length=sz) (l h:Nat):((e.take h).drop l).flatten=(e.flatten.take (h * sz)).drop (l * sz):=by
 rw [<- OQ (fun c hc=>hu c (List.mem_of_mem_take hc)) l];congr 1;clear l
 induction e generalizing h with
 | nil=>simp
 | cons c r ih =>
  cases h with
  | zero=>simp
  | succ h =>
   have hc:c.length=sz:=hu c (by simp);rw [List.take_succ_cons,yC,yC,List.take_append,hc,ih (fun c hc=>hu c (by simp [hc])),
    yv (l:=c) (by rw [hc,yt]; omega),show (h + 1) * sz - sz=h * sz from by rw [yt]; omega]
theorem B9 {av:Av} {cs:List AV} {b off:Nat} (k:Nat) (h:SE av w cs b off):SE av w (cs.take k) b off:=by
 rw [<- yR k cs,NL] at h;exact h.1
theorem E6 {av avb:Av} {cs:List AV} {b off:Nat} (k:Nat) (h:bC av avb w cs b off):bC av avb w (cs.take k) b off:=by
 rw [<- yR k cs,ZK] at h;exact h.1
theorem val_slc (R:dC P O nt B F0 da w0 D s a w ι Θ) {t:TypeId} {str:Bool} {z:Nat} (ht:if str then P.underlying t=some .string else ∃ e,P.underlying t=some (.slice e)/\gC P e=some z) {X:Operand} {L H:Option Operand} {x:CB} {l h:Option CB} (hx:opd X=some x) (hl:KW L=some l) (hh:KW H=some h)
  (ho:o.op=.slice t X L H none) {call} {y:rA} {e:nD} (hr:(K.slc str z x l h none).run call s=some (y,e)):e=.none/\lS P da a w ι Θ o y:=by
 have hX:=(R.opd hx).1;simp only [K.run] at hr;split at hr
 ·cases hr
 ·rename_i lo jy;have hL:=FK R hl jy;split at hr
  ·rename_i b e' hy;rw [hy,XD] at hX;simp only [bE] at hX;obtain ⟨A,c,hv,hc,hu,hn,hs⟩:=hX;split at hr
   ·rename_i hi gp;have hH:=FK R hh gp;split at hr
    ·rename_i aa;obtain ⟨h1,h2,h3,rfl⟩:=aa;injection hr with hr; injection hr with e1 e2; subst e1; subst e2;obtain ⟨el,ra,ht2⟩:=ht;have ma:∀ c∈e',c.length=z:=fun c hc=>by simpa using y6.1 h3 c hc
     have ia:=JN (w:=w) (A:=A) ra ht2 hL hH h1 (yw h2 hc);refine ⟨rfl,.slice (if c=lo then A else A.map (·.add (lo * z))) (hi - lo) (c - lo),by simp only [execOp,ho,hv,Option.map_none,Sem.run_bind,ia,Result.andThen_ok,Sem.run_pure],?_,trivial⟩;simp only [XD,bE];have ba:((e'.take hi).drop lo).length=hi - lo:=by rw [List.length_drop,yN]; omega
     refine ⟨_,_,by rw [ba],by rw [ba]; omega,fun x hx y hy=>(ma x (List.mem_of_mem_take (List.mem_of_mem_drop hx))).trans (ma y (List.mem_of_mem_take (List.mem_of_mem_drop hy))).symm,fun hb=>?_,fun hb=>?_⟩
     ·obtain ⟨rfl,h0,rfl⟩:=hn hb;refine ⟨by simp,by omega,by omega⟩
     ·obtain ⟨mo,uz⟩:=hs hb;by_cases jd:c=lo
      ·exact ⟨fun _=>by omega,fun h0=>by omega⟩
      ·refine ⟨fun hA=>?_,fun h0=>?_⟩
       ·rw [if_neg jd] at hA;cases wl:A with
        | none=>have:=mo wl; omega
        | some a=>rw [wl] at hA; cases hA
       obtain ⟨bb,off,rfl,ka⟩:=uz (by omega);refine ⟨bb,off + lo * z,by rw [if_neg jd]; simp only [yq,Addr.add_lit],?_⟩;rw [MF,W9 ma];exact TM _ (B9 _ (MF.1 ka))
    ·cases hr
   ·cases hr
  ·rename_i e' hy;rw [hy] at hX;obtain ⟨a',c,hv,hc,hu,hs⟩:=hX;split at hr
   ·rename_i hi gp;have hH:=FK R hh gp;split at hr
    ·rename_i aa;obtain ⟨h1,h2,h3,rfl⟩:=aa;injection hr with hr; injection hr with e1 e2; subst e1; subst e2;obtain ⟨el,ra,ht2⟩:=ht;have ma:∀ c∈e',c.length=z:=fun c hc=>by simpa using y6.1 h3 c hc
     have ia:=JN (w:=w) (A:=some a') ra ht2 hL hH h1 (yw h2 hc);refine ⟨rfl,.slice (if c=lo then some a' else (some a').map (·.add (lo * z))) (hi - lo) (c - lo),by simp only [execOp,ho,hv,Option.map_none,Sem.run_bind,ia,Result.andThen_ok,Sem.run_pure],?_,trivial⟩;have ba:((e'.take hi).drop lo).length=hi - lo:=by rw [List.length_drop,yN]; omega
     refine ⟨if c=lo then a' else a'.add (lo * z),c - lo,by rw [ba]; split <;> simp,by rw [ba]; omega,fun x hx y hy=>(ma x (List.mem_of_mem_take (List.mem_of_mem_drop hx))).trans (ma y (List.mem_of_mem_take (List.mem_of_mem_drop hy))).symm,fun h0=>?_⟩;rw [if_neg (by omega)];obtain ⟨bb,off,rfl,ka⟩:=hs (by omega);refine ⟨bb,off + lo * z,by rw [Addr.add_lit],?_⟩;rw [kK,W9 ma];exact dL _ (E6 _ (kK.1 ka))
    ·cases hr
   ·cases hr
  ·rename_i t' n sz off ln cap hy;rw [hy,nH] at hX;obtain ⟨b,hb,ub,cc,rh,hz,hv⟩:=hX;split at hr
   ·rename_i hi gp;have hH:=FK R hh gp;split at hr
    ·rename_i aa;obtain ⟨h1,h2,rfl,rfl⟩:=aa;obtain ⟨el,ra,ht2⟩:=ht;have ia:=JN (w:=w) (A:=some ⟨b,off,none⟩) ra ht2 hL hH h1 (yw h2 rh);have wr:(execOp a.eval o).run P w=.ok (.value (.slice (if cc=lo then some ⟨b,off,none⟩ else (some (⟨b,off,none⟩:Addr)).map (·.add (lo * sz))) (hi - lo) (cc - lo))) w:=by simp only [execOp,ho,hv,Option.map_none,Sem.run_bind,ia,Result.andThen_ok,Sem.run_pure]
     split at hr
     ·rename_i he;injection hr with hr; injection hr with e1 e2; subst e1; subst e2;refine ⟨rfl,_,wr,?_,trivial⟩;rw [XD];simp only [bE,List.length_nil];refine ⟨_,cc - lo,by rw [show hi - lo=0 from by omega],by omega,(fun x hx=>by cases hx),(fun h=>by cases h),fun _=>⟨fun h=>?_,fun h=>absurd h (Nat.lt_irrefl 0)⟩⟩;split at h <;> simp at h
     ·rename_i he;injection hr with hr; injection hr with e1 e2; subst e1; subst e2;refine ⟨rfl,_,wr,⟨b,hb,by omega,cc - lo,by omega,?_,?_⟩,trivial⟩
      ·have:off + lo * sz + (cc - lo) * sz=off + cc * sz:=by
        rw [Nat.add_assoc,<- Nat.add_mul];congr 2;omega
       rw [this];exact hz
      ·rw [if_neg (by omega)];simp [Addr.add_lit]
    ·cases hr
   ·cases hr
  ·rename_i b hy;rw [hy,GG] at hX;split at hr
   ·rename_i hi gp;have hH:=FK R hh gp;split at hr
    ·rename_i aa;obtain ⟨h1,h2,rfl⟩:=aa;injection hr with hr; injection hr with e1 e2; subst e1; subst e2;have ia:=OZ (w:=w) ht hL hH h1 h2;exact ⟨rfl,.string (b.extract lo hi),by simp only [execOp,ho,hX,Option.map_none,Sem.run_bind,ia,Result.andThen_ok,Sem.run_pure],by rw [GG],trivial⟩
    ·cases hr
   ·cases hr
  ·cases hr
theorem isZ_eq {H:Option Operand} (h:isZ H=true):H=some (.const (.int .i64 0)):=by
 unfold isZ at h;split at h
 ·rw [of_decide_eq_true h]
 ·cases h
theorem val_slz (R:dC P O nt B F0 da w0 D s a w ι Θ) {t e':TypeId} {z:Nat} (ht:P.underlying t=some (.slice e')) (hz:gC P e'=some z) {X:Operand} {H M:Option Operand} (hH:isZ H=true) (hM:isZ M=true) {x:CB} (hx:opd X=some x)
  (ho:o.op=.slice t X none H M) {call} {y:rA} {e:nD} (hr:(K.slz x).run call s=some (y,e)):e=.none/\lS P da a w ι Θ o y:=by
 have hX:=(R.opd hx).1;rw [isZ_eq hH,isZ_eq hM] at ho;have ia:∀ (A:Option Addr) (n c:Nat),a.eval X=.slice A n c->(execOp a.eval o).run P w=.ok (.value (.slice A 0 0)) w:=fun A n c hv=>by
  have te:(Instr.sliceAt t (.slice A n c) none (some (.int .i64 0)) (some (.int .i64 0))).run P w=.ok (.slice A 0 0) w:=by simp [Instr.sliceAt,Instr.slice,Instr.sliceBounds,Instr.sliceBound,run_underlying ht,nC hz,asIntOf]
  have he:a.eval (.const (.int .i64 0))=.int .i64 0:=rfl;simp only [execOp,ho,hv,he,Option.map_none,yq,te,Sem.run_bind,Result.andThen_ok,Sem.run_pure]
 simp only [K.run] at hr;split at hr
 ·rename_i b l hy;injection hr with hr; injection hr with e1 e2; subst e1; subst e2;rw [hy,XD] at hX;simp only [bE] at hX;obtain ⟨A,c,hv,hc,hu,hn,hs⟩:=hX;refine ⟨rfl,_,ia _ _ _ hv,?_,⟨A,0,rfl⟩⟩;simp only [XD,bE,List.length_nil];exact ⟨A,0,rfl,yf _,(fun x hx=>by cases hx),fun hb=>⟨(hn hb).1,trivial,rfl⟩,fun hb=>⟨fun _=>rfl,fun h0=>absurd h0 (Nat.lt_irrefl 0)⟩⟩
 ·rename_i l hy;injection hr with hr; injection hr with e1 e2; subst e1; subst e2;rw [hy] at hX;obtain ⟨a',c,hv,hc,hu,hs⟩:=hX;refine ⟨rfl,_,ia _ _ _ hv,?_,⟨_,0,rfl⟩⟩;simp only [XD,bE,List.length_nil];exact ⟨_,0,rfl,yf _,(fun x hx=>by cases hx),(fun hb=>by cases hb),fun hb=>⟨fun _=>rfl,fun h0=>absurd h0 (Nat.lt_irrefl 0)⟩⟩
 ·rename_i t' n sz off ln cap hy;injection hr with hr; injection hr with e1 e2; subst e1; subst e2;rw [hy,nH] at hX;obtain ⟨b,hb,ub,cc,rh,hz',hv⟩:=hX;refine ⟨rfl,_,ia _ _ _ hv,?_,⟨_,0,rfl⟩⟩;simp only [XD,bE,List.length_nil];exact ⟨_,0,rfl,yf _,(fun x hx=>by cases hx),(fun hb=>by cases hb),fun hb=>⟨fun _=>rfl,fun h0=>absurd h0 (Nat.lt_irrefl 0)⟩⟩
 ·cases hr
end
end
section
open Go Go.RowKit
section
variable {P:Program} {O:GI} {nt B:Nat} {F0:cP} {da:Av} {w0:World} {D:Nat->Prop} {s:aA} {a:Act} {w w':World} {ι:Ix} {Θ:IL} {o:Oper}
theorem eql_slice (d:Nat) {t e:TypeId} (ht:P.underlying t=some (.slice e)) (A:Option Addr) (n c:Nat):(Op.equalIn (d + 1) t (.slice A n c) (.slice none 0 0)).run P w=.ok A.isNone w:=by
 unfold Op.equalIn;simp only [Sem.run_bind,run_underlying ht,Result.andThen_ok];cases A <;> rfl
theorem eql_ptr (d:Nat) {t e:TypeId} (ht:P.underlying t=some (.pointer e)) (A:Option Addr):(Op.equalIn (d + 1) t (.pointer A) (.pointer none)).run P w=.ok A.isNone w:=by
 unfold Op.equalIn;simp only [Sem.run_bind,run_underlying ht,Result.andThen_ok];cases A <;> rfl
theorem aX (R:dC P O nt B F0 da w0 D s a w ι Θ) {t t':TypeId} {neg ptr:Bool} (ht:if ptr then ∃ e,P.underlying t=some (.pointer e) else ∃ e,P.underlying t=some (.slice e)) {X Y:Operand} {x y:CB} (hx:opd X=some x) (hy:opd Y=some y)
  (ho:o.op=.binOp (if neg then .neq else .eql) t X Y t') {call} {z:rA} {e:nD} (hr:(K.eqn neg ptr x y).run call s=some (z,e)):e=.none/\lS P da a w ι Θ o z:=by
 have hX:=(R.opd hx).1;have hY:=(R.opd hy).1;have key:∀ (u v:Value) (r:Bool),a.eval X=u->a.eval Y=v->u.oneCell'=true->u≠.nilIface->(∀ op,(Go.binOp op t u v).run P w=(match op with | .eql=>(do pure (.bool (<- Op.equal t u v)):Sem Value) | .neq=>(do pure (.bool (!(<- Op.equal t u v))):Sem Value) | _=>Go.binOp op t u v).run P w)->(Op.equal t u v).run P w=.ok r w →
   (execOp a.eval o).run P w=.ok (.value (.bool (r != neg))) w:=fun u v r hu hv h1 hn hb he=>by
  cases neg with
  | false =>
   simp only [yp,if_false] at ho;have:=hb .eql;simp only [Sem.run_bind,he,Result.andThen_ok,Sem.run_pure] at this;rw [GB ho hu hv h1 hn this];simp
  | true =>
   simp only [if_true] at ho;have:=hb .neq;simp only [Sem.run_bind,he,Result.andThen_ok,Sem.run_pure] at this;rw [GB ho hu hv h1 hn this];simp
 have te:∀ A n c,ptr=false->a.eval X=.slice A n c->a.eval Y=.slice none 0 0->(execOp a.eval o).run P w=.ok (.value (.bool (A.isNone != neg))) w:=fun A n c hp hu hv=>by
  subst hp;simp only [yp,if_false] at ht;obtain ⟨e,ht⟩:=ht;exact key _ _ _ hu hv rfl (by simp) (fun op=>by cases op <;> simp [Go.binOp]) (eql_slice 9999 ht A n c)
 have hpt:∀ A,ptr=true->a.eval X=.pointer A->a.eval Y=.pointer none->(execOp a.eval o).run P w=.ok (.value (.bool (A.isNone != neg))) w:=fun A hp hu hv=>by
  subst hp;simp only [if_true] at ht;obtain ⟨e,ht⟩:=ht;exact key _ _ _ hu hv rfl (by simp) (fun op=>by cases op <;> simp [Go.binOp]) (eql_ptr 9999 ht A)
 have fin:∀ {b:Bool},(execOp a.eval o).run P w=.ok (.value (.bool (b != neg))) w->lS P da a w ι Θ o ⟨.bool (b != neg),.no⟩:=fun h=>⟨_,h,by rw [SB],trivial⟩
 simp only [K.run] at hr;split at hr
 ·rename_i l zq;rw [zq,XD] at hY;simp only [bE] at hY;obtain ⟨A,c,hv,_,_,hn,_⟩:=hY;obtain ⟨rfl,h0,rfl⟩:=hn trivial;rw [h0] at hv;cases hi:iW false (x.get s) with
  | none=>rw [hi] at hr; cases hr
  | some b =>
   rw [hi] at hr;injection hr with hr; injection hr with e1 e2; subst e1; subst e2;refine ⟨rfl,fin ?_⟩;unfold iW at hi;split at hi <;> first | (exact absurd ‹false=true› (by decide)) | skip
   ·rename_i l' _ uc;injection hi with hi; subst hi;rw [uc,XD] at hX;simp only [bE] at hX;obtain ⟨A,c,hu,_,_,jl,mg⟩:=hX;have:=te _ _ _ rfl hu hv;rw [(jl trivial).1] at this; exact this
   ·rename_i l' _ uc;split at hi
    ·cases hi
    ·rename_i ta;injection hi with hi; subst hi;rw [uc,XD] at hX;simp only [bE] at hX;obtain ⟨A,c,hu,_,_,jl,mg⟩:=hX;have:=te _ _ _ rfl hu hv;obtain ⟨_,_,rfl,_⟩:=(mg trivial).2 (by cases l' with | nil=>simp at ta | cons=>simp);exact this
   ·rename_i l' _ uc;injection hi with hi; subst hi;rw [uc] at hX;obtain ⟨a',c,hu,_⟩:=hX;exact te _ _ _ rfl hu hv
   ·rename_i uc;injection hi with hi; subst hi;rw [uc] at hX;obtain ⟨b,_,_,_,_,_,hu⟩:=nH.1 hX;exact te _ _ _ rfl hu hv
   ·cases hi
 ·rename_i zq;rw [zq,Z3] at hY;cases hi:iW true (x.get s) with
  | none=>rw [hi] at hr; cases hr
  | some b =>
   rw [hi] at hr;injection hr with hr; injection hr with e1 e2; subst e1; subst e2;refine ⟨rfl,fin ?_⟩;unfold iW at hi;split at hi <;> first | (exact absurd ‹true=false› (by decide)) | skip
   ·rename_i uc;injection hi with hi; subst hi;rw [uc,Z3] at hX;exact hpt _ rfl hX hY
   ·rename_i uc;injection hi with hi; subst hi;rw [uc] at hX;obtain ⟨b,_,hu⟩:=AF.1 hX;exact hpt _ rfl hu hY
   ·rename_i uc;injection hi with hi; subst hi;rw [uc] at hX;obtain ⟨b,off,hu,_⟩:=zM.1 hX;exact hpt _ rfl hu hY
   ·rename_i uc;injection hi with hi; subst hi;rw [uc] at hX;obtain ⟨b,off,hu,_⟩:=hX;exact hpt _ rfl hu hY
   ·cases hi
 ·cases hr
def KindEq (P:Program) (d:Nat) (t:TypeId) (w:World):Nat->Value->Value->Prop
 | 0,.int j a,.int j' b=>j=j'->(Op.equalIn (d + 1) t (.int j a) (.int j' b)).run P w=.ok (decide (a=b)) w
 | 1,.string a,.string b=>(Op.equalIn (d + 1) t (.string a) (.string b)).run P w=.ok (decide (a=b)) w
 | 2,.bool a,.bool b=>(Op.equalIn (d + 1) t (.bool a) (.bool b)).run P w=.ok (decide (a=b)) w
 | _,_,_=>True
theorem E9 (d:Nat) {t:TypeId} {k:Nat} (hk:GZ P t=some k) {xs ys:Array Value} {i:Nat} {u v:Value} (hu:xs[i]?=some u) (hv:ys[i]?=some v) :
  (part t xs i).run P w=.ok u w/\(part t ys i).run P w=.ok v w/\KindEq P d t w k u v:=by
 unfold GZ at hk;split at hk
 ·rename_i j ht _;injection hk with hk;subst hk;refine ⟨by simp [part,isAgg,run_underlying ht,hu],by simp [part,isAgg,run_underlying ht,hv],?_⟩;cases u <;> cases v <;> first | trivial | skip
  rename_i j1 a j2 b;rintro rfl;rw [run_equalIn_int w d t j1 j a b ht];rfl
 ·rename_i ht _;injection hk with hk;subst hk;refine ⟨by simp [part,isAgg,run_underlying ht,hu],by simp [part,isAgg,run_underlying ht,hv],?_⟩;cases u <;> cases v <;> first | trivial | skip
  rename_i a b;show (Op.equalIn (d + 1) t (.string a) (.string b)).run P w=_;rw [run_equalIn_string w d t a b ht,qO]
 ·rename_i ht _;injection hk with hk;subst hk;refine ⟨by simp [part,isAgg,run_underlying ht,hu],by simp [part,isAgg,run_underlying ht,hv],?_⟩;cases u <;> cases v <;> first | trivial | skip
  rename_i a b;show (Op.equalIn (d + 1) t (.bool a) (.bool b)).run P w=_;rw [run_equalIn_bool' w d t a b ht];cases a <;> cases b <;> rfl
 ·cases hk
theorem eqC_step {k:Nat} {ks:List Nat} {x y:AV} {xs ys:List AV} {r:Bool} (h:GL (k :: ks) (x :: xs) (y :: ys)=some r) {av:Av} {u v:Value} (hu:BA ι av w x u) (hv:BA ι av w y v) (d:Nat) {t:TypeId} (hk:GZ P t=some k) {us vs:Array Value} {i:Nat} (hi:us[i]?=some u) (hj:vs[i]?=some v) :
  ∃ b,(part t us i).run P w=.ok u w/\(part t vs i).run P w=.ok v w/\(Op.equalIn (d + 1) t u v).run P w=.ok b w/\(if b then GL ks xs ys=some r else r=false):=by
 obtain ⟨h1,h2,h3⟩:=E9 (w:=w) d hk hi hj;unfold GL at h;split at h
 ·rename_i e _ _; cases e
 ·rename_i j a r1 j' b r2 e1 e2 e3;injection e1 with e1 e1'; injection e2 with e2 oo; injection e3 with e3 e3';subst e1; subst e1'; subst e2; subst oo; subst e3; subst e3';simp only [BA,bE] at hu hv;subst hu; subst hv;split at h
  ·rename_i ay;refine ⟨_,h1,h2,h3 ay,?_⟩;by_cases ff:a=b
   ·rw [if_pos ff] at h; rw [if_pos (by simpa using ff)]; exact h
   ·rw [if_neg ff] at h; injection h with h; rw [if_neg (by simpa using ff)]; exact h.symm
  ·cases h
 ·rename_i a r1 b r2 e1 e2 e3;injection e1 with e1 e1'; injection e2 with e2 oo; injection e3 with e3 e3';subst e1; subst e1'; subst e2; subst oo; subst e3; subst e3';simp only [BA,bE] at hu hv;subst hu; subst hv;refine ⟨_,h1,h2,h3,?_⟩;by_cases ff:a=b
  ·rw [if_pos ff] at h; rw [if_pos (by simpa using ff)]; exact h
  ·rw [if_neg ff] at h; injection h with h; rw [if_neg (by simpa using ff)]; exact h.symm
 ·rename_i a r1 b r2 e1 e2 e3;injection e1 with e1 e1'; injection e2 with e2 oo; injection e3 with e3 e3';subst e1; subst e1'; subst e2; subst oo; subst e3; subst e3';simp only [BA,bE] at hu hv;subst hu; subst hv;refine ⟨_,h1,h2,h3,?_⟩;by_cases ff:a=b
  ·rw [if_pos ff] at h; rw [if_pos (by simpa using ff)]; exact h
  ·rw [if_neg ff] at h; injection h with h; rw [if_neg (by simpa using ff)]; exact h.symm
 ·cases h
theorem eqC_len:∀ {ks:List Nat} {xs ys:List AV} {r:Bool},GL ks xs ys=some r->ks≠[]->∃ x jz y ys',xs=x :: jz/\ys=y :: ys'
 | [],_,_,_,h,h'=>absurd rfl h'
 | k :: ks,xs,ys,r,h,_=>by
  cases xs with
  | nil=>simp [GL] at h
  | cons x xs =>
   cases ys with
   | nil=>unfold GL at h; split at h <;> simp_all
   | cons y ys=>exact ⟨x,xs,y,ys,rfl,rfl⟩
theorem UQ:∀ {k1 k2:List Nat} {xs ys:List AV} {r:Bool},GL (k1++k2) xs ys=some r->∃ r1,GL k1 (xs.take k1.length) (ys.take k1.length)=some r1/\(if r1 then GL k2 (xs.drop k1.length) (ys.drop k1.length)=some r else r=false)
 | [],k2,xs,ys,r,h=>⟨true,by simp [GL],by simpa using h⟩
 | k :: k1,k2,xs,ys,r,h=>by
  obtain ⟨x,jz,y,ys',rfl,rfl⟩:=eqC_len h (by simp);simp only [yx] at h;simp only [yI,List.take_succ_cons,List.drop_succ_cons];unfold GL at h;split at h
  ·rename_i e _ _; cases e
  ·rename_i j a r1 j' b r2 e1 e2 e3;injection e1 with e1 e1'; injection e2 with e2 oo; injection e3 with e3 e3';subst e1; subst e1'; subst e2; subst oo; subst e3; subst e3';split at h
   ·rename_i ay;subst ay;split at h
    ·rename_i ff;simp only [GL,if_true,if_pos ff];exact UQ h
    ·rename_i ff;injection h with h;exact ⟨false,by simp [GL,ff],by simpa using h.symm⟩
   ·cases h
  ·rename_i a r1 b r2 e1 e2 e3;injection e1 with e1 e1'; injection e2 with e2 oo; injection e3 with e3 e3';subst e1; subst e1'; subst e2; subst oo; subst e3; subst e3';split at h
   ·rename_i ff;simp only [GL,if_pos ff];exact UQ h
   ·rename_i ff;injection h with h;exact ⟨false,by simp [GL,ff],by simpa using h.symm⟩
  ·rename_i a r1 b r2 e1 e2 e3;injection e1 with e1 e1'; injection e2 with e2 oo; injection e3 with e3 e3';subst e1; subst e1'; subst e2; subst oo; subst e3; subst e3';split at h
   ·rename_i ff;simp only [GL,if_pos ff];exact UQ h
   ·rename_i ff;injection h with h;exact ⟨false,by simp [GL,ff],by simpa using h.symm⟩
  ·cases h
def O4 (P:Program) (ι:Ix) (av:Av) (w:World) (n:Nat) (t:TypeId) (ks:List Nat):Prop :=
 ∀ (d:Nat) (us vs:Array Value) (off:Nat) (xs ys:List AV) (r:Bool),KA ι av w xs ((us.toList.drop off).take ks.length)->KA ι av w ys ((vs.toList.drop off).take ks.length)->GL ks xs ys=some r →
  ∃ a b,(part t us off).run P w=.ok a w/\(part t vs off).run P w=.ok b w/\(Op.equalIn (d + n) t a b).run P w=.ok r w
theorem fN {av:Av} {xs:List AV} {us:List Value} {off k m:Nat} (h:KA ι av w xs ((us.drop off).take (k + m))):KA ι av w (xs.take k) ((us.drop off).take k)/\KA ι av w (xs.drop k) ((us.drop (off + k)).take m):=by
 constructor
 ·have:=jG k h
  rwa [List.take_take,Nat.min_eq_left (Nat.le_add_right ..)] at this
 ·have:=SF k h
  rwa [List.drop_take,Nat.add_sub_cancel_left,List.drop_drop] at this
theorem wW {av:Av} {n:Nat} (ih:∀ t ks,kH P n t=some ks->O4 P ι av w n t ks) (d:Nat) {us vs:Array Value}:∀ {fs:List Field} {i:Nat} {ks:List Nat} {xs ys:List AV} {r:Bool},IQ (kH P n) i fs=some ks->GL ks xs ys=some r->KA ι av w xs ((us.toList.drop i).take ks.length)->KA ι av w ys ((vs.toList.drop i).take ks.length) →
  (Op.eqFields (d + n) us vs fs).run P w=.ok r w
 | [],i,ks,xs,ys,r,hk,h,_,_=>by
  injection hk with hk;subst hk;cases xs <;> cases ys <;> simp [GL] at h
  subst h;simp [Op.eqFields]
 | f :: fs,i,ks,xs,ys,r,hk,h,hx,hy=>by
  unfold IQ at hk;obtain ⟨l,hl,hk⟩:=yb.1 hk;split at hk
  ·rename_i hn;obtain ⟨l',im,rfl⟩:=yg.1 hk;obtain ⟨r1,h1,h2⟩:=UQ h;rw [yA] at hx hy;obtain ⟨x1,x2⟩:=fN hx;obtain ⟨y1,y2⟩:=fN hy;obtain ⟨a,b,p1,p2,p3⟩:=ih _ _ hl d us vs i _ _ _ x1 y1 h1;unfold Op.eqFields;rw [if_pos hn.1,hn.2];simp only [Sem.run_bind,p1,p2,p3,Result.andThen_ok,Sem.run_ite];cases r1 with
   | true =>
    simp only [if_true] at h2;simp only [Bool.not_true,yp,if_false];exact wW ih d im h2 x2 y2
   | false =>
    simp only [yp,if_false] at h2;simp [h2]
  ·cases hk
theorem pY {av:Av} {n:Nat} {e:TypeId} {l:List Nat} (ih:O4 P ι av w n e l) (hc:P.cellsOf e=l.length) (d:Nat) {us vs:Array Value}:∀ {m i:Nat} {xs ys:List AV} {r:Bool},GL (yj m l).flatten xs ys=some r->KA ι av w xs ((us.toList.drop (i * l.length)).take (yj m l).flatten.length)->KA ι av w ys ((vs.toList.drop (i * l.length)).take (yj m l).flatten.length) →
  (Op.eqItems (d + n) e (P.cellsOf e) us vs (List.range' i m)).run P w=.ok r w
 | 0,i,xs,ys,r,h,_,_=>by
  cases xs <;> cases ys <;> simp [GL] at h
  subst h;simp [Op.eqItems]
 | m + 1,i,xs,ys,r,h,hx,hy=>by
  rw [List.replicate_succ,yC] at h hx hy;obtain ⟨r1,h1,h2⟩:=UQ h;rw [yA] at hx hy;obtain ⟨x1,x2⟩:=fN hx;obtain ⟨y1,y2⟩:=fN hy;rw [<- yt] at x2 y2;obtain ⟨a,b,p1,p2,p3⟩:=ih d us vs (i * l.length) _ _ _ x1 y1 h1;rw [List.range'_succ];unfold Op.eqItems;rw [hc];simp only [Sem.run_bind,p1,p2,p3,Result.andThen_ok,Sem.run_ite];cases r1 with
  | true =>
   simp only [if_true] at h2;simp only [Bool.not_true,yp,if_false];have:=pY ih hc d (m:=m) (i:=i + 1) h2 x2 y2;rw [hc] at this;exact this
  | false =>
   simp only [yp,if_false] at h2;simp [h2]
theorem tS {t:TypeId} {z:Nat} (hA:rK P t=some true) (hz:gC P t=some z) (us:Array Value) (off:Nat):(part t us off).run P w=.ok (.agg (us.extract off (off + z))) w/\(us.extract off (off + z)).toList=(us.toList.drop off).take z :=
 ⟨by simp [part,bQ hA,nC hz],by rw [Array.toList_extract,List.extract_eq_take_drop,Nat.add_sub_cancel_left]⟩
theorem NS {t:TypeId} {z:Nat} (h:gC P t=some z):∃ i,P.info? t=some i:=by
 unfold gC at h;cases hh:P.info? t with
 | none=>rw [hh] at h; cases h
 | some i=>exact ⟨i,rfl⟩
theorem DV {av:Av} {n:Nat} (ih:∀ t ks,kH P n t=some ks->O4 P ι av w n t ks) (d:Nat) {t:TypeId} {ks:List Nat} (hk:kH P (n + 1) t=some ks) (hA:rK P t=some true) {us vs:Array Value} {xs ys:List AV} {r:Bool}
  (hx:KA ι av w xs (us.toList.take ks.length)) (hy:KA ι av w ys (vs.toList.take ks.length)) (h:GL ks xs ys=some r):gC P t=some ks.length/\(Op.equalIn (d + n + 1) t (.agg us) (.agg vs)).run P w=.ok r w:=by
 unfold kH at hk;split at hk
 ·rename_i k wc;unfold rK at hA;unfold GZ at wc;split at wc <;> first | (cases wc; done) | (rename_i ht _; rw [ht] at hA; injection hA with hA; cases hA) | (rename_i ht; rw [ht] at hA; injection hA with hA; cases hA)
 ·split at hk
  ·rename_i m e ht;obtain ⟨l,hl,hk⟩:=yb.1 hk;split at hk
   ·rename_i hc;injection hk with hk;subst hk;obtain ⟨i,hi⟩:=NS hc.2.1;refine ⟨hc.2.2,?_⟩;have:=run_equalIn_array (P:=P) w (d + n) us vs ht hi;rw [List.range_eq_range'] at this;exact this.trans (pY (ih _ _ hl) hc.1 d h (by simpa using hx) (by simpa using hy))
   ·cases hk
  ·rename_i fs ht;split at hk
   ·cases hk
   ·rename_i mb;obtain ⟨l,hl,hk⟩:=yb.1 hk;split at hk
    ·rename_i hc;injection hk with hk;subst hk;refine ⟨hc,?_⟩;have hf:P.fieldsOf t=fs:=by simp [Program.fieldsOf,ht]
     have:=run_equalIn_struct (P:=P) w (d + n) t us vs (by rw [hf]; exact ht) (by simpa using mb);rw [hf] at this;exact this.trans (wW ih d hl h (by simpa using hx) (by simpa using hy))
    ·cases hk
  ·cases hk
theorem UU {av:Av}:∀ (n:Nat) (t:TypeId) (ks:List Nat),kH P n t=some ks->O4 P ι av w n t ks
 | 0,_,_,h=>by cases h
 | n + 1,t,ks,hk=>by
  intro d us vs off xs ys r hx hy h;have tc:=hk;unfold kH at hk;split at hk
  ·rename_i k wc;injection hk with hk;subst hk;obtain ⟨x,jz,y,ys',rfl,rfl⟩:=eqC_len h (by simp);obtain ⟨u,oa,e1,hu,_,sk⟩:=hx;obtain ⟨v,xt,e2,hv,_,bz⟩:=hy;have l1:oa=[]:=by
    have:=congrArg List.length e1;simp at this;exact yF (by omega)
   have l2:xt=[]:=by
    have:=congrArg List.length e2;simp at this;exact yF (by omega)
   have g1:us[off]?=some u:=by
    have:=congrArg (fun l=>l[0]?) e1;simpa [yU,yT] using this
   have g2:vs[off]?=some v:=by
    have:=congrArg (fun l=>l[0]?) e2;simpa [yU,yT] using this
   obtain ⟨b,p1,p2,p3,p4⟩:=eqC_step (P:=P) h hu hv (d + n) wc g1 g2;refine ⟨u,v,p1,p2,?_⟩;have:b=r:=by
    cases b with
    | true =>
     simp only [if_true] at p4;subst l1;subst l2;cases jz with
     | nil=>cases ys' with
      | nil=>simp [GL] at p4; exact p4.symm
      | cons=>simp [GL] at p4
     | cons=>simp [GL] at p4
    | false=>simpa using p4.symm
   rw [<- this];exact p3
  ·rename_i hnk;have hA:rK P t=some true:=by
    split at hk
    ·rename_i ht; simp [rK,ht]
    ·rename_i ht; simp [rK,ht]
    ·cases hk
   have:=DV (fun t ks h=>UU n t ks h) d tc hA (us:=us.extract off (off + ks.length)) (vs:=vs.extract off (off + ks.length)) (xs:=xs) (ys:=ys) (r:=r)
    (by rw [Array.toList_extract,List.extract_eq_take_drop,Nat.add_sub_cancel_left,List.take_take,Nat.min_self]; exact hx)
    (by rw [Array.toList_extract,List.extract_eq_take_drop,Nat.add_sub_cancel_left,List.take_take,Nat.min_self]; exact hy) h
   exact ⟨_,_,(tS hA this.1 us off).1,(tS hA this.1 vs off).1,this.2⟩
theorem val_eqa (R:dC P O nt B F0 da w0 D s a w ι Θ) {t t':TypeId} {neg:Bool} {ks:List Nat} (ht:QR P t=some ks) {X Y:Operand} {x y:CB} (hx:opd X=some x) (hy:opd Y=some y)
  (ho:o.op=.binOp (if neg then .neq else .eql) t X Y t') {call} {z:rA} {e:nD} (hr:(K.eqa neg ks x y).run call s=some (z,e)):e=.none/\lS P da a w ι Θ o z:=by
 have hX:=(R.opd hx).1;have hY:=(R.opd hy).1;simp only [K.run] at hr;split at hr
 ·rename_i xa ya uc zq;rw [uc,lZ] at hX;rw [zq,lZ] at hY;obtain ⟨us,hu,sk⟩:=hX;obtain ⟨vs,hv,bz⟩:=hY;cases hq:GL ks xa ya with
  | none=>rw [hq] at hr; cases hr
  | some r =>
   rw [hq] at hr;injection hr with hr; injection hr with e1 e2; subst e1; subst e2;unfold QR at ht;split at ht
   ·cases ht
   ·rename_i hg;have he:(Op.equal t (.agg us) (.agg vs)).run P w=.ok r w:=by
     have main:kH P 8 t=some ks->rK P t=some true->(Op.equal t (.agg us) (.agg vs)).run P w=.ok r w:=fun hk hA =>
      by
       obtain ⟨r1,h1,h2⟩:=UQ (k1:=ks) (k2:=[]) (by simpa using hq);have e:r1=r:=by
        cases r1 with
        | true =>
         simp only [if_true] at h2;unfold GL at h2;split at h2 <;> first | (injection h2) | (rename_i e _ _; cases e) | cases h2
        | false=>simpa using h2.symm
       subst e;exact (DV (fun t ks h=>UU 7 t ks h) 9992 hk hA (us:=us) (vs:=vs) (jG _ sk) (jG _ bz) h1).2
     split at ht
     ·rename_i zn; exact main ht (by simp [rK,zn])
     ·rename_i zn; exact main ht (by simp [rK,zn])
     ·cases ht
    have hgd:∀ op,(eqGuard op t X Y (.agg us) (.agg vs)).run P w=.ok () w:=fun op=>by
     have:P.eqGuardType P.depth t=false:=by simpa using hg
     unfold eqGuard;cases op <;> simp [this]
    refine ⟨rfl,.bool (r != neg),?_,by rw [SB],trivial⟩;cases neg with
    | false =>
     simp only [yp,if_false] at ho;simp [execOp,ho,hu,hv,hgd,Go.binOp,he]
    | true =>
     simp only [if_true] at ho;simp [execOp,ho,hu,hv,hgd,Go.binOp,he]
 ·cases hr
end
end
section
open Go Go.RowKit
section
variable {P:Program} {O:GI} {nt B:Nat} {F0:cP} {da:Av} {w0:World} {D:Nat->Prop} {s:aA} {a:Act} {w w':World} {ι:Ix} {Θ:IL} {o:Oper}
theorem jY {av avb:Av} {x:AV} {v:Value} (h:NA ι av avb w x v) (hx:x.leaf=true):BA ι av w x v/\v.oneCell'=true:=by
 cases x <;> first
  | (simp [AV.leaf] at hx; done)
  | (refine ⟨h,?_⟩; simp only [NA,BA,bE] at h; subst h; rfl)
  | (refine ⟨h,?_⟩; obtain ⟨b,_,rfl⟩:=h; rfl)
  | (refine ⟨h,?_⟩; obtain ⟨b,_,_,_,_,_,rfl⟩:=h; rfl)
  | (refine ⟨h,?_⟩; simp only [NA,BA,bE] at h; obtain ⟨b,off,rfl,_⟩:=h; rfl)
theorem cells_rep {av avb:Av} {x:AV} {v:Value} (h:NA ι av avb w x v) (hx:x.whole=true):KA ι av w x.cells v.cells.toList:=by
 cases x with
 | agg cs=>obtain ⟨us,rfl,hc⟩:=h; exact hc
 | _ =>
  obtain ⟨h1,h2⟩:=jY h hx;cases v <;> first | exact ⟨_,[],rfl,h1,h2,rfl⟩ | (simp [Value.oneCell'] at h2; done)
theorem L9 (off:Nat):∀ (l:List Value) (k:Nat) (cells:Array Value),off + k + l.length<=cells.size →
  ((l.zipIdx k).foldl (fun cs (p:Value × Nat)=>cs.setIfInBounds (off + p.2) p.1) cells).toList=cells.toList.take (off + k)++l++cells.toList.drop (off + k + l.length)
 | [],k,cells,_=>by simp
 | v :: l,k,cells,h=>by
  simp only [yI] at h;rw [List.zipIdx_cons,List.foldl_cons,L9 off l (k + 1) _ (by simp; omega)];simp only [Array.toList_setIfInBounds,yI];have hk:off + k<cells.toList.length:=by simp; omega
  rw [show off + (k + 1)=off + k + 1 from by omega,List.take_succ_eq_append_getElem (by simpa using hk)];rw [List.take_set_of_le (yf _),List.getElem_set_self,List.drop_set_of_lt (by omega)];simp [List.append_assoc,show off + k + 1 + l.length=off + k + (l.length + 1) from by omega]
theorem HS {pl:Nat->Option (Nat × Nat)} {av avb:Av} (zd:avb=avb):∀ {ps:List (Nat × Operand)} {ys:List (Nat × CB)} {zs:List (Nat × Nat × CB)} {cs ds:List AV} {us:Array Value},
  (∀ (X:Operand) (y:CB),opd X=some y->NA ι av avb w (y.get s) (a.eval X))->opds ps=some ys->gQ pl ys=some zs->(∀ p∈zs,(p.2.2.get s).whole=true) →
  GS cs (zs.map fun p=>(p.1,p.2.1,(p.2.2.get s).cells))=some ds->KA ι av w cs us.toList->∃ oa,Instr.fill pl us (ps.map fun p=>(p.1,a.eval p.2))=some oa/\KA ι av w ds oa.toList
 | [],ys,zs,cs,ds,us,_,hy,hz,_,hf,hc=>by
  injection hy with hy; subst hy;injection hz with hz; subst hz;injection hf with hf; subst hf;exact ⟨us,rfl,hc⟩
 | (i,X) :: ps,ys,zs,cs,ds,us,rb,hy,hz,hl,hf,hc=>by
  unfold opds at hy;split at hy
  ·rename_i x l hx hr;injection hy with hy; subst hy;unfold gQ at hz;split at hz
   ·rename_i off z l' hp gg;injection hz with hz; subst hz;simp only [yl,GS] at hf;split at hf
    ·rename_i aa;have gc:=cells_rep (rb X x hx) (hl _ (yk));have ba:=gD gc;have hlu:=gD hc;simp only [yO] at ba hlu;have ma:(a.eval X).cells.size=z:=by rw [ba]; exact aa.1
     have hfold:((a.eval X).cells.zipIdx.foldl (fun cs (p:Value × Nat)=>cs.setIfInBounds (off + p.2) p.1) us).toList=us.toList.take off++(a.eval X).cells.toList++us.toList.drop (off + z):=by
      rw [<- Array.foldl_toList,Array.toList_zipIdx,L9 off _ 0 us (by simp [ma]; omega)];simp [ma]
     have kc:KA ι av w (cs.take off++(x.get s).cells++cs.drop (off + z)) (((a.eval X).cells.zipIdx.foldl (fun cs (p:Value × Nat)=>cs.setIfInBounds (off + p.2) p.1) us)).toList:=by
      rw [hfold];exact WH (WH (jG off hc) gc) (SF (off + z) hc)
     obtain ⟨oa,h1,h2⟩:=HS zd rb hr gg (fun p hp=>hl p (yh _ hp)) hf kc;refine ⟨oa,?_,h2⟩;simp only [yl,Instr.fill,hp];rw [if_neg (by simp [ma]; omega)];exact h1
    ·cases hf
   ·cases hz
  ·cases hy
theorem Q4 (R:dC P O nt B F0 da w0 D s a w ι Θ) {t:TypeId} {ps:Array (Nat × Operand)} {ys:List (Nat × CB)} {zs:List (Nat × Nat × CB)} {zero:List AV} {pl:Nat->Option (Nat × Nat)} {z:Value} (cz:lL z.cells.toList=some zero)
  (hb:P.built t (ps.map fun (i,x)=>(i,a.eval x)).toList=Instr.fill pl z.cells (ps.map fun (i,x)=>(i,a.eval x)).toList) (hy:opds ps.toList=some ys) (hp:gQ pl ys=some zs) (ho:o.op=.build t ps)
  {call} {x:rA} {e:nD} (hr:(K.build zero zs).run call s=some (x,e)):e=.none/\lS P da a w ι Θ o x:=by
 simp only [K.run] at hr;split at hr
 ·rename_i za;cases hf:GS zero (zs.map fun p=>(p.1,p.2.1,(p.2.2.get s).cells)) with
  | none=>rw [hf] at hr; cases hr
  | some ds =>
   rw [hf] at hr;injection hr with hr; injection hr with e1 e2; subst e1; subst e2;obtain ⟨oa,h1,h2⟩:=HS (pl:=pl) (ι:=ι) (av:=AC da ι Θ) (avb:=SC ι Θ) (w:=w) (s:=s) (a:=a) rfl (fun X y h=>(R.opd h).1) hy hp (fun p hp=>by
    have:=y6.1 za p hp;exact this) hf (wJ cz _ _)
   have h3:P.built t (ps.map fun (i,x)=>(i,a.eval x)).toList=some oa:=by
    rw [hb,Array.toList_map];exact h1
   exact ⟨rfl,.agg oa,by simp only [execOp,ho,Sem.run_bind,run_build w t _ oa h3,Result.andThen_ok,Sem.run_pure],⟨oa,rfl,h2⟩,trivial⟩
 ·cases hr
def Ix.add (ι:Ix) (d n b z:Nat):Ix:=⟨fun t' n'=>if t'=d/\n'=n then some b else ι t' n',ι.ob,fun b'=>if b'=b then z else ι.z b'⟩
section
variable (R:dC P O nt B F0 da w0 D s a w ι Θ)
include R
theorem dC.low {b o:Nat} (h:AC da ι Θ b o):b<w.heap.size:=by
 have h1:=R.kept.size;have h2:=R.base;rcases h with h | (⟨t,n,h⟩ | ⟨t,n,H,h,hb⟩) | ⟨k,ow,h,rfl,_⟩
 ·have:=R.out _ _ h; omega
 ·exact (R.mine _ _ _ h).2.1
 ·exact ((R.obs _ _ _ h).1 _ hb).2.1
 ·obtain ⟨_,_,_,_,cur,h5,_⟩:=R.tok _ _ h;exact TA h5
theorem dC.lowB:B<=w.heap.size:=by
 have h1:=R.kept.size;have h2:=R.base;omega
theorem dC.new {d:Nat} (hd:d<nt) (hD:¬ D d) {r:List rA} {cur:Array Value} (ty:TypeId) (ka:BD ι Θ (AC da ι Θ) w r cur) {x:AV} {v:Value}
  (hx:∀ ι':Ix,ι' d s.next=some w.heap.size->ι'.z w.heap.size=cur.size->NA ι' (AC da ι' Θ) (SC ι' Θ) (w.alloc (.cells cur ty)) x v) :
  ∃ ι',dC P O nt B F0 da w0 (fun t=>D t\/t=d) ((s.setRow d s.next r).put (some d) ⟨x,.no⟩) (a.put (some d) v) (w.alloc (.cells cur ty)) ι' Θ:=by
 have ne:ι d s.next=none:=by
  cases h:ι d s.next with
  | none=>rfl
  | some b =>
   rcases (R.mine _ _ _ h).2.2 with h1 | h1
   ·omega
   ·exact absurd h1.2 hD
 have oe:ι.ob d s.next=none:=by
  cases h:ι.ob d s.next with
  | none=>rfl
  | some b =>
   rcases (R.obs _ _ _ h).2 with h1 | h1
   ·omega
   ·exact absurd h1.2 hD
 have ad:∀ t n b,ι t n=some b->(ι.add d s.next w.heap.size cur.size) t n=some b:=fun t n b h=>by
  show (if t=d/\n=s.next then some w.heap.size else ι t n)=some b;split
  ·rename_i e; rw [e.1,e.2,ne] at h; cases h
  ·exact h
 have mi:∀ t n b,(ι.add d s.next w.heap.size cur.size) t n=some b->b<w.heap.size->ι t n=some b:=fun t n b h hb=>by
  have h':(if t=d/\n=s.next then some w.heap.size else ι t n)=some b:=h;split at h'
  ·injection h' with h'; omega
  ·exact h'
 have kc:(ι.add d s.next w.heap.size cur.size) d s.next=some w.heap.size:=by
  show (if d=d/\s.next=s.next then some w.heap.size else ι d s.next)=_;rw [if_pos ⟨rfl,rfl⟩]
 have lj:∀ b o,b<w.heap.size->SC (ι.add d s.next w.heap.size cur.size) Θ b o->SC ι Θ b o:=fun b o hb h=>h.imp (fun h=>h.imp (fun ⟨t,n,h⟩=>⟨t,n,mi t n b h hb⟩) id) id
 have hAx:∀ b o,b<w.heap.size->AC da (ι.add d s.next w.heap.size cur.size) Θ b o->AC da ι Θ b o:=fun b o hb h=>h.imp id (lj b o hb)
 have uf:∀ b,b<w.heap.size->(w.alloc (.cells cur ty)).heap[b]?=w.heap[b]?:=fun b hb=>Below.heap_alloc w _ b hb
 have hA:XA (AC da ι Θ) (AC da (ι.add d s.next w.heap.size cur.size) Θ) w (w.alloc (.cells cur ty)):=XA.grown uf hAx;have hB:XA (SC ι Θ) (SC (ι.add d s.next w.heap.size cur.size) Θ) w (w.alloc (.cells cur ty)):=XA.grown uf lj;have le:=R.lowB;have ub:Ix.Le ι (ι.add d s.next w.heap.size cur.size):=⟨ad,fun t n b h=>by
  have:=(R.mine t n b h).2.1;show (if b=w.heap.size then cur.size else ι.z b)=ι.z b;rw [if_neg (by omega)]⟩
 have hzn:(ι.add d s.next w.heap.size cur.size).z w.heap.size=cur.size:=if_pos rfl;refine ⟨ι.add d s.next w.heap.size cur.size,dC.put (s:=s.setRow d s.next r) ⟨R.defers,R.size,fun t=>NA.held ub hA hB _ _ (R.env t),R.ann,fun t n r' hr=>?_,fun t n b h=>?_,fun t n t' n' b h h'=>?_,fun k o h=>?_,R.tinj,fun k o t n h h'=>?_,R.out,fun p h=>⟨ad _ _ _ (R.pin p h).1,(R.pin p h).2.imp (fun g=>⟨g.1,(ub.z _ _ _ (R.pin p h).1).trans g.2⟩) id⟩,R.kept.alloc _,R.base,fun t n S h=>?_,fun t n H h=>?_,fun t=>NA.held ub hA hB _ _ (R.gen t),R.gann⟩ hd (hx _ kc hzn) trivial⟩
 ·simp only [aA.setRow] at hr;split at hr
  ·rename_i e;injection hr with hr;subst hr;refine ⟨by show ι.ob t n=none; rw [e.1,e.2]; exact oe,w.heap.size,cur,ty,by rw [e.1,e.2]; exact kc,JR rfl,ka.held ub hA (fun _ _ h=>h),.inl le,hzn.symm⟩
  ·obtain ⟨h0,b,wb,dr,h1,h2,h3,h4,h5⟩:=R.rows t n r' hr;exact ⟨h0,b,wb,dr,ad _ _ _ h1,(uf b (TA h2)).trans h2,h3.held ub hA (fun _ _ h=>h),h4,h5.trans (ub.z _ _ _ h1).symm⟩
 ·have h':(if t=d/\n=s.next then some w.heap.size else ι t n)=some b:=h;split at h'
  ·rename_i e;injection h' with h';subst h';exact ⟨.inl le,by simp,.inr ⟨e.2,.inr e.1⟩⟩
  ·obtain ⟨h2,h3,h4⟩:=R.mine t n b h';exact ⟨h2,by simp; omega,h4.imp id fun ⟨e,d⟩=>⟨e,.inl d⟩⟩
 ·have g:(if t=d/\n=s.next then some w.heap.size else ι t n)=some b:=h;have g':(if t'=d/\n'=s.next then some w.heap.size else ι t' n')=some b:=h';split at g <;> split at g'
  ·rename_i e e'; exact ⟨e.1.trans e'.1.symm,e.2.trans e'.2.symm⟩
  ·injection g with g; have:=(R.mine _ _ _ g').2.1; omega
  ·injection g' with g'; have:=(R.mine _ _ _ g).2.1; omega
  ·exact R.inj t n t' n' b g g'
 ·obtain ⟨h1,h2,h3,h4,wb,h5,h6⟩:=R.tok k o h;exact ⟨h1,h2,h3,h4,wb,(uf _ (TA h5)).trans h5,h6⟩
 ·obtain ⟨_,_,_,_,wb,h5,_⟩:=R.tok k o h;exact R.apart k o t n h (mi t n _ h' (TA h5))
 ·obtain ⟨p,H,h1,h2,h3,h4⟩:=R.objs t n S h;exact ⟨p,H,ad _ _ _ h1,h2,O.keep h3 (fun b hH=>uf b (O.lt h3 hH)) (by simp),h4.keep (fun t n b H h g=>⟨ad _ _ _ h,H,g⟩) fun x hx=>(uf _ (TA hx)).trans hx⟩
 ·obtain ⟨h1,h2⟩:=R.obs t n H h;refine ⟨fun b hb=>?_,h2.imp id fun ⟨e,d⟩=>⟨e,.inl d⟩⟩;obtain ⟨g1,g2,g3,g4⟩:=h1 b hb;exact ⟨g1,by simp; omega,fun t' n' h'=>g3 t' n' (mi t' n' b h' g2),g4⟩
end
end
end
section
open Go Go.RowKit
section
variable {P:Program} {O:GI} {nt B:Nat} {F0:cP} {da:Av} {w0:World} {D:Nat->Prop} {s:aA} {a:Act} {w w':World} {ι:Ix} {Θ:IL} {o:Oper}
def CD (P:Program) (O:GI) (nt B:Nat) (F0:cP) (da:Av) (w0:World) (D:Nat->Prop) (s:aA) (a:Act) (w:World):Prop:=∃ ι Θ,dC P O nt B F0 da w0 D s a w ι Θ
theorem BD.of {av:Av}:∀ {r:List rA} {cur:List Value},KA ι av w (r.map (·.v)) cur->(∀ (j:Nat) (x:rA) (u:Value),r[j]?=some x->cur[j]?=some u->RM Θ x.a u)->BD ι Θ av w r cur.toArray:=by
 intro r cur h ha;refine ⟨by have:=gD h; simp at this; simp [this],fun j x hx=>?_⟩;obtain ⟨u,hu,h1,hr⟩:=jK h (j:=j) (x:=x.v) (by simp [hx]);exact ⟨u,by simpa using hu,h1,hr,ha j x u hx hu⟩
theorem op_alloc (R:dC P O nt B F0 da w0 D s a w ι Θ) {t:TypeId} {zero:List AV} (hz:tK P t=some zero) (ho:o.op=.alloc t) {d:Nat} (ca:o.dst=some d) (hd:d<nt) (hD:¬ D d) {call} {xe:rA × nD} (hr:(K.alloc zero).run call s=some xe) {g} {s':aA} (he:PA.eff ⟨o.dst,.alloc zero,g⟩ s xe=some s') :
  ∃ v w',(execOp a.eval o).run P w=.ok (.value v) w'/\CD P O nt B F0 da w0 (fun t=>D t\/t=d) s' (a.put o.dst v) w':=by
 obtain ⟨z,i,hi,jp,ia,hl⟩:=LG hz w;simp only [K.run] at hr;injection hr with hr;subst hr;simp only [PA.eff,ca] at he;injection he with he;subst he;refine ⟨.pointer (some ⟨w.heap.size,0,none⟩),w.alloc (.cells z.cells t),by simp [execOp,ho,Instr.alloc,ia,newVar,newRow],?_⟩;rw [ca];have lc:=wJ (ι:=ι) hl (AC da ι Θ) w;have ka:BD ι Θ (AC da ι Θ) w (zero.map fun v=>⟨v,rB v⟩) z.cells.toList.toArray:=BD.of (by
  rw [y0,show ((fun x:rA=>x.v) ∘ fun v=>(⟨v,rB v⟩:rA))=id from rfl,List.map_id];exact lc) (fun j x u hx hu=>by
  rw [y8] at hx;cases bq:zero[j]? with
  | none=>rw [bq] at hx; cases hx
  | some v =>
   rw [bq] at hx;injection hx with hx;subst hx;obtain ⟨u',gt,_,hr⟩:=jK lc bq;rw [hu] at gt;injection gt with gt;subst gt;show RM Θ (rB v) u;unfold rB;split
   ·simp only [BA,bE] at hr;obtain ⟨A,c,rfl,_,_,hn,_⟩:=hr;obtain ⟨rfl,h0,rfl⟩:=hn trivial;exact ⟨none,0,by rw [h0]⟩
   ·trivial)
 rw [yS] at ka;exact let ⟨ι',h⟩:=R.new hd hD t ka (x:=.ptr d s.next 0) (v:=.pointer (some ⟨w.heap.size,0,none⟩)) (fun ι' h _=>⟨_,h,rfl⟩); ⟨ι',Θ,h⟩
theorem op_boxE (R:dC P O nt B F0 da w0 D s a w ι Θ) {t:TypeId} {z:Nat} {X:Operand} {x:CB} (hx:opd X=some x) (ho:o.op=.box t X) {d:Nat} (ca:o.dst=some d) (hd:d<nt) (hD:¬ D d) {call} {xe:rA × nD} (hr:(K.box z x).run call s=some xe) {g} {s':aA} (he:PA.eff ⟨o.dst,.box z x,g⟩ s xe=some s') :
  ∃ v w',(execOp a.eval o).run P w=.ok (.value v) w'/\CD P O nt B F0 da w0 (fun t=>D t\/t=d) s' (a.put o.dst v) w':=by
 have hX:=R.opd hx;have ia:(execOp a.eval o).run P w=.ok (.value (.pointer (some ⟨w.heap.size,0,none⟩))) (w.alloc (.cells (a.eval X).cells t)):=by simp [execOp,ho,Instr.box,newVar,newRow]
 have key:∀ (r:List rA),BD ι Θ (AC da ι Θ) w r (a.eval X).cells->CD P O nt B F0 da w0 (fun t=>D t\/t=d) ((s.setRow d s.next r).put (some d) ⟨.ptr d s.next 0,.no⟩) (a.put (some d) (.pointer (some ⟨w.heap.size,0,none⟩))) (w.alloc (.cells (a.eval X).cells t)):=fun r h =>
  let ⟨ι',h⟩:=R.new hd hD t h (x:=.ptr d s.next 0) (v:=.pointer (some ⟨w.heap.size,0,none⟩)) (fun ι' h _=>⟨_,h,rfl⟩); ⟨ι',Θ,h⟩
 simp only [K.run] at hr;split at hr
 ·rename_i cs hv;split at hr
  ·injection hr with hr;subst hr;simp only [PA.eff,ca] at he;injection he with he;subst he;refine ⟨_,_,ia,?_⟩;rw [ca];refine key _ ?_;rw [hv] at hX;obtain ⟨us,hu,hc⟩:=hX.1;rw [hu];have:=BD.of (Θ:=Θ) (r:=cs.map fun v=>(⟨v,.no⟩:rA)) (cur:=us.toList) (ι:=ι) (w:=w) (av:=AC da ι Θ) (by rw [y0,show ((fun x:rA=>x.v) ∘ fun v=>(⟨v,.no⟩:rA))=id from rfl,List.map_id]; exact hc) (fun j x u hx _=>by
    rw [y8] at hx;cases bq:cs[j]? with
    | none=>rw [bq] at hx; cases hx
    | some v=>rw [bq] at hx; injection hx with hx; subst hx; trivial)
   simpa [Value.cells] using this
  ·cases hr
 ·rename_i hv;split at hr
  ·rename_i jm;injection hr with hr;subst hr;simp only [PA.eff,ca] at he;injection he with he;subst he;refine ⟨_,_,ia,?_⟩;rw [ca];refine key _ ?_;obtain ⟨h1,h2⟩:=jY hX.1 jm;have hc:(a.eval X).cells=#[a.eval X]:=by
    generalize a.eval X=u at *
    cases u <;> first | rfl | (simp [Value.oneCell'] at h2; done)
   rw [hc];refine ⟨yf _,fun j y hy=>?_⟩;cases j with
   | zero =>
    simp only [List.getElem?_cons_zero] at hy;injection hy with hy;subst hy;exact ⟨a.eval X,rfl,h2,h1,hX.2⟩
   | succ j=>simp at hy
  ·cases hr
theorem HQ (zero:List Value) (av:Av) {zs:List AV} (hz:KA ι av w zs zero) (c:Nat):KA ι av w (yj c zs).flatten (yj c zero).flatten:=by
 induction c with
 | zero=>simp [KA]
 | succ c ih=>rw [List.replicate_succ,List.replicate_succ,yC,yC]; exact WH hz ih
theorem GQ (zero:Array Value) (c:Nat):((Array.range (c * zero.size)).map (zero[· % zero.size]!)).toList=(yj c zero.toList).flatten:=by
 apply List.ext_getElem?;intro j;have ba:(yj c zero.toList).flatten.length=c * zero.size:=by simp
 rcases Nat.lt_or_ge j (c * zero.size) with h | h
 ·have ab:0<zero.size:=by
   rcases yG zero.size with h0 | h0
   ·rw [h0] at h; simp at h
   ·exact h0
  have hm:=Nat.mod_lt j ab;have e1:((Array.range (c * zero.size)).map (zero[· % zero.size]!)).toList[j]?=some zero[j % zero.size]:=by
   simp [h,hm]
  rw [e1];clear e1 ba
  induction c generalizing j with
  | zero=>simp at h
  | succ c ih =>
   rw [List.replicate_succ,yC];rcases Nat.lt_or_ge j zero.size with h1 | h1
   ·rw [yV (by simpa using h1)];have:j % zero.size=j:=Nat.mod_eq_of_lt h1;simp [this,h1]
   ·rw [yP (by simpa using h1)];have h2:j - zero.size<c * zero.size:=by rw [yt] at h; omega
    have h3:(j - zero.size) % zero.size=j % zero.size:=by
     conv=>rhs; rw [show j=(j - zero.size) + zero.size from by omega,Nat.add_mod_right]
    have:=ih (j - zero.size) h2 (Nat.mod_lt _ ab);simp only [yO] at this ⊢;rw [<- this];simp [h3]
 ·rw [yZ (by simpa using h),yZ (by omega)]
theorem op_mks (R:dC P O nt B F0 da w0 D s a w ι Θ) {t e:TypeId} {i:TypeInfo} {zero:List AV} (ht:P.underlying t=some (.slice e)) (hi:P.info? e=some i) (hz:tK P e=some zero) (ma:zero.length=i.size) {X Y:Operand} {x y:CB} (hx:opd X=some x) (hy:opd Y=some y) (ho:o.op=.makeSlice t X Y) {d:Nat} (ca:o.dst=some d) (hd:d<nt) (hD:¬ D d)
  {call} {xe:rA × nD} (hr:(K.mks i.size i.bytes zero x y).run call s=some xe) {g} {s':aA} (he:PA.eff ⟨o.dst,.mks i.size i.bytes zero x y,g⟩ s xe=some s') :
  ∃ v w',(execOp a.eval o).run P w=.ok (.value v) w'/\CD P O nt B F0 da w0 (fun t=>D t\/t=d) s' (a.put o.dst v) w':=by
 obtain ⟨z,i',jc,jp,oh,hl⟩:=LG hz w;rw [hi] at jc;injection jc with jc;subst jc;have hX:=(R.opd hx).1;have hY:=(R.opd hy).1;simp only [K.run] at hr;split at hr
 ·rename_i l c hln hcn;obtain ⟨k1,n1,h1,zt,h11⟩:=QM hln;obtain ⟨k2,n2,h2,h20,h21⟩:=QM hcn;rw [h1,jB] at hX;rw [h2,jB] at hY;split at hr
  ·rename_i aa;obtain ⟨zw,ge,wg,_⟩:=aa;injection hr with hr;subst hr;simp only [PA.eff,ca] at he;injection he with he;subst he;have tk:z.cells.size=i.size:=by
    have:=kG hl;simp only [yO] at this;omega
   have au:n2=(c:Int):=by omega
   have jr:(i.bytes:Int) * n2<=281474976710656:=by
    rw [au,<- Int.natCast_mul,Nat.mul_comm];omega
   have wj:madeCells z.cells (c * i.size)=(yj c z.cells.toList).flatten.toArray:=by
    have h:=GQ z.cells c;rw [tk] at h;unfold madeCells;rw [<- tk] at h;rw [<- tk];have h':=congrArg List.toArray h;rw [yS] at h';exact h'
   have ia:(execOp a.eval o).run P w=.ok (.value (.slice (some ⟨w.heap.size,0,none⟩) l c)) (w.alloc (.cells (yj c z.cells.toList).flatten.toArray e)):=by
    have:=run_make (P:=P) w t e i z ht hi jp k1 k2 n1 n2 zt (by omega) jr (by omega);rw [h11,h21,wj] at this;simp [execOp,ho,hX,hY,this]
   refine ⟨_,_,ia,?_⟩;rw [ca];have ka:BD ι Θ (AC da ι Θ) w ((yj c zero).flatten.map fun v=>(⟨v,.no⟩:rA)) (yj c z.cells.toList).flatten.toArray:=BD.of (by
    rw [y0,show ((fun x:rA=>x.v) ∘ fun v=>(⟨v,.no⟩:rA))=id from rfl,List.map_id];exact HQ _ _ (wJ hl _ _) c) (fun j x u hx _=>by
    rw [y8] at hx;cases bq:(yj c zero).flatten[j]? with
    | none=>rw [bq] at hx; cases hx
    | some v=>rw [bq] at hx; injection hx with hx; subst hx; trivial)
   exact let ⟨ι',h⟩:=R.new hd hD e ka (x:=.ref d s.next i.size 0 l c) (v:=.slice (some ⟨w.heap.size,0,none⟩) l c) (fun ι' h hz=>⟨_,h,zw,c,yf _,by rw [hz,yD]; simp [List.length_flatten,tk],rfl⟩); ⟨ι',Θ,h⟩
  ·cases hr
 ·cases hr
end
end
section
open Go Go.RowKit
section
variable {P:Program} {O:GI} {nt B:Nat} {F0:cP} {da:Av} {w0:World} {D:Nat->Prop} {s:aA} {a:Act} {w w':World} {ι:Ix} {Θ:IL} {o:Oper}
theorem dC.alloc (R:dC P O nt B F0 da w0 D s a w ι Θ) (ob:Obj):dC P O nt B F0 da w0 D s a (w.alloc ob) ι Θ :=
 R.grow (fun b hb=>Below.heap_alloc w _ b hb) (by simp) (R.kept.alloc _)
theorem EH {av:Av}:∀ {xs:List AV} {us:List Value},KA ι av w xs us->(∀ x∈xs,x.free0=true)->DC av w xs us
 | [],_,h,_=>by simpa [DC,KA] using h
 | x :: r,_,h,hf=>by
  simp only [KA] at h;obtain ⟨u,oa,rfl,h0,h1,h⟩:=h;refine ⟨u,oa,rfl,?_,h1,EH h fun y hy=>hf y (yh _ hy)⟩;have hx:=hf x (yk);cases x <;> first | exact h0 | (simp [AV.free0] at hx; done)
theorem zU (sz:Nat):∀ (ps:List (Nat × CB)) (k:Nat) (A Z:List AV),ps.map (·.1)=List.range' k ps.length->A.length=k * sz->Z.length=ps.length * sz->(∀ p∈ps,(p.2.get s).cells.length=sz) →
  GS (A++Z) (ps.map fun p=>(p.1 * sz,sz,(p.2.get s).cells))=some (A++(ps.map fun p=>(p.2.get s).cells).flatten)
 | [],k,A,Z,_,_,hz,_=>by
  have:Z=[]:=yF (by simpa using hz);subst this;simp [GS]
 | (i,y) :: ps,k,A,Z,hp,hA,hZ,hl=>by
  simp only [yl,yI,List.range'_succ] at hp;injection hp with h1 h2;subst h1;have hy:(y.get s).cells.length=sz:=hl (_,y) (yk);simp only [yI] at hZ;have hZ2:sz<=Z.length:=by rw [hZ,yt]; omega
  simp only [yl,GS];rw [if_pos ⟨hy,by simp [hA]; omega⟩];have e1:(A++Z).take (i * sz)=A:=by rw [<- hA]; exact List.take_left
  have e2:(A++Z).drop (i * sz + sz)=Z.drop sz:=by rw [List.drop_append,<- hA,ye (by omega),yK]; congr 1; omega
  rw [e1,e2];have:=zU sz ps (i + 1) (A++(y.get s).cells) (Z.drop sz) h2 (by rw [yA,hA,hy,yt]) (by rw [List.length_drop,hZ,yt]; omega) (fun p hp=>hl p (yh _ hp));rw [this];simp
theorem uS (sz:Nat):∀ (ps:List (Nat × CB)),gQ (fun i=>some (i * sz,sz)) ps=some (ps.map fun p=>(p.1 * sz,sz,p.2))
 | []=>rfl
 | (i,x) :: r=>by simp [gQ,uS sz r]
theorem op_bsl (R:dC P O nt B F0 da w0 D s a w ι Θ) {t e:TypeId} {n z:Nat} {zero:List AV} (ht:P.underlying t=some (.slice e)) (hz:tK P e=some zero) (hs:gC P e=some z) (ma:zero.length=z) (ab:0<z) (pe:n * z<=16777216) {ps:Array (Nat × Operand)} {ys:List (Nat × CB)} (hy:opds ps.toList=some ys) (ho:o.op=.buildSlice t n ps)
  {call} {x:rA} {ef:nD} (hr:(K.bsl zero n ys).run call s=some (x,ef)):ef=.none/\∃ v w',(execOp a.eval o).run P w=.ok (.value v) w'/\dC P O nt B F0 da w0 D s a w' ι Θ/\NA ι (AC da ι Θ) (SC ι Θ) w' x.v v/\RM Θ x.a v:=by
 obtain ⟨zv,i',jc,jp,oh,hl⟩:=LG hz w;have hisz:i'.size=z:=by simp [gC,jc] at hs; exact hs
 have tk:zv.cells.size=z:=by
  have:=kG hl;simp only [yO] at this;omega
 simp only [K.run] at hr;split at hr
 ·rename_i aa;obtain ⟨zg,za⟩:=aa;injection hr with hr; injection hr with e1 e2; subst e1; subst e2;have mc:∀ p∈ys,(p.2.get s).free=true/\(p.2.get s).cells.length=zero.length:=fun p hp=>by
   have:=y6.1 za p hp;simpa using this
  have hn:ys.length=n:=by
   have:=congrArg List.length zg;simpa using this
  have pj:=zU (s:=s) z ys 0 [] (yj n zero).flatten (by rw [zg,List.range_eq_range',hn]) (by simp) (by simp [hn,ma]) (fun p hp=>by rw [(mc p hp).2,ma]);rw [yK,yK] at pj;have hwhole:∀ p∈ys,(p.2.get s).whole=true:=fun p hp=>by
   have:=(mc p hp).1;generalize p.2.get s=v at this;cases v <;> first | rfl | (simp [AV.free,AV.free0] at this; done)
  have hp:=uS z ys;have wj:((Array.range (n * z)).map (((if n * z=0 then (#[]:Array Value) else zv.cells)[· % (if n * z=0 then (#[]:Array Value) else zv.cells).size]!))).toList=(yj n zv.cells.toList).flatten:=by
   rcases yG n with h0 | h0
   ·subst h0; simp
   ·have:¬ n * z=0:=by have:=Nat.mul_pos h0 ab; omega
    simp only [if_neg this];rw [<- tk];exact GQ zv.cells n
  obtain ⟨oa,h1,h2⟩:=HS (pl:=fun i=>some (i * z,z)) (ι:=ι) (av:=AC da ι Θ) (avb:=SC ι Θ) (w:=w) (s:=s) (a:=a) rfl (fun X y h=>(R.opd h).1) hy hp (fun p hp=>by
   obtain ⟨q,hq,rfl⟩:=yB.1 hp;exact hwhole q hq) (by rw [y0]; exact pj) (us:=(Array.range (n * z)).map (((if n * z=0 then (#[]:Array Value) else zv.cells)[· % (if n * z=0 then (#[]:Array Value) else zv.cells).size]!))) (by
    rw [wj];exact HQ _ _ (wJ hl _ _) n)
  have ia:(execOp a.eval o).run P w=.ok (.value (.slice (some ⟨w.heap.size,0,none⟩) n n)) (w.alloc (.cells oa e)):=by
   have h3:Instr.fill (fun i=>some (i * z,z)) ((Array.range (n * z)).map (((if n * z=0 then (#[]:Array Value) else zv.cells)[· % (if n * z=0 then (#[]:Array Value) else zv.cells).size]!))) (ps.map fun (i,x)=>(i,a.eval x)).toList=some oa:=by
    rw [Array.toList_map];exact h1
   have ub:¬ (n * z > 2 ^ 24):=by omega
   by_cases h0:n * z=0
   ·simp only [if_pos h0] at h3;simp only [execOp,ho,Instr.buildSlice,Sem.run_bind,run_underlying ht,Result.andThen_ok,nC hs,if_neg ub,if_pos h0,Sem.run_pure,h3,newRow,run_newObj_alloc]
   ·simp only [if_neg h0] at h3;simp only [execOp,ho,Instr.buildSlice,Sem.run_bind,run_underlying ht,Result.andThen_ok,nC hs,if_neg ub,if_neg h0,Sem.run_pure,oh,h3,newRow,run_newObj_alloc]
  refine ⟨rfl,_,_,ia,R.alloc _,?_,⟨_,_,rfl⟩⟩;have R':=R.alloc (.cells oa e);have hA:XA (AC da ι Θ) (AC da ι Θ) w (w.alloc (.cells oa e)):=XA.grown (fun b hb=>Below.heap_alloc w _ b hb) fun _ _ _ h=>h
  rw [XD];simp only [bE];have ba:(ys.map fun p=>(p.2.get s).cells).length=n:=by simp [hn]
  refine ⟨_,n,by rw [ba],by rw [ba]; exact yf _,fun x hx y hy=>?_,(fun h=>by cases h),fun _=>⟨fun h=>(by cases h),fun _=>⟨w.heap.size,0,rfl,?_⟩⟩⟩
  ·obtain ⟨p,hp,rfl⟩:=yB.1 hx;obtain ⟨q,hq,rfl⟩:=yB.1 hy;rw [(mc p hp).2,(mc q hq).2]
  ·rw [MF];have af:∀ x∈(ys.map fun p=>(p.2.get s).cells).flatten,x.free0=true:=fun x hx=>by
    obtain ⟨l,hl,hx⟩:=List.mem_flatten.1 hx;obtain ⟨p,hp,rfl⟩:=yB.1 hl;have:=(mc p hp).1;generalize p.2.get s=v at this hx;cases v <;> first | (simp [AV.cells] at hx; subst hx; exact this) | exact y6.1 this x hx
   refine cJ (DC.held hA _ _ (EH h2 af)) fun j u hu=>⟨?_,fun h=>?_⟩
   ·rw [yD,cell_of_row _ w.heap.size j oa e (0,0) (JR rfl)];simpa using hu
   ·have:=R.low h;omega
 ·cases hr
theorem set_run {t:TypeId} {z:Nat} (hz:gC P t=some z) {b off:Nat} {cur:Array Value} {ty:TypeId} (hb:w.heap[b]?=some (.cells cur ty (0,0))) {v:Value} (hv:v.cells.size=z) (ub:off + z<=cur.size) (h1:∀ u∈v.cells.toList,u.oneCell'=true) :
  (Instr.storeAt t (.pointer (some ⟨b,off,none⟩)) v).run P w=.ok () (w.setRow b (cur.toList.take off++v.cells.toList++cur.toList.drop (off + z)).toArray):=by
 have mb:=run_storeCells_at P b off ty v.cells.toList 0 cur w hb (by simp [hv]; omega) h1;simp only [Nat.add_zero,yO,hv] at mb;simp [Instr.storeAt,Instr.sureAddr,storeVar,nC hz,hv,mb]
theorem dC.set (R:dC P O nt B F0 da w0 D s a w ι Θ) {t n b:Nat} {cur:Array Value} {ty:TypeId} (hb:ι t n=some b) (dd:ι.ob t n=none) (la:w.heap[b]?=some (.cells cur ty (0,0))) {r:List rA} {new:Array Value} (ka:BD ι Θ (AC da ι Θ) w r new) (fj:B<=b\/F0.r b) (hnz:new.size=ι.z b) :
  dC P O nt B F0 da w0 D (s.setRow t n r) a (w.setRow b new) ι Θ:=by
 have ta:∀ b',b'≠b->(w.setRow b new).heap[b']?=w.heap[b']?:=fun b' h=>setRow_other w b b' new h
 have ic:(w.setRow b new).heap[b]?=some (.cells new ty (0,0)):=setRow_heap w b cur new ty (0,0) la;have hB:XA (SC ι Θ) (SC ι Θ) w (w.setRow b new):=⟨fun b' o u hc hn=>by
  have:b'≠b:=fun e=>hn (.inl (.inl ⟨t,n,e ▸ hb⟩))
  exact ⟨(World.cell?_of_block (w:=w) (a:=⟨b',o,none⟩) (ta b' this)).trans hc,hn⟩⟩
 have hA:XA (AC da ι Θ) (AC da ι Θ) w (w.setRow b new):=⟨fun b' o u hc hn=>by
  have:b'≠b:=fun e=>hn (.inr (.inl (.inl ⟨t,n,e ▸ hb⟩)))
  exact ⟨(World.cell?_of_block (w:=w) (a:=⟨b',o,none⟩) (ta b' this)).trans hc,hn⟩⟩
 have bv:=R.mine t n b hb;refine ⟨R.defers,R.size,fun t=>NA.held (Ix.Le.refl _) hA hB _ _ (R.env t),R.ann,fun t' n' r' hr=>?_,fun t n b h=>?_,R.inj,fun k o h=>?_,R.tinj,R.apart,R.out,R.pin,?_,R.base,fun t' n' S h=>?_,fun t n H h=>(R.obs t n H h).grow (by simp),fun t=>NA.held (Ix.Le.refl _) hA hB _ _ (R.gen t),R.gann⟩
 ·simp only [aA.setRow] at hr;split at hr
  ·rename_i e;injection hr with hr;subst hr;exact ⟨by rw [e.1,e.2]; exact dd,b,new,ty,by rw [e.1,e.2]; exact hb,ic,ka.held (Ix.Le.refl _) hA (fun _ _ h=>h),fj,hnz⟩
  ·rename_i e;obtain ⟨h0,b',wb,dr,h1,h2,h3,h4⟩:=R.rows t' n' r' hr;have:b'≠b:=fun e'=>e (R.inj _ _ _ _ _ (e' ▸ h1) hb)
   exact ⟨h0,b',wb,dr,h1,(ta b' this).trans h2,h3.held (Ix.Le.refl _) hA (fun _ _ h=>h),h4⟩
 ·obtain ⟨h1,h2,h3⟩:=R.mine t n b h;exact ⟨h1,by simpa using h2,h3⟩
 ·obtain ⟨h1,h2,h3,h4,wb,h5,h6⟩:=R.tok k o h;have:o.g≠b:=fun e=>R.apart k o t n h (e ▸ hb)
  exact ⟨h1,h2,h3,h4,wb,(ta _ this).trans h5,h6⟩
 ·refine R.kept.setRow (fun fa=>?_) _;rcases bv.1 with h | h
  ·have:=R.base; omega
  ·exact h
 ·obtain ⟨p,H,h1,h2,h3,h4⟩:=R.objs t' n' S h;have sq:∀ b',H b'->b'≠b:=fun b' hH e=>by
   subst e;have:=((R.obs _ _ _ h2).1 _ hH).2.2.1 t n hb;rw [this.1,this.2,h2] at dd;cases dd
  exact ⟨p,H,h1,h2,O.keep h3 (fun b' hH=>ta b' (sq b' hH)) (by simp),h4.keep (fun t n b H h g=>⟨h,H,g⟩) fun x hx=>(ta p (sq p (O.main h3))).trans hx⟩
theorem BD.splice {av:Av} {r:List rA} {cur:Array Value} (h:BD ι Θ av w r cur) {off z:Nat} {m:List rA} {us:Array Value} (hm:BD ι Θ av w m us) (sd:us.size=m.length) (hz:m.length=z) (ub:off + z<=r.length):BD ι Θ av w (r.take off++m++r.drop (off + z)) (cur.toList.take off++us.toList++cur.toList.drop (off + z)).toArray:=by
 obtain ⟨h1,h2⟩:=h;obtain ⟨m1,m2⟩:=hm;have hl:r.length<=cur.toList.length:=by simpa using h1
 refine ⟨by simp only [yA,yN,List.length_drop,List.size_toArray,yO,sd] at *; omega,fun j x hx=>?_⟩;have ht:(r.take off).length=off:=by rw [yN]; omega
 have ht':(cur.toList.take off).length=off:=by rw [yN]; omega
 simp only [List.getElem?_toArray];rcases Nat.lt_or_ge j off with hj | hj
 ·rw [List.append_assoc,yV (by omega),yU] at hx;rw [List.append_assoc,yV (by omega),yU];rw [if_pos hj] at hx ⊢;obtain ⟨u,hu,h⟩:=h2 j x hx;exact ⟨u,by simpa using hu,h⟩
 ·rcases Nat.lt_or_ge j (off + z) with hj2 | hj2
  ·rw [List.append_assoc,yP (by omega),yV (by omega),ht] at hx;rw [List.append_assoc,yP (by omega),yV (by simp [sd]; omega),ht'];obtain ⟨u,hu,h⟩:=m2 _ x hx;exact ⟨u,by simpa using hu,h⟩
  ·rw [List.append_assoc,yP (by omega),yP (by omega),ht,yT] at hx;rw [List.append_assoc,yP (by omega),yP (by simp [sd]; omega),ht',yT];obtain ⟨u,hu,h⟩:=h2 _ x hx;refine ⟨u,?_,h⟩;have:us.toList.length=m.length:=by simpa using sd
   rw [this];simpa using hu
theorem op_store (R:dC P O nt B F0 da w0 D s a w ι Θ) {t:TypeId} {agg:Bool} {z:Nat} (hz:gC P t=some z) (hag:agg=true\/z=1) {X Y:Operand} {x y:CB} (hx:opd X=some x) (hy:opd Y=some y) (ho:o.op=.store t X Y) (hd:∀ d,o.dst=some d->d<nt) {cl:Cl} {call} {xe:rA × nD} (hr:(K.store cl agg z x y).run call s=some xe) {g} {s':aA} (he:PA.eff ⟨o.dst,.store cl agg z x y,g⟩ s xe=some s') :
  ∃ w',(execOp a.eval o).run P w=.ok .skip w'/\CD P O nt B F0 da w0 D s' (a.put o.dst undef) w':=by
 have hX:=(R.opd hx).1;have hY:=R.opd hy;simp only [K.run] at hr;split at hr
 ·rename_i t' n off uc;rw [uc,AF] at hX;obtain ⟨b,hb,hv⟩:=hX;split at hr
  ·cases hm:s.mem t' n with
   | none=>rw [hm] at hr; cases hr
   | some r =>
    rw [hm,V] at hr;cases hs:xA agg z off r (y.get s) (y.an s) with
    | none=>rw [hs] at hr; cases hr
    | some r' =>
     rw [hs] at hr;injection hr with hr;subst hr;simp only [PA.eff] at he;injection he with he;subst he;obtain ⟨ij,b',cur,ty,sa,la,ka,fj,so⟩:=R.rows t' n r hm;rw [hb] at sa;injection sa with sa;subst sa;have fin:∀ (m:List rA) (us:Array Value),r'=r.take off++m++r.drop (off + z)->m.length=z->off + z<=r.length->(a.eval Y).cells=us->us.size=m.length->BD ι Θ (AC da ι Θ) w m us->∃ w',(execOp a.eval o).run P w=.ok .skip w'/\CD P O nt B F0 da w0 D ((s.setRow t' n r').put o.dst ⟨.undef,.no⟩) (a.put o.dst undef) w':=fun m us h1 h2 h3 h4 h4' h5=>by
      have ma:(a.eval Y).cells.size=z:=by rw [h4,h4',h2]
      have nk:∀ u∈(a.eval Y).cells.toList,u.oneCell'=true:=fun u hu=>by
       rw [h4] at hu;obtain ⟨j,hj,rfl⟩:=yy hu;have mt:j<m.length:=by simp at hj; omega
       obtain ⟨u',gt,h6,_⟩:=h5.2 j m[j] (y4 mt);have:us[j]?=some (us.toList[j]):=by simp at hj ⊢
       rw [this] at gt;injection gt with gt;rw [gt];exact h6
      have ia:=set_run (P:=P) hz la ma (yw h3 ka.1) nk;refine ⟨w.setRow b (cur.toList.take off++(a.eval Y).cells.toList++cur.toList.drop (off + z)).toArray,by simp only [execOp,ho,hv,Sem.run_bind,ia,Result.andThen_ok,Sem.run_pure],ι,Θ,dC.putN ?_ hd trivial trivial⟩;rw [h4];subst h1;exact R.set hb ij la (ka.splice h5 h4' h2 h3) fj (by
       rw [<- so];have h6:=ka.1;simp only [List.size_toArray,yA,yN,List.length_drop,yO];omega)
     cases agg with
     | true =>
      simp only [xA,if_true] at hs;split at hs
      ·rename_i cs zq;split at hs
       ·rename_i aa;injection hs with hs;rw [zq] at hY;obtain ⟨us,hu,hc⟩:=hY.1;refine fin (cs.map (⟨·,.no⟩)) us hs.symm (by simpa using aa.1) aa.2 (by rw [hu]; rfl) (by have:=gD hc; simpa using this) ?_;have:=BD.of (Θ:=Θ) (r:=cs.map fun v=>(⟨v,.no⟩:rA)) (cur:=us.toList) (ι:=ι) (w:=w) (av:=AC da ι Θ) (by rw [y0,show ((fun x:rA=>x.v) ∘ fun v=>(⟨v,.no⟩:rA))=id from rfl,List.map_id]; exact hc) (fun j x u hx _=>by
         rw [y8] at hx;cases bq:cs[j]? with
         | none=>rw [bq] at hx; cases hx
         | some v=>rw [bq] at hx; injection hx with hx; subst hx; trivial)
        simpa using this
       ·cases hs
      ·cases hs
     | false =>
      have tt:z=1:=by rcases hag with h | h; cases h; exact h
      subst tt;simp only [xA,yp,if_false] at hs;split at hs
      ·rename_i aa;injection hs with hs;obtain ⟨h1,h2⟩:=jY hY.1 aa.1;have hc:(a.eval Y).cells=#[a.eval Y]:=by
        generalize a.eval Y=u at *
        cases u <;> first | rfl | (simp [Value.oneCell'] at h2; done)
       refine fin [⟨y.get s,y.an s⟩] #[a.eval Y] ?_ rfl (by have:=aa.2; omega) hc rfl ⟨yf _,fun j x hx=>?_⟩
       ·rw [<- hs,List.set_eq_take_append_cons_drop,if_pos aa.2];simp
       ·cases j with
        | zero=>simp at hx; subst hx; exact ⟨a.eval Y,rfl,h2,h1,hY.2⟩
        | succ j=>simp at hx
      ·cases hs
  ·cases hr
 ·cases hr
theorem iU {av:Av}:∀ {xs:List AV} {us:List Value},KA ι av w xs us->∀ u∈us,u.oneCell'=true
 | [],us,h,u,hu=>by simp only [KA] at h; subst h; cases hu
 | x :: r,us,h,u,hu=>by
  simp only [KA] at h;obtain ⟨u',oa,rfl,_,h1,h⟩:=h;rcases yc.1 hu with rfl | hu
  ·exact h1
  ·exact iU h u hu
theorem op_clr (R:dC P O nt B F0 da w0 D s a w ι Θ) {t e:TypeId} {zero:List AV} (ht:P.underlying t=some (.slice e)) (hz:tK P e=some zero) {X:Operand} {x:CB} (hx:opd X=some x) (ho:o.op=.call { callee:=.builtin .clear,args:=#[X],argTypes:=#[t] }) (hd:∀ d,o.dst=some d->d<nt) {cl:Cl} {call} {xe:rA × nD} (hr:(K.clr cl zero x).run call s=some xe) {g} {s':aA} (he:PA.eff ⟨o.dst,.clr cl zero x,g⟩ s xe=some s') :
  ∃ v w',(execOp a.eval o).run P w=.ok (.value v) w'/\CD P O nt B F0 da w0 D s' (a.put o.dst v) w':=by
 obtain ⟨z,i',jc,jp,oh,hl⟩:=LG hz w;have hX:=(R.opd hx).1;simp only [K.run] at hr;split at hr
 ·rename_i nl hy;rw [hy,XD] at hX;simp only [bE] at hX;obtain ⟨A,c,hv,_⟩:=hX;injection hr with hr;subst hr;simp only [PA.eff] at he;injection he with he;subst he;refine ⟨.tuple #[],w,?_,ι,Θ,R.putN hd trivial trivial⟩;cases A <;> simp [execOp,ho,resolve,invoke,builtin,Builtin.clear_,run_underlying ht,hv]
 ·rename_i t' n sz off ln cap hy;rw [hy] at hX;obtain ⟨b,hb,_,c,_,_,hv⟩:=hX;split at hr
  ·rename_i aa;obtain ⟨_,cz,hln⟩:=aa;cases hm:s.mem t' n with
   | none=>rw [hm] at hr; cases hr
   | some r =>
    rw [hm,V] at hr;unfold clrC at hr;split at hr
    ·rename_i ub;injection hr with hr;subst hr;simp only [PA.eff] at he;injection he with he;subst he;obtain ⟨ij,b',cur,ty,sa,la,ka,fj,so⟩:=R.rows t' n r hm;rw [hb] at sa;injection sa with sa;subst sa;have tk:z.cells.size=zero.length:=by
      have:=kG hl;simp only [yO] at this;omega
     have hzc:(Builtin.zeroCells z.cells ln).toList=(yj ln z.cells.toList).flatten:=GQ z.cells ln;have hRep:=HQ (ι:=ι) (w:=w) z.cells.toList (AC da ι Θ) (wJ hl _ _) ln;have ba:(yj ln z.cells.toList).flatten.length=ln * zero.length:=by simp [tk]
     have nk:∀ u∈(yj ln z.cells.toList).flatten,u.oneCell'=true:=iU hRep;have mb:=run_storeCells_at P b off ty (yj ln z.cells.toList).flatten 0 cur w la (by have:=ka.1; omega) nk;simp only [Nat.add_zero,ba] at mb;obtain ⟨m,rfl⟩:∃ m,ln=m + 1:=⟨ln - 1,by omega⟩;have ia:(execOp a.eval o).run P w=.ok (.value (.tuple #[])) (w.setRow b (cur.toList.take off++(yj (m + 1) z.cells.toList).flatten++cur.toList.drop (off + (m + 1) * zero.length)).toArray):=by
      simp [execOp,ho,resolve,invoke,builtin,Builtin.clear_,run_underlying ht,hv,oh,hzc,mb]
     refine ⟨_,_,ia,ι,Θ,dC.putN ?_ hd trivial trivial⟩;have xm:BD ι Θ (AC da ι Θ) w (jA (yj (m + 1) zero)) (yj (m + 1) z.cells.toList).flatten.toArray:=BD.of (by
      unfold jA;rw [y0,show ((fun x:rA=>x.v) ∘ fun v=>(⟨v,.no⟩:rA))=id from rfl,List.map_id];exact hRep) (fun j x u hx _=>by
      unfold jA at hx;rw [y8] at hx;cases bq:(yj (m + 1) zero).flatten[j]? with
      | none=>rw [bq] at hx; cases hx
      | some v=>rw [bq] at hx; injection hx with hx; subst hx; trivial)
     have ma:(yj (m + 1) z.cells.toList).flatten.toArray.size=(jA (yj (m + 1) zero)).length:=by simp [jA,tk]
     have hzl2:(jA (yj (m + 1) zero)).length=(m + 1) * zero.length:=by simp [jA]
     have:=ka.splice xm ma hzl2 ub;exact R.set hb ij la this fj (by
      rw [<- so];have h6:=ka.1;simp only [List.size_toArray,yA,yN,List.length_drop,yO,ba];omega)
    ·cases hr
  ·cases hr
 ·cases hr
end
end
section
section
variable {call:DB} {s s':aA}
def F1 (s s':aA) (l:List CB):Prop:=∀ o∈l,o.get s=o.get s'/\o.an s=o.an s'
def K.reads (k:K) (t:Nat):Prop:=match k.cl with
 | none=>False
 | some .imm=>False
 | some (.root r)=>t=r
 | some (.out L)=>L.contains t=false
 | some .any=>True
theorem w8 {cl:Cl} (hm:cl.okMem=true->∀ t n,s.mem t n=s'.mem t n) (v:AV):wQ s cl v=wQ s' cl v:=by
 cases v <;> simp only [wQ]
 split
 ·rename_i na; rw [hm na]
 ·rfl
theorem SO {cl:Cl} (hm:cl.okMem=true->∀ t n,s.mem t n=s'.mem t n):∀ (l:List AV),JD s cl l=JD s' cl l
 | []=>rfl
 | x :: r=>by simp only [JD,w8 hm x,SO hm r]
section
variable {cl:Cl} (hm:cl.okMem=true->∀ t n,s.mem t n=s'.mem t n) (zb:s.obj=s'.obj) (v:AV)
include cl hm zb v
theorem GR:qT s cl v=qT s' cl v:=by
 unfold qT;split
 ·split
  ·rename_i na; rw [hm na]
  ·rfl
 ·rfl
 ·rfl
 ·rw [zb]
 ·rfl
theorem N7:gG s cl v=gG s' cl v:=by
 have:=GR hm zb v;cases v <;> simp only [gG,SO hm] <;> exact this
end
theorem aL {cl:Cl} (hm:cl.okMem=true->∀ t n,s.mem t n=s'.mem t n) (zb:s.obj=s'.obj):∀ {xs:List CB},F1 s s' xs->IE s cl xs=IE s' cl xs
 | [],_=>rfl
 | x :: r,h=>by
  have h1:=h x (yk);have h2:=aL hm zb (xs:=r) fun o ho=>h o (yh _ ho)
  unfold IE;rw [h2,h1.1];rw [N7 hm zb]
theorem wT {cl:Cl} {t n:Nat} (hm:cl.okMem=true->∀ t n,s.mem t n=s'.mem t n) (zb:s.obj=s'.obj):∀ {xs:List CB},F1 s s' xs->pD s cl t n xs=pD s' cl t n xs
 | [],_=>rfl
 | x :: r,h=>by
  have h1:=h x (yk);have h2:=wT (t:=t) (n:=n) hm zb (xs:=r) fun o ho=>h o (yh _ ho)
  unfold pD;rw [h2,h1.1];have:pG s cl t n (x.get s')=pG s' cl t n (x.get s'):=by
   unfold pG;split
   ·rfl
   ·rw [GR hm zb]
   ·rfl
   ·rw [GR hm zb]
  rw [this]
theorem JO {xs:List CB} (h:F1 s s' xs):NJ s xs=NJ s' xs:=by
 induction xs with
 | nil=>rfl
 | cons x r ih =>
  have h1:=h x (yk);unfold NJ at ih ⊢;rw [List.filterMap_cons,List.filterMap_cons,h1.1,ih fun o ho=>h o (yh _ ho)]
section
variable {cl:Cl} (hm:cl.okMem=true->∀ t n,s.mem t n=s'.mem t n) (v:AV)
include cl hm v
theorem IN:v.elems s cl=v.elems s' cl:=by
 cases v <;> simp only [AV.elems]
 split
 ·rename_i na; rw [hm na]
 ·rfl
theorem raws_congr:v.raws s cl=v.raws s' cl:=by
 cases v <;> simp only [AV.raws]
 case ref t n sz off len c =>
  split
  ·rename_i h; rw [hm h t n]
  ·rfl
end
theorem PO {d:Nat} {o:Option CB} (h:F1 s s' o.toList):EK s d o=EK s' d o:=by
 cases o with
 | none=>rfl
 | some o=>simp only [EK]; rw [(h o (by simp)).1]
theorem JQ (k:K) (h:F1 s s' k.opds) (hm:∀ t n,k.reads t->s.mem t n=s'.mem t n) (zb:QU k=true->s.obj=s'.obj):k.run call s=k.run call s':=by
 cases k with
 | mv x=>have h1:=h x (by simp [K.opds]); simp only [K.run,h1.1,h1.2]
 | pick c a b =>
  have h1:=h c (by simp [K.opds]); have h2:=h a (by simp [K.opds]); have h3:=h b (by simp [K.opds]);simp only [K.run,h1.1,h2.1,h2.2,h3.1,h3.2]
 | alloc z=>rfl
 | box z x=>have h1:=h x (by simp [K.opds]); simp only [K.run,h1.1,h1.2]
 | build z ps =>
  have h1:∀ p∈ps,p.2.2.get s=p.2.2.get s':=fun p hp=>(h p.2.2 (yB.2 ⟨p,hp,rfl⟩)).1
  have e1:ps.all (fun p=>(p.2.2.get s).whole)=ps.all (fun p=>(p.2.2.get s').whole):=by
   rw [Bool.eq_iff_iff,y6,y6];exact ⟨fun h p hp=>by rw [<- h1 p hp]; exact h p hp,fun h p hp=>by rw [h1 p hp]; exact h p hp⟩
  have e2:(ps.map fun p=>(p.1,p.2.1,(p.2.2.get s).cells))=ps.map fun p=>(p.1,p.2.1,(p.2.2.get s').cells):=yz fun p hp=>by rw [h1 p hp]
  simp only [K.run,e1,e2]
 | bsl z n ps =>
  have h1:∀ p∈ps,p.2.get s=p.2.get s':=fun p hp=>(h p.2 (yB.2 ⟨p,hp,rfl⟩)).1
  have e1:ps.all (fun p=>(p.2.get s).free&&decide ((p.2.get s).cells.length=z.length))=ps.all (fun p=>(p.2.get s').free&&decide ((p.2.get s').cells.length=z.length)):=by
   rw [Bool.eq_iff_iff,y6,y6];exact ⟨fun h p hp=>by rw [<- h1 p hp]; exact h p hp,fun h p hp=>by rw [h1 p hp]; exact h p hp⟩
  have e2:(ps.map fun p=>(p.2.get s).cells)=ps.map fun p=>(p.2.get s').cells:=yz fun p hp=>by rw [h1 p hp]
  simp only [K.run,e1,e2]
 | load cl g z x =>
  have h1:=h x (by simp [K.opds]);simp only [K.run,h1.1];split
  ·rename_i t n off _;split
   ·rename_i na;rw [hm t n];cases cl with
    | any=>trivial
    | imm=>simp [Cl.okPtr] at na
    | root r=>simp [Cl.okPtr] at na; exact na.symm
    | out L=>show L.contains t=false; simpa [Cl.okPtr] using na
   ·rfl
  ·rfl
  ·rfl
  ·rfl
 | clr cl z x =>
  have h1:=h x (by simp [K.opds]);simp only [K.run,h1.1];split
  ·rfl
  ·rename_i t n sz off ln _ _;split
   ·rename_i na;have na:=na.1;rw [hm t n];cases cl with
    | any=>trivial
    | imm=>simp [Cl.okPtr] at na
    | root r=>simp [Cl.okPtr] at na; exact na.symm
    | out L=>show L.contains t=false; simpa [Cl.okPtr] using na
   ·rfl
  ·rfl
 | store cl g z x y =>
  have h1:=h x (by simp [K.opds]); have h2:=h y (by simp [K.opds]);simp only [K.run,h1.1,h2.1,h2.2];split
  ·rename_i t n off _;split
   ·rename_i na;rw [hm t n];cases cl with
    | any=>trivial
    | imm=>simp [Cl.okPtr] at na
    | root r=>simp [Cl.okPtr] at na; exact na.symm
    | out L=>show L.contains t=false; simpa [Cl.okPtr] using na
   ·rfl
  ·rfl
 | mm b x y=>have h1:=h x (by simp [K.opds]); have h2:=h y (by simp [K.opds]); simp only [K.run,h1.1,h2.1]
 | bin op b x y=>have h1:=h x (by simp [K.opds]); have h2:=h y (by simp [K.opds]); simp only [K.run,h1.1,h2.1]
 | eqa n ks x y=>have h1:=h x (by simp [K.opds]); have h2:=h y (by simp [K.opds]); simp only [K.run,h1.1,h2.1]
 | eqn n p x y=>have h1:=h x (by simp [K.opds]); have h2:=h y (by simp [K.opds]); simp only [K.run,h1.1,h2.1]
 | un op x=>have h1:=h x (by simp [K.opds]); simp only [K.run,h1.1]
 | conv o x=>have h1:=h x (by simp [K.opds]); simp only [K.run,h1.1]
 | rstr x=>have h1:=h x (by simp [K.opds]); simp only [K.run,h1.1]
 | bstr cl x =>
  have h1:=h x (by simp [K.opds]);have h3:=IN (cl:=cl) (s:=s) (s':=s') (fun na t n=>hm t n (by cases cl <;> simp [Cl.okMem] at na; trivial)) (x.get s');simp only [K.run,h1.1,h3]
 | aslc cl l z x lo hi =>
  have h1:=h x (by simp [K.opds]);have h2:∀ d,EK s d lo=EK s' d lo:=fun d=>PO fun o ho=>h o (by simp only [K.opds,yc,yE]; exact .inr (.inl ho))
  have h3:∀ d,EK s d hi=EK s' d hi:=fun d=>PO fun o ho=>h o (by simp only [K.opds,yc,yE]; exact .inr (.inr ho))
  simp only [K.run,h1.1,h2,h3];split
  ·rename_i t n o _;cases hc:cl.okMem with
   | true=>rw [hm t n (by cases cl <;> simp [Cl.okMem] at hc; trivial)]
   | false =>
    simp only [yp,and_false,if_false];cases EK s' 0 lo <;> try rfl
    cases EK s' l hi <;> try rfl
    cases s.mem t n <;> cases s'.mem t n <;> rfl
  ·rfl
 | mkf f xs =>
  have h1:∀ x∈xs,x.get s=x.get s':=fun x hx=>(h x hx).1
  have e1:xs.all (fun x=>(x.get s).capOk)=xs.all (fun x=>(x.get s').capOk):=by
   rw [Bool.eq_iff_iff,y6,y6];exact ⟨fun h p hp=>by rw [<- h1 p hp]; exact h p hp,fun h p hp=>by rw [h1 p hp]; exact h p hp⟩
  have e2:xs.map (·.get s)=xs.map (·.get s'):=yz h1;simp only [K.run,e1,e2]
 | callv cl x xs =>
  have h0:=h x (by simp [K.opds]);have hx:F1 s s' xs:=fun o ho=>h o (by simp [K.opds,ho])
  have ui:cl.okMem=true->∀ t n,s.mem t n=s'.mem t n:=fun na t n=>hm t n (by cases cl <;> simp [Cl.okMem] at na; trivial)
  have h1:=aL (cl:=cl) (s:=s) (s':=s') ui (zb rfl) (xs:=xs) hx;have h2:=JO (xs:=xs) hx;have h3:∀ l,JD s cl l=JD s' cl l:=SO ui;simp only [K.run,h0.1,h1,h2,h3]
 | callr cl f xs =>
  have ui:cl.okMem=true->∀ t n,s.mem t n=s'.mem t n:=fun na t n=>hm t n (by cases cl <;> simp [Cl.okMem] at na; trivial)
  have h1:∀ t n,pD s cl t n xs=pD s' cl t n xs:=fun t n=>wT ui (zb rfl) (xs:=xs) h
  have h2:eC s xs=eC s' xs:=by
   cases xs with
   | nil=>rfl
   | cons x r=>simp only [eC,(h x (by simp [K.opds])).1]
  simp only [K.run,h1,h2];split
  ·rename_i t n _;split
   ·rename_i na;rw [hm t n (by cases cl with
     | any=>trivial
     | imm=>simp [Cl.okPtr] at na
     | root r=>simp [Cl.okPtr] at na; exact na.symm
     | out L=>show L.contains t=false; simpa [Cl.okPtr] using na)]
   ·rfl
  ·rfl
 | callh nt x xs=>rfl
 | nxt x=>rfl
 | slz x=>have h1:=h x (by simp [K.opds]); simp only [K.run,h1.1]
 | ent x=>have h1:=h x (by simp [K.opds]); simp only [K.run,h1.1,zb rfl]
 | rng x=>have h1:=h x (by simp [K.opds]); simp only [K.run,h1.1,zb rfl]
 | mks z b zs x y=>have h1:=h x (by simp [K.opds]); have h2:=h y (by simp [K.opds]); simp only [K.run,h1.1,h2.1]
 | slc st z x lo hi mx =>
  have h1:=h x (by simp [K.opds]);have h2:∀ d,EK s d lo=EK s' d lo:=fun d=>PO fun o ho=>h o (by simp only [K.opds,yc,yE]; exact .inr (.inl ho))
  have h3:∀ d,EK s d hi=EK s' d hi:=fun d=>PO fun o ho=>h o (by simp only [K.opds,yc,yE]; exact .inr (.inr (.inl ho)))
  simp only [K.run,h1.1,h2,h3]
 | faddr f x=>have h1:=h x (by simp [K.opds]); simp only [K.run,h1.1]
 | field g f z x=>have h1:=h x (by simp [K.opds]); simp only [K.run,h1.1]
 | aaddr l z x i=>have h1:=h x (by simp [K.opds]); have h2:=h i (by simp [K.opds]); simp only [K.run,h1.1,h2.1]
 | iaddr z x i=>have h1:=h x (by simp [K.opds]); have h2:=h i (by simp [K.opds]); simp only [K.run,h1.1,h2.1]
 | index x i=>have h1:=h x (by simp [K.opds]); have h2:=h i (by simp [K.opds]); simp only [K.run,h1.1,h2.1]
 | ext x i=>have h1:=h x (by simp [K.opds]); simp only [K.run,h1.1]
 | call cl f xs =>
  have h1:=aL (cl:=cl) (s:=s) (s':=s') (fun na t n=>hm t n (by cases cl <;> simp [Cl.okMem] at na; trivial)) (zb rfl) (xs:=xs) h;have h2:=JO (xs:=xs) h;simp only [K.run,h1,h2,zb rfl]
 | callf cl f z xs =>
  have h1:=aL (cl:=cl) (s:=s) (s':=s') (fun na t n=>hm t n (by cases cl <;> simp [Cl.okMem] at na; trivial)) (zb rfl) (xs:=xs) h;have h2:=JO (xs:=xs) h;simp only [K.run,h1,h2,zb rfl]
 | len st x=>have h1:=h x (by simp [K.opds]); simp only [K.run,h1.1]
 | app cl e z b x y =>
  have h1:=h x (by simp [K.opds]); have h2:=h y (by simp [K.opds]);have h3:=IN (cl:=cl) (s:=s) (s':=s') (fun na t n=>hm t n (by cases cl <;> simp [Cl.okMem] at na; trivial)) (y.get s');simp only [K.run,h1.1,h1.2,h2.1,h3]
 | mkm=>rfl
 | bad=>rfl
 | mkb T e=>rfl
 | mget ok ty z x k=>have h1:=h x (by simp [K.opds]); have h2:=h k (by simp [K.opds]); simp only [K.run,h1.1,h2.1,zb rfl]
 | mset ty x k v=>have h1:=h x (by simp [K.opds]); have h2:=h k (by simp [K.opds]); have h3:=h v (by simp [K.opds]); simp only [K.run,h1.1,h2.1,h3.1,zb rfl]
 | mlen x=>have h1:=h x (by simp [K.opds]); simp only [K.run,h1.1,zb rfl]
 | appf cl e z b x y =>
  have h1:=h x (by simp [K.opds]); have h2:=h y (by simp [K.opds]);have h3:∀ v:AV,v.elems s cl=v.elems s' cl:=fun v=>IN (cl:=cl) (s:=s) (s':=s') (fun na t n=>hm t n (by cases cl <;> simp [Cl.okMem] at na; trivial)) v
  simp only [K.run,h1.1,h1.2,h2.1,h3]
 | appm cl e z b x y =>
  have h1:=h x (by simp [K.opds]); have h2:=h y (by simp [K.opds]);have h3:∀ v:AV,v.elems s cl=v.elems s' cl:=fun v=>IN (cl:=cl) (s:=s) (s':=s') (fun na t n=>hm t n (by cases cl <;> simp [Cl.okMem] at na; trivial)) v
  simp only [K.run,h1.1,h1.2,h2.1,h3]
 | appn cl e z b x y =>
  have h1:=h x (by simp [K.opds]); have h2:=h y (by simp [K.opds]);have h3:∀ v:AV,v.raws s cl=v.raws s' cl:=fun v=>raws_congr (cl:=cl) (s:=s) (s':=s') (fun na t n=>hm t n (by cases cl <;> simp [Cl.okMem] at na; trivial)) v
  simp only [K.run,h1.1,h1.2,h2.1,h3]
 | bslr sz z n ps =>
  have h1:∀ p∈ps,p.2.get s=p.2.get s':=fun p hp=>(h p.2 (yB.2 ⟨p,hp,rfl⟩)).1
  have e1:ps.all (fun p=>(p.2.get s).whole&&decide ((p.2.get s).cells.length=z.length))=ps.all (fun p=>(p.2.get s').whole&&decide ((p.2.get s').cells.length=z.length)):=by
   rw [Bool.eq_iff_iff,y6,y6];exact ⟨fun h p hp=>by rw [<- h1 p hp]; exact h p hp,fun h p hp=>by rw [h1 p hp]; exact h p hp⟩
  have e2:(ps.map fun p=>(p.2.get s).cells)=ps.map fun p=>(p.2.get s').cells:=yz fun p hp=>by rw [h1 p hp]
  simp only [K.run,e1,e2]
 | nilchk x=>have h1:=h x (by simp [K.opds]); simp only [K.run,h1.1]
structure R6 (f:An->An):Prop where
 no:f .no=.no
 ex:f .ex=.ex
 own:∀ k e,f (.own k e)≠.ex
def aA.mapAn (s:aA) (f:An->An):aA:=⟨fun t=>⟨(s.env t).v,f (s.env t).a⟩,fun t n=>(s.mem t n).map (·.map fun x=>⟨x.v,f x.a⟩),s.next,s.obj,fun t=>⟨(s.gh t).v,f (s.gh t).a⟩⟩
def rA.mapAn (f:An->An) (x:rA):rA:=⟨x.v,f x.a⟩
def nD.mapAn (f:An->An):nD->nD
 | .new r=>.new (r.map (rA.mapAn f))
 | .set t n r=>.set t n (r.map (rA.mapAn f))
 | .ob2 t n S r=>.ob2 t n S (r.map (rA.mapAn f))
 | e=>e
theorem DA (f:An->An) (o:CB):o.get (s.mapAn f)=o.get s:=by cases o <;> rfl
theorem anN_map {f:An->An} (hf:R6 f) (b:Bool) (a:An):GC b (f a)=f (GC b a):=by
 cases b with
 | true=>exact hf.ex.symm
 | false=>rfl
theorem HP {f:An->An} (hf:R6 f) (o:CB):o.an (s.mapAn f)=f (o.an s):=by
 cases o with
 | t n=>rfl
 | c v=>cases v <;> first | exact hf.no.symm | (rename_i b l; cases b; exact hf.no.symm; exact hf.ex.symm)
theorem nZ (f:An->An) (r:List rA) (sz off len:Nat):iF (r.map (rA.mapAn f)) sz off len=iF r sz off len:=by
 unfold iF;have h1:(r.map (rA.mapAn f)).all (fun x=>x.v.free0)=r.all (fun x=>x.v.free0):=by rw [List.all_map]; rfl
 simp only [yn,h1];congr 1;congr 1;apply yz;intro i _;rw [<- List.map_drop,<- List.map_take,y0];rfl
theorem qW (f:An->An) (cl:Cl) (v:AV):v.elems (s.mapAn f) cl=v.elems s cl:=by
 cases v <;> simp only [AV.elems]
 rename_i t n sz off len cap;split
 ·simp only [aA.mapAn];cases s.mem t n with
  | none=>rfl
  | some r=>exact nZ f r sz off len
 ·rfl
theorem r8 (f:An->An) (cl:Cl) (v:AV):wQ (s.mapAn f) cl v=wQ s cl v:=by
 cases v <;> simp only [wQ]
 rename_i t n off;split
 ·simp only [aA.mapAn];cases s.mem t n with
  | none=>rfl
  | some r =>
   simp only [yq,<- List.map_drop,List.all_map,y0];rfl
 ·rfl
theorem DO (f:An->An) (cl:Cl):∀ (l:List AV),JD (s.mapAn f) cl l=JD s cl l
 | []=>rfl
 | x :: r=>by simp only [JD,r8 f cl x,DO f cl r]
theorem HR (f:An->An) (cl:Cl) (v:AV):qT (s.mapAn f) cl v=qT s cl v:=by
 unfold qT;split
 ·rename_i t n sz off len cap;split
  ·simp only [aA.mapAn];cases s.mem t n with
   | none=>rfl
   | some r=>simp only [yq,V]; rw [show (fun x:rA=>(⟨x.v,f x.a⟩:rA))=rA.mapAn f from rfl,nZ]
  ·rfl
 ·rfl
 ·rfl
 ·rfl
 ·rfl
theorem M7 (f:An->An) (cl:Cl) (v:AV):gG (s.mapAn f) cl v=gG s cl v:=by
 have:=HR (s:=s) f cl v;cases v <;> simp only [gG,DO] <;> exact this
theorem sL (f:An->An) (cl:Cl):∀ (xs:List CB),IE (s.mapAn f) cl xs=IE s cl xs
 | []=>rfl
 | x :: r=>by
  unfold IE;rw [sL f cl r,DA];rw [M7]
theorem rT (f:An->An) (cl:Cl) (t n:Nat):∀ (xs:List CB),pD (s.mapAn f) cl t n xs=pD s cl t n xs
 | []=>rfl
 | x :: r=>by
  unfold pD;rw [rT f cl t n r,DA];have:pG (s.mapAn f) cl t n (x.get s)=pG s cl t n (x.get s):=by
   unfold pG;split
   ·rfl
   ·rw [HR]
   ·rfl
   ·rw [HR]
  rw [this]
theorem WZ (f:An->An) (xs:List CB):eC (s.mapAn f) xs=eC s xs:=by
 cases xs with
 | nil=>rfl
 | cons x r=>simp only [eC,DA]
theorem K9 {f:An->An} (hf:R6 f) (v:AV):f (rB v)=rB v:=by
 unfold rB;split
 ·exact hf.ex
 ·exact hf.no
theorem KO (f:An->An) (xs:List CB):NJ (s.mapAn f) xs=NJ s xs:=by
 unfold NJ;simp only [DA]
theorem SX (f:An->An) (d:Nat) (o:Option CB):EK (s.mapAn f) d o=EK s d o:=by
 cases o with
 | none=>rfl
 | some o=>simp only [EK,DA]
theorem loadC_map (f:An->An) (hf:R6 f) (g:Bool) (z off:Nat) (r:List rA):SA g z off (r.map (rA.mapAn f))=(SA g z off r).map (rA.mapAn f):=by
 unfold SA;cases g with
 | true =>
  simp only [if_true,yn];split
  ·simp only [yq,rA.mapAn,hf.no,<- List.map_drop,<- List.map_take,y0];rfl
  ·rfl
 | false=>simp
theorem clrC_map (f:An->An) (hf:R6 f) (z:List AV) (off ln:Nat) (r:List rA):clrC z off ln (r.map (rA.mapAn f))=(clrC z off ln r).map (·.map (rA.mapAn f)):=by
 have h:(jA (yj ln z)).map (rA.mapAn f)=jA (yj ln z):=by
  unfold jA;rw [y0];refine yz fun v _=>?_
  simp [rA.mapAn,hf.no]
 unfold clrC;rw [yn];split
 ·simp only [yq,List.map_append,List.map_take,List.map_drop,h]
 ·rfl
theorem z9 (f:An->An) (hf:R6 f) (g:Bool) (z off:Nat) (r:List rA) (v:AV) (a:An):xA g z off (r.map (rA.mapAn f)) v (f a)=(xA g z off r v a).map (·.map (rA.mapAn f)):=by
 unfold xA;cases g with
 | true =>
  simp only [if_true,yn];cases v <;> try rfl
  simp only;split
  ·simp only [yq,List.map_append,List.map_take,List.map_drop,y0];congr 3;apply yz;intro x _;simp [rA.mapAn,hf.no]
  ·rfl
 | false =>
  simp only [yp,if_false,yn];split
  ·simp [rA.mapAn,List.map_set]
  ·rfl
theorem run_mapAn {f:An->An} (hf:R6 f) (k:K) (hk:isT k=false):k.run call (s.mapAn f)=(k.run call s).map fun p=>(p.1.mapAn f,p.2.mapAn f):=by
  cases k with
  | mv x=>simp [K.run,DA,HP hf,rA.mapAn,nD.mapAn]
  | callh nt x xs=>rfl
  | nxt x=>rfl
  | slz x =>
    simp only [K.run,DA];split <;> simp [rA.mapAn,nD.mapAn,hf.ex]
  | ent x =>
    simp only [K.run,DA,show (s.mapAn f).obj=s.obj from rfl];split
    · split
      · split
        · split
          · split
            · split <;> simp [rA.mapAn,nD.mapAn,hf.no]
            · rfl
          · rfl
        · rfl
      · rfl
    · rfl
  | rng x =>
    simp only [K.run,DA,show (s.mapAn f).obj=s.obj from rfl];split
    · split <;> simp [rA.mapAn,nD.mapAn,hf.no]
    · rfl
  | pick c a b =>
    simp only [K.run,DA,HP hf];split
    · rename_i t _
      cases t <;> simp [rA.mapAn,nD.mapAn]
    · rfl
  | alloc z =>
    simp only [K.run,yq,rA.mapAn,nD.mapAn,hf.no,y0];congr 3;apply yz;intro v _;simp only [Function.comp,rA.mapAn,rB];split <;> simp [hf.no,hf.ex]
  | box z x =>
    simp only [K.run,DA,HP hf];split
    · split
      · simp [rA.mapAn,nD.mapAn,hf.no,Function.comp_def]
      · rfl
    · split
      · simp [rA.mapAn,nD.mapAn,hf.no]
      · rfl
  | build z ps =>
    simp only [K.run,DA];split
    · rw [Option.map_map]
      congr 1;funext cs;simp [rA.mapAn,nD.mapAn,hf.no]
    · rfl
  | bsl z n ps =>
    simp only [K.run,DA];split
    · simp [rA.mapAn,nD.mapAn,hf.ex]
    · rfl
  | load cl g z x =>
    simp only [K.run,DA];split
    · rename_i t n off _
      split
      · simp only [aA.mapAn]
        cases s.mem t n with
        | none=>rfl
        | some r =>
          simp only [yq,V];rw [show (fun x:rA=>(⟨x.v,f x.a⟩:rA))=rA.mapAn f from rfl,loadC_map f hf];cases SA g z off r <;> rfl
      · rfl
    · split
      · rfl
      · rename_i cs _ _ _
        cases DG g z cs <;> simp [rA.mapAn,nD.mapAn,hf.no]
    · split
      · rfl
      · rename_i cs _ _ _
        cases DG g z cs <;> simp [rA.mapAn,nD.mapAn,hf.no]
    · rfl
  | clr cl z x =>
    simp only [K.run,DA];split
    · simp [rA.mapAn,nD.mapAn,hf.no]
    · rename_i t n sz off ln _ _
      split
      · simp only [aA.mapAn]
        cases s.mem t n with
        | none=>rfl
        | some r =>
          simp only [yq,V];rw [show (fun x:rA=>(⟨x.v,f x.a⟩:rA))=rA.mapAn f from rfl,clrC_map f hf];cases clrC z off ln r <;> simp [rA.mapAn,nD.mapAn,hf.no]
      · rfl
    · rfl
  | store cl g z x y =>
    simp only [K.run,DA,HP hf];split
    · rename_i t n off _
      split
      · simp only [aA.mapAn]
        cases s.mem t n with
        | none=>rfl
        | some r =>
          simp only [yq,V];rw [show (fun x:rA=>(⟨x.v,f x.a⟩:rA))=rA.mapAn f from rfl,z9 f hf];cases xA g z off r (y.get s) (y.an s) <;> simp [rA.mapAn,nD.mapAn,hf.no]
      · rfl
    · rfl
  | mm b x y=>simp only [K.run,DA]; cases Z9 b (x.get s) (y.get s) <;> simp [rA.mapAn,nD.mapAn,hf.no]
  | bin op b x y=>simp only [K.run,DA]; cases WJ op b (x.get s) (y.get s) <;> simp [rA.mapAn,nD.mapAn,hf.no]
  | eqa n ks x y =>
    simp only [K.run,DA];split
    · rename_i a b _ _
      cases GL ks a b <;> simp [rA.mapAn,nD.mapAn,hf.no]
    · rfl
  | eqn n p x y =>
    simp only [K.run,DA];split
    · cases iW false (x.get s) <;> simp [rA.mapAn,nD.mapAn,hf.no]
    · cases iW true (x.get s) <;> simp [rA.mapAn,nD.mapAn,hf.no]
    · rfl
  | un op x=>simp only [K.run,DA]; split <;> simp [rA.mapAn,nD.mapAn,hf.no]
  | conv o x=>simp only [K.run,DA]; split <;> simp [rA.mapAn,nD.mapAn,hf.no]
  | rstr x=>simp only [K.run,DA]; split <;> simp [rA.mapAn,nD.mapAn,hf.no]
  | bstr cl x =>
    simp only [K.run,DA,qW];split
    · rename_i l _
      cases bytesOf l <;> simp [rA.mapAn,nD.mapAn,hf.no]
    · rfl
  | aslc cl l z x lo hi =>
    simp only [K.run,DA,SX];split
    · rename_i t n o _
      simp only [aA.mapAn];cases EK s 0 lo <;> try rfl
      cases EK s l hi <;> try rfl
      cases s.mem t n with
      | none=>rfl
      | some r =>
        simp only [yq,yn];split
        · split <;> simp [rA.mapAn,nD.mapAn,hf.no]
        · rfl
    · rfl
  | mkf g xs =>
    simp only [K.run,DA];split <;> simp [rA.mapAn,nD.mapAn,hf.no]
  | callv cl x xs =>
    simp only [K.run,DA,sL,KO,DO];split
    · split
      · rename_i vs ws _ _ _
        rename_i g cs _ _ _ _ _ _;cases call _ _ none with
        | none=>rfl
        | some r =>
          simp only [V];split
          · split <;> simp [rA.mapAn,nD.mapAn,hf.no]
          · rfl
      · rfl
    · rfl
  | callr cl g xs =>
    simp only [K.run,rT,WZ];split
    · rename_i t n _
      split
      · simp only [aA.mapAn]
        cases s.mem t n with
        | none=>rfl
        | some r =>
          simp only [yq];cases pD s cl t n xs with
          | none=>rfl
          | some vs =>
            simp only [List.all_map,y0,yn];have e1:r.all ((fun x:rA=>x.v.free0) ∘ fun x=>(⟨x.v,f x.a⟩:rA))=r.all (fun x=>x.v.free0):=rfl;have e2:r.map ((fun x:rA=>x.v) ∘ fun x=>(⟨x.v,f x.a⟩:rA))=r.map (·.v):=rfl;rw [e1,e2];split
            · cases call g (.undef :: .undef :: vs) (some (.agg (r.map (·.v)))) with
              | none=>rfl
              | some q =>
                simp only [V];split
                · split <;> simp [rA.mapAn,nD.mapAn,hf.no,Function.comp_def,K9 hf]
                · rfl
            · rfl
      · rfl
    · rfl
  | mks z b zs x y =>
    simp only [K.run,DA];split
    · split
      · simp only [yq,rA.mapAn,nD.mapAn,hf.no,y0]
        congr 3;apply yz;intro v _;simp [rA.mapAn,hf.no]
      · rfl
    · rfl
  | slc st z x lo hi mx =>
    simp only [K.run,DA,SX];split
    · rfl
    · split
      · rfl
      · split <;> first
          | rfl
          | (split
             · split <;> (try split) <;> simp [rA.mapAn,nD.mapAn,hf.no]
             · rfl)
  | faddr o x=>simp only [K.run,DA]; split <;> simp [rA.mapAn,nD.mapAn,hf.no]
  | field g o z x =>
    simp only [K.run,DA];split
    · rename_i cs _
      cases DG g z (cs.drop o) <;> simp [rA.mapAn,nD.mapAn,hf.no]
    · rfl
  | aaddr l z x i =>
    simp only [K.run,DA];split
    · split
      · split <;> simp [rA.mapAn,nD.mapAn,hf.no]
      · rfl
    · rfl
  | iaddr z x i =>
    simp only [K.run,DA];split
    · split
      · rename_i k _ _ _ l _
        cases l[k]? with
        | none=>rfl
        | some cs=>simp only [V]; split <;> simp [rA.mapAn,nD.mapAn,hf.no]
      · rename_i k _ _ l _
        cases l[k]? with
        | none=>rfl
        | some cs=>simp only [V]; split <;> simp [rA.mapAn,nD.mapAn,hf.no]
      · split <;> simp [rA.mapAn,nD.mapAn,hf.no]
      · rfl
    · rfl
  | index x i =>
    simp only [K.run,DA];split
    · rename_i k b _ _
      cases b[k]? <;> simp [rA.mapAn,nD.mapAn,hf.no]
    · rfl
  | ext x i =>
    simp only [K.run,DA];split
    · rename_i vs _
      cases vs[i]? <;> simp [rA.mapAn,nD.mapAn,hf.no]
    · rfl
  | call cl g xs =>
    simp only [K.run,sL,KO];cases IE s cl xs with
    | none=>rfl
    | some vs =>
      simp only [V];split
      · cases call g vs none with
        | none=>rfl
        | some r =>
          simp only [V];split
          · split <;> simp [rA.mapAn,nD.mapAn,hf.no]
          · split <;> simp [rA.mapAn,nD.mapAn,hf.no]
      · rename_i t n _
        simp only [show (s.mapAn f).obj=s.obj from rfl];cases call g vs (s.obj t n) with
        | none=>rfl
        | some r =>
          simp only [V];split
          · rfl
          · split <;> simp [rA.mapAn,nD.mapAn,hf.no]
      · rfl
  | callf cl g z xs =>
    simp only [K.run,sL,KO];cases IE s cl xs with
    | none=>rfl
    | some vs =>
      simp only [V];split
      · rename_i t n _
        simp only [show (s.mapAn f).obj=s.obj from rfl];cases call g (.undef :: vs) (s.obj t n) with
        | none=>rfl
        | some r =>
          simp only [V];split
          · split
            · split
              · simp [rA.mapAn,nD.mapAn,hf.no]
              · simp [rA.mapAn,nD.mapAn,hf.no,jA,Function.comp_def]
            · rfl
          · rfl
      · rfl
  | len st x=>simp only [K.run,DA]; split <;> (try split) <;> simp [rA.mapAn,nD.mapAn,hf.no]
  | app cl e z b x y=>simp [isT] at hk
  | mkm=>simp [K.run,rA.mapAn,nD.mapAn,hf.no]
  | bad=>simp [K.run]
  | mkb T e=>simp [K.run,rA.mapAn,nD.mapAn,hf.no]
  | mget ok ty z x k =>
    simp only [K.run,DA,show (s.mapAn f).obj=s.obj from rfl];split
    · split
      · split <;> simp [rA.mapAn,nD.mapAn,hf.no]
      · rfl
    · rfl
  | mset ty x k v =>
    simp only [K.run,DA,show (s.mapAn f).obj=s.obj from rfl];split
    · split
      · split <;> simp [rA.mapAn,nD.mapAn,hf.no]
      · rfl
    · rfl
  | mlen x =>
    simp only [K.run,DA,show (s.mapAn f).obj=s.obj from rfl];split
    · split <;> simp [rA.mapAn,nD.mapAn,hf.no]
    · rfl
  | appf cl e z b x y =>
    simp only [K.run,DA,HP hf,qW];split
    · split
      · rename_i bb _ _ _ _ _
        rw [anN_map hf];cases hx:GC bb (x.an s) with
        | no=>simp [hf.no]
        | ex =>
          simp only [hf.ex];split
          · simp [rA.mapAn,nD.mapAn,hf.ex]
          · simp [rA.mapAn,nD.mapAn,hf.no,Function.comp_def,jA]
        | own k e =>
          simp only;have:=hf.own k e;split
          · contradiction
          · rfl
      · rfl
    · rfl
  | appm cl e z b x y=>simp [isT] at hk
  | appn cl e z b x y=>simp [isT] at hk
  | bslr sz z n ps =>
    simp only [K.run,DA];split
    · simp [rA.mapAn,nD.mapAn,hf.no,Function.comp_def,jA]
    · rfl
  | nilchk x=>simp only [K.run,DA]; split <;> simp [rA.mapAn,nD.mapAn,hf.no]
end
end
section
open Go Go.RowKit
section
variable {P:Program} {O:GI} {nt B:Nat} {F0:cP} {da:Av} {w0:World} {D:Nat->Prop} {s:aA} {a:Act} {w w':World} {ι:Ix} {Θ:IL} {o:Oper}
theorem chunks {α:Type} (sz:Nat):∀ (len:Nat) (L:List α),len * sz<=L.length->((List.range len).map fun i=>(L.drop (i * sz)).take sz).flatten=L.take (len * sz)
 | 0,L,_=>by simp
 | len + 1,L,h=>by
  have h1:len * sz<=L.length:=by rw [yt] at h; omega
  rw [J,List.map_append,List.flatten_append,chunks sz len L h1];simp only [yl,yo,yC,List.flatten_nil,List.append_nil];rw [yt,List.take_add]
theorem UL {av:Av} {r:List rA} {cur:Array Value} (ka:BD ι Θ av w r cur) {b:Nat} {ty:TypeId} (hb:w.heap[b]?=some (.cells cur ty (0,0))) {sz off len:Nat} {m:List (List AV)} (h:iF r sz off len=some m) :
  m.length=len/\(∀ c∈m,c.length=sz)/\∃ us,DC av w m.flatten us/\∀ (j:Nat) (u:Value),us[j]?=some u->w.cell? ⟨b,off + j,none⟩=some u:=by
 unfold iF at h;split at h
 ·rename_i hc;injection h with h;subst h;have af:∀ x∈r.map (·.v),x.free0=true:=fun x hx=>by
   obtain ⟨y,hy,rfl⟩:=yB.1 hx;exact y6.1 hc.2 y hy
  have rj:((List.range len).map fun i=>((r.drop (off + i * sz)).take sz).map (·.v)).flatten=((r.map (·.v)).drop off).take (len * sz):=by
   rw [<- chunks sz len _ (by simp; omega)];congr 1;apply yz;intro i _;rw [List.drop_drop,List.map_take,List.map_drop]
  have lc:=jG (len * sz) (SF off ka.rep);refine ⟨by simp,fun c pr=>?_,((cur.toList.take r.length).drop off).take (len * sz),?_,fun j u hu=>?_⟩
  ·obtain ⟨i,hi,rfl⟩:=yB.1 pr;have jc:i<len:=by simpa using hi
   have:(i + 1) * sz<=len * sz:=yX _ jc;rw [yt] at this;simp;omega
  ·rw [rj];exact EH lc fun x hx=>af x (List.mem_of_mem_drop (List.mem_of_mem_take hx))
  ·rw [cell_of_row w b (off + j) cur ty (0,0) hb];rw [yU] at hu;split at hu
   ·rw [yT,yU] at hu;split at hu
    ·simpa using hu
    ·cases hu
   ·cases hu
 ·cases h
theorem ZM (R:dC P O nt B F0 da w0 D s a w ι Θ) {v:Value} {y:AV} (hY:NA ι (AC da ι Θ) (SC ι Θ) w y v) {cl:Cl} {m:List (List AV)} (h:y.elems s cl=some m) {sz:Nat} (ab:0<sz) (ma:∀ c∈m,c.length=sz) :
  ∃ us,DC (AC da ι Θ) w m.flatten us/\Sl (fun _=>False) w sz v m.length us:=by
 have nu:m.flatten.length=m.length * sz:=by
  clear h hY
  induction m with
  | nil=>simp
  | cons c r ih=>rw [yC,yA,ma c (by simp),ih (fun c hc=>ma c (by simp [hc])),yI,yt]; omega
 have ba:∀ {av:Av} {us:List Value},DC av w m.flatten us->us.length=m.length * sz:=fun h=>by
  have:=gD (mD (ι:=ι) h);omega
 cases y with
 | sl nil l =>
  injection h with h;subst h;rw [XD] at hY;simp only [bE] at hY;obtain ⟨A,c,hv,hc,_,hn,hs⟩:=hY;rcases yG l.length with h0 | h0
  ·have:l=[]:=yF h0;subst this;exact ⟨[],rfl,by simp,A,c,hv,hc,fun h=>by simp at h⟩
  ·cases nil with
   | true=>have:=(hn rfl).2.1; omega
   | false =>
    obtain ⟨b,off,rfl,ka⟩:=(hs rfl).2 h0;obtain ⟨us,hl,sd⟩:=TR (MF.1 ka);refine ⟨us,hl,ba hl,_,c,hv,hc,fun _=>⟨b,off,rfl,?_,fun h=>h,fun j u hu=>(sd j u hu).1⟩⟩;have hp:0<us.length:=by rw [ba hl]; exact Nat.mul_pos h0 ab
    exact SI (sd 0 us[0] (y4 hp)).1
 | bl l =>
  injection h with h;subst h;obtain ⟨a',c,hv,hc,_,hs⟩:=hY;rcases yG l.length with h0 | h0
  ·have:l=[]:=yF h0;subst this;exact ⟨[],rfl,by simp,some a',c,hv,hc,fun h=>by simp at h⟩
  ·obtain ⟨b,off,rfl,ka⟩:=hs h0;obtain ⟨us,hl,sd⟩:=AP (kK.1 ka);refine ⟨us,hl,ba hl,_,c,hv,hc,fun _=>⟨b,off,rfl,?_,fun h=>h,fun j u hu=>(sd j u hu).1⟩⟩;have hp:0<us.length:=by rw [ba hl]; exact Nat.mul_pos h0 ab
   exact SI (sd 0 us[0] (y4 hp)).1
 | ref t n sz' off len cap =>
  simp only [AV.elems] at h;split at h
  ·cases hm:s.mem t n with
   | none=>rw [hm] at h; cases h
   | some r =>
    rw [hm,V] at h;obtain ⟨b,hb,ub,cc,rh,_,hv⟩:=nH.1 hY;obtain ⟨ij,b',cur,ty,sa,la,ka,_⟩:=R.rows t n r hm;rw [hb] at sa;injection sa with sa;subst sa;obtain ⟨h1,h2,us,hl,sd⟩:=UL ka la h;subst h1;exact ⟨us,hl,ba hl,_,cc,hv,yw ub rh,fun _=>⟨b,off,rfl,TA la,fun h=>h,sd⟩⟩
  ·cases h
 | _=>simp [AV.elems] at h
theorem xQ {av:Av} {r:List rA} {cur:Array Value} (ka:BD ι Θ av w r cur) {b:Nat} {ty:TypeId} (hb:w.heap[b]?=some (.cells cur ty (0,0))) {sz off len:Nat} {m:List (List AV)} (h:GK r sz off len=some m) :
  m.length=len/\(∀ c∈m,c.length=sz)/\∃ us,KA ι av w m.flatten us/\∀ (j:Nat) (u:Value),us[j]?=some u->w.cell? ⟨b,off + j,none⟩=some u:=by
 unfold GK at h;split at h
 ·rename_i hc;injection h with h;subst h;have rj:((List.range len).map fun i=>((r.drop (off + i * sz)).take sz).map (·.v)).flatten=((r.map (·.v)).drop off).take (len * sz):=by
   rw [<- chunks sz len _ (by simp; omega)];congr 1;apply yz;intro i _;rw [List.drop_drop,List.map_take,List.map_drop]
  have lc:=jG (len * sz) (SF off ka.rep);refine ⟨by simp,fun c pr=>?_,((cur.toList.take r.length).drop off).take (len * sz),?_,fun j u hu=>?_⟩
  ·obtain ⟨i,hi,rfl⟩:=yB.1 pr;have jc:i<len:=by simpa using hi
   have:(i + 1) * sz<=len * sz:=yX _ jc;rw [yt] at this;simp;omega
  ·rw [rj];exact lc
  ·rw [cell_of_row w b (off + j) cur ty (0,0) hb];rw [yU] at hu;split at hu
   ·rw [yT,yU] at hu;split at hu
    ·simpa using hu
    ·cases hu
   ·cases hu
 ·cases h
theorem raws_sl (R:dC P O nt B F0 da w0 D s a w ι Θ) {v:Value} {y:AV} (hY:NA ι (AC da ι Θ) (SC ι Θ) w y v) {cl:Cl} {m:List (List AV)} (h:y.raws s cl=some m) {sz:Nat} (ab:0<sz) (ma:∀ c∈m,c.length=sz) :
  ∃ us,KA ι (AC da ι Θ) w m.flatten us/\Sl (fun _=>False) w sz v m.length us:=by
 have nu:m.flatten.length=m.length * sz:=by
  clear h hY
  induction m with
  | nil=>simp
  | cons c r ih=>rw [yC,yA,ma c (by simp),ih (fun c hc=>ma c (by simp [hc])),yI,yt]; omega
 have ba:∀ {av:Av} {us:List Value},KA ι av w m.flatten us->us.length=m.length * sz:=fun h=>by
  have:=gD h;omega
 have old:∀ (hm:y.elems s cl=some m),∃ us,KA ι (AC da ι Θ) w m.flatten us/\Sl (fun _=>False) w sz v m.length us:=fun hm=>by
  obtain ⟨us,h1,h2⟩:=ZM R hY hm ab ma;exact ⟨us,mD h1,h2⟩
 cases y with
 | sl nil l=>exact old h
 | bl l=>exact old h
 | ref t n sz' off len cap =>
  simp only [AV.raws] at h;split at h
  ·cases hm:s.mem t n with
   | none=>rw [hm] at h; cases h
   | some r =>
    rw [hm,V] at h;obtain ⟨b,hb,ub,cc,rh,_,hv⟩:=nH.1 hY;obtain ⟨ij,b',cur,ty,sa,la,ka,_⟩:=R.rows t n r hm;rw [hb] at sa;injection sa with sa;subst sa;obtain ⟨h1,h2,us,hl,sd⟩:=xQ ka la h;subst h1;exact ⟨us,hl,ba hl,_,cc,hv,yw ub rh,fun _=>⟨b,off,rfl,TA la,fun h=>h,sd⟩⟩
  ·cases h
 | _=>simp [AV.raws] at h
theorem Z6 {t e:TypeId} {i:TypeInfo} {z:Value} (ht:P.underlying t=some (.slice e)) (hi:P.info? e=some i) (ty:TypeId) {g n c:Nat} {cur:Array Value} (hg:w.heap[g]?=some (.cells cur e (0,0))) (mf:cur.size=c * i.size) (_hz:i.zero=some z)
  {src:Value} {m:Nat} {news:List Value} (hs:Sl (fun _=>False) w i.size src m news) (h1:∀ u∈news,u.oneCell'=true) (ub:n + m<=c) :
  (Builtin.append_ #[t,t] ty #[.slice (some ⟨g,0,none⟩) n c,src]).run P w=.ok (.slice (some ⟨g,0,none⟩) (n + m) c) (w.setRow g (cur.toList.take (n * i.size)++news++cur.toList.drop (n * i.size + news.length)).toArray):=by
 obtain ⟨hl,A,c',rfl,hc,gc⟩:=hs;have eb:n * i.size + news.length<=cur.size:=by rw [hl,mf,<- Nat.add_mul]; exact yX _ ub
 cases A with
 | none =>
  have hm:m=0:=by
   rcases yG m with h | h
   ·exact h
   ·obtain ⟨b,off,hA,_⟩:=gc h; cases hA
  subst hm;have rz:news=[]:=yF (by simpa using hl);subst rz;simp only [Nat.add_zero] at ub;have dw:w.setRow g (cur.toList.take (n * i.size)++[]++cur.toList.drop (n * i.size + ([]:List Value).length)).toArray=w:=by
   simp only [List.append_nil,List.length_nil,Nat.add_zero,yR,yS];exact setRow_self w g cur e (0,0) hg
  rw [dw];simp [Builtin.append_,run_underlying ht,sizeOf,typeInfo,hi,Builtin.lenOf,Builtin.firstCells,ub,storeCells]
 | some a =>
  refine run_append_room (P:=P) w t ty e i ht hi g n c cur hg a m c' news hl (fun j u hu=>?_) h1 ub eb;have hm:0<m:=by
   rcases yG m with h | h
   ·subst h; have:=(ym.1 hu).1; omega
   ·exact h
  obtain ⟨b,off,hA,_,_,jd⟩:=gc hm;injection hA with hA;subst hA;rw [Addr.add_lit];exact jd j u hu
theorem ZV {t e:TypeId} {i:TypeInfo} (ht:P.underlying t=some (.slice e)) (hi:P.info? e=some i) (ty:TypeId) {A:Option Addr} {n c:Nat} (ub:n<=c) {src:Value} {news:List Value} (hs:Sl (fun _=>False) w i.size src 0 news) :
  (Builtin.append_ #[t,t] ty #[.slice A n c,src]).run P w=.ok (.slice A n c) w:=by
 obtain ⟨hl,A',c',rfl,hc,gc⟩:=hs;cases A' <;> cases A <;> simp [Builtin.append_,run_underlying ht,sizeOf,typeInfo,hi,Builtin.lenOf,Builtin.firstCells,ub,storeCells,loadCells,loadCellsFrom]
def grewW (w:World) (xs news:List Value) (z:Value) (e:TypeId) (need c:Nat):World:=w.drew.alloc (.cells (xs.toArray++news.toArray++Builtin.zeroCells z.cells (grownCap w need c e - need)) e)
theorem LV {t e:TypeId} {i:TypeInfo} {z:Value} (ht:P.underlying t=some (.slice e)) (hi:P.info? e=some i) (hz:i.zero=some z) (ty:TypeId) {A:Option Addr} {n c:Nat} {xs:List Value} (ze:xs.length=n * i.size) (hA:A=none->n=0/\c=0) (hx:∀ a,A=some a->∀ j u,xs[j]?=some u->w.cell? (a.add j)=some u)
  {src:Value} {m:Nat} {news:List Value} (hs:Sl (fun _=>False) w i.size src m news) (fa:c<n + m) (hnc:n<=c) (h63:n + m<=140737488355328) (ge:(n + m) * i.bytes<=140737488355328) :
  (Builtin.append_ #[t,t] ty #[.slice A n c,src]).run P w=.ok (.slice (some ⟨w.heap.size,0,none⟩) (n + m) (grownCap w (n + m) c e)) (grewW w xs news z e (n + m) c):=by
 obtain ⟨hl,A',c',rfl,hc,gc⟩:=hs;have hm:0<m:=by omega
 obtain ⟨b,off,rfl,_,_,jd⟩:=gc hm;have de:∀ j u,news[j]?=some u->w.cell? ((⟨b,off,none⟩:Addr).add j)=some u:=fun j u hu=>by rw [Addr.add_lit]; exact jd j u hu
 cases A with
 | none =>
  obtain ⟨rfl,rfl⟩:=hA rfl;have ZN:xs=[]:=yF (by simpa using ze);subst ZN;have:=run_append_nil (P:=P) w t ty e i z ht hi hz ⟨b,off,none⟩ m c' news hl de hm (by omega) (by rw [yD] at ge; omega);simpa [grewW] using this
 | some a =>
  exact run_append_grow (P:=P) w t ty e i z ht hi hz a n c xs ze (hx a rfl) ⟨b,off,none⟩ m c' news hl de fa (by omega) (growslice_fits (by omega) ge)
section
variable (R:dC P O nt B F0 da w0 D s a w ι Θ)
include R
theorem dC.fam (Θ':IL) (f:An->An) (zd:∀ b o,SC ι Θ' b o->SC ι Θ b o) (mz:∀ A v,RM Θ A v->RM Θ' (f A) v)
  (tok:∀ k o,Θ' k=some o->B<=o.g/\0<o.sz/\o.n<=o.c/\o.c<=maxLen/\∃ cur,w.heap[o.g]?=some (.cells cur o.e (0,0))/\(cur.size=o.c * o.sz/\gC P o.e=some o.sz)) (tinj:∀ k k' o o',Θ' k=some o->Θ' k'=some o'->o.g=o'.g->k=k') (apart:∀ k o t n,Θ' k=some o->ι t n≠some o.g)
  (apob:∀ k o t n H,Θ' k=some o->ι.ob t n=some H->¬ H o.g) :
  dC P O nt B F0 da w0 D (s.mapAn f) a w ι Θ':=by
 have hB:XA (SC ι Θ) (SC ι Θ') w w:=XA.less zd;have hA:XA (AC da ι Θ) (AC da ι Θ') w w:=XA.less fun b o h=>h.imp id (zd b o)
 refine ⟨R.defers,R.size,fun t=>NA.held (Ix.Le.refl _) hA hB _ _ (R.env t),fun t=>mz _ _ (R.ann t),fun t n r hr=>?_,R.mine,R.inj,tok,tinj,apart,R.out,R.pin,R.kept,R.base,R.objs,fun t n H h=>?_,fun t=>NA.held (Ix.Le.refl _) hA hB _ _ (R.gen t),fun t=>mz _ _ (R.gann t)⟩
 ·simp only [aA.mapAn] at hr;cases hm:s.mem t n with
  | none=>rw [hm] at hr; cases hr
  | some r0 =>
   rw [hm] at hr;injection hr with hr;subst hr;obtain ⟨h0,b,cur,ty,h1,h2,⟨h3,h4⟩,h8⟩:=R.rows t n r0 hm;refine ⟨h0,b,cur,ty,h1,h2,⟨by simpa using h3,fun j x hx=>?_⟩,h8⟩;rw [y8] at hx;cases hj:r0[j]? with
   | none=>rw [hj] at hx; cases hx
   | some y =>
    rw [hj] at hx;injection hx with hx;subst hx;obtain ⟨u,hu,h5,h6,h7⟩:=h4 j y hj;exact ⟨u,hu,h5,BA.held (Ix.Le.refl _) hA _ _ h6,mz _ _ h7⟩
 ·obtain ⟨h1,h2⟩:=R.obs t n H h;exact ⟨fun b hb=>let ⟨g1,g2,g3,_,g5⟩:=h1 b hb; ⟨g1,g2,g3,fun k o hk e=>apob k o t n H hk h (e ▸ hb),g5⟩,h2⟩
theorem dC.spare {k:Nat} {ow:Ow} (hk:Θ k=some ow) {cur new:Array Value} (mf:w.heap[ow.g]?=some (.cells cur ow.e (0,0))) (ma:new.size=cur.size) (rf:∀ j,j<ow.n * ow.sz->new[j]?=cur[j]?) :
  dC P O nt B F0 da w0 D s a (w.setRow ow.g new) ι Θ:=by
 have ta:∀ b',b'≠ow.g->(w.setRow ow.g new).heap[b']?=w.heap[b']?:=fun b' h=>setRow_other w ow.g b' new h
 have ic:(w.setRow ow.g new).heap[ow.g]?=some (.cells new ow.e (0,0)):=setRow_heap w ow.g cur new ow.e (0,0) mf;have uj:∀ b o u,w.cell? ⟨b,o,none⟩=some u->(b=ow.g->o<ow.n * ow.sz)->(w.setRow ow.g new).cell? ⟨b,o,none⟩=some u:=fun b o u hc fa=>by
  by_cases hb:b=ow.g
  ·subst hb;rw [cell_of_row _ ow.g o new ow.e (0,0) ic,rf o (fa rfl),<- cell_of_row w ow.g o cur ow.e (0,0) mf];exact hc
  ·exact (World.cell?_of_block (w:=w) (a:=⟨b,o,none⟩) (ta b hb)).trans hc
 have hB:XA (SC ι Θ) (SC ι Θ) w (w.setRow ow.g new):=⟨fun b o u hc hn=>⟨uj b o u hc fun e=>by
  rcases Nat.lt_or_ge o (ow.n * ow.sz) with h | h
  ·exact h
  ·exact absurd (.inr ⟨k,ow,hk,e.symm,h⟩) hn,hn⟩⟩
 have hA:XA (AC da ι Θ) (AC da ι Θ) w (w.setRow ow.g new):=⟨fun b o u hc hn=>⟨uj b o u hc fun e=>by
  rcases Nat.lt_or_ge o (ow.n * ow.sz) with h | h
  ·exact h
  ·exact absurd (.inr (.inr ⟨k,ow,hk,e.symm,h⟩)) hn,hn⟩⟩
 refine ⟨R.defers,R.size,fun t=>NA.held (Ix.Le.refl _) hA hB _ _ (R.env t),R.ann,fun t n r hr=>?_,fun t n b h=>?_,R.inj,fun j o h=>?_,R.tinj,R.apart,R.out,R.pin,?_,R.base,fun t n S h=>?_,fun t n H h=>(R.obs t n H h).grow (by simp),fun t=>NA.held (Ix.Le.refl _) hA hB _ _ (R.gen t),R.gann⟩
 ·obtain ⟨h0,b,wb,ty,h1,h2,h3,h8⟩:=R.rows t n r hr;have:b≠ow.g:=fun e=>R.apart k ow t n hk (e ▸ h1)
  exact ⟨h0,b,wb,ty,h1,(ta b this).trans h2,h3.held (Ix.Le.refl _) hA (fun _ _ h=>h),h8⟩
 ·obtain ⟨h1,h2,h3⟩:=R.mine t n b h;exact ⟨h1,by simpa using h2,h3⟩
 ·obtain ⟨h1,h2,h3,h4,wb,h5,h6⟩:=R.tok j o h;by_cases hg:o.g=ow.g
  ·have:=R.tinj _ _ _ _ h hk hg;subst this;rw [hk] at h;injection h with h;subst h;rw [mf] at h5;injection h5 with h5;injection h5 with h5;subst h5;exact ⟨h1,h2,h3,h4,new,ic,ma.trans h6.1,h6.2⟩
  ·exact ⟨h1,h2,h3,h4,wb,(ta _ hg).trans h5,h6⟩
 ·have:=(R.tok k ow hk).1;have hb:=R.base;exact R.kept.setRow (fun fa=>by omega) _
 ·obtain ⟨p,H,h1,h2,h3,h4⟩:=R.objs t n S h;have sq:∀ b',H b'->b'≠ow.g:=fun b' hH e=>(((R.obs _ _ _ h2).1 _ hH).2.2.2.1 k ow hk) e.symm
  exact ⟨p,H,h1,h2,O.keep h3 (fun b' hH=>ta b' (sq b' hH)) (by simp),h4.keep (fun t n b H h g=>⟨h,H,g⟩) fun x hx=>(ta p (sq p (O.main h3))).trans hx⟩
theorem dC.fresh {d:Nat} (hd:Θ d=none) {cur:Array Value} {e:TypeId} {n c sz:Nat} (mf:cur.size=c * sz) (ma:0<sz) (hn:n<=c) (hc:c<=maxLen) (htz:gC P e=some sz) :
  dC P O nt B F0 da w0 D s a (w.drew.alloc (.cells cur e)) ι (fun j=>if j=d then some ⟨w.heap.size,n,c,sz,e⟩ else Θ j):=by
 have uf:∀ b,b<w.heap.size->(w.drew.alloc (.cells cur e)).heap[b]?=w.heap[b]?:=fun b hb=>Below.heap_alloc w.drew _ b hb
 have lj:∀ b o,b<w.heap.size->SC ι (fun j=>if j=d then some ⟨w.heap.size,n,c,sz,e⟩ else Θ j) b o->SC ι Θ b o:=fun b o hb h=>h.imp id fun ⟨k,ow,h,h1,h2⟩=>by
  by_cases e:k=d
  ·simp only [if_pos e] at h; injection h with h; subst h; simp only at h1; omega
  ·simp only [if_neg e] at h; exact ⟨k,ow,h,h1,h2⟩
 have hB:XA (SC ι Θ) (SC ι (fun j=>if j=d then some ⟨w.heap.size,n,c,sz,e⟩ else Θ j)) w (w.drew.alloc (.cells cur e)):=XA.grown uf lj;have hA:XA (AC da ι Θ) (AC da ι (fun j=>if j=d then some ⟨w.heap.size,n,c,sz,e⟩ else Θ j)) w (w.drew.alloc (.cells cur e)):=XA.grown uf fun b o hb h=>h.imp id (lj b o hb)
 have hΘ:∀ k o,Θ k=some o->(fun j=>if j=d then some ⟨w.heap.size,n,c,sz,e⟩ else Θ j) k=some o:=fun k o h=>by
  by_cases e:k=d
  ·subst e; rw [hd] at h; cases h
  ·simp only [if_neg e]; exact h
 have mz:∀ A v,RM Θ A v->RM (fun j=>if j=d then some ⟨w.heap.size,n,c,sz,e⟩ else Θ j) A v:=fun A v h=>by
  cases A with
  | no=>trivial
  | ex=>exact h
  | own k e'=>exact h.imp id fun ⟨ow,h1,h2⟩=>⟨ow,hΘ _ _ h1,h2⟩
 have kh:w.heap.size<=(w.drew.alloc (.cells cur e)).heap.size:=by
  have:(w.drew.alloc (.cells cur e)).heap.size=w.drew.heap.size + 1:=World.size_alloc _ _;have h4:w.drew.heap.size=w.heap.size:=rfl;omega
 refine ⟨R.defers,R.size,fun t=>NA.held (Ix.Le.refl _) hA hB _ _ (R.env t),fun t=>mz _ _ (R.ann t),fun t n r hr=>?_,fun t n b h=>?_,R.inj,fun j o h=>?_,fun k k' o o' h h' hg=>?_,fun k o t n h h'=>?_,R.out,R.pin,R.kept.drew.alloc _,R.base,fun t n S h=>?_,fun t n H h=>?_,fun t=>NA.held (Ix.Le.refl _) hA hB _ _ (R.gen t),fun t=>mz _ _ (R.gann t)⟩
 ·obtain ⟨h0,b,wb,ty,h1,h2,h3,h8⟩:=R.rows t n r hr;exact ⟨h0,b,wb,ty,h1,(uf b (TA h2)).trans h2,h3.held (Ix.Le.refl _) hA hΘ,h8⟩
 ·obtain ⟨h1,h2,h3⟩:=R.mine t n b h;exact ⟨h1,by omega,h3⟩
 ·by_cases e':j=d
  ·simp only [if_pos e'] at h;injection h with h;subst h;exact ⟨R.lowB,ma,hn,hc,cur,JR rfl,mf,htz⟩
  ·simp only [if_neg e'] at h;obtain ⟨h1,h2,h3,h4,wb,h5,h6⟩:=R.tok j o h;exact ⟨h1,h2,h3,h4,wb,(uf _ (TA h5)).trans h5,h6⟩
 ·by_cases e1:k=d <;> by_cases e2:k'=d
  ·rw [e1,e2]
  ·simp only [if_pos e1] at h; simp only [if_neg e2] at h';injection h with h; subst h;obtain ⟨_,_,_,_,wb,h5,_⟩:=R.tok _ _ h';have:=TA h5;simp only at hg; omega
  ·simp only [if_neg e1] at h; simp only [if_pos e2] at h';injection h' with h'; subst h';obtain ⟨_,_,_,_,wb,h5,_⟩:=R.tok _ _ h;have:=TA h5;simp only at hg; omega
  ·simp only [if_neg e1] at h; simp only [if_neg e2] at h';exact R.tinj _ _ _ _ h h' hg
 ·by_cases e':k=d
  ·simp only [if_pos e'] at h;injection h with h;subst h;have:=(R.mine _ _ _ h').2.1;simp only at this; omega
  ·simp only [if_neg e'] at h;exact R.apart k o t n h h'
 ·obtain ⟨p,H,h1,h2,h3,h4⟩:=R.objs t n S h;exact ⟨p,H,h1,h2,O.keep h3 (fun b' hH=>uf b' (O.lt h3 hH)) kh,h4.keep (fun t n b H h g=>⟨h,H,g⟩) fun x hx=>(uf _ (TA hx)).trans hx⟩
 ·obtain ⟨h1,h2⟩:=R.obs t n H h;refine ⟨fun b hb=>?_,h2⟩;obtain ⟨g1,g2,g3,g4,g5⟩:=h1 b hb;refine ⟨g1,by omega,g3,fun k o hk=>?_,g5⟩;by_cases e':k=d
  ·simp only [if_pos e'] at hk;injection hk with hk;subst hk;simp only;omega
  ·simp only [if_neg e'] at hk;exact g4 k o hk
end
end
end
end Go.Proofs.YtjoaiabjebpbjaaGreat
