/- A part of the proof. -/
import Derived.Calls
import Derived.Orders
import Derived.Below
import Derived.Scope
import Derived.Test.YtbhbeakhognieaaGreatDoorRows
import Derived.WalkKit
import Derived.WalkSpells
import Derived.WalkLawsBesides
import Derived.Handy
import Derived.Maps.AppendAt
import Derived.Lib.FrozenHead
import Derived.Laws.Cells
import Derived.ChangeKeysEq
import Derived.Laws.Tables
set_option linter.all false
set_option maxRecDepth 100000
set_option maxHeartbeats 8000000
open Option renaming bind_some → J, bind_eq_some_iff → y9, map_eq_some_iff → yl, map_some → yt
open List renaming range_succ → y0, map_map → y5, length_map → y7, all_eq_true → y8, length_append → yb, getElem?_map → yc, getElem?_eq_getElem → yg, getElem?_eq_some_iff → yh, drop_eq_getElem_cons → yj, map_cons → yk, length_take → ym, drop_eq_nil_of_le → yn, append_assoc → yo, mem_cons_self → yp, mem_append → yq, getElem?_drop → yu, flatten_cons → yv, mem_cons → yw, replicate → yx, getElem?_take → yy, append_nil → yz, length_cons → yA, length_drop → yC, mem_of_getElem? → yD, getElem?_append_right → yE, mem_cons_of_mem → yG, map_congr_left → yH, getElem?_append_left → yL, size_toArray → yO, mem_map → yQ, map_nil → yR, take_of_length_le → yS, nil_append → yW, eq_nil_of_length_eq_zero → Y00, getElem?_cons_zero → Y01, take_append_drop → Y05, getElem?_eq_none → Y07
open Nat renaming le_refl → yf, zero_add → yr, le_trans → yB, add_zero → yJ, add_mul → yK, succ_mul → yM, eq_zero_or_pos → yT, min_eq_left → yU, mul_le_mul_right → Y02
open Bool renaming false_eq_true → yI
open Array renaming length_toList → yP, toArray_toList → yX, getD_eq_getD_getElem? → Y04
namespace Go.Proofs.YtbhbeakhognieaaGreatDoor
open Go
inductive AV where
 | int (k:IntKind) (n:Int)
 | bool (b:Bool)
 | str (s:ByteArray)
 | nilP
 | ptr (t n off:Nat)
 | ip (cs:List AV)
 | bp (cs:List AV)
 | sl (nil:Bool) (l:List (List AV))
 | bl (l:List (List AV))
 | ref (t n sz off len cap:Nat)
 | mp (t n:Nat)
 | fn (f:Nat) (caps:List AV)
 | agg (cs:List AV)
 | tup (vs:List AV)
 | undef
 deriving Inhabited
inductive An where
 | no
 | ex
 | own (k:Nat) (e:TypeId)
structure rA where
 v:AV
 a:An
inductive bB where
 | t (n:Nat)
 | c (v:AV)
 deriving Inhabited
inductive Cl where
 | any
 | imm
 | root (t:Nat)
 /-- in no box of these slots -/
 | out (L:List Nat)
inductive KTy where
 | none
 | some (k:IntKind)
 | agg (l:List (Option IntKind))
instance:Inhabited KTy:=⟨.none⟩
inductive K where
 | mv (x:bB)
 | pick (c a b:bB)
 | alloc (zero:List AV)
 | box (size:Nat) (x:bB)
 | build (zero:List AV) (parts:List (Nat × Nat × bB))
 | bsl (zero:List AV) (n:Nat) (parts:List (Nat × bB))
 | load (cl:Cl) (agg:Bool) (size:Nat) (x:bB)
 | store (cl:Cl) (agg:Bool) (size:Nat) (x y:bB)
 | clr (cl:Cl) (zero:List AV) (x:bB)
 | bin (op:BinOp) (bl:Bool) (x y:bB)
 | mm (mx:Bool) (x y:bB)
 | eqa (neg:Bool) (ks:List Nat) (x y:bB)
 | eqn (neg ptr:Bool) (x y:bB)
 | un (op:UnOp) (x:bB)
 | conv (k:Option IntKind) (x:bB)
 | rstr (x:bB)
 | bstr (cl:Cl) (x:bB)
 | mks (size bytes:Nat) (zero:List AV) (len cap:bB)
 | slc (str:Bool) (size:Nat) (x:bB) (lo hi mx:Option bB)
 | aslc (cl:Cl) (len size:Nat) (x:bB) (lo hi:Option bB)
 | faddr (off:Nat) (x:bB)
 | field (agg:Bool) (off size:Nat) (x:bB)
 | iaddr (size:Nat) (x i:bB)
 | aaddr (len size:Nat) (x i:bB)
 | index (x i:bB)
 | ext (x:bB) (i:Nat)
 | call (cl:Cl) (f:Nat) (xs:List bB)
 | callf (cl:Cl) (f:Nat) (sz:Nat) (xs:List bB)
 /-- a call whose result is a slice of the caller's own; one that takes a row (in none of the boxes L) and gives one; one that gives numbers and letters only,by what the memory of its arguments cv -/
 | callo (cl:Cl) (f:Nat) (sz:Nat) (xs:List bB)
 | calln (cl:Cl) (f:Nat) (sz:Nat) (L:List Nat) (x:bB) (xs:List bB)
 | callq (cl:Cl) (f:Nat) (xs:List bB)
 | mkf (f:Nat) (xs:List bB)
 | callv (cl:Cl) (x:bB) (xs:List bB)
 | callr (cl:Cl) (f:Nat) (xs:List bB)
 | callh (nt:Nat) (x:bB) (xs:List bB)
 | len (str:Bool) (x:bB)
 | app (cl:Cl) (e:TypeId) (size bytes:Nat) (x y:bB)
 | appf (cl:Cl) (e:TypeId) (size bytes:Nat) (x y:bB)
 | appm (cl:Cl) (e:TypeId) (size bytes:Nat) (x y:bB)
 | appn (cl:Cl) (e:TypeId) (size bytes:Nat) (x y:bB)
 | bslr (size:Nat) (zero:List AV) (n:Nat) (parts:List (Nat × bB))
 | mkm
 | mkb (T e:TypeId)
 | mget (ok:Bool) (ty:KTy) (zero:AV) (x k:bB)
 | mset (ty:KTy) (x k v:bB)
 | mlen (x:bB)
 | rng (x:bB)
 | slz (x:bB)
 | ent (x:bB)
 | nxt (x:bB)
 | nilchk (x:bB)
 | bad
 deriving Inhabited
instance:Inhabited Cl:=⟨.any⟩
structure WA where
 dst:Option Nat
 op:K
 guard:Option (Nat × Bool)
inductive C where
 | skip
 | seq (a b:C)
 | reg (ops:List WA)
 | cond (c:bB) (t e:C)
 | block (id:Nat) (b:C)
 | loop (b:C)
 | exit (id:Nat)
 | ret
inductive Ex where
 | nrm
 | exit (id:Nat)
 | ret
structure pA where
 env:Nat->rA
 mem:Nat->Nat->Option (List rA)
 next:Nat
 obj:Nat->Nat->Option AV
 /-- the slots of the calls that wait -/
 gh:Nat->rA
def An.strip (k:Nat):An->An
 | .own j e=>if j=k then .no else .own j e
 | a=>a
def rA.strip (k:Nat) (x:rA):rA:=⟨x.v,x.a.strip k⟩
def pA.strip (s:pA) (k:Nat):pA:=⟨fun t=>(s.env t).strip k,fun t n=>(s.mem t n).map (·.map (rA.strip k)),s.next,s.obj,fun t=>(s.gh t).strip k⟩
def pA.stripA (s:pA):An->pA
 | .own k _=>s.strip k
 | _=>s
def pA.put (s:pA) (d:Option Nat) (x:rA):pA:=match d with
 | some d=>{ s with env:=fun t=>if t=d then x else s.env t }
 | none=>s
def pA.setRow (s:pA) (t n:Nat) (r:List rA):pA:={ s with mem:=fun t' n'=>if t'=t/\n'=n then some r else s.mem t' n' }
def pA.setObj (s:pA) (t n:Nat) (S:AV):pA:={ s with obj:=fun t' n'=>if t'=t/\n'=n then some S else s.obj t' n' }
def xA (l:List (List AV)):List rA:=l.flatten.map (⟨·,.no⟩)
def AV.kill0 (t n:Nat):AV->AV
 | .ptr t' n' o=>if t'=t/\n'=n then .undef else .ptr t' n' o
 | .ref t' n' z o l c=>if t'=t/\n'=n then .undef else .ref t' n' z o l c
 | .mp t' n'=>if t'=t/\n'=n then .undef else .mp t' n'
 | v=>v
def AV.kill1 (t n:Nat):AV->AV
 | .agg cs=>.agg (cs.map (AV.kill0 t n))
 | v=>v.kill0 t n
def AV.kill (t n:Nat):AV->AV
 | .agg cs=>.agg (cs.map (AV.kill0 t n))
 | .tup vs=>.tup (vs.map (AV.kill1 t n))
 | .fn f vs=>.fn f (vs.map (AV.kill0 t n))
 | v=>v.kill0 t n
def rA.kill (t n:Nat) (x:rA):rA:=⟨x.v.kill t n,x.a⟩
def pA.kill (s:pA) (t n:Nat):pA:=⟨fun j=>(s.env j).kill t n,fun t' n'=>if t'=t/\n'=n then none else (s.mem t' n').map (·.map (rA.kill t n)),s.next,s.obj,fun j=>(s.gh j).kill t n⟩
def pA.killO (s:pA):Option (Nat × Nat)->pA
 | none=>s
 | some p=>s.kill p.1 p.2
def bB.get (s:pA):bB->AV
 | .t n=>(s.env n).v
 | .c v=>v
def bB.an (s:pA):bB->An
 | .t n=>(s.env n).a
 | .c (.sl true _)=>.ex
 | .c _=>.no
def AV.cells:AV->List AV
 | .agg cs=>cs
 | v=>[v]
def AV.leaf:AV->Bool
 | .agg _ | .tup _ | .bp _ | .bl _ | .fn .. | .undef=>false
 | _=>true
def AV.whole:AV->Bool
 | .agg _=>true
 | v=>v.leaf
def AV.free0:AV->Bool
 | .ptr .. | .bp _ | .bl _ | .ref .. | .mp .. | .fn .. | .undef | .agg _ | .tup _=>false
 | _=>true
def AV.free:AV->Bool
 | .agg cs=>cs.all AV.free0
 | v=>v.free0
def UG (row:List rA) (sz off len:Nat):Option (List (List AV)) :=
 if off + len * sz<=row.length/\row.all (fun x=>x.v.free0) then some ((List.range len).map fun i=>((row.drop (off + i * sz)).take sz).map (·.v)) else none
def Cl.okMem:Cl->Bool
 | .any=>true
 | _=>false
def AV.elems (s:pA) (cl:Cl):AV->Option (List (List AV))
 | .sl _ l=>some l
 | .bl l=>some l
 | .ref t n sz off len _=>if cl.okMem then (s.mem t n).bind fun r=>UG r sz off len else none
 | _=>none
def lL (row:List rA) (sz off len:Nat):Option (List (List AV)) :=
 if off + len * sz<=row.length then some ((List.range len).map fun i=>((row.drop (off + i * sz)).take sz).map (·.v)) else none
def AV.raws (s:pA) (cl:Cl):AV->Option (List (List AV))
 | .sl _ l=>some l
 | .bl l=>some l
 | .ref t n sz off len _=>if cl.okMem then (s.mem t n).bind fun r=>lL r sz off len else none
 | _=>none
def AV.noName (t n:Nat):AV->Bool
 | .ptr t' n' _ | .ref t' n' _ _ _ _ | .mp t' n'=>!(decide (t'=t)&&decide (n'=n))
 | .agg _ | .tup _ | .fn ..=>false
 | _=>true
def gT:AV->Option Nat
 | .int _ n=>if 0<=n then some n.toNat else none
 | _=>none
def XI (s:pA) (d:Nat):Option bB->Option Nat
 | none=>some d
 | some o=>gT (o.get s)
def ZS (cells:List AV):List (Nat × Nat × List AV)->Option (List AV)
 | []=>some cells
 | (off,size,v) :: r=>if v.length=size/\off + size<=cells.length then ZS (cells.take off++v++cells.drop (off + size)) r else none
def SV (k:IntKind) (r:BitVec k.bits):AV:=.int k (k.wrap r.toNat)
def shN (k:IntKind) (b:Int):Nat:=min b.toNat k.bits
def binC (op:BinOp) (bl:Bool):AV->AV->Option AV
 | .int k a,.int k' b=>match op with
  | .shl=>if 0<=b then some (.int k (k.wrap (a * 2 ^ shN k b))) else none
  | .shr=>if 0<=b then some (.int k (a.fdiv (2 ^ shN k b))) else none
  | _=>if k=k' then (match op with
  | .and=>some (SV k (BitVec.ofInt k.bits a &&& BitVec.ofInt k.bits b))
  | .or=>some (SV k (BitVec.ofInt k.bits a ||| BitVec.ofInt k.bits b))
  | .xor=>some (SV k (BitVec.ofInt k.bits a ^^^ BitVec.ofInt k.bits b))
  | .andNot=>some (SV k (BitVec.ofInt k.bits a &&& ~~~ BitVec.ofInt k.bits b))
  | .add=>some (.int k (k.wrap (a + b)))
  | .sub=>some (.int k (k.wrap (a - b)))
  | .mul=>some (.int k (k.wrap (a * b)))
  | .quo=>if b=0 then none else some (.int k (k.wrap (a.tdiv b)))
  | .rem=>if b=0 then none else some (.int k (a.tmod b))
  | .eql=>some (.bool (decide (a=b)))
  | .neq=>some (.bool (!decide (a=b)))
  | .lss=>some (.bool (decide (a<b)))
  | .leq=>some (.bool (decide (a<=b)))
  | .gtr=>some (.bool (decide (b<a)))
  | .geq=>some (.bool (decide (b<=a)))
  | _=>none) else none
 | .str a,.str b=>match op with
  | .add=>if a.size + b.size<=9223372036854775807 then some (.str (a++b)) else none
  | .eql=>some (.bool (decide (a=b)))
  | .neq=>some (.bool (!decide (a=b)))
  | .lss=>some (.bool (Op.bytesLess a.toList b.toList))
  | .gtr=>some (.bool (!(Op.bytesLess a.toList b.toList||decide (a=b))))
  | .leq=>some (.bool (Op.bytesLess a.toList b.toList||decide (a=b)))
  | .geq=>some (.bool (!Op.bytesLess a.toList b.toList))
  | _=>none
 | .bool a,.bool b=>if bl then (match op with
  | .eql=>some (.bool (a == b))
  | .neq=>some (.bool (!(a == b)))
  | _=>none) else none
 | _,_=>none
def mmC (mx:Bool):AV->AV->Option AV
 | .int k a,.int k' b=>if k=k' then some (.int k (if mx then max a b else min a b)) else none
 | _,_=>none
def FJ:List Nat->List AV->List AV->Option Bool
 | [],[],[]=>some true
 | 0 :: ks,.int k a :: r,.int k' b :: r'=>if k=k' then (if a=b then FJ ks r r' else some false) else none
 | 1 :: ks,.str a :: r,.str b :: r'=>if a=b then FJ ks r r' else some false
 | 2 :: ks,.bool a :: r,.bool b :: r'=>if a=b then FJ ks r r' else some false
 | _,_,_=>none
def bG:Bool->AV->Option Bool
 | false,.sl true _=>some true
 | false,.sl false l=>if l.isEmpty then none else some false
 | false,.bl _=>some false
 | false,.ref ..=>some false
 | true,.nilP=>some true
 | true,.ptr ..=>some false
 | true,.ip _=>some false
 | true,.bp _=>some false
 | _,_=>none
inductive SC where
 | none
 | new (r:List rA)
 | set (t n:Nat) (r:List rA)
 | app (a:An) (k:Nat)
 | obj (t n:Nat) (S:AV)
 | mk (S:AV)
 | rn (k:Option (Nat × Nat)) (r:List rA)
 | ob2 (t n:Nat) (S:AV) (r:List rA)
def Cl.okPtr:Cl->Nat->Bool
 | .any,_=>true
 | .imm,_=>false
 | .root r,t=>r == t
 | .out L,t=>!L.contains t
def aA (agg:Bool) (size off:Nat) (row:List rA):Option rA :=
 if agg then (if off + size<=row.length then some ⟨.agg (((row.drop off).take size).map (·.v)),.no⟩ else none)
 else row[off]?
def GF (agg:Bool) (size:Nat) (cs:List AV):Option AV :=
 if agg then (if size<=cs.length then some (.agg (cs.take size)) else none) else cs[0]?
def oT (s:pA) (cl:Cl):AV->Option AV
 | .ref t n sz off len _=>if cl.okMem then ((s.mem t n).bind fun r=>UG r sz off len).map .bl else none
 | .bl l=>some (.bl l)
 | .bp l=>some (.bp l)
 | .ptr t n off=>if off=0/\cl.okMem/\(s.obj t n).isSome then some (.ptr 0 0 0) else none
 | v=>if v.free then some v else none
def TP (s:pA) (cl:Cl):AV->Option AV
 | .ptr t n off=>if cl.okMem then match s.mem t n with
  | some r=>if (r.drop off).all (fun x=>x.v.free0) then some (.bp ((r.drop off).map (·.v))) else none
  | none=>none else none
 | .bp l=>some (.bp l)
 | .nilP=>some .nilP
 | _=>none
def kD (s:pA) (cl:Cl):List AV->Option (List AV)
 | []=>some []
 | x :: r=>match TP s cl x,kD s cl r with
  | some v,some vs=>some (v :: vs)
  | _,_=>none
def ZE (s:pA) (cl:Cl):AV->Option AV
 | .fn f cs=>(kD s cl cs).map (.fn f)
 | v=>oT s cl v
def placeOf:AV->Option (Nat × Nat)
 | .ptr t n _=>some (t,n)
 | .ref t n _ _ _ _=>some (t,n)
 | _=>none
def pW (s:pA) (cl:Cl) (t n:Nat):AV->Option AV
 | .ptr t' n' off=>if t'=t/\n'=n then some (.ptr 0 0 off) else none
 | .ref t' n' sz off len cap=>if t'=t/\n'=n then some (.ref 0 0 sz off len cap) else oT s cl (.ref t' n' sz off len cap)
 | .fn f cs=>if cs.isEmpty then some (.fn f []) else none
 | v=>oT s cl v
def NI (s:pA) (cl:Cl) (t n:Nat):List bB->Option (List AV)
 | []=>some []
 | x :: r=>match pW s cl t n (x.get s),NI s cl t n r with
  | some v,some vs=>some (v :: vs)
  | _,_=>none
def kL (s:pA):List bB->Option (Nat × Nat)
 | []=>none
 | x :: _=>placeOf (x.get s)
def AV.capOk:AV->Bool
 | .ptr .. | .bp _ | .nilP=>true
 | _=>false
def bytesOf:List (List AV)->Option (List UInt8)
 | []=>some []
 | c :: r=>match c,bytesOf r with
  | [.int .u8 n],some l=>some (UInt8.ofNat n.toNat :: l)
  | _,_=>none
def NF (s:pA) (xs:List bB):List (Nat × Nat):=xs.filterMap fun x=>match x.get s with
 | .ptr t n _=>some (t,n)
 | _=>none
def JD (s:pA) (cl:Cl):List bB->Option (List AV)
 | []=>some []
 | x :: r=>match ZE s cl (x.get s),JD s cl r with
  | some v,some vs=>some (v :: vs)
  | _,_=>none
def AV.isUn:AV->Bool
 | .undef=>true
 | _=>false
def AV.back:AV->Bool
 | .tup vs=>vs.all fun v=>v.free||v.isUn
 | v=>v.free
def AV.isObj:AV->Bool
 | .ptr 0 0 0=>true
 | _=>false
def AV.backN:AV->Bool
 | .tup vs=>vs.all fun v=>v.free||v.isObj
 | v=>v.isObj
def AV.named (d n:Nat):AV->AV
 | .tup vs=>.tup (vs.map fun v=>if v.isObj then .ptr d n 0 else v)
 | .mp _ _=>.mp d n
 | v=>if v.isObj then .ptr d n 0 else v
def AA (size:Nat) (l:List (List AV)):Bool:=l.all (·.length == size)
def RA (bytes n:Nat):Bool:=decide (n * bytes<=140737488355328)&&decide (n<=140737488355328)
theorem sA {b n:Nat}:RA b n=true ↔ n * b<=140737488355328/\n<=140737488355328:=by simp [RA]
theorem ZG (z:Nat):AA z []=true:=rfl
theorem cB (z:Nat) (c:List AV) (l:List (List AV)):AA z (c :: l)=(decide (c.length=z)&&AA z l):=rfl
theorem iI (z:Nat) (l m:List (List AV)):AA z (l++m)=(AA z l&&AA z m):=by simp [AA]
theorem SD {α:Type} (z:Nat) (f:α->List AV) (l:List α) (h:∀ x,(f x).length=z):AA z (l.map f)=true:=by simp [AA,h]
theorem ZI {z:Nat} {l:List (List AV)} (h:AA z l=true) (n:Nat):AA z (l.take n)=true:=by
 simp only [AA,y8] at h ⊢;exact fun x hx=>h x (List.mem_of_mem_take hx)
theorem CK {z:Nat} {l:List (List AV)} (h:AA z l=true) (n:Nat):AA z (l.drop n)=true:=by
 simp only [AA,y8] at h ⊢;exact fun x hx=>h x (List.mem_of_mem_drop hx)
def AV.scal:AV->Bool
 | .int .. | .bool _ | .str _=>true
 | _=>false
def AV.flat:AV->Bool
 | .agg cs=>cs.all AV.scal
 | v=>v.scal
def QG (L:List (List AV)):AV:=.tup [.undef,.sl false L]
def JH:AV->Option (List (List AV))
 | .tup [.undef,.sl false L]=>some L
 | _=>none
theorem aI (L:List (List AV)):JH (QG L)=some L:=rfl
def bldAV (T e:TypeId) (s:ByteArray):AV:=.tup [.undef,.undef,.int .i64 (T:Nat),.int .i64 (e:Nat),.str s]
def bldOf:AV->Option (TypeId × TypeId × ByteArray)
 | .tup [.undef,.undef,.int _ T,.int _ e,.str s]=>some (T.toNat,e.toNat,s)
 | _=>none
def i4 (tm nm N:Nat) (seen:List Nat):AV:=.tup [.undef,.undef,.undef,.mp tm nm,.int .i64 N,.sl false (seen.map fun i:Nat=>[.int .i64 i])]
def s4:List (List AV)->List Nat
 | [.int _ i] :: r=>i.toNat :: s4 r
 | _=>[]
def cY:AV->Option (Nat × Nat × Nat × List Nat)
 | .tup [.undef,.undef,.undef,.mp tm nm,.int _ N,.sl false l]=>some (tm,nm,N.toNat,s4 l)
 | _=>none
theorem bY:∀ l:List Nat,s4 (l.map fun i:Nat=>[AV.int .i64 i])=l
 | []=>rfl
 | i :: r=>by simp [s4,bY r]
theorem pX (tm nm N:Nat) (seen:List Nat):cY (i4 tm nm N seen)=some (tm,nm,N,seen):=by simp [cY,i4,bY]
def A6 (S:AV):Bool:=(cY S).isNone
def noItO:Option AV->Bool
 | none=>true
 | some S=>A6 S
noncomputable def B4 (f:Nat->Option (AV × Option AV)) (z:Option (AV × Option AV)):List Nat->Option (AV × Option AV)
 | []=>z
 | [i]=>f i
 | i :: j :: r=>open Classical in if ∀ x∈j :: r,f x=f i then f i else none
def EP:List (Option IntKind)->List AV->Bool
 | [],[]=>true
 | .some k :: r,.int k' _ :: cs=>decide (k=k')&&EP r cs
 | .none :: r,.str _ :: cs=>EP r cs
 | _,_=>false
def GH:KTy->AV->Bool
 | .some k,.int k' _=>decide (k=k')
 | .none,.str _=>true
 | .agg l,.agg cs=>EP l cs
 | _,_=>false
def aM (ty:KTy) (L:List (List AV)):Bool:=L.all fun e=>match e with
 | [k,v]=>GH ty k&&v.flat
 | _=>false
def mY:List AV->List AV->Bool
 | [],[]=>true
 | .int k a :: r,.int k' b :: r'=>(decide (k=k')&&decide (a=b))&&mY r r'
 | .str a :: r,.str b :: r'=>decide (a=b)&&mY r r'
 | _,_=>false
def lR:AV->AV->Bool
 | .int k a,.int k' b=>decide (k=k')&&decide (a=b)
 | .str a,.str b=>decide (a=b)
 | .agg a,.agg b=>mY a b
 | _,_=>false
def MI:List (List AV)->AV->Option AV
 | [],_=>none
 | e :: r,k=>match e with
  | [k',v]=>if lR k' k then some v else MI r k
  | _=>MI r k
def IH:List (List AV)->AV->AV->List (List AV)
 | [],k,v=>[[k,v]]
 | e :: r,k,v=>match e with
  | [k',_]=>if lR k' k then [k,v] :: r else e :: IH r k v
  | _=>e :: IH r k v
abbrev RV:=AV × Option AV
abbrev uB:=Nat->List AV->Option AV->Option RV
abbrev LpT:=C->pA->(Ex->pA->Option RV)->Option RV
abbrev HpT:=Nat->List rA->pA->(rA->pA->Option RV)->Option RV
structure LH where
 l:LpT
 h:HpT
instance:CoeFun LH (fun _=>LpT):=⟨LH.l⟩
def uA (agg:Bool) (size off:Nat) (row:List rA) (x:AV) (a:An):Option (List rA) :=
 if agg then match x with
  | .agg cs=>if cs.length=size/\off + size<=row.length then some (row.take off++cs.map (⟨·,.no⟩)++row.drop (off + size)) else none
  | _=>none
 else if x.leaf/\off<row.length then some (row.set off ⟨x,a⟩) else none
def clrC (zero:List AV) (off ln:Nat) (r:List rA):Option (List rA) :=
 if off + ln * zero.length<=r.length then some (r.take off++xA (List.replicate ln zero)++r.drop (off + ln * zero.length)) else none
def iB:Bool->An->An
 | true,_=>.ex
 | false,a=>a
def uX (b:Bool) (a:An):Bool:=match iB b a with
 | .ex=>true
 | _=>false
def OG:AV->An
 | .sl true _=>.ex
 | _=>.no
def AV.frz1 (s:pA):AV->AV
 | .ref t n sz off len c=>match (s.mem t n).bind fun r=>UG r sz off len with
  | some l=>.sl false l
  | none=>.ref t n sz off len c
 | v=>v
def jX (s:pA) (row:List rA) (sz off len:Nat):Option (List (List AV)):=(lL row sz off len).bind fun l =>
 if (l.map fun c=>c.map (AV.frz1 s)).flatten.all AV.free0=true then some (l.map fun c=>c.map (AV.frz1 s)) else none
def AV.frz0 (s:pA):AV->AV
 | .ref t n sz off len c=>match (s.mem t n).bind fun r=>UG r sz off len with
  | some l=>.sl false l
  | none=>match (s.mem t n).bind fun r=>jX s r sz off len with
   | some l=>.sl false l
   | none=>.ref t n sz off len c
 | v=>v
def AV.frz (s:pA):AV->AV
 | .agg cs=>.agg (cs.map (AV.frz0 s))
 | v=>v.frz0 s
def AV.plain:AV->Bool
 | .tup vs=>vs.all AV.scal
 | v=>v.scal
def K.run (call:uB) (s:pA):K->Option (rA × SC)
 | .mv x=>some (⟨x.get s,x.an s⟩,.none)
 | .pick c a b=>match c.get s with
  | .bool t=>some (if t then ⟨a.get s,a.an s⟩ else ⟨b.get s,b.an s⟩,.none)
  | _=>none
 | .alloc zero=>some (⟨.ptr 0 0 0,.no⟩,.new (zero.map fun v=>⟨v,OG v⟩))
 | .box size x=>match x.get s with
  | .agg cs=>if cs.length=size then some (⟨.ptr 0 0 0,.no⟩,.new (cs.map (⟨·,.no⟩))) else none
  | v=>if v.leaf then some (⟨.ptr 0 0 0,.no⟩,.new [⟨v,x.an s⟩]) else none
 | .build zero parts=>if parts.all (fun p=>(p.2.2.get s).whole) then
   (ZS zero (parts.map fun p=>(p.1,p.2.1,(p.2.2.get s).cells))).map fun cs=>(⟨.agg cs,.no⟩,.none) else none
 | .bsl zero n parts=>if parts.map (·.1)=List.range n/\parts.all (fun p=>(p.2.get s).free&&decide ((p.2.get s).cells.length=zero.length)) then
   some (⟨.sl false (parts.map fun p=>(p.2.get s).cells),.ex⟩,.none) else none
 | .load cl agg size x=>match x.get s with
  | .ptr t n off=>if cl.okPtr t then ((s.mem t n).bind (aA agg size off)).map fun x=>(x,.none) else none
  | .ip cs=>match cl with
   | .root _=>none
   | _=>(GF agg size cs).map fun v=>(⟨v,.no⟩,.none)
  | .bp cs=>match cl with
   | .root _=>none
   | _=>(GF agg size cs).map fun v=>(⟨v,.no⟩,.none)
  | _=>none
 | .store cl agg size x y=>match x.get s with
  | .ptr t n off=>if cl.okPtr t then ((s.mem t n).bind fun r=>uA agg size off r (y.get s) (y.an s)).map fun r=>(⟨.undef,.no⟩,.set t n r) else none
  | _=>none
 | .clr cl zero x=>match x.get s with
  | .sl _ []=>some (⟨.undef,.no⟩,.none)
  | .ref t n sz off ln _=>if cl.okPtr t=true/\zero.length=sz/\0<ln then ((s.mem t n).bind fun r=>clrC zero off ln r).map fun r=>(⟨.undef,.no⟩,.set t n r) else none
  | _=>none
 | .bin op t x y=>(binC op t (x.get s) (y.get s)).map fun v=>(⟨v,.no⟩,.none)
 | .mm mx x y=>(mmC mx (x.get s) (y.get s)).map fun v=>(⟨v,.no⟩,.none)
 | .eqa neg ks x y=>match x.get s,y.get s with
  | .agg a,.agg b=>(FJ ks a b).map fun t=>(⟨.bool (t != neg),.no⟩,.none)
  | _,_=>none
 | .eqn neg ptr x y=>match ptr,y.get s with
  | false,.sl true _=>(bG false (x.get s)).map fun t=>(⟨.bool (t != neg),.no⟩,.none)
  | true,.nilP=>(bG true (x.get s)).map fun t=>(⟨.bool (t != neg),.no⟩,.none)
  | _,_=>none
 | .un op x=>match op,x.get s with
  | .not,.bool b=>some (⟨.bool (!b),.no⟩,.none)
  | .neg,.int k n=>some (⟨.int k (k.wrap (0 - n)),.no⟩,.none)
  | _,_=>none
 | .conv k x=>match k,x.get s with
  | some k,.int _ n=>some (⟨.int k (k.wrap n),.no⟩,.none)
  | none,.str b=>some (⟨.str b,.no⟩,.none)
  | _,_=>none
 | .rstr x=>match x.get s with
  | .int _ n=>some (⟨.str (Utf8.encode n),.no⟩,.none)
  | _=>none
 | .bstr cl x=>match (x.get s).elems s cl with
  | some l=>(bytesOf l).map fun bs=>(⟨.str ⟨bs.toArray⟩,.no⟩,.none)
  | none=>none
 | .aslc cl ln size x lo hi=>match x.get s with
  | .ptr t n o=>match XI s 0 lo,XI s ln hi,s.mem t n with
   | some l,some h,some r=>if l<=h/\h<=ln/\0<size/\o + ln * size<=r.length/\cl.okMem=true then
     (if h=l then some (⟨.sl false [],.no⟩,.none) else some (⟨.ref t n size (o + l * size) (h - l) (ln - l),.no⟩,.none)) else none
   | _,_,_=>none
  | _=>none
 | .mkf f xs=>if xs.all (fun x=>(x.get s).capOk) then some (⟨.fn f (xs.map (·.get s)),.no⟩,.none) else none
 | .callv cl x xs=>match x.get s with
  | .fn f cs=>match JD s cl xs,kD s cl cs,NF s xs with
   | some vs,some ws,[]=>(call f (vs++ws) none).bind fun r=>match r.2 with
    | none=>if r.1.back then some (⟨r.1,.no⟩,.none) else none
    | some _=>none
   | _,_,_=>none
  | _=>none
 | .callr cl f xs=>match kL s xs with
  | some (t,n)=>if cl.okPtr t then (match s.mem t n,NI s cl t n xs with
   | some r,some vs=>if r.all (fun x=>x.v.free0) then (call f (.undef :: .undef :: vs) (some (.agg (r.map (·.v))))).bind fun q=>match q.2 with
     | some (.agg cs)=>if q.1.back/\cs.length=r.length/\cs.all AV.free0=true then some (⟨q.1,.no⟩,.set t n (cs.map fun v=>⟨v,OG v⟩)) else none
     | _=>none else none
   | _,_=>none) else none
  | none=>none
 | .callh ..=>none
 | .bad=>none
 | .mks size bytes zero ln cap=>match gT (ln.get s),gT (cap.get s) with
  | some l,some c=>if l<=c/\c * bytes<=140737488355328/\c<=140737488355328/\zero.length=size then some (⟨.ref 0 0 size 0 l c,.no⟩,.new ((List.replicate c zero).flatten.map (⟨·,.no⟩))) else none
  | _,_=>none
 | .slc str size x lo hi mx=>match mx with
  | some _=>none
  | none =>
   match XI s 0 lo with
   | none=>none
   | some l=>match x.get s with
    | .sl b e=>match XI s e.length hi with
     | some h=>if l<=h/\h<=e.length/\AA size e=true/\str=false then some (⟨.sl b ((e.take h).drop l),.no⟩,.none) else none
     | _=>none
    | .bl e=>match XI s e.length hi with
     | some h=>if l<=h/\h<=e.length/\AA size e=true/\str=false then some (⟨.bl ((e.take h).drop l),.no⟩,.none) else none
     | _=>none
    | .ref t n sz off ln cap=>match XI s ln hi with
     | some h=>if l<=h/\h<=cap/\sz=size/\str=false then (if h=l/\¬ (l=0/\0<cap) then some (⟨.sl false [],.no⟩,.none) else some (⟨.ref t n sz (off + l * sz) (h - l) (cap - l),.no⟩,.none)) else none
     | _=>none
    | .str b=>match XI s b.size hi with
     | some h=>if l<=h/\h<=b.size/\str=true then some (⟨.str (b.extract l h),.no⟩,.none) else none
     | _=>none
    | _=>none
 | .faddr off x=>match x.get s with
  | .ptr t n o=>some (⟨.ptr t n (o + off),.no⟩,.none)
  | .ip cs=>some (⟨.ip (cs.drop off),.no⟩,.none)
  | .bp cs=>some (⟨.bp (cs.drop off),.no⟩,.none)
  | _=>none
 | .field agg off size x=>match x.get s with
  | .agg cs=>(GF agg size (cs.drop off)).map fun v=>(⟨v,.no⟩,.none)
  | _=>none
 | .aaddr ln size x i=>match gT (i.get s) with
  | some k=>if k<ln then (match x.get s with
   | .ptr t n o=>some (⟨.ptr t n (o + k * size),.no⟩,.none)
   | .ip cs=>some (⟨.ip (cs.drop (k * size)),.no⟩,.none)
   | .bp cs=>some (⟨.bp (cs.drop (k * size)),.no⟩,.none)
   | _=>none) else none
  | none=>none
 | .iaddr size x i=>match gT (i.get s) with
  | some k=>match x.get s with
   | .sl _ l=>l[k]?.bind fun cs=>if cs.length=size then some (⟨.ip cs,.no⟩,.none) else none
   | .bl l=>l[k]?.bind fun cs=>if cs.length=size then some (⟨.bp cs,.no⟩,.none) else none
   | .ref t n sz off ln _=>if k<ln/\sz=size then some (⟨.ptr t n (off + k * sz),.no⟩,.none) else none
   | _=>none
  | none=>none
 | .index x i=>match gT (i.get s),x.get s with
  | some k,.str b=>b[k]?.map fun u=>(⟨.int .u8 u.toNat,.no⟩,.none)
  | _,_=>none
 | .ext x i=>match x.get s with
  | .tup vs=>vs[i]?.map fun v=>(⟨v,.no⟩,.none)
  | _=>none
 | .call cl f xs=>(JD s cl xs).bind fun vs=>match NF s xs with
  | []=>(call f vs none).bind fun r=>match r.2 with
   | none=>if r.1.back then some (⟨r.1,.no⟩,.none) else none
   | some S=>if r.1.backN/\cl.okMem/\A6 S=true then some (⟨r.1,.no⟩,.mk S) else none
  | [(t,n)]=>(call f vs (s.obj t n)).bind fun r=>match r.2 with
   | none=>none
   | some S=>if r.1.back/\(s.obj t n).isSome/\A6 S=true then some (⟨r.1,.no⟩,.obj t n S) else none
  | _=>none
 | .callf cl f sz xs=>(JD s cl xs).bind fun vs=>match NF s xs with
  | [(t,n)]=>(call f (.undef :: vs) (s.obj t n)).bind fun r=>match r with
   | (.sl false l,some S)=>if (s.obj t n).isSome=true/\AA sz l=true/\l.all (fun c=>c.all AV.scal)=true/\A6 S=true then
     (if l.isEmpty then some (⟨.sl false [],.no⟩,.obj t n S) else some (⟨.ref 0 0 sz 0 l.length l.length,.no⟩,.ob2 t n S (xA l))) else none
   | _=>none
  | _=>none
 | .callo cl f sz xs=>match JD s cl xs,NF s xs with
  | some vs,[]=>(call f (.undef :: vs) none).bind fun r=>match r with
   | (.sl b l,none)=>if AA sz l=true/\l.flatten.all AV.free0=true/\0<sz then
     (if l.isEmpty then some (⟨.sl b [],.ex⟩,.none) else if b then none else some (⟨.ref 0 0 sz 0 l.length l.length,.no⟩,.new (xA l))) else none
   | _=>none
  | _,_=>none
 | .calln cl f sz L x xs=>match JD s cl xs,NF s xs with
  | some vs,[]=>if vs.all AV.free=true then (match x.get s with
   | .ref t n z off ln _=>(match (AV.ref t n z off ln 0).elems s cl with
    | some l=>if off=0/\z=sz/\t≠0/\L.contains t=false then (call f (.undef :: .sl false l :: vs) (some (.int .i64 sz))).bind fun r=>match r with
      | (.sl false l',none)=>if AA sz l'=true/\l'.flatten.all AV.free0=true/\0<sz then some (⟨.ref 0 0 sz 0 l'.length l'.length,.no⟩,.rn (some (t,n)) (xA l')) else none
      | _=>none else none
    | none=>none)
   | .sl b []=>if uX b (x.an s)=true then (call f (.undef :: .sl b [] :: vs) (some (.int .i64 sz))).bind fun r=>match r with
      | (.sl false l',none)=>if AA sz l'=true/\l'.flatten.all AV.free0=true/\0<sz then some (⟨.ref 0 0 sz 0 l'.length l'.length,.no⟩,.new (xA l')) else none
      | _=>none else none
   | _=>none) else none
  | _,_=>none
 | .callq cl f xs=>if cl.okMem=true/\(xs.map fun x=>(x.get s).frz s).all AV.free=true then
   (call f (xs.map fun x=>(x.get s).frz s) none).bind fun r=>match r with
    | (v,none)=>if v.plain then some (⟨v,.no⟩,.none) else none
    | _=>none else none
 | .len str x=>match x.get s with
  | .sl _ l=>if str then none else some (⟨.int .i64 l.length,.no⟩,.none)
  | .bl l=>if str then none else some (⟨.int .i64 l.length,.no⟩,.none)
  | .ref _ _ _ _ ln _=>if str then none else some (⟨.int .i64 ln,.no⟩,.none)
  | .str b=>if str then some (⟨.int .i64 b.size,.no⟩,.none) else none
  | _=>none
 | .app cl e size bytes x y=>match x.get s,(y.get s).elems s cl with
  | .sl b l,some m=>if RA bytes (l.length + m.length)=true/\AA size (l++m)=true then
    (match iB b (x.an s) with
    | .no=>none
    | .own k e'=>if e'=e then some (⟨.sl (b&&m.isEmpty) (l++m),.own 0 e⟩,.app (.own k e') 0) else none
    | .ex=>some (⟨.sl (b&&m.isEmpty) (l++m),.own 0 e⟩,.app .ex 0)) else none
  | _,_=>none
 | .appf cl e size bytes x y=>match x.get s,(y.get s).elems s cl with
  | .sl b l,some m=>if RA bytes (l.length + m.length)=true/\AA size (l++m)=true then
    (match iB b (x.an s) with
    | .ex=>if m.isEmpty then some (⟨.sl b l,.ex⟩,.none) else some (⟨.ref 0 0 size 0 (l.length + m.length) (l.length + m.length),.no⟩,.new (xA (l++m)))
    | _=>none) else none
  | _,_=>none
 | .appm cl e size bytes x y=>match x.get s,(y.get s).elems s cl with
  | .sl b l,some m=>if RA bytes (l.length + m.length)=true/\AA size (l++m)=true then
    (match iB b (x.an s) with
    | .ex=>if m.isEmpty then some (⟨.sl b l,.ex⟩,.none) else some (⟨.ref 0 0 size 0 (l.length + m.length) (l.length + m.length),.no⟩,.new (xA (l++m)))
    | _=>none) else none
  | .ref t n sz off ln _,some m=>match (AV.ref t n sz off ln 0).elems s cl with
   | some l=>if off=0/\sz=size/\RA bytes (ln + m.length)=true/\AA size m=true/\t≠0 then
     some (⟨.ref 0 0 size 0 (ln + m.length) (ln + m.length),.no⟩,.rn (some (t,n)) (xA (l++m))) else none
   | none=>none
  | _,_=>none
 | .appn cl e size bytes x y=>match x.get s,(y.get s).raws s cl with
  | .sl b l,some m=>if RA bytes (l.length + m.length)=true/\AA size (l++m)=true/\0<m.length then
    (match iB b (x.an s) with
    | .ex=>some (⟨.ref 0 0 size 0 (l.length + m.length) (l.length + m.length),.no⟩,.new (xA (l++m)))
    | _=>none) else none
  | .ref t n sz off ln _,some m=>match (AV.ref t n sz off ln 0).raws s cl with
   | some l=>if off=0/\sz=size/\RA bytes (ln + m.length)=true/\AA size m=true/\t≠0/\(l++m).flatten.all (AV.noName t n)=true then
     some (⟨.ref 0 0 size 0 (ln + m.length) (ln + m.length),.no⟩,.rn (some (t,n)) (xA (l++m))) else none
   | none=>none
  | _,_=>none
 | .bslr size zero n parts=>if parts.map (·.1)=List.range n/\parts.all (fun p=>(p.2.get s).whole&&decide ((p.2.get s).cells.length=zero.length))/\0<n/\zero.length=size then
   some (⟨.ref 0 0 size 0 n n,.no⟩,.new (xA (parts.map fun p=>(p.2.get s).cells))) else none
 | .mkm=>some (⟨.mp 0 0,.no⟩,.mk (QG []))
 | .mkb T e=>some (⟨.ptr 0 0 0,.no⟩,.mk (bldAV T e ⟨#[]⟩))
 | .mget ok ty zero x k=>match x.get s with
  | .mp t n=>match (s.obj t n).bind JH with
   | some L=>if aM ty L=true/\GH ty (k.get s)=true/\zero.flat=true then
     some (⟨if ok then .tup [(MI L (k.get s)).getD zero,.bool (MI L (k.get s)).isSome] else (MI L (k.get s)).getD zero,.no⟩,.none) else none
   | none=>none
  | _=>none
 | .mset ty x k v=>match x.get s with
  | .mp t n=>match (s.obj t n).bind JH with
   | some L=>if aM ty L=true/\GH ty (k.get s)=true/\(v.get s).flat=true then
     some (⟨.undef,.no⟩,.obj t n (QG (IH L (k.get s) (v.get s)))) else none
   | none=>none
  | _=>none
 | .mlen x=>match x.get s with
  | .mp t n=>match (s.obj t n).bind JH with
   | some L=>some (⟨.int .i64 L.length,.no⟩,.none)
   | none=>none
  | _=>none
 | .rng x=>match x.get s with
  | .mp t n=>match (s.obj t n).bind JH with
   | some L=>some (⟨.ptr 0 0 0,.no⟩,.mk (i4 t n L.length []))
   | none=>none
  | _=>none
 | .nxt _=>none
 | .ent x=>match x.get s with
  | .ptr t n 0=>match (s.obj t n).bind cY with
   | some (tm,nm,N,seen)=>match (s.obj tm nm).bind JH,seen.getLast? with
    | some L,some i=>if L.length=N then (match L[i]? with
      | some [y,v]=>if y.flat&&v.flat then some (⟨.tup [y,v],.no⟩,.none) else none
      | _=>none) else none
    | _,_=>none
   | none=>none
  | _=>none
 | .slz x=>match x.get s with
  | .sl b _=>some (⟨.sl b [],.ex⟩,.none)
  | .bl _=>some (⟨.sl false [],.ex⟩,.none)
  | .ref ..=>some (⟨.sl false [],.ex⟩,.none)
  | _=>none
 | .nilchk x=>match x.get s with
  | .ptr t n o=>some (⟨.ptr t n o,.no⟩,.none)
  | .ip cs=>some (⟨.ip cs,.no⟩,.none)
  | .bp cs=>some (⟨.bp cs,.no⟩,.none)
  | _=>none
def WA.eff (o:WA) (s:pA):rA × SC->Option pA
 | (x,.none)=>some (s.put o.dst x)
 | (x,.new r)=>match o.dst with
  | none=>none
  | some d=>some ((s.setRow d s.next r).put (some d) ⟨match x.v with | .ref _ _ sz off l c=>.ref d s.next sz off l c | _=>.ptr d s.next 0,.no⟩)
 | (x,.set t n r)=>some ((s.setRow t n r).put o.dst x)
 | (x,.app a _)=>match o.dst with
  | none=>none
  | some d=>some (((s.stripA a).strip d).put (some d) ⟨x.v,match x.a with | .own _ e=>.own d e | a=>a⟩)
 | (x,.obj t n S)=>some ((s.setObj t n S).put o.dst x)
 | (x,.mk S)=>match o.dst with
  | none=>none
  | some d=>some ((s.setObj d s.next S).put (some d) ⟨x.v.named d s.next,.no⟩)
 | (x,.ob2 t n S r)=>match o.dst with
  | none=>none
  | some d=>some (((s.setObj t n S).setRow d s.next r).put (some d) ⟨match x.v with | .ref _ _ sz off l c=>.ref d s.next sz off l c | _=>.ptr d s.next 0,.no⟩)
 | (x,.rn k r)=>match o.dst with
  | none=>none
  | some d=>some (((s.killO k).setRow d s.next r).put (some d) ⟨match x.v with | .ref _ _ sz off l c=>.ref d s.next sz off l c | _=>.ptr d s.next 0,.no⟩)
def WA.step (call:uB) (o:WA) (s:pA):Option pA :=
 match o.guard with
 | none=>(o.op.run call s).bind (o.eff s)
 | some (t,want)=>match (s.env t).v with
  | .bool b=>if b=want then (o.op.run call s).bind (o.eff s) else some (s.put o.dst ⟨.tup [],.no⟩)
  | .tup []=>some (s.put o.dst ⟨.tup [],.no⟩)
  | _=>none
def pA.enter (s:pA) (nt:Nat):pA:={ s with next:=s.next + 1,gh:=fun t=>if t<nt then s.env t else s.gh (t - nt) }
def pA.leave (s:pA) (nt:Nat):pA:={ s with env:=fun t=>if t<nt then s.gh t else ⟨.undef,.no⟩,gh:=fun t=>s.gh (t + nt) }
def TK (s:pA) (xs:List bB):List rA:=xs.map fun x=>⟨x.get s,x.an s⟩
def FD (lh:LH) (d:Option Nat) (nt:Nat) (x:bB) (xs:List bB) (s:pA) (k:pA->Option RV):Option RV:=match x.get s with
 | .fn f cs=>lh.h f (TK s xs++cs.map (⟨·,.no⟩)) (s.enter nt) fun y s'=>k ((s'.leave nt).put d y)
 | _=>none
noncomputable def AY (d:Option Nat) (x:bB) (s:pA) (k:pA->Option RV):Option RV:=match x.get s with
 | .ptr t n 0=>match (s.obj t n).bind cY with
  | some (tm,nm,N,seen)=>match (s.obj tm nm).bind JH with
   | some L=>if L.length=N then B4 (fun i=>match L[i]? with
     | some [y,v]=>if y.flat&&v.flat then k ((s.setObj t n (i4 tm nm N (seen++[i]))).put d ⟨.tup [.bool true,y,v],.no⟩) else none
     | _=>none) (k (s.put d ⟨.tup [.bool false],.no⟩)) ((List.range N).filter fun i=>!seen.contains i) else none
   | none=>none
  | none=>none
 | _=>none
def CI (s:pA) (d:Option Nat) (g:Option (Nat × Bool)) (a:Option RV) (k:pA->Option RV):Option RV:=match g with
 | none=>a
 | some (t,want)=>match (s.env t).v with
  | .bool b=>if b=want then a else k (s.put d ⟨.tup [],.no⟩)
  | .tup []=>k (s.put d ⟨.tup [],.no⟩)
  | _=>none
noncomputable def WA.stepK (call:uB) (lh:LH) (o:WA) (s:pA) (k:pA->Option RV):Option RV:=match o.op with
 | .callh nt x xs=>CI s o.dst o.guard (FD lh o.dst nt x xs s k) k
 | .nxt x=>CI s o.dst o.guard (AY o.dst x s k) k
 | _=>(o.step call s).bind k
noncomputable def qG (call:uB) (lh:LH):List WA->pA->(pA->Option RV)->Option RV
 | [],s,k=>k s
 | o :: r,s,k=>o.stepK call lh s fun s=>qG call lh r s k
noncomputable def C.run (call:uB) (lp:LH):C->pA->(Ex->pA->Option RV)->Option RV
 | .skip,s,k=>k .nrm s
 | .seq a b,s,k=>a.run call lp s fun e s=>match e with
  | .nrm=>b.run call lp s k
  | e=>k e s
 | .reg ops,s,k=>qG call lp ops s fun s=>k .nrm { s with next:=s.next + 1 }
 | .cond c t e,s,k=>match c.get s with
  | .bool b=>if b then t.run call lp s k else e.run call lp s k
  | _=>none
 | .block id b,s,k=>b.run call lp s fun e s=>match e with
  | .exit j=>if j=id then k .nrm s else k (.exit j) s
  | e=>k e s
 | .loop b,s,k=>lp b s k
 | .exit id,s,k=>k (.exit id) s
 | .ret,s,k=>k .ret s
inductive ResC where
 | tmp (t:Nat)
 | cell (t:Nat) (agg:Bool) (size:Nat)
structure DA where
 code:C
 res:List ResC
 np:Nat
 mu:List Nat:=[]
def T1 (s:pA):List ResC->Option (List AV)
 | []=>some []
 | .tmp t :: r=>(T1 s r).map ((s.env t).v :: ·)
 | .cell t agg size :: r=>match (s.env t).v with
  | .ptr t n off=>((s.mem t n).bind (aA agg size off)).bind fun x=>(T1 s r).map (x.v :: ·)
  | _=>none
def w7:List AV->AV
 | [v]=>v
 | vs=>.tup vs
def objAt:List AV->Option (Nat × Nat)
 | []=>none
 | .ptr t n 0 :: _=>some (t,n)
 | _ :: r=>objAt r
def bI (t n:Nat):AV->AV
 | .ptr t' n' o=>if t'=t/\n'=n/\o=0 then .ptr 0 0 0 else .undef
 | v=>v
def t8 (S0:Option AV) (s:pA) (vs:List AV):Option RV :=
 match S0 with
 | some _=>if vs.all AV.free then (s.obj 0 0).map fun S=>(w7 vs,some S) else none
 | none=>if vs.all AV.free then some (w7 vs,none) else match objAt vs with
  | some (t,n)=>match s.obj t n with
   | some S=>if (vs.map (bI t n)).all (fun v=>v.free||v.isObj) then some (w7 (vs.map (bI t n)),some S) else none
   | none=>none
  | none=>none
def mI (f:DA) (S0:Option AV):Ex->pA->Option RV
 | .exit _,_=>none
 | _,s=>(T1 s f.res).bind fun vs=>t8 S0 s (vs.map (AV.frz s))
def pA.init (args:List AV) (S0:Option AV):pA:=⟨fun t=>⟨args.getD t .undef,.no⟩,fun _ _=>none,1,fun t n=>if t=0/\n=0 then S0 else none,fun _=>⟨.undef,.no⟩⟩
def pA.initR (args:List AV) (cs:List AV):pA:=⟨fun t=>⟨args.getD t .undef,.no⟩,fun t n=>if t=0/\n=0 then some (cs.map fun v=>⟨v,OG v⟩) else none,1,fun _ _=>none,fun _=>⟨.undef,.no⟩⟩
def pA.drop0 (s:pA):pA:={ s with mem:=fun t n=>if t=0/\n=0 then none else s.mem t n }
def finVR (n:Nat) (s:pA) (vs:List AV):Option RV :=
 if vs.all AV.free then (s.mem 0 0).bind fun r =>
  if (r.map fun x=>AV.frz0 s.drop0 x.v).all AV.free0=true/\r.length=n then some (w7 vs,some (.agg (r.map fun x=>AV.frz0 s.drop0 x.v))) else none
 else none
def finR (f:DA) (n:Nat):Ex->pA->Option RV
 | .exit _,_=>none
 | _,s=>(T1 s f.res).bind fun vs=>finVR n s (vs.map (AV.frz s.drop0))
def zR:List AV->Option (List AV)
 | .undef :: .undef :: r=>some r
 | _=>none
def RK (lp:LpT) (b:C) (k:Ex->pA->Option RV):Ex->pA->Option RV
 | .nrm,s=>lp b s k
 | e,s=>k e s
def OF:List AV->Bool
 | .undef :: _=>true
 | _=>false
def JE (s:pA):List ResC->Option (List rA)
 | []=>some []
 | .tmp t :: r=>(JE s r).map (s.env t :: ·)
 | .cell t agg size :: r=>match (s.env t).v with
  | .ptr t n off=>((s.mem t n).bind (aA agg size off)).bind fun x=>(JE s r).map (⟨x.v,.no⟩ :: ·)
  | _=>none
def AV.tupOk:AV->Bool
 | .bp _ | .bl _ | .fn .. | .tup _=>false
 | _=>true
def sH:List rA->Option rA
 | [x]=>some x
 | l=>if l.all (fun x=>x.v.tupOk) then some ⟨.tup (l.map (·.v)),.no⟩ else none
def CH (f:DA) (k:rA->pA->Option RV):Ex->pA->Option RV
 | .exit _,_=>none
 | _,s=>((JE s f.res).bind sH).bind fun x=>k x s
def pA.initH (s:pA) (args:List rA):pA:={ s with env:=fun t=>args.getD t ⟨.undef,.no⟩ }
def UJ (f:DA):Ex->pA->Option RV
 | .exit _,_=>none
 | _,s=>match JE s f.res with
  | some [⟨.sl b [],a⟩]=>if uX b a=true then some (.sl b [],none) else none
  | some [⟨.ref t n sz 0 (len + 1) _,_⟩]=>((s.mem t n).bind fun r=>UG r sz 0 (len + 1)).map fun l=>(.sl false l,none)
  | _=>none
mutual
noncomputable def QD (T:Nat->Option DA) (ext:uB):Nat->uB
 | 0,f,args,S0=>match T f with
  | none=>ext f args S0
  | some _=>none
 | n + 1,f,args,S0=>match T f with
  | none=>ext f args S0
  | some c=>match zR args,S0 with
   | some rest,some (.agg cs)=>if rest.length=c.np/\OF rest=false then c.code.run (QD T ext n) ⟨QI T ext n,HJ T ext n⟩ (pA.initR rest cs) (finR c cs.length) else none
   | some _,_=>none
   | none,_=>if args.length=c.np/\OF args=false/\noItO S0=true then c.code.run (QD T ext n) ⟨QI T ext n,HJ T ext n⟩ (pA.init args S0) (mI c S0)
    else if args.length=c.np + 1/\OF args=true/\OF args.tail=false/\S0.isNone=true then c.code.run (QD T ext n) ⟨QI T ext n,HJ T ext n⟩ (pA.init args.tail none) (UJ c) else none
noncomputable def QI (T:Nat->Option DA) (ext:uB):Nat->LpT
 | 0,_,_,_=>none
 | n + 1,b,s,k=>b.run (QD T ext n) ⟨QI T ext n,HJ T ext n⟩ s (RK (QI T ext n) b k)
noncomputable def HJ (T:Nat->Option DA) (ext:uB):Nat->HpT
 | 0,_,_,_,_=>none
 | n + 1,f,args,s,k=>match T f with
  | none=>none
  | some c=>if args.length=c.np then c.code.run (QD T ext n) ⟨QI T ext n,HJ T ext n⟩ (s.initH args) (CH c k) else none
end
section
def ZZ:Value->Option AV
 | .int k n=>some (.int k n)
 | .bool b=>some (.bool b)
 | .string s=>some (.str s)
 | .pointer none=>some .nilP
 | .slice none 0 0=>some (.sl true [])
 | _=>none
def bJ:List Value->Option (List AV)
 | []=>some []
 | v :: r=>match ZZ v,bJ r with
  | some x,some l=>some (x :: l)
  | _,_=>none
def avC:Value->Option AV
 | .agg cs=>(bJ cs.toList).map .agg
 | v=>ZZ v
def opd:Operand->Option bB
 | .tmp t=>some (.t t)
 | .const v=>(avC v).map .c
 | .func f=>some (.c (.fn f []))
 | _=>none
section
variable (P:Program)
def xI (t:TypeId):Option Bool:=(P.underlying t).map fun | .struct _=>true | .array ..=>true | _=>false
def CB (t:TypeId):Option Nat:=(P.info? t).map (·.size)
def cI (t:TypeId):Option (List AV):=((P.info? t).bind (·.zero)).bind fun z=>bJ z.cells.toList
def tScal (t:TypeId):Bool:=match P.underlying t with | some (.int _)=>true | some .string=>true | some .bool=>true | _=>false
def opds:List (Nat × Operand)->Option (List (Nat × bB))
 | []=>some []
 | (i,x) :: r=>match opd x,opds r with
  | some x,some l=>some ((i,x) :: l)
  | _,_=>none
def kF:List Operand->Option (List bB)
 | []=>some []
 | x :: r=>match opd x,kF r with
  | some x,some l=>some (x :: l)
  | _,_=>none
def rX:Option Operand->Option (Option bB)
 | none=>some none
 | some x=>(opd x).map some
def HP (pl:Nat->Option (Nat × Nat)):List (Nat × bB)->Option (List (Nat × Nat × bB))
 | []=>some []
 | (i,x) :: r=>match pl i,HP pl r with
  | some (off,z),some l=>some ((off,z,x) :: l)
  | _,_=>none
def DZ (t:TypeId):Option Nat:=match P.underlying t,CB P t with
 | some (.int _),some 1=>some 0
 | some .string,some 1=>some 1
 | some .bool,some 1=>some 2
 | _,_=>none
def aQ (r:TypeId->Option (List Nat)) (i:Nat):List Field->Option (List Nat)
 | []=>some []
 | f :: fs=>(r f.type).bind fun l=>if f.name≠"_"/\f.offset=i then (aQ r (i + l.length) fs).map (l++·) else none
def nG:Nat->TypeId->Option (List Nat)
 | 0,_=>none
 | n + 1,t=>match DZ P t with
  | some k=>some [k]
  | none=>match P.underlying t with
   | some (.array m e)=>(nG n e).bind fun l=>if P.cellsOf e=l.length/\CB P e=some l.length/\CB P t=some (List.replicate m l).flatten.length then some (List.replicate m l).flatten else none
   | some (.struct fs)=>if P.stoodInHeld t then none else (aQ (nG n) 0 fs.toList).bind fun l=>if CB P t=some l.length then some l else none
   | _=>none
def bR (t:TypeId):Option (List Nat):=if P.eqGuardType P.depth t then none else match P.underlying t with
 | some (.array ..)=>nG P 8 t
 | some (.struct _)=>nG P 8 t
 | _=>none
def scalK (t:TypeId):Option (Option IntKind):=match P.underlying t with
 | some (.int k)=>some (some k)
 | some .string=>some none
 | _=>none
def keysT (t:TypeId):Option (List (Option IntKind)):=match P.underlying t with
 | some (.array n e)=>(scalK P e).map (List.replicate n)
 | some (.struct fs)=>fs.toList.mapM fun f=>scalK P f.type
 | _=>none
def hJ:Option IntKind->Nat
 | some _=>0
 | none=>1
def QY (t:TypeId):Option KTy:=match P.underlying t with
 | some (.int k)=>some (.some k)
 | some .string=>some .none
 | _=>(keysT P t).bind fun l=>if bR P t=some (l.map hJ)/\l≠[] then some (.agg l) else none
def isBld:List AV->Bool
 | [.nilP,.sl true []]=>true
 | _=>false
def bldEl (e:TypeId):Option TypeId:=if (cI P e).map isBld=some true then (match P.underlying e with
  | some (.struct fs)=>(fs[1]?).bind fun f=>match P.underlying f.type with
   | some (.slice el)=>some el
   | _=>none
  | _=>none) else none
def isZ:Option Operand->Bool
 | some (.const (.int .i64 n))=>decide (n=0)
 | _=>false
def B7 (cl:Cl) (mu:Option Bool) (o:Go.Op) (nest:Bool:=false):Option K :=
 match o with
 | .move x | .assign x=>(opd x).map .mv
 | .pick c a b=>match opd c,opd a,opd b with
  | some c,some a,some b=>some (.pick c a b)
  | _,_,_=>none
 | .alloc e=>match mu with
  | none=>(cI P e).map .alloc
  | some _=>(bldEl P e).map (.mkb e)
 | .box e x=>match CB P e,opd x with
  | some z,some x=>some (.box z x)
  | _,_=>none
 | .build t ps=>match P.underlying t,cI P t,opds ps.toList with
  | some (.struct fs),some z,some ps=>(match fs.toList.mapM (fun f=>(P.info? f.type).map fun i=>(f.offset,i.size)) with
   | some pl=>(HP (pl.toArray[·]?) ps).map (.build z)
   | none=>none)
  | some (.array _ e),some z,some ps=>(match P.info? e with
   | some ie=>(HP (fun i=>some (i * ie.size,ie.size)) ps).map (.build z)
   | none=>none)
  | _,_,_=>none
 | .buildSlice t n ps=>match P.underlying t,opds ps.toList with
  | some (.slice e),some ps=>match cI P e,CB P e with
   | some z,some k=>if z.length=k/\0<k/\n * k<=16777216 then (match mu with | none=>some (.bsl z n ps) | some _=>some (.bslr k z n ps)) else none
   | _,_=>none
  | _,_=>none
 | .load t x=>match xI P t,CB P t,opd x with
  | some a,some z,some x=>some (.load cl a z x)
  | _,_,_=>none
 | .store t x y=>match xI P t,CB P t,opd x,opd y with
  | some a,some z,some x,some y=>if a||z == 1 then some (.store cl a z x y) else none
  | _,_,_,_=>none
 | .binOp op t x y _=>match opd x,opd y with
  | some x,some y=>if tScal P t then some (.bin op (match P.underlying t with | some .bool=>true | _=>false) x y) else
   match op with
   | .eql=>(match P.underlying t with
    | some (.slice _)=>some (.eqn false false x y)
    | some (.pointer _)=>some (.eqn false true x y)
    | _=>(bR P t).map fun ks=>.eqa false ks x y)
   | .neq=>(match P.underlying t with
    | some (.slice _)=>some (.eqn true false x y)
    | some (.pointer _)=>some (.eqn true true x y)
    | _=>(bR P t).map fun ks=>.eqa true ks x y)
   | _=>none
  | _,_=>none
 | .unOp op t x=>if tScal P t then (opd x).map (.un op) else none
 | .convert s d x=>match P.underlying s,P.underlying d,opd x with
  | some (.int _),some (.int k),some x=>some (.conv (some k) x)
  | some .string,some .string,some x=>some (.conv none x)
  | some (.int _),some .string,some x=>some (.rstr x)
  | some (.slice e),some .string,some x=>(match P.underlying e with
   | some (.int .u8)=>if CB P e=some 1 then some (.bstr cl x) else none
   | _=>none)
  | _,_,_=>none
 | .makeSlice t l c=>match P.underlying t,opd l,opd c with
  | some (.slice e),some l,some c=>match cI P e,P.info? e with
   | some z,some i=>if z.length=i.size/\0<i.size then some (.mks i.size i.bytes z l c) else none
   | _,_=>none
  | _,_,_=>none
 | .entry x=>(opd x).map .ent
 | .slice t x lo hi mx0=>match opd x,rX lo,rX hi,rX mx0 with
  | some x,some l,some h,some m=>match P.underlying t with
   | some .string=>some (.slc true 1 x l h m)
   | some (.slice e)=>(match lo,isZ hi&&isZ mx0 with
    | none,true=>(CB P e).map fun _=>.slz x
    | _,_=>(CB P e).map fun k=>.slc false k x l h m)
   | some (.array n e)=>(match m with
    | none=>(CB P e).map fun k=>.aslc cl n k x l h
    | some _=>none)
   | _=>none
  | _,_,_,_=>none
 | .fieldAddr t x i=>match P.underlying t,opd x with
  | some (.struct fs),some x=>match fs[i]? with
   | some f=>match CB P f.type with
    | some (_ + 1)=>some (.faddr f.offset x)
    | _=>none
   | none=>none
  | _,_=>none
 | .field t x i=>match P.underlying t,opd x with
  | some (.struct fs),some x=>match fs[i]? with
   | some f=>match xI P f.type,CB P f.type with
    | some a,some z=>some (.field a f.offset z x)
    | _,_=>none
   | none=>none
  | _,_=>none
 | .indexAddr t x i=>match P.underlying t,opd x,opd i with
  | some (.slice e),some x,some i=>(CB P e).map fun k=>.iaddr k x i
  | some (.array n e),some x,some i=>(CB P e).map fun k=>.aaddr n k x i
  | _,_,_=>none
 | .index t x i=>match P.underlying t,opd x,opd i with
  | some .string,some x,some i=>some (.index x i)
  | _,_,_=>none
 | .range t x=>match P.underlying t with
  | some (.map _ _)=>(opd x).map .rng
  | _=>none
 | .makeMap t r=>match r,P.underlying t with
  | none,some (.map kT _)=>(QY P kT).map fun _=>.mkm
  | _,_=>none
 | .lookup t x i ok=>match P.underlying t,opd x,opd i with
  | some (.map kT eT),some x,some i=>match QY P kT,((P.info? eT).bind (·.zero)).bind avC with
   | some ty,some z=>some (.mget ok ty z x i)
   | _,_=>none
  | _,_,_=>none
 | .mapUpdate t m k v=>match P.underlying t,opd m,opd k,opd v with
  | some (.map kT _),some m,some k,some v=>(QY P kT).map fun ty=>.mset ty m k v
  | _,_,_,_=>none
 | .insert t m k v=>match P.underlying t,opd m,opd k,opd v with
  | some (.map kT _),some m,some k,some v=>(QY P kT).map fun ty=>.mset ty m k v
  | _,_,_,_=>none
 | .extract x i=>(opd x).map fun x=>.ext x i
 | .nilCheck x=>(opd x).map .nilchk
 | .call { callee:=.value (.func f),args:=xs,.. }=>match mu with
  | some false=>(match P.funcs[f]? with
   | some fn=>(match fn.resultTypes.toList with
    | [t]=>(match P.underlying t with
     | some (.slice e)=>(match CB P e,kF xs.toList with
      | some z,some xs=>if 0<z then some (.callf cl f z xs) else none
      | _,_=>none)
     | _=>none)
    | _=>none)
   | none=>none)
  | some true=>(kF xs.toList).map (.callr cl f)
  | none=>(kF xs.toList).map (.call cl f)
 | .makeFunc (.func f) fs xs=>if fs.size=0 then (kF xs.toList).map (.mkf f) else none
 | .call { callee:=.value (.tmp t),args:=xs,.. }=>(kF xs.toList).map (.callv cl (.t t))
 | .call { callee:=.builtin .len,args:=xs,argTypes:=ts }=>match kF xs.toList,ts.toList with
  | some [x],[t]=>(match P.underlying t with
   | some .string=>some (.len true x)
   | some (.slice _)=>some (.len false x)
   | some (.map _ _)=>some (.mlen x)
   | _=>none)
  | _,_=>none
 | .call { callee:=.builtin .clear,args:=xs,argTypes:=ts }=>match kF xs.toList,ts.toList with
  | some [x],[t]=>(match P.underlying t with
   | some (.slice e)=>(cI P e).map fun z=>.clr cl z x
   | _=>none)
  | _,_=>none
 | .call { callee:=.builtin .max,args:=xs,.. }=>match xs.toList with
  | [X,Y]=>(match opd X,opd Y with
   | some x,some y=>some (.mm true x y)
   | _,_=>none)
  | _=>none
 | .call { callee:=.builtin .min,args:=xs,.. }=>match xs.toList with
  | [X,Y]=>(match opd X,opd Y with
   | some x,some y=>some (.mm false x y)
   | _,_=>none)
  | _=>none
 | .call { callee:=.builtin .append,args:=xs,argTypes:=ts }=>match kF xs.toList,ts.toList with
  | some [x,y],[t,t']=>if t=t' then match P.underlying t with
   | some (.slice e)=>match P.info? e,cI P e with
    | some i,some z=>if z.length=i.size/\0<i.size then some (match mu with | some true=>(if nest then .appn cl e i.size i.bytes x y else .appm cl e i.size i.bytes x y) | some false=>.appf cl e i.size i.bytes x y | none=>.app cl e i.size i.bytes x y) else none
    | _,_=>none
   | _=>none else none
  | _,_=>none
 | _=>none
def K5 (cl:Cl) (mu:Option Bool) (bad nest:Bool) (o:Go.Op):Option K:=match B7 P cl mu o nest with
 | some k=>some k
 | none=>if bad then some .bad else none
def NV (cl:Cl) (hs:Nat->Bool) (L:List Nat) (o:Go.Op):Option K:=match o with
 | .call { callee:=.value (.func f),args:=xs,.. } =>
  if hs (30000000 + f) then (kF xs.toList).map (.callq cl f) else
  if hs (10000000 + f)||hs (20000000 + f) then (match P.funcs[f]? with
   | some fn=>(match fn.resultTypes.toList with
    | [t]=>(match P.underlying t with
     | some (.slice e)=>(match CB P e,kF xs.toList with
      | some z,some ys=>if 0<z then (if hs (10000000 + f) then some (.callo cl f z ys) else match ys with
       | y :: r=>some (.calln cl f z L y r)
       | []=>none) else none
      | _,_=>none)
     | _=>none)
    | _=>none)
   | none=>none) else none
 | _=>none
def B1 (nt:Nat) (hs:Nat->Bool) (o:Go.Op):Option K:=match o with
 | .call { callee:=.value (.func f),args:=xs,.. }=>if hs (1000000 + f) then (kF xs.toList).map (.callh nt (.c (.fn f []))) else none
 | .call { callee:=.value (.tmp t),args:=xs,.. }=>if hs (2000000 + t) then (kF xs.toList).map (.callh nt (.t t)) else none
 | .next x false=>(opd x).map .nxt
 | _=>none
def JP (boxes:List Nat) (ops:List Oper):Nat->Operand->Option Nat
 | 0,_=>none
 | n + 1,.tmp t=>if boxes.contains t then some t else
  match ops.find? (fun o=>o.dst == some t) with
  | some o=>match o.op with
   | .fieldAddr _ x _=>JP boxes ops n x
   | .move x=>JP boxes ops n x
   | .nilCheck x=>JP boxes ops n x
   | _=>none
  | none=>none
 | _ + 1,_=>none
def isS:K->Bool
 | .store .. | .callr .. | .clr ..=>true
 | _=>false
def isH:K->Bool
 | .callh ..=>true
 | .nxt _=>true
 | _=>false
def A7:K->Bool
 | .alloc _ | .box .. | .mks .. | .appf .. | .appm .. | .appn .. | .bslr .. | .callf .. | .callo .. | .calln ..=>true
 | _=>false
def isM:K->Bool
 | .appm ..=>true
 | .appn ..=>true
 | .calln ..=>true
 | .callh ..=>true
 | .nxt _=>true
 | _=>false
def CT:K->Bool
 | .call .. | .callf .. | .callo .. | .calln .. | .callq .. | .callv .. | .callr .. | .mkm | .mkb .. | .mget .. | .mset .. | .mlen _ | .rng _ | .ent _=>true
 | _=>false
def isR:K->Bool
 | .mget .. | .mlen _ | .ent _=>true
 | _=>false
def isT:K->Bool
 | .app .. | .appm .. | .appn ..=>true
 | _=>false
def K.cl:K->Option Cl
 | .load cl ..=>some cl
 | .store cl ..=>some cl
 | .clr cl ..=>some cl
 | .call cl ..=>some cl
 | .callf cl ..=>some cl
 | .callv cl ..=>some cl
 | .callo cl ..=>some cl
 | .calln cl ..=>some cl
 | .callq cl ..=>some cl
 | .callr cl ..=>some cl
 | .bstr cl _=>some cl
 | .aslc cl ..=>some cl
 | .app cl ..=>some cl
 | .appf cl ..=>some cl
 | .appm cl ..=>some cl
 | .appn cl ..=>some cl
 | _=>none
def WH (a b:WA):Bool :=
 !isM a.op&&!isM b.op&&(!isT a.op||!isT b.op)&&(!CT a.op||!CT b.op||(isR a.op&&isR b.op)) &&
 (match a.op.cl,b.op.cl with
  | some c,some d=>!(isS a.op||isS b.op)||(match c,d with
   | .imm,_=>true
   | _,.imm=>true
   | .root r,.root r'=>r != r'
   | .root r,.out L=>L.contains r
   | .out L,.root r=>L.contains r
   | _,_=>false)
  | _,_=>true) &&
 (!A7 a.op||(match b.op.cl with | none=>true | some .imm=>true | some (.root r)=>a.dst != some r | some (.out L)=>(match a.dst with | some d=>L.contains d | none=>false) | some .any=>false)) &&
 (!A7 b.op||(match a.op.cl with | none=>true | some .imm=>true | some (.root r)=>b.dst != some r | some (.out L)=>(match b.dst with | some d=>L.contains d | none=>false) | some .any=>false)) &&
 (!A7 a.op||!A7 b.op||a.dst != b.dst)
def isMv (o:WA):Bool:=match o.op,o.guard with
 | .mv (.t _),none=>true
 | _,_=>false
def isN:K->Bool
 | .appm ..=>true
 | .calln ..=>true
 | .appn ..=>true
 | _=>false
def isLd (o b:WA):Bool:=match o.op,o.guard,b.op with
 | .load (.root r) .false _ (.t _),none,.calln _ _ _ L _ _=>L.contains r&&b.dst != some r
 | _,_,_=>false
def isPt (o:WA):Bool:=match o.op,o.guard with
 | .nilchk (.t _),none=>true
 | .faddr _ (.t _),none=>true
 | _,_=>false
def UN (a b:WA):Bool:=WH a b||((isMv a&&isN b.op)||(isMv b&&isN a.op)||(isLd a b&&isN b.op)||(isN a.op&&isPt b))
def eQ (ops:List Oper):List Nat :=
 (ops.foldl (fun acc o=>acc.push (o.after.foldl (fun s e=>if Region.binds .any e then s ||| 2 ^ e.on ||| acc.getD e.on 0 else s) 0)) (#[]:Array Nat)).toList
def K.opds:K->List bB
 | .mv x | .box _ x | .load _ _ _ x | .un _ x | .conv _ x | .rstr x | .bstr _ x | .faddr _ x | .field _ _ _ x | .ext x _ | .len _ x | .nilchk x | .rng x | .nxt x | .slz x | .ent x | .clr _ _ x=>[x]
 | .pick c a b=>[c,a,b]
 | .alloc _ | .mkm | .mkb .. | .bad=>[]
 | .mget _ _ _ x k=>[x,k]
 | .mset _ x k v=>[x,k,v]
 | .mlen x=>[x]
 | .build _ ps=>ps.map (·.2.2)
 | .bsl _ _ ps=>ps.map (·.2)
 | .bslr _ _ _ ps=>ps.map (·.2)
 | .store _ _ _ x y | .bin _ _ x y | .mm _ x y | .eqa _ _ x y | .eqn _ _ x y | .mks _ _ _ x y | .iaddr _ x y | .aaddr _ _ x y | .index x y | .app _ _ _ _ x y | .appf _ _ _ _ x y | .appm _ _ _ _ x y | .appn _ _ _ _ x y=>[x,y]
 | .slc _ _ x lo hi mx=>x :: (lo.toList++(hi.toList++mx.toList))
 | .aslc _ _ _ x lo hi=>x :: (lo.toList++hi.toList)
 | .mkf _ xs=>xs
 | .callv _ x xs=>x :: xs
 | .callr _ _ xs=>xs
 | .callh _ x xs=>x :: xs
 | .call _ _ xs=>xs
 | .callf _ _ _ xs=>xs
 | .callo _ _ _ xs=>xs
 | .calln _ _ _ _ x xs=>x :: xs
 | .callq _ _ xs=>xs
def WA.looks (o:WA):List Nat:=o.op.opds.filterMap (fun | .t n=>some n | _=>none)++(match o.guard with | some (t,_)=>[t] | none=>[])
def WA.clear (a b:WA):Bool:=match a.dst with
 | some d=>!b.looks.contains d&&b.dst != some d
 | none=>true
def wF (a b:WA):Bool:=a.clear b&&b.clear a
def gJ (o:Oper):List Nat:=o.after.toList.filterMap fun e=>if Region.binds .any e then some e.on else none
def bfOk (ops:List Oper) (bf:List Nat):Bool:=(List.range ops.length).all fun i=>match ops[i]? with
 | some o=>(gJ o).all (fun e=>decide (e<i))&&(List.range i).all fun r=>!(bf.getD i 0).testBit r||(gJ o).any fun e=>e == r||(decide (r<e)&&(bf.getD e 0).testBit r)
 | none=>false
def rU (ops:List Oper) (cs:List WA):Bool :=
 let bf:=eQ ops
 bfOk ops bf&&(List.range ops.length).all fun j=>(List.range j).all fun i =>
  (bf.getD j 0).testBit i||(match cs[i]?,cs[j]? with
   | some x,some y=>wF x y&&UN x y
   | _,_=>false)
def BS (cs:List WA):Bool:=(List.range cs.length).all fun j=>match cs[j]? with
 | some y=>!((A7 y.op||CT y.op)&&y.dst.isSome)||(List.range cs.length).all fun i=>i == j||(match cs[i]? with | some x=>x.dst != y.dst | none=>false)
 | none=>false
def W7 (o:Oper):Bool:=match o.op with | .store ..=>true | .alloc _=>true | .box ..=>true | .makeSlice ..=>true | .call { callee:=.builtin .append,.. }=>true | .call { callee:=.builtin .clear,.. }=>true | _=>false
def fixed (ops:List Oper) (o:Oper):Bool:=match o.dst with
 | none=>false
 | some d=>match ops.findIdx? (fun p=>p.dst == some d) with
  | none=>false
  | some i=>let bf:=eQ ops
   (List.range ops.length).all fun j=>i == j||!(match ops[j]? with | some p=>W7 p | none=>false)||(bf.getD j 0).testBit i||(bf.getD i 0).testBit j
def claim (boxes:List Nat) (adv lo:Bool) (out:Option (List Nat)) (ops:List Oper) (draw:Bool) (o:Oper):Cl :=
 if !draw then .any else
 if adv then (match o.op with
  | .load _ x=>(match JP boxes ops 10 x with | some t=>.root t | none=>if fixed ops o then .any else if lo then .out (out.getD []++ops.filterMap fun p=>if W7 p then p.dst else none) else .imm)
  | .store _ x _=>(match JP boxes ops 10 x,out with | some t,_=>.root t | none,some L=>.out (L++ops.filterMap fun p=>if W7 p then p.dst else none) | none,none=>.any)
  | .call { callee:=.value (.func _),args:=xs,.. }=>(match (xs[0]?).bind (JP (boxes.filter (· == 0)) ops 10) with | some t=>.root t | none=>if fixed ops o||!(ops.any W7) then .any else .imm)
  | _=>if fixed ops o||!(ops.any W7) then .any else .imm) else
 if ops.any (fun o=>match o.op with | .store ..=>true | .call { callee:=.builtin .clear,.. }=>true | .alloc _=>true | .box ..=>true | .makeSlice ..=>true | _=>false) then
  match o.op with
  | .load _ x=>(match JP boxes ops 10 x with | some t=>.root t | none=>.imm)
  | .store _ x _=>(match JP boxes ops 10 x with | some t=>.root t | none=>.any)
  | _=>.imm
 else .any
def dstOk (nt:Nat):Option Nat->Bool
 | some d=>decide (d<nt)
 | none=>true
def PS (boxes:List Nat) (nt:Nat) (all:List Oper) (draw:Bool):List Oper->Option (List WA)
 | []=>some []
 | o :: r=>match (match B1 nt (fun c=>boxes.contains (nt + 1 + c)) o.op with | some k=>some k | none=>match NV P (claim boxes (boxes.any (nt<·)) (boxes.contains (nt + 1 + 7000000)) (if boxes.contains (nt + 1 + 6000000) then some (boxes.filter (·<nt)) else none) all draw o) (fun c=>boxes.contains (nt + 1 + c)) (boxes.filter (·<nt)) o.op with | some k=>some k | none=>(K5 P (claim boxes (boxes.any (nt<·)) (boxes.contains (nt + 1 + 7000000)) (if boxes.contains (nt + 1 + 6000000) then some (boxes.filter (·<nt)) else none) all draw o) (match o.dst with | some d=>if boxes.contains (nt + 1 + (2 * d + 1)) then some true else if boxes.contains (nt + 1 + 2 * d) then some false else none | none=>none) (boxes.contains (nt + 1 + 4000000)) (boxes.contains (nt + 1 + 5000000)) o.op).filter (fun k=>!isH k)),PS boxes nt all draw r with
  | some k,some l =>
   if dstOk nt o.dst then
    match o.guard with
    | none=>some (⟨o.dst,k,none⟩ :: l)
    | some (g,want)=>match (all[g]?).bind (·.dst) with
     | some t=>some (⟨o.dst,k,some (t,want)⟩ :: l)
     | none=>none
   else none
  | _,_=>none
def comp (boxes:List Nat) (nt:Nat):Code->Option C
 | .skip=>some .skip
 | .seq a b=>match comp boxes nt a,comp boxes nt b with
  | some a,some b=>some (.seq a b)
  | _,_=>none
 | .region _ ops draw=>match PS P boxes nt ops.toList draw ops.toList with
  | some cs=>if BS cs&&(!draw||rU ops.toList cs) then some (.reg cs) else none
  | none=>none
 | .cond c t e=>match opd c,comp boxes nt t,comp boxes nt e with
  | some c,some t,some e=>some (.cond c t e)
  | _,_,_=>none
 | .block id b=>(comp boxes nt b).map (.block id)
 | .loop b=>(comp boxes nt b).map .loop
 | .exit id=>some (.exit id)
 | .scope b=>comp boxes nt b
 | .ret=>some .ret
 | _=>none
def DL:Code->List Nat
 | .seq a b=>DL a++DL b
 | .region _ ops _=>ops.toList.filterMap fun o=>match o.op with | .alloc _=>o.dst | .box ..=>o.dst | _=>none
 | .cond _ t e=>DL t++DL e
 | .block _ b=>DL b
 | .loop b=>DL b
 | .scope b=>DL b
 | _=>[]
def jK:List ResultVar->Option (List ResC)
 | []=>some []
 | .tmp t :: r=>(jK r).map (.tmp t :: ·)
 | .cell t ty :: r=>match xI P ty,CB P ty,jK r with
  | some a,some z,some l=>some (.cell t a z :: l)
  | _,_,_=>none
def jR (mu:List Nat) (fn:Func):Option DA:=match fn.body with
 | none=>none
 | some b=>match comp P (DL b++(if mu.contains 3000000 then [0] else [])++mu.map (fn.ntmps + 1 + ·)) fn.ntmps b,jK P fn.results.toList with
  | some c,some r=>if fn.params.size + fn.nfree<=fn.ntmps then some ⟨c,r,fn.params.size + fn.nfree,mu⟩ else none
  | _,_=>none
end
end
section
open Go.RowKit
structure ZA (F:Nat->Prop) (w w':World):Prop where
 os:w'.os=w.os
 tape:w'.tape=w.tape
 output:w'.output=w.output
 size:w.heap.size<=w'.heap.size
 block:∀ k,k<w.heap.size->¬ F k->w'.heap[k]?=w.heap[k]?
section
variable {F G:Nat->Prop} {w w1 w2:World}
theorem ZA.refl (F:Nat->Prop) (w:World):ZA F w w:=⟨rfl,rfl,rfl,yf _,fun _ _ _=>rfl⟩
theorem ZA.trans (h:ZA F w w1) (k:ZA G w1 w2) (hG:∀ i,i<w.heap.size->G i->F i):ZA F w w2 :=
 ⟨k.os.trans h.os,k.tape.trans h.tape,k.output.trans h.output,yB h.size k.size,fun i hi hF =>
  (k.block i (Nat.lt_of_lt_of_le hi h.size) (fun g=>hF (hG i hi g))).trans (h.block i hi hF)⟩
theorem ZA.mono (h:ZA F w w1) (hG:∀ i,i<w.heap.size->F i->G i):ZA G w w1 :=
 ⟨h.os,h.tape,h.output,h.size,fun i hi hg=>h.block i hi fun hf=>hg (hG i hi hf)⟩
theorem ZA.of_below (h:Below w.heap.size w w1) (F:Nat->Prop):ZA F w w1:=⟨h.os,h.tape,h.output,h.size,fun k hk _=>h.block k hk⟩
theorem ZA.below (h:ZA (fun _=>False) w w1):Below w.heap.size w w1:=⟨h.os,h.tape,h.output,h.size,fun k hk=>h.block k hk id⟩
theorem ZA.alloc (h:ZA F w w1) (o:Obj):ZA F w (w1.alloc o) :=
 ⟨h.os,h.tape,h.output,by have:=h.size; simp; omega,fun k hk hF=>(Below.heap_alloc w1 o k (Nat.lt_of_lt_of_le hk h.size)).trans (h.block k hk hF)⟩
theorem ZA.drew (h:ZA F w w1):ZA F w w1.drew:=⟨h.os,h.tape,h.output,h.size,h.block⟩
theorem ZA.trans_below (h:ZA F w w1) (k:Below w1.heap.size w1 w2):ZA F w w2:=h.trans (ZA.of_below k (fun _=>False)) (fun _ _ h=>h.elim)
theorem ZA.grown (h:ZA F w w1) {row:Option Nat} (hg:w1.grownBy w2 row) (hr:∀ k,k<w.heap.size->row=some k->F k):ZA F w w2 :=
 ⟨hg.os.trans h.os,hg.tape.trans h.tape,hg.output.trans h.output,yB h.size hg.size,fun k hk hF =>
  (hg.block k (Nat.lt_of_lt_of_le hk h.size) (fun e=>hF (hr k hk e.symm))).trans (h.block k hk hF)⟩
theorem ZA.cell (h:ZA F w w1) {a:Addr} (ha:a.block<w.heap.size) (hF:¬ F a.block):w1.cell? a=w.cell? a:=World.cell?_of_block (w:=w) (h.block _ ha hF)
theorem ZA.frozen (h:ZA F w w1) {a:Addr} (ha:a.block<w.heap.size) (hF:¬ F a.block):w1.frozen? a=w.frozen? a:=World.frozen?_of_block (w:=w) (h.block _ ha hF)
end
theorem dN {p:Prop} (h:p):Hid p:=h
theorem cA {w:World} {k:Nat} {o:Obj} (h:w.heap[k]?=some o):k<w.heap.size:=by
 rcases Nat.lt_or_ge k w.heap.size with h' | h'
 ·exact h'
 ·rw [Array.getElem?_eq_none h'] at h; cases h
theorem ZA.at_ {F:Nat->Prop} {w w1:World} (h:ZA F w w1) {a:Addr} {v:Value} (hc:w.cell? a=some v) (hF:¬ F a.block):w1.cell? a=some v:=(h.cell (World.block_lt_of_cell? w a hc) hF).trans hc
theorem ZA.fz {F:Nat->Prop} {w w1:World} (h:ZA F w w1) {a:Addr} (hc:w.frozen? a=false) (hl:a.block<w.heap.size) (hF:¬ F a.block):w1.frozen? a=false:=(h.frozen hl hF).trans hc
theorem qQ {w w1:World} (h:Below w.drew.heap.size w.drew w1):Below w.heap.size w w1:=⟨h.os,h.tape,h.output,h.size,h.block⟩
theorem OR {w:World} {o:Obj} {n:Nat} (h:n=w.heap.size):(w.alloc o).heap[n]?=some o:=by rw [h]; exact heap_alloc_new w o
def Sl (av:Nat->Prop) (w:World) (sz:Nat) (v:Value) (n:Nat) (cs:List Value):Prop :=
 cs.length=n * sz/\∃ A c,v=.slice A n c/\n<=c ∧
  (0<n->∃ b off,A=some ⟨b,off,none⟩/\b<w.heap.size/\¬ av b/\∀ j u,cs[j]?=some u->w.cell? ⟨b,off + j,none⟩=some u)
section
variable {av rb:Nat->Prop} {w w':World} {sz n:Nat} {v:Value} {cs:List Value}
theorem Sl.nil (av:Nat->Prop) (w:World) (sz:Nat):Sl av w sz (.slice none 0 0) 0 []:=⟨by simp,none,0,rfl,yf _,fun h=>absurd h (by omega)⟩
theorem Sl.keep {F:Nat->Prop} (h:Sl av w sz v n cs) (hk:ZA F w w') (hF:∀ b,b<w.heap.size->F b->av b):Sl av w' sz v n cs:=by
 obtain ⟨hl,A,c,rfl,hc,hn⟩:=h;refine ⟨hl,A,c,rfl,hc,fun h0=>?_⟩;obtain ⟨b,off,rfl,hb,pd,gc⟩:=hn h0;exact ⟨b,off,rfl,Nat.lt_of_lt_of_le hb hk.size,pd,fun j u hu=>(hk.cell (a:=⟨b,off + j,none⟩) hb (fun f=>pd (hF b hb f))).trans (gc j u hu)⟩
theorem Sl.below (h:Sl av w sz v n cs) (hk:Below w.heap.size w w'):Sl av w' sz v n cs:=h.keep (ZA.of_below hk (fun _=>False)) (fun _ _ h=>h.elim)
theorem Sl.len (h:Sl av w sz v n cs):cs.length=n * sz:=h.1
theorem Sl.zero (av:Nat->Prop) (w:World) (sz:Nat) (A:Option Addr) (c:Nat):Sl av w sz (.slice A 0 c) 0 []:=⟨by simp,A,c,rfl,Nat.zero_le _,fun h=>absurd h (by omega)⟩
end
theorem cut_hi {P:Program} (w:World) (t e:TypeId) (i:TypeInfo) (ht:P.underlying t=some (.slice e)) (hi:P.info? e=some i) (A:Option Addr) (n c k:Nat) (hk:k<=c) :
  (Instr.slice t (.slice A n c) none (some (.int .i64 k)) none).run P w=.ok (.slice A k c) w:=by
 have h0:(0:Int)<=(k:Int):=by omega
 have h1:(k:Int)<=(c:Int):=by omega
 cases A <;> simp [Instr.slice,run_underlying ht,Instr.sliceBounds,run_sliceBound,sizeOf,typeInfo,hi,h0,h1,Addr.add]
theorem cut_lo {P:Program} (w:World) (t e:TypeId) (i:TypeInfo) (size:Nat) (ht:P.underlying t=some (.slice e)) (hi:P.info? e=some i) (hs:i.size=size) (A:Option Addr) (n c k:Nat) (hk:k<=n) :
  (Instr.slice t (.slice A n c) (some (.int .i64 k)) none none).run P w=.ok (.slice (if c=k then A else A.map (·.add (k * size))) (n - k) (c - k)) w:=by
 have h0:(0:Int)<=(k:Int):=by omega
 have h1:(k:Int)<=(n:Int):=by omega
 simp [Instr.slice,run_underlying ht,Instr.sliceBounds,run_sliceBound,sizeOf,typeInfo,hi,hs,h0,h1]
theorem cut_lh {P:Program} (w:World) (t e:TypeId) (i:TypeInfo) (size:Nat) (ht:P.underlying t=some (.slice e)) (hi:P.info? e=some i) (hs:i.size=size) (A:Option Addr) (n c k h:Nat) (hk:k<=h) (hh:h<=c) :
  (Instr.slice t (.slice A n c) (some (.int .i64 k)) (some (.int .i64 h)) none).run P w=.ok (.slice (if c=k then A else A.map (·.add (k * size))) (h - k) (c - k)) w:=by
 have h0:(0:Int)<=(k:Int):=by omega
 have h1:(k:Int)<=(h:Int):=by omega
 have h2:(0:Int)<=(h:Int):=by omega
 have h3:(h:Int)<=(c:Int):=by omega
 simp [Instr.slice,run_underlying ht,Instr.sliceBounds,run_sliceBound,sizeOf,typeInfo,hi,hs,h0,h1,h2,h3]
theorem ZA.setRow {F:Nat->Prop} {w w1:World} (h:ZA F w w1) {B:Nat} (hF:B<w.heap.size->F B) (cs:Array Value):ZA F w (w1.setRow B cs) :=
 ⟨h.os,h.tape,h.output,by have:=h.size; simpa using this,fun k hk hn=>(setRow_other w1 B k cs (fun e=>hn (e ▸ hF (e ▸ hk)))).trans (h.block k hk hn)⟩
/-! maps -/
def GJ {κ β:Type} [DecidableEq κ]:List (κ × β)->κ->Option β
 | [],_=>none
 | p :: l,k=>if k=p.1 then some p.2 else GJ l k
def U1 {κ β:Type} [DecidableEq κ]:List (κ × β)->κ->β->List (κ × β)
 | [],k,v=>[(k,v)]
 | p :: l,k,v=>if k=p.1 then (k,v) :: l else p :: U1 l k v
section
variable {κ β:Type} [DecidableEq κ]
end
structure MO (P:Program) (T:TypeId) {κ:Type} [DecidableEq κ] (ke:κ->Value):Prop where
 check:∀ (empty:Bool) (k:κ) (w:World),(Instr.checkKey empty 10000 T (ke k)).run P w=.ok () w
 find:∀ (k:κ) (es:List MapEntry) (L:List (κ × Value)) (w:World),es.map (fun e=>(e.key,e.val))=L.map (fun p=>(ke p.1,p.2)) →
  (Instr.findKey T (ke k) es).run P w=.ok (((L.map (·.1)).idxOf? k).bind fun i=>(L[i]?).map fun p=>(i,p.2)) w
 same:∀ (k:κ),Instr.sameBits 10000 (ke k) (ke k)=true
def CN {κ:Type} (ke:κ->Value) (w:World) (m:Nat) (L:List (κ × Value)):Prop :=
 ∃ es clock,w.heap[m]?=some (.map es clock)/\es.toList.map (fun e=>(e.key,e.val))=L.map (fun p=>(ke p.1,p.2))
theorem idx_get {κ β:Type} [DecidableEq κ] (L:List (κ × β)) (k:κ):(((L.map (·.1)).idxOf? k).bind fun i=>(L[i]?).map fun p=>(i,p.2)).map (·.2)=GJ L k:=by
 induction L with
 | nil=>simp [GJ]
 | cons p l ih =>
  unfold GJ;simp only [yk,List.idxOf?_cons];by_cases h:p.1=k
  ·subst h; simp
  ·have h':(p.1 == k)=false:=by simpa using h
   have h2:¬ k=p.1:=fun e=>h e.symm
   rw [h',if_neg h2,<- ih];cases hi:List.idxOf? k (List.map (fun x=>x.1) l) with
   | none=>simp
   | some i=>simp [Function.comp_def]
section
theorem CN.keep {κ:Type} {ke:κ->Value} {w:World} {m:Nat} {L:List (κ × Value)} {F:Nat->Prop} {w':World} (h:CN ke w m L) (hk:ZA F w w') (hF:¬ F m):CN ke w' m L:=by
 obtain ⟨es,clock,h1,h2⟩:=h;exact ⟨es,clock,(hk.block m (cA h1) hF).trans h1,h2⟩
theorem CN.lt {κ:Type} {ke:κ->Value} {w:World} {m:Nat} {L:List (κ × Value)} (h:CN ke w m L):m<w.heap.size:=by
 obtain ⟨es,clock,h1,h2⟩:=h;exact cA h1
theorem idx_set {κ β:Type} [DecidableEq κ] (L:List (κ × β)) (k:κ) (v:β):U1 L k v=match (L.map (·.1)).idxOf? k with | some i=>L.set i (k,v) | none=>L++[(k,v)]:=by
 induction L with
 | nil=>simp [U1]
 | cons p l ih =>
  unfold U1;simp only [yk,List.idxOf?_cons];by_cases h:p.1=k
  ·subst h; simp
  ·have h':(p.1 == k)=false:=by simpa using h
   have h2:¬ k=p.1:=fun e=>h e.symm
   rw [h',if_neg h2,ih];cases hi:List.idxOf? k (List.map (fun x=>x.1) l) <;> simp
variable {κ:Type} [DecidableEq κ] {P:Program} {T kT eT:TypeId} {ke:κ->Value} {w:World} {m:Nat} {L:List (κ × Value)}
theorem CN.lookup (h:CN ke w m L) (K:MO P kT ke) (hT:P.underlying T=some (.map kT eT)) {z:Value} (hz:(zeroValue eT).run P w=.ok z w) (k:κ) :
  (Instr.lookup T (.map (some m)) (ke k) false).run P w=.ok ((GJ L k).getD z) w:=by
 obtain ⟨es,clock,h1,h2⟩:=h;have hg:(getObj m).run P w=.ok (.map es clock) w:=by simp [getObj,Sem.run,h1]
 have hf:=K.find k es.toList L w h2;have hi:=idx_get L k;simp only [Instr.lookup,Sem.run_bind,run_underlying hT,Result.andThen_ok,hg,Sem.run_pure,K.check,hf];rw [<- hi];cases hq:((L.map (·.1)).idxOf? k).bind fun i=>(L[i]?).map fun p=>(i,p.2) with
 | none=>simp [hz]
 | some x=>obtain ⟨i,v⟩:=x; simp
theorem CN.lookup_ok (h:CN ke w m L) (K:MO P kT ke) (hT:P.underlying T=some (.map kT eT)) {z:Value} (hz:(zeroValue eT).run P w=.ok z w) (k:κ) :
  (Instr.lookup T (.map (some m)) (ke k) true).run P w=.ok (.tuple #[(GJ L k).getD z,.bool (GJ L k).isSome]) w:=by
 obtain ⟨es,clock,h1,h2⟩:=h;have hg:(getObj m).run P w=.ok (.map es clock) w:=by simp [getObj,Sem.run,h1]
 have hf:=K.find k es.toList L w h2;have hi:=idx_get L k;simp only [Instr.lookup,Sem.run_bind,run_underlying hT,Result.andThen_ok,hg,Sem.run_pure,K.check,hf];rw [<- hi];cases hq:((L.map (·.1)).idxOf? k).bind fun i=>(L[i]?).map fun p=>(i,p.2) with
 | none=>simp [hz]
 | some x=>obtain ⟨i,v⟩:=x; simp
theorem ZA.setObj {F:Nat->Prop} {w w1:World} (h:ZA F w w1) {m:Nat} (hF:F m) (o:Obj):ZA F w { w1 with heap:=w1.heap.setIfInBounds m o } :=
 ⟨h.os,h.tape,h.output,by have:=h.size; simpa using this,fun k hk hn=>by
  have:m≠k:=fun e=>hn (e ▸ hF)
  show (w1.heap.setIfInBounds m o)[k]?=_;rw [Array.getElem?_setIfInBounds_ne this];exact h.block k hk hn⟩
end
end
section
open Go Go.RowKit
abbrev Av:=Nat->Nat->Prop
structure Ix where
 f:Nat->Nat->Option Nat
 ob:Nat->Nat->Option (Nat->Prop)
 z:Nat->Nat
instance:CoeFun Ix (fun _=>Nat->Nat->Option Nat):=⟨Ix.f⟩
def Ix.none:Ix:=⟨fun _ _=>.none,fun _ _=>.none,fun _=>0⟩
structure Ix.Le (ι ι':Ix):Prop where
 f:∀ t n b,ι t n=some b->ι' t n=some b
 z:∀ t n b,ι t n=some b->ι'.z b=ι.z b
theorem Ix.Le.refl (ι:Ix):Ix.Le ι ι:=⟨fun _ _ _ h=>h,fun _ _ _ _=>rfl⟩
def AV.scalV:AV->Value
 | .int k n=>.int k n
 | .bool b=>.bool b
 | .str s=>.string s
 | _=>Go.undef
def AV.flatV:AV->Value
 | .agg cs=>.agg (cs.map AV.scalV).toArray
 | v=>v.scalV
def entV:List AV->Value × Value
 | [k,v]=>(k.flatV,v.flatV)
 | _=>(Go.undef,Go.undef)
def K3 (es:Array MapEntry) (clock:Nat):Prop:=clock=es.size/\∀ i (h:i<es.size),es[i].born=i
theorem it_none {S:AV} (h:(cY S).isSome=true):JH S=none/\bldOf S=none:=by
 unfold cY at h;split at h
 ·exact ⟨rfl,rfl⟩
 ·cases h
def MapO (L:List (List AV)) (H:Nat->Prop) (p:Nat) (w:World):Prop:=(∀ b,H b ↔ b=p)/\∃ es clock,w.heap[p]?=some (.map es clock)/\es.toList.map (fun e=>(e.key,e.val))=L.map entV/\K3 es clock
def S7 (T e:TypeId) (s:ByteArray) (H:Nat->Prop) (p:Nat) (w:World):Prop :=
 ∃ v q,w.heap[p]?=some (.cells #[q,v] T (0,0))/\(q=.pointer none\/q=.pointer (some ⟨p,0,none⟩))/\w.ownsRowF 0 e 1 v s.size (Go.Lib.strCells s)/\v.ownBlock≠some p/\∀ b,H b ↔ b=p\/v.ownBlock=some b
theorem S7.keep {T e:TypeId} {s:ByteArray} {H:Nat->Prop} {p:Nat} {w w':World} (h:S7 T e s H p w) (hb:∀ b,H b->w'.heap[b]?=w.heap[b]?):S7 T e s H p w':=by
 obtain ⟨v,q,h1,h2,h3,h4,h5⟩:=h;refine ⟨v,q,(hb p ((h5 p).2 (.inl rfl))).trans h1,h2,⟨h3.1,?_⟩,h4,h5⟩;rcases h3.2 with hn | ⟨g,cap,cur,fz,rfl,hbg,hg,rest⟩
 ·exact .inl hn
 ·exact .inr ⟨g,cap,cur,fz,rfl,hbg,(hb g ((h5 g).2 (.inr rfl))).trans hg,rest⟩
theorem S7.lt {T e:TypeId} {s:ByteArray} {H:Nat->Prop} {p b:Nat} {w:World} (h:S7 T e s H p w) (hb:H b):b<w.heap.size:=by
 obtain ⟨v,q,h1,h2,h3,h4,h5⟩:=h;rcases (h5 b).1 hb with rfl | hv
 ·exact cA h1
 ·exact (h3.lt b hv).2
structure LQ where
 at_:AV->(Nat->Prop)->Nat->World->Prop
 keep:∀ {S H p w w'},at_ S H p w->(∀ b,H b->w'.heap[b]?=w.heap[b]?)->w.heap.size<=w'.heap.size->at_ S H p w'
 main:∀ {S H p w},at_ S H p w->H p
 lt:∀ {S H p w b},at_ S H p w->H b->b<w.heap.size
structure XE extends LQ where
 maps:∀ L H p w,at_ (QG L) H p w ↔ MapO L H p w
 blds:∀ T e s H p w,at_ (bldAV T e s) H p w ↔ S7 T e s H p w
 iters:∀ S H p w,(cY S).isSome=true->(at_ S H p w ↔ ((∀ b,H b ↔ b=p)/\p<w.heap.size))
def LQ.ofAt (O:LQ) (A:AV) (H:Nat->Prop) (p:Nat) (w:World):Prop:=match JH A with
 | some L=>MapO L H p w
 | none=>match bldOf A with
  | some (T,e,s)=>S7 T e s H p w
  | none=>if (cY A).isSome=true then (∀ b,H b ↔ b=p)/\p<w.heap.size else O.at_ A H p w
def LQ.of (O:LQ):XE where
 at_:=O.ofAt
 keep:=fun {A H p w w'} h hb hs=>by
  unfold LQ.ofAt at h ⊢
  split at h
  ·obtain ⟨h1,es,clock,h2,h3⟩:=h
   exact ⟨h1,es,clock,(hb p ((h1 p).2 rfl)).trans h2,h3⟩
  ·split at h
   ·exact h.keep hb
   ·split at h
    ·rename_i hi
     simp only [hi,if_true]
     exact ⟨h.1,Nat.lt_of_lt_of_le h.2 hs⟩
    ·rename_i hi
     simp only [hi,if_false]
     exact O.keep h hb hs
 main:=fun {A H p w} h=>by
  unfold LQ.ofAt at h
  split at h
  ·exact (h.1 p).2 rfl
  ·split at h
   ·obtain ⟨v,q,h1,h2,h3,h4,h5⟩:=h
    exact (h5 p).2 (.inl rfl)
   ·split at h
    ·exact (h.1 p).2 rfl
    ·exact O.main h
 lt:=fun {A H p w b} h hb=>by
  unfold LQ.ofAt at h
  split at h
  ·obtain ⟨h1,es,clock,h2,h3⟩:=h
   rw [(h1 b).1 hb]
   exact cA h2
  ·split at h
   ·exact h.lt hb
   ·split at h
    ·rw [(h.1 b).1 hb]; exact h.2
    ·exact O.lt h hb
 maps:=fun L H p w=>Iff.rfl
 blds:=fun T e s H p w=>Iff.rfl
 iters:=fun S H p w h=>by
  unfold LQ.ofAt
  rw [(it_none h).1,(it_none h).2]
  simp only [h,if_true]
def noObjs:LQ where
 at_:=fun _ _ _ _=>False
 keep:=fun h _ _=>h.elim
 main:=fun h=>h.elim
 lt:=fun h _=>h.elim
mutual
/-- v reads as x in w,and nothing that it reads lies in av -/
def ID (av:Av) (w:World):AV->Value->Prop
 | .int k n,v=>v=.int k n
 | .bool b,v=>v=.bool b
 | .str s,v=>v=.string s
 | .nilP,v=>v=.pointer none
 | .ip cs,v=>∃ b off,v=.pointer (some ⟨b,off,none⟩)/\oE av w cs b off
 | .sl nil l,v=>∃ A c,v=.slice A l.length c/\l.length<=c/\(∀ x∈l,∀ y∈l,x.length=y.length)/\(nil=true->A=none/\l.length=0/\c=0)/\(nil=false->(A=none->c=0)/\(0<l.length->∃ b off,A=some ⟨b,off,none⟩/\Rows av w l b off))
 | .agg cs,v=>∃ us,v=.agg us/\rB av w cs us.toList
 | .tup xs,v=>∃ us,v=.tuple us/\mL av w xs us.toList
 | .ptr ..,_=>False
 | .bp ..,_=>False
 | .bl ..,_=>False
 | .ref ..,_=>False
 | .mp ..,_=>False
 | .fn ..,_=>False
 | .undef,_=>True
def rB (av:Av) (w:World):List AV->List Value->Prop
 | [],us=>us=[]
 | x :: r,us=>∃ u db,us=u :: db/\ID av w x u/\u.oneCell'=true/\rB av w r db
def mL (av:Av) (w:World):List AV->List Value->Prop
 | [],us=>us=[]
 | x :: r,us=>∃ u db,us=u :: db/\ID av w x u/\mL av w r db
def oE (av:Av) (w:World):List AV->Nat->Nat->Prop
 | [],_,_=>True
 | x :: r,b,off=>(∃ u,w.cell? ⟨b,off,none⟩=some u/\ID av w x u/\u.oneCell'=true)/\¬ av b off/\oE av w r b (off + 1)
def Rows (av:Av) (w:World):List (List AV)->Nat->Nat->Prop
 | [],_,_=>True
 | cs :: r,b,off=>oE av w cs b off/\Rows av w r b (off + cs.length)
end
structure FA (av rb:Av) (w w':World):Prop where
 cell:∀ b o u,w.cell? ⟨b,o,none⟩=some u->¬ av b o->w'.cell? ⟨b,o,none⟩=some u/\¬ rb b o
mutual
theorem ID.held {av rb:Av} {w w':World} (h:FA av rb w w'):∀ (x:AV) (v:Value),ID av w x v->ID rb w' x v
 | .int _ _,_,hr=>by simpa [ID] using hr
 | .bool _,_,hr=>by simpa [ID] using hr
 | .str _,_,hr=>by simpa [ID] using hr
 | .nilP,_,hr=>by simpa [ID] using hr
 | .ip cs,_,hr=>by
  simp only [ID] at hr ⊢
  obtain ⟨b,off,rfl,hc⟩:=hr
  exact ⟨b,off,rfl,oE.held h cs b off hc⟩
 | .sl nil l,_,hr=>by
  simp only [ID] at hr ⊢
  obtain ⟨A,c,rfl,hc,hu,hn,hs⟩:=hr
  refine ⟨A,c,rfl,hc,hu,hn,fun hf=>⟨(hs hf).1,fun h0=>?_⟩⟩
  obtain ⟨b,off,rfl,ja⟩:=(hs hf).2 h0
  exact ⟨b,off,rfl,Rows.held h l b off ja⟩
 | .agg cs,_,hr=>by
  simp only [ID] at hr ⊢
  obtain ⟨us,rfl,hc⟩:=hr
  exact ⟨us,rfl,rB.held h cs _ hc⟩
 | .tup xs,_,hr=>by
  simp only [ID] at hr ⊢
  obtain ⟨us,rfl,hc⟩:=hr
  exact ⟨us,rfl,mL.held h xs _ hc⟩
 | .ptr ..,_,hr=>by simp [ID] at hr
 | .bp ..,_,hr=>by simp [ID] at hr
 | .bl ..,_,hr=>by simp [ID] at hr
 | .ref ..,_,hr=>by simp [ID] at hr
 | .mp ..,_,hr=>by simp [ID] at hr
 | .fn ..,_,hr=>by simp [ID] at hr
 | .undef,_,hr=>trivial
theorem rB.held {av rb:Av} {w w':World} (h:FA av rb w w'):∀ (xs:List AV) (us:List Value),rB av w xs us->rB rb w' xs us
 | [],_,hr=>by simpa [rB] using hr
 | x :: r,_,hr=>by
  simp only [rB] at hr ⊢
  obtain ⟨u,db,rfl,hx,h1,hr⟩:=hr
  exact ⟨u,db,rfl,ID.held h x u hx,h1,rB.held h r db hr⟩
theorem mL.held {av rb:Av} {w w':World} (h:FA av rb w w'):∀ (xs:List AV) (us:List Value),mL av w xs us->mL rb w' xs us
 | [],_,hr=>by simpa [mL] using hr
 | x :: r,_,hr=>by
  simp only [mL] at hr ⊢
  obtain ⟨u,db,rfl,hx,hr⟩:=hr
  exact ⟨u,db,rfl,ID.held h x u hx,mL.held h r db hr⟩
theorem oE.held {av rb:Av} {w w':World} (h:FA av rb w w'):∀ (cs:List AV) (b off:Nat),oE av w cs b off->oE rb w' cs b off
 | [],_,_,_=>by simp [oE]
 | x :: r,b,off,hr=>by
  simp only [oE] at hr ⊢
  obtain ⟨⟨u,hc,hx,h1⟩,ha,hr⟩:=hr
  obtain ⟨jc,ha'⟩:=h.cell b off u hc ha
  exact ⟨⟨u,jc,ID.held h x u hx,h1⟩,ha',oE.held h r b (off + 1) hr⟩
theorem Rows.held {av rb:Av} {w w':World} (h:FA av rb w w'):∀ (l:List (List AV)) (b off:Nat),Rows av w l b off->Rows rb w' l b off
 | [],_,_,_=>by simp [Rows]
 | cs :: r,b,off,hr=>by
  simp only [Rows] at hr ⊢
  exact ⟨oE.held h cs b off hr.1,Rows.held h r b (off + cs.length) hr.2⟩
end
theorem FA.refl (av:Av) (w:World):FA av av w w:=⟨fun _ _ _ hc ha=>⟨hc,ha⟩⟩
theorem FA.less {av rb:Av} {w:World} (h:∀ b o,rb b o->av b o):FA av rb w w:=⟨fun _ _ _ hc ha=>⟨hc,fun hx=>ha (h _ _ hx)⟩⟩
def fC (av eC:Av) (w:World):List AV->Nat->Nat->Prop
 | [],_,_=>True
 | x :: r,b,off=>(∃ u,w.cell? ⟨b,off,none⟩=some u/\ID av w x u/\u.oneCell'=true)/\¬ eC b off/\fC av eC w r b (off + 1)
def EK (av eC:Av) (w:World):List (List AV)->Nat->Nat->Prop
 | [],_,_=>True
 | cs :: r,b,off=>fC av eC w cs b off/\EK av eC w r b (off + cs.length)
theorem fC.held {av rb eC avB':Av} {w w':World} (h:FA av rb w w') (hB:FA eC avB' w w'):∀ (cs:List AV) (b off:Nat),fC av eC w cs b off->fC rb avB' w' cs b off
 | [],_,_,_=>by simp [fC]
 | x :: r,b,off,hr=>by
  simp only [fC] at hr ⊢;obtain ⟨⟨u,hc,hx,h1⟩,ha,hr⟩:=hr;obtain ⟨jc,ha'⟩:=hB.cell b off u hc ha;exact ⟨⟨u,jc,ID.held h x u hx,h1⟩,ha',fC.held h hB r b (off + 1) hr⟩
theorem EK.held {av rb eC avB':Av} {w w':World} (h:FA av rb w w') (hB:FA eC avB' w w'):∀ (l:List (List AV)) (b off:Nat),EK av eC w l b off->EK rb avB' w' l b off
 | [],_,_,_=>by simp [EK]
 | cs :: r,b,off,hr=>by
  simp only [EK] at hr ⊢;exact ⟨fC.held h hB cs b off hr.1,EK.held h hB r b (off + cs.length) hr.2⟩
def HA (ι:Ix) (av:Av) (w:World):AV->Value->Prop
 | .ptr t n off,v=>∃ b,ι t n=some b/\v=.pointer (some ⟨b,off,none⟩)
 | .ref t n sz off len cap,v=>∃ b,ι t n=some b/\len<=cap/\∃ c,cap<=c/\off + c * sz<=ι.z b/\v=.slice (some ⟨b,off,none⟩) len c
 | .mp t n,v=>∃ b,ι t n=some b/\v=.map (some b)
 | .undef,_=>True
 | x,v=>ID av w x v
def SA (ι:Ix) (av:Av) (w:World):List AV->List Value->Prop
 | [],us=>us=[]
 | x :: r,us=>∃ u db,us=u :: db/\HA ι av w x u/\u.oneCell'=true/\SA ι av w r db
def qP (ι:Ix) (av:Av) (w:World):AV->Value->Prop
 | .agg cs,v=>∃ us,v=.agg us/\SA ι av w cs us.toList
 | x,v=>HA ι av w x v
def wG (ι:Ix) (av:Av) (w:World):List AV->List Value->Prop
 | [],us=>us=[]
 | x :: r,us=>∃ u db,us=u :: db/\qP ι av w x u/\wG ι av w r db
def xW (ι:Ix) (av eC:Av) (w:World):AV->Value->Prop
 | .bp cs,v=>∃ b off,v=.pointer (some ⟨b,off,none⟩)/\fC av eC w cs b off
 | x,v=>HA ι av w x v
def dG (ι:Ix) (av eC:Av) (w:World):List AV->List Value->Prop
 | [],us=>us=[]
 | x :: r,us=>∃ u db,us=u :: db/\xW ι av eC w x u/\dG ι av eC w r db
def GA (ι:Ix) (av eC:Av) (w:World):AV->Value->Prop
 | .bp cs,v=>∃ b off,v=.pointer (some ⟨b,off,none⟩)/\fC av eC w cs b off
 | .bl l,v=>∃ a c,v=.slice (some a) l.length c/\l.length<=c/\(∀ x∈l,∀ y∈l,x.length=y.length)/\(0<l.length->∃ b off,a=⟨b,off,none⟩/\EK av eC w l b off)
 | .agg cs,v=>∃ us,v=.agg us/\SA ι av w cs us.toList
 | .tup xs,v=>∃ us,v=.tuple us/\wG ι av w xs us.toList
 | .fn f cs,v=>∃ us,v=.func (.func f) #[] us/\dG ι av eC w cs us.toList
 | .undef,_=>True
 | x,v=>HA ι av w x v
theorem HA.held {ι ι':Ix} {av rb:Av} {w w':World} (hι:Ix.Le ι ι') (h:FA av rb w w') (x:AV) (v:Value) (hr:HA ι av w x v):HA ι' rb w' x v:=by
 cases x <;> first
  | exact ID.held h _ v hr
  | (obtain ⟨b,hb,h1,c,h2,h3,hv⟩:=hr; exact ⟨b,hι.f _ _ _ hb,h1,c,h2,by rw [hι.z _ _ _ hb]; exact h3,hv⟩)
  | (obtain ⟨b,hb,hv⟩:=hr; exact ⟨b,hι.f _ _ _ hb,hv⟩)
  | trivial
theorem SA.held {ι ι':Ix} {av rb:Av} {w w':World} (hι:Ix.Le ι ι') (h:FA av rb w w'):∀ (xs:List AV) (us:List Value),SA ι av w xs us->SA ι' rb w' xs us
 | [],_,hr=>by simpa [SA] using hr
 | x :: r,_,hr=>by
  simp only [SA] at hr ⊢;obtain ⟨u,db,rfl,hx,h1,hr⟩:=hr;exact ⟨u,db,rfl,HA.held hι h x u hx,h1,SA.held hι h r db hr⟩
theorem qP.held {ι ι':Ix} {av rb:Av} {w w':World} (hι:Ix.Le ι ι') (h:FA av rb w w') (x:AV) (v:Value) (hr:qP ι av w x v):qP ι' rb w' x v:=by
 cases x with
 | agg cs=>obtain ⟨us,hv,hc⟩:=hr; exact ⟨us,hv,SA.held hι h _ _ hc⟩
 | int=>exact HA.held hι h (.int _ _) v hr
 | bool=>exact HA.held hι h (.bool _) v hr
 | str=>exact HA.held hι h (.str _) v hr
 | nilP=>exact HA.held hι h .nilP v hr
 | ptr t n o=>exact HA.held hι h (.ptr t n o) v hr
 | ip cs=>exact HA.held hι h (.ip cs) v hr
 | bp cs=>exact HA.held hι h (.bp cs) v hr
 | sl n l=>exact HA.held hι h (.sl n l) v hr
 | bl l=>exact HA.held hι h (.bl l) v hr
 | ref a b c d e f=>exact HA.held hι h (.ref a b c d e f) v hr
 | mp t n=>exact HA.held hι h (.mp t n) v hr
 | fn f cs=>exact HA.held hι h (.fn f cs) v hr
 | tup cs=>exact HA.held hι h (.tup cs) v hr
 | undef=>trivial
theorem wG.held {ι ι':Ix} {av rb:Av} {w w':World} (hι:Ix.Le ι ι') (h:FA av rb w w'):∀ (xs:List AV) (us:List Value),wG ι av w xs us->wG ι' rb w' xs us
 | [],_,hr=>by simpa [wG] using hr
 | x :: r,_,hr=>by
  simp only [wG] at hr ⊢;obtain ⟨u,db,rfl,hx,hr⟩:=hr;exact ⟨u,db,rfl,qP.held hι h x u hx,wG.held hι h r db hr⟩
theorem xW.held {ι ι':Ix} {av rb eC avB':Av} {w w':World} (hι:Ix.Le ι ι') (h:FA av rb w w') (hB:FA eC avB' w w') (x:AV) (v:Value) (hr:xW ι av eC w x v):xW ι' rb avB' w' x v:=by
 match x,hr with
 | .bp cs,⟨b,off,hv,hc⟩=>exact ⟨b,off,hv,fC.held h hB _ b off hc⟩
 | .int k n,hr=>exact HA.held hι h (.int k n) v hr
 | .bool b,hr=>exact HA.held hι h (.bool b) v hr
 | .str s,hr=>exact HA.held hι h (.str s) v hr
 | .nilP,hr=>exact HA.held hι h .nilP v hr
 | .ptr t n off,hr=>exact HA.held hι h (.ptr t n off) v hr
 | .ip cs,hr=>exact HA.held hι h (.ip cs) v hr
 | .sl n l,hr=>exact HA.held hι h (.sl n l) v hr
 | .mp t n,hr=>exact HA.held hι h (.mp t n) v hr
 | .ref t n sz off len cap,hr=>exact HA.held hι h (.ref t n sz off len cap) v hr
 | .undef,hr=>trivial
 | .agg cs,hr=>exact HA.held hι h (.agg cs) v hr
 | .tup cs,hr=>exact HA.held hι h (.tup cs) v hr
theorem dG.held {ι ι':Ix} {av rb eC avB':Av} {w w':World} (hι:Ix.Le ι ι') (h:FA av rb w w') (hB:FA eC avB' w w'):∀ (xs:List AV) (us:List Value),dG ι av eC w xs us->dG ι' rb avB' w' xs us
 | [],_,hr=>by simpa [dG] using hr
 | x :: r,_,hr=>by
  simp only [dG] at hr ⊢;obtain ⟨u,db,rfl,hx,hr⟩:=hr;exact ⟨u,db,rfl,xW.held hι h hB x u hx,dG.held hι h hB r db hr⟩
theorem GA.held {ι ι':Ix} {av rb eC avB':Av} {w w':World} (hι:Ix.Le ι ι') (h:FA av rb w w') (hB:FA eC avB' w w') (x:AV) (v:Value) (hr:GA ι av eC w x v):GA ι' rb avB' w' x v:=by
 match x,hr with
 | .bp cs,⟨b,off,hv,hc⟩=>exact ⟨b,off,hv,fC.held h hB _ b off hc⟩
 | .bl l,⟨a,c,hv,hl,hu,hc⟩ =>
  refine ⟨a,c,hv,hl,hu,fun h0=>?_⟩;obtain ⟨b,off,ha,hr⟩:=hc h0;exact ⟨b,off,ha,EK.held h hB _ b off hr⟩
 | .agg cs,⟨us,hv,hc⟩=>exact ⟨us,hv,SA.held hι h _ _ hc⟩
 | .undef,_=>trivial
 | .int k n,hr=>exact HA.held hι h (.int k n) v hr
 | .bool b,hr=>exact HA.held hι h (.bool b) v hr
 | .str s,hr=>exact HA.held hι h (.str s) v hr
 | .nilP,hr=>exact HA.held hι h .nilP v hr
 | .ptr t n off,hr=>exact HA.held hι h (.ptr t n off) v hr
 | .ip cs,hr=>exact HA.held hι h (.ip cs) v hr
 | .sl n l,hr=>exact HA.held hι h (.sl n l) v hr
 | .mp t n,hr=>exact HA.held hι h (.mp t n) v hr
 | .ref t n sz off len cap,hr=>exact HA.held hι h (.ref t n sz off len cap) v hr
 | .tup vs,⟨us,hv,hc⟩=>exact ⟨us,hv,wG.held hι h _ _ hc⟩
 | .fn f cs,⟨us,hv,hc⟩=>exact ⟨us,hv,dG.held hι h hB _ _ hc⟩
end
section
open Go Go.RowKit
structure BN where
 b:Nat->Prop
 p:Option Nat
 r:Nat->Prop
 z:Nat
 /-- what the slots of the calls that wait rd -/
 g:Nat->Value
instance:CoeFun BN (fun _=>Nat->Prop):=⟨BN.b⟩
structure Ow where
 g:Nat
 n:Nat
 c:Nat
 sz:Nat
 e:TypeId
abbrev aJ:=Nat->Option Ow
def Ix.has (ι:Ix) (b:Nat):Prop:=(∃ t n,ι t n=some b)\/∃ t n H,ι.ob t n=some H/\H b
def eC (ι:Ix) (Θ:aJ):Av:=fun b o=>ι.has b\/(∃ k ow,Θ k=some ow/\ow.g=b/\ow.n * ow.sz<=o)
def BB (aa:Av) (ι:Ix) (Θ:aJ):Av:=fun b o=>aa b o\/eC ι Θ b o
def exV (v:Value):Prop:=∃ A n,v=.slice A n n
def kJ (Θ:aJ):An->Value->Prop
 | .no,_=>True
 | .ex,v=>exV v
 | .own k e,v=>exV v\/∃ ow,Θ k=some ow/\ow.e=e/\v=.slice (some ⟨ow.g,0,none⟩) ow.n ow.c
def aD (ι:Ix) (Θ:aJ) (av:Av) (w:World) (r:List rA) (cur:Array Value):Prop :=
 r.length<=cur.size/\∀ (j:Nat) (x:rA),r[j]?=some x->∃ u,cur[j]?=some u/\u.oneCell'=true/\HA ι av w x.v u/\kJ Θ x.a u
def ObOk (B:Nat) (F0:BN) (D:Nat->Prop) (next:Nat) (w:World) (ι:Ix) (Θ:aJ) (t n:Nat) (H:Nat->Prop):Prop :=
 (∀ b,H b->(B<=b\/F0 b)/\b<w.heap.size/\(∀ t' n',ι t' n'=some b->t'=t/\n'=n)/\(∀ k o,Θ k=some o->o.g≠b)/\∀ t' n' H',ι.ob t' n'=some H'->H' b->t'=t/\n'=n)/\(n<next\/n=next/\D t)
def W5 (ι:Ix) (S:AV) (p:Nat) (w:World):Prop:=∀ tm nm N seen,cY S=some (tm,nm,N,seen)->∃ m H,ι tm nm=some m/\ι.ob tm nm=some H/\w.heap[p]?=some (.mapIter (some m) N seen.toArray N)
theorem W5.no {ι:Ix} {S:AV} {p:Nat} {w:World} (h:A6 S=true):W5 ι S p w:=fun tm nm N seen e=>by
 unfold A6 at h;rw [e] at h;cases h
theorem W5.keep {ι ι':Ix} {S:AV} {p:Nat} {w w':World} (h:W5 ι S p w) (hι:∀ t n b H,ι t n=some b->ι.ob t n=some H->ι' t n=some b/\∃ H',ι'.ob t n=some H') (hp:∀ x,w.heap[p]?=some x->w'.heap[p]?=some x):W5 ι' S p w':=fun tm nm N seen e=>by
 obtain ⟨m,H,h1,h2,h3⟩:=h tm nm N seen e;obtain ⟨g1,H',g2⟩:=hι _ _ _ _ h1 h2;exact ⟨m,H',g1,g2,hp _ h3⟩
structure DB (P:Program) (O:XE) (nt B:Nat) (F0:BN) (aa:Av) (w0:World) (D:Nat->Prop) (s:pA) (a:Act) (w:World) (ι:Ix) (Θ:aJ):Prop where
 defers:a.defers=[]
 size:a.tmps.size=nt
 env:∀ t,GA ι (BB aa ι Θ) (eC ι Θ) w (s.env t).v (a.tmps.getD t undef)
 ann:∀ t,kJ Θ (s.env t).a (a.tmps.getD t undef)
 rows:∀ t n r,s.mem t n=some r->ι.ob t n=none/\∃ b cur ty,ι t n=some b/\w.heap[b]?=some (.cells cur ty (0,0))/\aD ι Θ (BB aa ι Θ) w r cur/\(B<=b\/F0.r b)/\cur.size=ι.z b
 mine:∀ t n b,ι t n=some b->(B<=b\/F0 b)/\b<w.heap.size/\(n<s.next\/n=s.next/\D t)
 inj:∀ t n t' n' b,ι t n=some b->ι t' n'=some b->t=t'/\n=n'
 tok:∀ k o,Θ k=some o->B<=o.g/\0<o.sz/\o.n<=o.c/\o.c<=maxLen/\∃ cur,w.heap[o.g]?=some (.cells cur o.e (0,0))/\(cur.size=o.c * o.sz/\CB P o.e=some o.sz)
 tinj:∀ k k' o o',Θ k=some o->Θ k'=some o'->o.g=o'.g->k=k'
 apart:∀ k o t n,Θ k=some o->ι t n≠some o.g
 out:∀ b o,aa b o->b<B
 pin:∀ p,F0.p=some p->ι 0 0=some p/\((F0.r p/\ι.z p=F0.z)\/∃ H,ι.ob 0 0=some H)
 kept:ZA F0.b w0 w
 base:B=w0.heap.size
 objs:∀ t n S,s.obj t n=some S->∃ p H,ι t n=some p/\ι.ob t n=some H/\O.at_ S H p w/\W5 ι S p w
 obs:∀ t n H,ι.ob t n=some H->ObOk B F0 D s.next w ι Θ t n H
 gen:∀ t,GA ι (BB aa ι Θ) (eC ι Θ) w (s.gh t).v (F0.g t)
 gann:∀ t,kJ Θ (s.gh t).a (F0.g t)
section
variable {P:Program} {O:XE} {nt B:Nat} {F0:BN} {aa:Av} {w0:World} {D:Nat->Prop} {s:pA} {a:Act} {w w':World} {ι:Ix} {Θ:aJ}
theorem EE {w:World} {b o:Nat} {u:Value} (h:w.cell? ⟨b,o,none⟩=some u):b<w.heap.size:=World.block_lt_of_cell? w ⟨b,o,none⟩ (by exact h)
theorem FA.grown {av rb:Av} (hb:∀ b,b<w.heap.size->w'.heap[b]?=w.heap[b]?) (ha:∀ b o,b<w.heap.size->rb b o->av b o):FA av rb w w' :=
 ⟨fun b o _ hc hn=>⟨(World.cell?_of_block (w:=w) (a:=⟨b,o,none⟩) (hb b (EE hc))).trans hc,fun h=>hn (ha b o (EE hc) h)⟩⟩
theorem aD.held {ι ι':Ix} {Θ Θ':aJ} {av rb:Av} {r:List rA} {cur:Array Value} (h:aD ι Θ av w r cur) (hι:Ix.Le ι ι') (hh:FA av rb w w') (hΘ:∀ k o,Θ k=some o->Θ' k=some o):aD ι' Θ' rb w' r cur:=by
 refine ⟨h.1,fun j x hx=>?_⟩;obtain ⟨u,hu,h1,hr,ha⟩:=h.2 j x hx;refine ⟨u,hu,h1,HA.held hι hh _ _ hr,?_⟩;cases hxa:x.a with
 | no=>trivial
 | ex=>rw [hxa] at ha; exact ha
 | own k e =>
  rw [hxa] at ha;rcases ha with ha | ⟨ow,h1,h2⟩
  ·exact .inl ha
  ·exact .inr ⟨ow,hΘ _ _ h1,h2⟩
theorem ObOk.grow {t n:Nat} {H:Nat->Prop} {next:Nat} (h:ObOk B F0 D next w ι Θ t n H) (hs:w.heap.size<=w'.heap.size):ObOk B F0 D next w' ι Θ t n H :=
 ⟨fun b hb=>let ⟨h1,h2,h3⟩:=h.1 b hb; ⟨h1,Nat.lt_of_lt_of_le h2 hs,h3⟩,h.2⟩
theorem DB.grow (R:DB P O nt B F0 aa w0 D s a w ι Θ) (hb:∀ b,b<w.heap.size->w'.heap[b]?=w.heap[b]?) (hs:w.heap.size<=w'.heap.size) (hw:ZA F0.b w0 w'):DB P O nt B F0 aa w0 D s a w' ι Θ:=by
 have hA:FA (BB aa ι Θ) (BB aa ι Θ) w w':=FA.grown hb fun _ _ _ h=>h
 have hB:FA (eC ι Θ) (eC ι Θ) w w':=FA.grown hb fun _ _ _ h=>h
 refine ⟨R.defers,R.size,fun t=>GA.held (Ix.Le.refl _) hA hB _ _ (R.env t),R.ann,fun t n r hr=>?_,fun t n b h=>?_,R.inj,fun k o h=>?_,R.tinj,R.apart,R.out,R.pin,hw,R.base,fun t n S h=>?_,fun t n H h=>(R.obs t n H h).grow hs,fun t=>GA.held (Ix.Le.refl _) hA hB _ _ (R.gen t),R.gann⟩
 ·obtain ⟨h0,b,cur,ty,h1,h2,h3,h4⟩:=R.rows t n r hr;exact ⟨h0,b,cur,ty,h1,(hb b (cA h2)).trans h2,h3.held (Ix.Le.refl _) hA (fun _ _ h=>h),h4⟩
 ·obtain ⟨h1,h2,h3⟩:=R.mine t n b h;exact ⟨h1,by omega,h3⟩
 ·obtain ⟨h1,h2,h3,h4,cur,h5,h6⟩:=R.tok k o h;exact ⟨h1,h2,h3,h4,cur,(hb _ (cA h5)).trans h5,h6⟩
 ·obtain ⟨p,H,h1,h2,h3,h4⟩:=R.objs t n S h;exact ⟨p,H,h1,h2,O.keep h3 (fun b hH=>hb b (O.lt h3 hH)) hs,h4.keep (fun t n b H h g=>⟨h,H,g⟩) fun x hx=>(hb _ (cA hx)).trans hx⟩
theorem s6 {a:Act} {d t:Nat} {v:Value} (hd:d<a.tmps.size):(a.put (some d) v).tmps.getD t undef=if t=d then v else a.tmps.getD t undef:=by
 simp only [Act.put,Y04,Array.getElem?_setIfInBounds];by_cases h:d=t
 ·subst h; simp [hd]
 ·have h':¬ t=d:=fun e=>h e.symm
  simp [h,h']
theorem DB.put (R:DB P O nt B F0 aa w0 D s a w ι Θ) {d:Nat} (hd:d<nt) {x:rA} {v:Value} (hx:GA ι (BB aa ι Θ) (eC ι Θ) w x.v v) (ha:kJ Θ x.a v):DB P O nt B F0 aa w0 D (s.put (some d) x) (a.put (some d) v) w ι Θ:=by
 have zp:d<a.tmps.size:=by rw [R.size]; exact hd
 refine ⟨R.defers,by simpa [Act.put] using R.size,fun t=>?_,fun t=>?_,R.rows,R.mine,R.inj,R.tok,R.tinj,R.apart,R.out,R.pin,R.kept,R.base,R.objs,R.obs,R.gen,R.gann⟩
 ·rw [s6 zp];simp only [pA.put];by_cases h:t=d
  ·simp only [if_pos h]; exact hx
  ·simp only [if_neg h]; exact R.env t
 ·rw [s6 zp];simp only [pA.put];by_cases h:t=d
  ·simp only [if_pos h]; exact ha
  ·simp only [if_neg h]; exact R.ann t
theorem DB.putN (R:DB P O nt B F0 aa w0 D s a w ι Θ) {d:Option Nat} (hd:∀ t,d=some t->t<nt) {x:rA} {v:Value} (hx:GA ι (BB aa ι Θ) (eC ι Θ) w x.v v) (ha:kJ Θ x.a v):DB P O nt B F0 aa w0 D (s.put d x) (a.put d v) w ι Θ:=by
 cases d with
 | none=>exact R
 | some d=>exact R.put (hd d rfl) hx ha
theorem DB.more (R:DB P O nt B F0 aa w0 D s a w ι Θ) {D':Nat->Prop} (h:∀ t,D t->D' t):DB P O nt B F0 aa w0 D' s a w ι Θ :=
 ⟨R.defers,R.size,R.env,R.ann,R.rows,fun t n b hb=>let ⟨h1,h2,h3⟩:=R.mine t n b hb; ⟨h1,h2,h3.imp id fun ⟨e,d⟩=>⟨e,h t d⟩⟩,R.inj,R.tok,R.tinj,R.apart,R.out,R.pin,R.kept,R.base,R.objs,fun t n H hb=>⟨(R.obs t n H hb).1,(R.obs t n H hb).2.imp id fun ⟨e,d⟩=>⟨e,h t d⟩⟩,R.gen,R.gann⟩
structure Ix.Lk (t n:Nat) (ι ι':Ix):Prop where
 f:∀ t' n' b,¬ (t'=t/\n'=n)->ι t' n'=some b->ι' t' n'=some b
 z:∀ t n b,ι t n=some b->ι'.z b=ι.z b
theorem HA.kill {t n:Nat} {ι ι':Ix} {av rb:Av} (hι:Ix.Lk t n ι ι') (h:FA av rb w w') (x:AV) (v:Value) (hr:HA ι av w x v):HA ι' rb w' (x.kill0 t n) v:=by
 cases x with
 | ptr t' n' o =>
  obtain ⟨b,hb,hv⟩:=hr;simp only [AV.kill0];split
  ·trivial
  ·rename_i za; exact ⟨b,hι.f _ _ _ za hb,hv⟩
 | ref t' n' sz o l c =>
  obtain ⟨b,hb,h1,c',h2,h3,hv⟩:=hr;simp only [AV.kill0];split
  ·trivial
  ·rename_i za; exact ⟨b,hι.f _ _ _ za hb,h1,c',h2,by rw [hι.z _ _ _ hb]; exact h3,hv⟩
 | mp t' n' =>
  obtain ⟨b,hb,hv⟩:=hr;simp only [AV.kill0];split
  ·trivial
  ·rename_i za; exact ⟨b,hι.f _ _ _ za hb,hv⟩
 | undef=>trivial
 | _=>exact ID.held h _ v hr
theorem SA.kill {t n:Nat} {ι ι':Ix} {av rb:Av} (hι:Ix.Lk t n ι ι') (h:FA av rb w w'):∀ (xs:List AV) (us:List Value),SA ι av w xs us->SA ι' rb w' (xs.map (AV.kill0 t n)) us
 | [],_,hr=>by simpa [SA] using hr
 | x :: r,_,hr=>by
  simp only [SA] at hr;obtain ⟨u,db,rfl,hx,h1,hr⟩:=hr;exact ⟨u,db,rfl,HA.kill hι h x u hx,h1,SA.kill hι h r db hr⟩
theorem qP.kill {t n:Nat} {ι ι':Ix} {av rb:Av} (hι:Ix.Lk t n ι ι') (h:FA av rb w w') (x:AV) (v:Value) (hr:qP ι av w x v):qP ι' rb w' (x.kill1 t n) v:=by
 cases x with
 | agg cs=>obtain ⟨us,hv,hc⟩:=hr; exact ⟨us,hv,SA.kill hι h _ _ hc⟩
 | ptr t' n' o =>
  have:=HA.kill hι h (.ptr t' n' o) v hr;show qP ι' rb w' (AV.kill0 t n (.ptr t' n' o)) v;simp only [AV.kill0] at this ⊢;split
  ·trivial
  ·rename_i za; rw [if_neg za] at this; exact this
 | ref t' n' sz o l c =>
  have:=HA.kill hι h (.ref t' n' sz o l c) v hr;show qP ι' rb w' (AV.kill0 t n (.ref t' n' sz o l c)) v;simp only [AV.kill0] at this ⊢;split
  ·trivial
  ·rename_i za; rw [if_neg za] at this; exact this
 | mp t' n' =>
  have:=HA.kill hι h (.mp t' n') v hr;show qP ι' rb w' (AV.kill0 t n (.mp t' n')) v;simp only [AV.kill0] at this ⊢;split
  ·trivial
  ·rename_i za; rw [if_neg za] at this; exact this
 | undef=>trivial
 | int=>exact HA.kill hι h (.int _ _) v hr
 | bool=>exact HA.kill hι h (.bool _) v hr
 | str=>exact HA.kill hι h (.str _) v hr
 | nilP=>exact HA.kill hι h .nilP v hr
 | ip=>exact HA.kill hι h (.ip _) v hr
 | sl n' l=>exact HA.kill hι h (.sl n' l) v hr
 | tup cs=>exact HA.kill hι h (.tup cs) v hr
 | bl cs=>exact HA.kill hι h (.bl cs) v hr
 | bp cs=>exact HA.kill hι h (.bp cs) v hr
 | fn f cs=>exact HA.kill hι h (.fn f cs) v hr
theorem wG.kill {t n:Nat} {ι ι':Ix} {av rb:Av} (hι:Ix.Lk t n ι ι') (h:FA av rb w w'):∀ (xs:List AV) (us:List Value),wG ι av w xs us->wG ι' rb w' (xs.map (AV.kill1 t n)) us
 | [],_,hr=>by simpa [wG] using hr
 | x :: r,_,hr=>by
  simp only [wG] at hr;obtain ⟨u,db,rfl,hx,hr⟩:=hr;exact ⟨u,db,rfl,qP.kill hι h x u hx,wG.kill hι h r db hr⟩
theorem xW.kill {t n:Nat} {ι ι':Ix} {av rb eC avB':Av} (hι:Ix.Lk t n ι ι') (h:FA av rb w w') (hB:FA eC avB' w w') (x:AV) (v:Value) (hr:xW ι av eC w x v):xW ι' rb avB' w' (x.kill0 t n) v:=by
 cases x with
 | bp cs=>obtain ⟨b,off,hv,hc⟩:=hr; exact ⟨b,off,hv,fC.held h hB _ b off hc⟩
 | ptr t' n' o =>
  have:=HA.kill hι h (.ptr t' n' o) v hr;simp only [AV.kill0] at this ⊢;split
  ·trivial
  ·rename_i za; rw [if_neg za] at this; exact this
 | ref t' n' sz o l c =>
  have:=HA.kill hι h (.ref t' n' sz o l c) v hr;simp only [AV.kill0] at this ⊢;split
  ·trivial
  ·rename_i za; rw [if_neg za] at this; exact this
 | mp t' n' =>
  have:=HA.kill hι h (.mp t' n') v hr;simp only [AV.kill0] at this ⊢;split
  ·trivial
  ·rename_i za; rw [if_neg za] at this; exact this
 | undef=>trivial
 | int=>exact HA.kill hι h (.int _ _) v hr
 | bool=>exact HA.kill hι h (.bool _) v hr
 | str=>exact HA.kill hι h (.str _) v hr
 | nilP=>exact HA.kill hι h .nilP v hr
 | ip=>exact HA.kill hι h (.ip _) v hr
 | sl=>exact HA.kill hι h (.sl _ _) v hr
 | agg cs=>exact HA.kill hι h (.agg cs) v hr
 | tup cs=>exact HA.kill hι h (.tup cs) v hr
 | bl cs=>exact HA.kill hι h (.bl cs) v hr
 | fn f cs=>exact HA.kill hι h (.fn f cs) v hr
theorem dG.kill {t n:Nat} {ι ι':Ix} {av rb eC avB':Av} (hι:Ix.Lk t n ι ι') (h:FA av rb w w') (hB:FA eC avB' w w'):∀ (xs:List AV) (us:List Value),dG ι av eC w xs us->dG ι' rb avB' w' (xs.map (AV.kill0 t n)) us
 | [],_,hr=>by simpa [dG] using hr
 | x :: r,_,hr=>by
  simp only [dG] at hr;obtain ⟨u,db,rfl,hx,hr⟩:=hr;exact ⟨u,db,rfl,xW.kill hι h hB x u hx,dG.kill hι h hB r db hr⟩
theorem GA.kill {t n:Nat} {ι ι':Ix} {av rb eC avB':Av} (hι:Ix.Lk t n ι ι') (h:FA av rb w w') (hB:FA eC avB' w w') (x:AV) (v:Value) (hr:GA ι av eC w x v):GA ι' rb avB' w' (x.kill t n) v:=by
 cases x with
 | bp cs=>obtain ⟨b,off,hv,hc⟩:=hr; exact ⟨b,off,hv,fC.held h hB _ b off hc⟩
 | bl l =>
  obtain ⟨a,c,hv,hl,hu,hc⟩:=hr;refine ⟨a,c,hv,hl,hu,fun h0=>?_⟩;obtain ⟨b,off,ha,hr⟩:=hc h0;exact ⟨b,off,ha,EK.held h hB _ b off hr⟩
 | agg cs=>obtain ⟨us,hv,hc⟩:=hr; exact ⟨us,hv,SA.kill hι h _ _ hc⟩
 | tup cs=>obtain ⟨us,hv,hc⟩:=hr; exact ⟨us,hv,wG.kill hι h _ _ hc⟩
 | fn f cs=>obtain ⟨us,hv,hc⟩:=hr; exact ⟨us,hv,dG.kill hι h hB _ _ hc⟩
 | undef=>trivial
 | ptr t' n' o =>
  have:=HA.kill hι h (.ptr t' n' o) v hr;show GA ι' rb avB' w' (AV.kill0 t n (.ptr t' n' o)) v;simp only [AV.kill0] at this ⊢;split
  ·trivial
  ·rename_i za; rw [if_neg za] at this; exact this
 | ref t' n' sz o l c =>
  have:=HA.kill hι h (.ref t' n' sz o l c) v hr;show GA ι' rb avB' w' (AV.kill0 t n (.ref t' n' sz o l c)) v;simp only [AV.kill0] at this ⊢;split
  ·trivial
  ·rename_i za; rw [if_neg za] at this; exact this
 | mp t' n' =>
  have:=HA.kill hι h (.mp t' n') v hr;show GA ι' rb avB' w' (AV.kill0 t n (.mp t' n')) v;simp only [AV.kill0] at this ⊢;split
  ·trivial
  ·rename_i za; rw [if_neg za] at this; exact this
 | int=>exact HA.kill hι h (.int _ _) v hr
 | bool=>exact HA.kill hι h (.bool _) v hr
 | str=>exact HA.kill hι h (.str _) v hr
 | nilP=>exact HA.kill hι h .nilP v hr
 | ip=>exact HA.kill hι h (.ip _) v hr
 | sl=>exact HA.kill hι h (.sl _ _) v hr
theorem RX {v:Value} {x:AV} (h:ZZ v=some x) (av:Av) (w:World):ID av w x v/\v.oneCell'=true/\x.leaf=true/\(∀ n l,x=.sl n l->n=true/\v=.slice none 0 0):=by
 unfold ZZ at h;split at h <;> first
  | (injection h with h; subst h; simp [ID,Value.oneCell',AV.leaf]; done)
  | (cases h; done)
theorem TV {ι:Ix} {av eC:Av} {w:World} {x:AV} {v:Value} (h:ID av w x v) (hx:x.leaf=true):GA ι av eC w x v:=by
 cases x <;> first | exact h | (simp [AV.leaf] at hx; done) | (simp [ID] at h; done)
theorem xJ {ι:Ix} {av:Av} {w:World} {x:AV} {v:Value} (h:ID av w x v):HA ι av w x v:=by
 cases x <;> first | exact h | simp [ID] at h
theorem PH {ι:Ix}:∀ {vs:List Value} {xs:List AV} (_:bJ vs=some xs) (av:Av) (w:World),SA ι av w xs vs
 | [],_,h,_,_=>by injection h with h; subst h; rfl
 | v :: r,_,h,av,w=>by
  unfold bJ at h;cases hv:ZZ v with
  | none=>rw [hv] at h; cases h
  | some x =>
   rw [hv] at h;cases hr:bJ r with
   | none=>rw [hr] at h; cases h
   | some l =>
    rw [hr] at h;injection h with h;subst h;have h1:=RX hv av w;exact ⟨v,r,rfl,xJ h1.1,h1.2.1,PH hr av w⟩
theorem O9 {v:Value} {x:AV} (h:avC v=some x) (ι:Ix) (av eC:Av) (w:World):GA ι av eC w x v:=by
 unfold avC at h;split at h
 ·rename_i cs;cases hc:bJ cs.toList with
  | none=>rw [hc] at h; cases h
  | some l =>
   rw [hc] at h;injection h with h;subst h;exact ⟨cs,rfl,PH hc av w⟩
 ·have:=RX h av w;exact TV this.1 this.2.2.1
theorem avC_nil {v:Value} {b:Bool} {l:List (List AV)} (h:avC v=some (.sl b l)):b=true/\v=.slice none 0 0:=by
 unfold avC at h;split at h
 ·rename_i cs;cases hc:bJ cs.toList with
  | none=>rw [hc] at h; cases h
  | some l=>rw [hc] at h; injection h with h; cases h
 ·exact (RX h (fun _ _=>False) default).2.2.2 _ _ rfl
theorem DB.opd (R:DB P O nt B F0 aa w0 D s a w ι Θ) {x:Operand} {y:bB} (h:opd x=some y):GA ι (BB aa ι Θ) (eC ι Θ) w (y.get s) (a.eval x)/\kJ Θ (y.an s) (a.eval x):=by
 unfold YtbhbeakhognieaaGreatDoor.opd at h;split at h
 ·injection h with h;subst h;exact ⟨R.env _,R.ann _⟩
 ·rename_i v;cases hc:avC v with
  | none=>rw [hc] at h; cases h
  | some x =>
   rw [hc] at h;injection h with h;subst h;refine ⟨O9 hc _ _ _ _,?_⟩;cases x with
   | sl b l =>
    obtain ⟨rfl,hv⟩:=avC_nil hc;exact ⟨none,0,hv⟩
   | _=>trivial
 ·injection h with h;subst h;exact ⟨⟨#[],rfl,rfl⟩,trivial⟩
 ·cases h
end
end
section
open Go Go.RowKit
section
variable {P:Program} {O:XE} {nt B:Nat} {F0:BN} {aa:Av} {w0:World} {D:Nat->Prop} {s:pA} {a:Act} {w w':World} {ι:Ix} {Θ:aJ}
theorem BP {t:TypeId} {b:Bool} (h:xI P t=some b) (w:World):(isAgg t).run P w=.ok b w:=by
 unfold xI at h;cases hu:P.underlying t with
 | none=>rw [hu] at h; cases h
 | some d =>
  rw [hu] at h;injection h with h;subst h;cases d <;> simp [isAgg,run_underlying hu]
theorem jC {t:TypeId} {z:Nat} (h:CB P t=some z) (w:World):(sizeOf t).run P w=.ok z w:=by
 unfold CB at h;cases hu:P.info? t with
 | none=>rw [hu] at h; cases h
 | some d =>
  rw [hu] at h;injection h with h;subst h;simp [sizeOf,typeInfo,hu]
theorem BF {t:TypeId} {l:List AV} (h:cI P t=some l) (w:World):∃ z i,P.info? t=some i/\i.zero=some z/\(zeroValue t).run P w=.ok z w/\bJ z.cells.toList=some l:=by
 unfold cI at h;cases hu:P.info? t with
 | none=>rw [hu] at h; cases h
 | some d =>
  rw [hu] at h;cases hz:d.zero with
  | none=>simp [hz] at h
  | some z =>
   simp only [J,hz] at h;exact ⟨z,d,rfl,hz,by simp [zeroValue,typeInfo,hu,hz],h⟩
theorem nF:∀ {vs:List Value} {xs:List AV},bJ vs=some xs->xs.length=vs.length
 | [],_,h=>by injection h with h; subst h; rfl
 | v :: r,_,h=>by
  unfold bJ at h;cases hv:ZZ v with
  | none=>rw [hv] at h; cases h
  | some x =>
   rw [hv] at h;cases hr:bJ r with
   | none=>rw [hr] at h; cases h
   | some l=>rw [hr] at h; injection h with h; subst h; simp [nF hr]
def pS (P:Program) (aa:Av) (a:Act) (w:World) (ι:Ix) (Θ:aJ) (o:Oper) (x:rA):Prop :=
 ∃ v,(execOp a.eval o).run P w=.ok (.value v) w/\GA ι (BB aa ι Θ) (eC ι Θ) w x.v v/\kJ Θ x.a v
section
variable {av avb:Av}
include av avb
theorem JA {k:IntKind} {n:Int} {v:Value}:GA ι av avb w (.int k n) v ↔ v=.int k n:=by simp [GA,HA,ID]
theorem nB {b:Bool} {v:Value}:GA ι av avb w (.bool b) v ↔ v=.bool b:=by simp [GA,HA,ID]
theorem LF {b:ByteArray} {v:Value}:GA ι av avb w (.str b) v ↔ v=.string b:=by simp [GA,HA,ID]
theorem N2 {v:Value}:GA ι av avb w .nilP v ↔ v=.pointer none:=by simp [GA,HA,ID]
theorem KF {t n off:Nat} {v:Value}:GA ι av avb w (.ptr t n off) v ↔ ∃ b,ι t n=some b/\v=.pointer (some ⟨b,off,none⟩):=Iff.rfl
theorem RG {t n sz off len cap:Nat} {v:Value}:GA ι av avb w (.ref t n sz off len cap) v ↔ ∃ b,ι t n=some b/\len<=cap/\∃ c,cap<=c/\off + c * sz<=ι.z b/\v=.slice (some ⟨b,off,none⟩) len c:=Iff.rfl
theorem xK {cs:List AV} {v:Value}:GA ι av avb w (.ip cs) v ↔ ∃ b off,v=.pointer (some ⟨b,off,none⟩)/\oE av w cs b off:=by simp [GA,HA,ID]
theorem WC {nil:Bool} {l:List (List AV)} {v:Value}:GA ι av avb w (.sl nil l) v ↔ ID av w (.sl nil l) v:=Iff.rfl
theorem cZ {cs:List AV} {v:Value}:GA ι av avb w (.agg cs) v ↔ ∃ us,v=.agg us/\SA ι av w cs us.toList:=Iff.rfl
theorem repS_tup {cs:List AV} {v:Value}:GA ι av avb w (.tup cs) v ↔ ∃ us,v=.tuple us/\wG ι av w cs us.toList:=Iff.rfl
end
theorem mC {av:Av}:∀ {xs:List AV} {us:List Value},SA ι av w xs us->us.length=xs.length
 | [],_,h=>by simp only [SA] at h; subst h; rfl
 | x :: r,_,h=>by
  simp only [SA] at h;obtain ⟨u,db,rfl,_,_,h⟩:=h;simp [mC h]
theorem GE {av:Av}:∀ {xs:List AV} {us:List Value} (n:Nat),SA ι av w xs us->SA ι av w (xs.drop n) (us.drop n)
 | [],_,n,h=>by simp only [SA] at h; subst h; simp [SA]
 | x :: r,_,n,h=>by
  cases n with
  | zero=>exact h
  | succ n =>
   simp only [SA] at h;obtain ⟨u,db,rfl,_,_,h⟩:=h;exact GE n h
theorem bF {av:Av}:∀ {xs:List AV} {us:List Value} (n:Nat),SA ι av w xs us->SA ι av w (xs.take n) (us.take n)
 | [],_,n,h=>by simp only [SA] at h; subst h; simp [SA]
 | x :: r,_,n,h=>by
  cases n with
  | zero=>simp [SA]
  | succ n =>
   simp only [SA] at h;obtain ⟨u,db,rfl,h0,h1,h⟩:=h;exact ⟨u,db.take n,rfl,h0,h1,bF n h⟩
theorem GI {av:Av}:∀ {xs:List AV} {us:List Value} (_:SA ι av w xs us) {j:Nat} {x:AV},xs[j]?=some x->∃ u,us[j]?=some u/\u.oneCell'=true/\HA ι av w x u
 | [],_,_,_,_,hx=>by simp at hx
 | y :: r,_,h,j,x,hx=>by
  simp only [SA] at h;obtain ⟨u,db,rfl,h0,h1,h⟩:=h;cases j with
  | zero=>simp at hx; subst hx; exact ⟨u,rfl,h1,h0⟩
  | succ j=>exact GI h (j:=j) (by simpa using hx)
theorem DG {av:Av}:∀ {xs ys:List AV} {us vs:List Value},SA ι av w xs us->SA ι av w ys vs->SA ι av w (xs++ys) (us++vs)
 | [],_,_,_,h,h'=>by simp only [SA] at h; subst h; exact h'
 | x :: r,_,_,_,h,h'=>by
  simp only [SA] at h;obtain ⟨u,db,rfl,h0,h1,h⟩:=h;exact ⟨u,db++_,rfl,h0,h1,DG h h'⟩
theorem cD {av:Av}:∀ {xs:List AV} {us:List Value},rB av w xs us->SA ι av w xs us
 | [],_,h=>by simpa [rB,SA] using h
 | x :: r,_,h=>by
  simp only [rB] at h;obtain ⟨u,db,rfl,h0,h1,h⟩:=h;exact ⟨u,db,rfl,xJ h0,h1,cD h⟩
theorem FI {av:Av}:∀ {cs:List AV} {b off:Nat},oE av w cs b off->∃ us,rB av w cs us/\∀ (j:Nat) (u:Value),us[j]?=some u->w.cell? ⟨b,off + j,none⟩=some u/\¬ av b (off + j)
 | [],_,_,_=>⟨[],rfl,fun j u h=>by simp at h⟩
 | x :: r,b,off,h=>by
  simp only [oE] at h;obtain ⟨⟨u,hc,hx,h1⟩,ha,hr⟩:=h;obtain ⟨us,hl,hj⟩:=FI hr;refine ⟨u :: us,⟨u,us,rfl,hx,h1,hl⟩,fun j v hv=>?_⟩;cases j with
  | zero=>simp at hv; subst hv; exact ⟨hc,ha⟩
  | succ j =>
   have:=hj j v (by simpa using hv);rw [show off + (j + 1)=off + 1 + j from by omega];exact this
theorem NO {av avb:Av}:∀ {cs:List AV} {b off:Nat},fC av avb w cs b off->∃ us,rB av w cs us/\∀ (j:Nat) (u:Value),us[j]?=some u->w.cell? ⟨b,off + j,none⟩=some u/\¬ avb b (off + j)
 | [],_,_,_=>⟨[],rfl,fun j u h=>by simp at h⟩
 | x :: r,b,off,h=>by
  simp only [fC] at h;obtain ⟨⟨u,hc,hx,h1⟩,ha,hr⟩:=h;obtain ⟨us,hl,hj⟩:=NO hr;refine ⟨u :: us,⟨u,us,rfl,hx,h1,hl⟩,fun j v hv=>?_⟩;cases j with
  | zero=>simp at hv; subst hv; exact ⟨hc,ha⟩
  | succ j =>
   have:=hj j v (by simpa using hv);rw [show off + (j + 1)=off + 1 + j from by omega];exact this
theorem zJ {av:Av}:∀ {cs:List AV} {us:List Value} {b off:Nat},rB av w cs us->(∀ (j:Nat) (u:Value),us[j]?=some u->w.cell? ⟨b,off + j,none⟩=some u/\¬ av b (off + j))->oE av w cs b off
 | [],_,_,_,_,_=>by simp [oE]
 | x :: r,_,b,off,h,hj=>by
  simp only [rB] at h;obtain ⟨u,db,rfl,h0,h1,h⟩:=h;simp only [oE];have h2:=hj 0 u rfl;refine ⟨⟨u,h2.1,h0,h1⟩,h2.2,zJ h fun j v hv=>?_⟩;have:=hj (j + 1) v (by simpa using hv);rw [show off + 1 + j=off + (j + 1) from by omega];exact this
theorem iK {av:Av}:∀ {cs ds:List AV} {b off:Nat},oE av w (cs++ds) b off ↔ oE av w cs b off/\oE av w ds b (off + cs.length)
 | [],ds,b,off=>by simp [oE]
 | x :: r,ds,b,off=>by
  simp only [List.cons_append,oE,iK (cs:=r),yA];rw [show off + (r.length + 1)=off + 1 + r.length from by omega];exact ⟨fun ⟨h1,h2,h3,h4⟩=>⟨⟨h1,h2,h3⟩,h4⟩,fun ⟨⟨h1,h2,h3⟩,h4⟩=>⟨h1,h2,h3,h4⟩⟩
theorem XD {av:Av}:∀ {l:List (List AV)} {b off:Nat},Rows av w l b off ↔ oE av w l.flatten b off
 | [],b,off=>by simp [Rows,oE]
 | cs :: r,b,off=>by
  simp only [Rows,yv,iK,XD (l:=r)]
theorem pJ {av avb:Av}:∀ {cs ds:List AV} {b off:Nat},fC av avb w (cs++ds) b off ↔ fC av avb w cs b off/\fC av avb w ds b (off + cs.length)
 | [],ds,b,off=>by simp [fC]
 | x :: r,ds,b,off=>by
  simp only [List.cons_append,fC,pJ (cs:=r),yA];rw [show off + (r.length + 1)=off + 1 + r.length from by omega];exact ⟨fun ⟨h1,h2,h3,h4⟩=>⟨⟨h1,h2,h3⟩,h4⟩,fun ⟨⟨h1,h2,h3⟩,h4⟩=>⟨h1,h2,h3,h4⟩⟩
theorem HI {av avb:Av}:∀ {l:List (List AV)} {b off:Nat},EK av avb w l b off ↔ fC av avb w l.flatten b off
 | [],b,off=>by simp [EK,fC]
 | cs :: r,b,off=>by
  simp only [EK,yv,pJ,HI (l:=r)]
theorem sQ {sz:Nat}:∀ {l:List (List AV)} (_:∀ c∈l,c.length=sz) (k:Nat),l.flatten.drop (k * sz)=(l.drop k).flatten
 | [],_,k=>by simp
 | c :: r,h,k=>by
  cases k with
  | zero=>simp
  | succ k =>
   have hc:c.length=sz:=h c (by simp);rw [yv,List.drop_succ_cons,List.drop_append,hc,show (k + 1) * sz - sz=k * sz from by rw [yM]; omega,
    yn (by rw [hc,yM]; omega),yW]
   exact sQ (fun c hc=>h c (by simp [hc])) k
theorem part_run {t:TypeId} {agg:Bool} {z:Nat} (hA:xI P t=some agg) (hz:CB P t=some z) {av:Av} {cs:List AV} {us:Array Value} (h:SA ι av w cs us.toList) {off:Nat} {x:AV} {avb:Av}
  (hx:GF agg z (cs.drop off)=some x):∃ v,(part t us off).run P w=.ok v w/\GA ι av avb w x v:=by
 cases agg with
 | true =>
  simp only [GF,if_true] at hx;split at hx
  ·rename_i sb;injection hx with hx;subst hx;refine ⟨.agg (us.extract off (off + z)),by simp [part,BP hA,jC hz],_,rfl,?_⟩;have:=bF z (GE off h);have he:(us.extract off (off + z)).toList=(us.toList.drop off).take z:=by
    rw [Array.toList_extract,List.extract_eq_take_drop,Nat.add_sub_cancel_left]
   rw [he];exact this
  ·cases hx
 | false =>
  simp only [GF,yI,if_false,yu,yJ] at hx;obtain ⟨u,hu,h1,hr⟩:=GI h hx;have wr:us[off]?=some u:=by simpa using hu
  refine ⟨u,by simp [part,BP hA,wr],?_⟩;cases x <;> first | exact hr | (simp [HA,ID] at hr; obtain ⟨db,rfl,_⟩:=hr; simp [Value.oneCell'] at h1) | (simp [HA,ID] at hr)
end
end
section
open Go Go.RowKit
section
variable {P:Program} {O:XE} {nt B:Nat} {F0:BN} {aa:Av} {w0:World} {D:Nat->Prop} {s:pA} {a:Act} {w w':World} {ι:Ix} {Θ:aJ} {o:Oper}
theorem RepC_to_S {av avb:Av} {x:AV} {u:Value} (h:HA ι av w x u) (h1:u.oneCell'=true):GA ι av avb w x u:=by
 cases x <;> first | exact h | (simp [HA,ID] at h; obtain ⟨db,rfl,_⟩:=h; simp [Value.oneCell'] at h1; done) | (simp [HA,ID] at h; done)
theorem val_mv (R:DB P O nt B F0 aa w0 D s a w ι Θ) {X:Operand} {y:bB} (h:opd X=some y) (ho:o.op=.move X\/o.op=.assign X):pS P aa a w ι Θ o ⟨y.get s,y.an s⟩ :=
 ⟨a.eval X,by rcases ho with ho | ho <;> simp [execOp,ho],(R.opd h).1,(R.opd h).2⟩
theorem val_pick (R:DB P O nt B F0 aa w0 D s a w ι Θ) {C X Y:Operand} {c x y:bB} (hc:opd C=some c) (hx:opd X=some x) (hy:opd Y=some y) (ho:o.op=.pick C X Y) {t:Bool} (ht:c.get s=.bool t) :
  pS P aa a w ι Θ o (if t then ⟨x.get s,x.an s⟩ else ⟨y.get s,y.an s⟩):=by
 have h:=(R.opd hc).1;rw [ht,nB] at h;cases t with
 | true=>exact ⟨a.eval X,by simp [execOp,ho,h,asBool],(R.opd hx).1,(R.opd hx).2⟩
 | false=>exact ⟨a.eval Y,by simp [execOp,ho,h,asBool],(R.opd hy).1,(R.opd hy).2⟩
theorem aD.rep {av:Av} {r:List rA} {cur:Array Value} (h:aD ι Θ av w r cur):SA ι av w (r.map (·.v)) (cur.toList.take r.length):=by
 obtain ⟨hl,hj⟩:=h;obtain ⟨l⟩:=cur;simp only [yO] at hl;simp only [List.getElem?_toArray] at hj;simp only
 induction r generalizing l with
 | nil=>rfl
 | cons x r ih =>
  cases l with
  | nil=>simp at hl
  | cons u us =>
   obtain ⟨u',hu,h1,hr,_⟩:=hj 0 x rfl;simp at hu;subst hu;exact ⟨_,us.take r.length,rfl,hr,h1,ih us (by simpa using hl) fun j y hy=>hj (j + 1) y hy⟩
theorem UP {t:TypeId} {agg:Bool} {z:Nat} (hA:xI P t=some agg) (hz:CB P t=some z) {av avb:Av} {cs:List AV} {us:List Value} (h:SA ι av w cs us) {b off:Nat} (de:∀ (j:Nat) (u:Value),us[j]?=some u->w.cell? ⟨b,off + j,none⟩=some u)
  {x:AV} (hx:GF agg z cs=some x):∃ v,(loadVar t ⟨b,off,none⟩).run P w=.ok v w/\GA ι av avb w x v/\(agg=false->w.cell? ⟨b,off,none⟩=some v):=by
 cases agg with
 | true =>
  simp only [GF,if_true] at hx;split at hx
  ·rename_i sb;injection hx with hx;subst hx;have da:=mC h;have hl:(us.take z).length=z:=by rw [ym,da]; omega
   have hr:=run_loadCells_list (P:=P) w ⟨b,off,none⟩ (us.take z) (fun j v hv=>by
    rw [Addr.add_lit];refine de j v ?_;rw [yy] at hv;split at hv
    ·exact hv
    ·cases hv)
   rw [hl] at hr;exact ⟨.agg (us.take z).toArray,by simp [loadVar,BP hA,jC hz,hr],⟨_,rfl,bF z h⟩,fun h=>by cases h⟩
  ·cases hx
 | false =>
  simp only [GF,yI,if_false] at hx;obtain ⟨u,hu,h1,hr⟩:=GI h hx;have hc:=de 0 u hu;rw [yJ] at hc;refine ⟨u,by simp [loadVar,BP hA,hc],RepC_to_S hr h1,fun _=>hc⟩
theorem val_load (R:DB P O nt B F0 aa w0 D s a w ι Θ) {t:TypeId} {agg:Bool} {z:Nat} (hA:xI P t=some agg) (hz:CB P t=some z) {X:Operand} {y:bB} (h:opd X=some y) (ho:o.op=.load t X) {cl:Cl} {call} {x:rA} {e:SC}
  (hr:(K.load cl agg z y).run call s=some (x,e)):e=.none/\pS P aa a w ι Θ o x:=by
 have hX:=(R.opd h).1;simp only [K.run] at hr;split at hr
 ·rename_i t' n off hy;rw [hy,KF] at hX;obtain ⟨b,hb,hv⟩:=hX;split at hr
  ·cases hm:s.mem t' n with
   | none=>rw [hm] at hr; cases hr
   | some r =>
    rw [hm,J] at hr;obtain ⟨sh,b',cur,ty,jb,ra,ja,_⟩:=R.rows t' n r hm;rw [hb] at jb;injection jb with jb;subst jb;have gc:∀ (j:Nat) (u:Value),((cur.toList.take r.length).drop off)[j]?=some u->w.cell? ⟨b,off + j,none⟩=some u:=fun j u hu=>by
     rw [cell_of_row w b (off + j) cur ty (0,0) ra];rw [yu,yy] at hu;split at hu
     ·simpa using hu
     ·cases hu
    cases hl:aA agg z off r with
    | none=>rw [hl] at hr; cases hr
    | some y' =>
     rw [hl] at hr;injection hr with hr;injection hr with h1 h2;subst h1; subst h2;refine ⟨rfl,?_⟩;have ic:=GE off ja.rep;have hi:GF agg z ((r.map (·.v)).drop off)=some y'.v:=by
      cases agg with
      | true =>
       simp only [aA,if_true] at hl;split at hl
       ·rename_i sb;injection hl with hl;subst hl;simp only [GF,if_true,yC,y7];rw [if_pos (by omega)];simp [List.map_take,List.map_drop]
       ·cases hl
      | false =>
       simp only [aA,yI,if_false] at hl;simp [GF,yu,hl]
     obtain ⟨v,na,hS,hc⟩:=UP (avb:=eC ι Θ) hA hz ic gc hi;refine ⟨v,by simp [execOp,ho,Instr.loadAt,Instr.sureAddr,hv,na],hS,?_⟩;cases agg with
     | true =>
      simp only [aA,if_true] at hl;split at hl
      ·injection hl with hl; subst hl; trivial
      ·cases hl
     | false =>
      simp only [aA,yI,if_false] at hl;obtain ⟨u,hu,_,_,ha⟩:=ja.2 off y' hl;have h3:=hc rfl;rw [cell_of_row w b off cur ty (0,0) ra,hu] at h3;injection h3 with h3;subst h3;exact ha
  ·cases hr
 ·rename_i cs hy;rw [hy,xK] at hX;obtain ⟨b,off,hv,al⟩:=hX;obtain ⟨us,hl,de⟩:=FI al;split at hr
  ·cases hr
  ·cases hi:GF agg z cs with
   | none=>rw [hi] at hr; cases hr
   | some x' =>
    rw [hi] at hr;injection hr with hr;injection hr with h1 h2;subst h1; subst h2;obtain ⟨v,na,hS,_⟩:=UP (avb:=eC ι Θ) hA hz (cD (ι:=ι) hl) (fun j u hu=>(de j u hu).1) hi;exact ⟨rfl,v,by simp [execOp,ho,Instr.loadAt,Instr.sureAddr,hv,na],hS,trivial⟩
 ·rename_i cs hy;rw [hy] at hX;obtain ⟨b,off,hv,al⟩:=hX;obtain ⟨us,hl,de⟩:=NO al;split at hr
  ·cases hr
  ·cases hi:GF agg z cs with
   | none=>rw [hi] at hr; cases hr
   | some x' =>
    rw [hi] at hr;injection hr with hr;injection hr with h1 h2;subst h1; subst h2;obtain ⟨v,na,hS,_⟩:=UP (avb:=eC ι Θ) hA hz (cD (ι:=ι) hl) (fun j u hu=>(de j u hu).1) hi;exact ⟨rfl,v,by simp [execOp,ho,Instr.loadAt,Instr.sureAddr,hv,na],hS,trivial⟩
 ·cases hr
theorem nM (a b:ByteArray):(a.toList == b.toList)=decide (a=b):=by
 rw [ByteArray.toList_eq,ByteArray.toList_eq];obtain ⟨⟨x⟩⟩:=a;obtain ⟨⟨y⟩⟩:=b;rw [Bool.eq_iff_iff];simp
theorem QB {op:BinOp} {t t':TypeId} {X Y:Operand} {u v r:Value} (ho:o.op=.binOp op t X Y t') (hX:a.eval X=u) (hY:a.eval Y=v) (hu:u.oneCell'=true) (hn:u≠.nilIface) (hv:(Go.binOp op t u v).run P w=.ok r w):(execOp a.eval o).run P w=.ok (.value r) w:=by
 have hg:(eqGuard op t X Y u v).run P w=.ok () w:=by
  unfold eqGuard;cases u <;> first | exact absurd rfl hn | (simp [Value.oneCell'] at hu; done) | (simp; done) | (split <;> simp; done)
 simp [execOp,ho,hX,hY,hg,hv]
theorem val_mm (R:DB P O nt B F0 aa w0 D s a w ι Θ) {mx:Bool} {ts:Array TypeId} {X Y:Operand} {x y:bB} (hx:opd X=some x) (hy:opd Y=some y) (ho:o.op=.call { callee:=.builtin (if mx then .max else .min),args:=#[X,Y],argTypes:=ts }) {v:AV} (hr:mmC mx (x.get s) (y.get s)=some v) :
  pS P aa a w ι Θ o ⟨v,.no⟩:=by
 have hX:=(R.opd hx).1;have hY:=(R.opd hy).1;unfold mmC at hr;split at hr
 ·rename_i k n k' n' e1 e2;rw [e1,JA] at hX;rw [e2,JA] at hY;split at hr
  ·rename_i hk;subst hk;injection hr with hr;subst hr;cases mx with
   | true =>
    have e:(if n' > n then n' else n)=max n n':=by rw [Int.max_def]; split <;> split <;> omega
    exact ⟨.int k (max n n'),by simp [execOp,ho,resolve,invoke,builtin,Builtin.max_,Builtin.max2,hX,hY,e],by simp [JA],trivial⟩
   | false =>
    have e:(if n'<n then n' else n)=min n n':=by rw [Int.min_def]; split <;> split <;> omega
    exact ⟨.int k (min n n'),by simp [execOp,ho,resolve,invoke,builtin,Builtin.min_,Builtin.min2,hX,hY,e],by simp [JA],trivial⟩
  ·cases hr
 ·cases hr
theorem val_bin (R:DB P O nt B F0 aa w0 D s a w ι Θ) {op:BinOp} {t t':TypeId} {bl:Bool} (ht:bl=true->P.underlying t=some .bool) {X Y:Operand} {x y:bB} (hx:opd X=some x) (hy:opd Y=some y) (ho:o.op=.binOp op t X Y t') {v:AV} (hr:binC op bl (x.get s) (y.get s)=some v) :
  pS P aa a w ι Θ o ⟨v,.no⟩:=by
 have hX:=(R.opd hx).1;have hY:=(R.opd hy).1;unfold binC at hr;split at hr
 ·rename_i k n k' n' e1 e2;rw [e1,JA] at hX;rw [e2,JA] at hY;by_cases xf:op=.shl
  ·subst xf;simp only at hr;split at hr
   ·rename_i h0;injection hr with hr;subst hr;exact ⟨.int k (k.wrap (n * 2 ^ shN k n')),QB ho hX hY rfl (by simp) (by simp [Go.binOp,Op.shift,shN,Int.not_lt.2 h0]),by rw [JA],trivial⟩
   ·cases hr
  by_cases hsr:op=.shr
  ·subst hsr;simp only at hr;split at hr
   ·rename_i h0;injection hr with hr;subst hr;exact ⟨.int k (n.fdiv (2 ^ shN k n')),QB ho hX hY rfl (by simp) (by simp [Go.binOp,Op.shift,shN,Int.not_lt.2 h0]),by rw [JA],trivial⟩
   ·cases hr
  split at hr
  ·exact absurd rfl xf
  ·exact absurd rfl hsr
  split at hr
  ·rename_i hk;subst hk;cases op <;> simp only at hr
   case and=>injection hr with hr; subst hr; exact ⟨_,QB ho hX hY rfl (by simp) (by simp only [Go.binOp,ne_eq,not_true_eq_false,if_false]; rfl),by rw [SV,JA],trivial⟩
   case or=>injection hr with hr; subst hr; exact ⟨_,QB ho hX hY rfl (by simp) (by simp only [Go.binOp,ne_eq,not_true_eq_false,if_false]; rfl),by rw [SV,JA],trivial⟩
   case xor=>injection hr with hr; subst hr; exact ⟨_,QB ho hX hY rfl (by simp) (by simp only [Go.binOp,ne_eq,not_true_eq_false,if_false]; rfl),by rw [SV,JA],trivial⟩
   case andNot=>injection hr with hr; subst hr; exact ⟨_,QB ho hX hY rfl (by simp) (by simp only [Go.binOp,ne_eq,not_true_eq_false,if_false]; rfl),by rw [SV,JA],trivial⟩
   case add=>injection hr with hr; subst hr; exact ⟨.int k (k.wrap (n + n')),QB ho hX hY rfl (by simp) (by simp [Go.binOp,Op.intArith]),by rw [JA],trivial⟩
   case sub=>injection hr with hr; subst hr; exact ⟨.int k (k.wrap (n - n')),QB ho hX hY rfl (by simp) (by simp [Go.binOp,Op.intArith]),by rw [JA],trivial⟩
   case mul=>injection hr with hr; subst hr; exact ⟨.int k (k.wrap (n * n')),QB ho hX hY rfl (by simp) (by simp [Go.binOp,Op.intArith]),by rw [JA],trivial⟩
   case quo =>
    split at hr
    ·cases hr
    ·rename_i h0;injection hr with hr;subst hr;exact ⟨.int k (k.wrap (n.tdiv n')),QB ho hX hY rfl (by simp) (by simp [Go.binOp,Op.intDiv,h0]),by rw [JA],trivial⟩
   case rem =>
    split at hr
    ·cases hr
    ·rename_i h0;injection hr with hr;subst hr;exact ⟨.int k (n.tmod n'),QB ho hX hY rfl (by simp) (by simp [Go.binOp,Op.intDiv,h0]),by rw [JA],trivial⟩
   case eql=>injection hr with hr; subst hr; exact ⟨.bool (n == n'),QB ho hX hY rfl (by simp) (by simp [Go.binOp,Op.intCmp]),nB.2 (congrArg Value.bool (by first | rfl | (rw [Bool.eq_iff_iff]; simp))),trivial⟩
   case neq=>injection hr with hr; subst hr; exact ⟨.bool (n != n'),QB ho hX hY rfl (by simp) (by simp [Go.binOp,Op.intCmp]),nB.2 (congrArg Value.bool (by first | rfl | (rw [Bool.eq_iff_iff]; simp))),trivial⟩
   case lss=>injection hr with hr; subst hr; exact ⟨.bool (decide (n<n')),QB ho hX hY rfl (by simp) (by simp [Go.binOp,Op.intCmp]),nB.2 (congrArg Value.bool (by first | rfl | (rw [Bool.eq_iff_iff]; simp))),trivial⟩
   case leq=>injection hr with hr; subst hr; exact ⟨.bool (decide (n<=n')),QB ho hX hY rfl (by simp) (by simp [Go.binOp,Op.intCmp]),nB.2 (congrArg Value.bool (by first | rfl | (rw [Bool.eq_iff_iff]; simp))),trivial⟩
   case gtr=>injection hr with hr; subst hr; exact ⟨.bool (decide (n > n')),QB ho hX hY rfl (by simp) (by simp [Go.binOp,Op.intCmp]),nB.2 (congrArg Value.bool (by first | rfl | (rw [Bool.eq_iff_iff]; simp))),trivial⟩
   case geq=>injection hr with hr; subst hr; exact ⟨.bool (decide (n>=n')),QB ho hX hY rfl (by simp) (by simp [Go.binOp,Op.intCmp]),nB.2 (congrArg Value.bool (by first | rfl | (rw [Bool.eq_iff_iff]; simp))),trivial⟩
   all_goals cases hr
  ·cases hr
 ·rename_i n n' e1 e2;rw [e1,LF] at hX;rw [e2,LF] at hY;cases op <;> simp only at hr
  case add =>
   split at hr
   ·rename_i sb;injection hr with hr;subst hr;have hm:IntKind.i64.max=9223372036854775807:=by decide
    have:¬ ((n.size + n'.size:Nat):Int) > IntKind.i64.max:=by rw [hm]; omega
    exact ⟨.string (n++n'),QB ho hX hY rfl (by simp) (by simp only [Go.binOp,Op.stringOp,if_neg this]; simp),by rw [LF],trivial⟩
   ·cases hr
  case eql=>injection hr with hr; subst hr; exact ⟨.bool (n.toList == n'.toList),QB ho hX hY rfl (by simp) (by simp [Go.binOp,Op.stringOp]),nB.2 (congrArg Value.bool (by first | rfl | (rw [nM]))),trivial⟩
  case neq=>injection hr with hr; subst hr; exact ⟨.bool (!(n.toList == n'.toList)),QB ho hX hY rfl (by simp) (by simp [Go.binOp,Op.stringOp]),nB.2 (congrArg Value.bool (by first | rfl | (rw [nM]))),trivial⟩
  case lss=>injection hr with hr; subst hr; exact ⟨.bool (Op.bytesLess n.toList n'.toList),QB ho hX hY rfl (by simp) (by simp [Go.binOp,Op.stringOp]),nB.2 (congrArg Value.bool (by first | rfl | (rw [nM]))),trivial⟩
  case gtr=>injection hr with hr; subst hr; exact ⟨.bool (!(Op.bytesLess n.toList n'.toList||n.toList == n'.toList)),QB ho hX hY rfl (by simp) (by simp [Go.binOp,Op.stringOp]),by rw [nB,nM],trivial⟩
  case leq=>injection hr with hr; subst hr; exact ⟨.bool (Op.bytesLess n.toList n'.toList||n.toList == n'.toList),QB ho hX hY rfl (by simp) (by simp [Go.binOp,Op.stringOp]),by rw [nB,nM],trivial⟩
  case geq=>injection hr with hr; subst hr; exact ⟨.bool (!Op.bytesLess n.toList n'.toList),QB ho hX hY rfl (by simp) (by simp [Go.binOp,Op.stringOp]),by rw [nB],trivial⟩
  all_goals cases hr
 ·rename_i n n' e1 e2;rw [e1,nB] at hX;rw [e2,nB] at hY;split at hr
  case isFalse=>cases hr
  rename_i hb;have hq:(Op.equal t (.bool n) (.bool n')).run P w=.ok (n == n') w:=run_equalIn_bool' w 9999 t n n' (ht hb);cases op <;> simp only at hr
  case eql=>injection hr with hr; subst hr; exact ⟨.bool (n == n'),QB ho hX hY rfl (by simp) (by simp [Go.binOp,hq]),by rw [nB],trivial⟩
  case neq=>injection hr with hr; subst hr; exact ⟨.bool (!(n == n')),QB ho hX hY rfl (by simp) (by simp [Go.binOp,hq]),by rw [nB],trivial⟩
  all_goals cases hr
 ·cases hr
end
end
section
open Go Go.RowKit
section
variable {P:Program} {O:XE} {nt B:Nat} {F0:BN} {aa:Av} {w0:World} {D:Nat->Prop} {s:pA} {a:Act} {w w':World} {ι:Ix} {Θ:aJ} {o:Oper}
theorem mK {av:Av}:∀ {cs:List AV} {b off:Nat} (k:Nat),oE av w cs b off->oE av w (cs.drop k) b (off + k)
 | [],_,_,k,_=>by simp [oE]
 | x :: r,b,off,0,h=>h
 | x :: r,b,off,k + 1,h=>by
  simp only [oE] at h;rw [List.drop_succ_cons,show off + (k + 1)=off + 1 + k from by omega];exact mK k h.2.2
theorem lJ {av avb:Av}:∀ {cs:List AV} {b off:Nat} (k:Nat),fC av avb w cs b off->fC av avb w (cs.drop k) b (off + k)
 | [],_,_,k,_=>by simp [fC]
 | x :: r,b,off,0,h=>h
 | x :: r,b,off,k + 1,h=>by
  simp only [fC] at h;rw [List.drop_succ_cons,show off + (k + 1)=off + 1 + k from by omega];exact lJ k h.2.2
section
variable (R:DB P O nt B F0 aa w0 D s a w ι Θ) {t:TypeId} {fs:Array Field} {f:Field} {i z:Nat}
include R t fs f i z
theorem val_faddr (ht:P.underlying t=some (.struct fs)) (hf:fs[i]?=some f) (hz:CB P f.type=some (z + 1)) {X:Operand} {y:bB} (h:opd X=some y) (ho:o.op=.fieldAddr t X i)
  {call} {x:rA} {e:SC} (hr:(K.faddr f.offset y).run call s=some (x,e)):e=.none/\pS P aa a w ι Θ o x:=by
 have hX:=(R.opd h).1;have na:∀ b off,a.eval X=.pointer (some ⟨b,off,none⟩)->(execOp a.eval o).run P w=.ok (.value (.pointer (some ⟨b,off + f.offset,none⟩))) w:=fun b off hv=>by
  simp [execOp,ho,Instr.fieldAt,run_underlying ht,hf,hv,Instr.sureAddr,fieldPlace,jC hz,Addr.add_lit]
 simp only [K.run] at hr;split at hr
 ·rename_i t' n off hy;injection hr with hr; injection hr with h1 h2; subst h1; subst h2;rw [hy,KF] at hX;obtain ⟨b,hb,hv⟩:=hX;exact ⟨rfl,_,na _ _ hv,⟨b,hb,rfl⟩,trivial⟩
 ·rename_i cs hy;injection hr with hr; injection hr with h1 h2; subst h1; subst h2;rw [hy,xK] at hX;obtain ⟨b,off,hv,hc⟩:=hX;exact ⟨rfl,_,na _ _ hv,by rw [xK]; exact ⟨b,_,rfl,mK _ hc⟩,trivial⟩
 ·rename_i cs hy;injection hr with hr; injection hr with h1 h2; subst h1; subst h2;rw [hy] at hX;obtain ⟨b,off,hv,hc⟩:=hX;exact ⟨rfl,_,na _ _ hv,⟨b,_,rfl,lJ _ hc⟩,trivial⟩
 ·cases hr
theorem val_field {agg:Bool} (ht:P.underlying t=some (.struct fs)) (hf:fs[i]?=some f) (hA:xI P f.type=some agg) (hz:CB P f.type=some z) {X:Operand} {y:bB} (h:opd X=some y) (ho:o.op=.field t X i)
  {call} {x:rA} {e:SC} (hr:(K.field agg f.offset z y).run call s=some (x,e)):e=.none/\pS P aa a w ι Θ o x:=by
 have hX:=(R.opd h).1;simp only [K.run] at hr;split at hr
 ·rename_i cs hy;rw [hy,cZ] at hX;obtain ⟨us,hv,hc⟩:=hX;cases hl:GF agg z (cs.drop f.offset) with
  | none=>rw [hl] at hr; cases hr
  | some v =>
   rw [hl] at hr;injection hr with hr; injection hr with h1 h2; subst h1; subst h2;obtain ⟨u,hu,hS⟩:=part_run (avb:=eC ι Θ) hA hz hc hl;exact ⟨rfl,u,by simp [execOp,ho,Instr.field,run_underlying ht,hf,hv,asAgg,hu],hS,trivial⟩
 ·cases hr
end
theorem nK {v:AV} {n:Nat} (h:gT v=some n):∃ k i,v=.int k i/\0<=i/\i.toNat=n:=by
 unfold gT at h;split at h
 ·rename_i k i;split at h
  ·injection h with h; exact ⟨k,i,rfl,by assumption,h⟩
  ·cases h
 ·cases h
theorem Rows_get {av:Av} {l:List (List AV)} {b off sz k:Nat} {cs:List AV} (h:Rows av w l b off) (hu:∀ c∈l,c.length=sz) (hk:l[k]?=some cs):oE av w cs b (off + k * sz):=by
 have h1:=mK (k * sz) (XD.1 h);rw [sQ hu] at h1;have ba:k<l.length:=(yh.1 hk).1;have zk:l[k]=cs:=(yh.1 hk).2;rw [yj ba,yv,iK,zk] at h1;exact h1.1
theorem RowsB_get {av avb:Av} {l:List (List AV)} {b off sz k:Nat} {cs:List AV} (h:EK av avb w l b off) (hu:∀ c∈l,c.length=sz) (hk:l[k]?=some cs):fC av avb w cs b (off + k * sz):=by
 have h1:=lJ (k * sz) (HI.1 h);rw [sQ hu] at h1;have ba:k<l.length:=(yh.1 hk).1;have zk:l[k]=cs:=(yh.1 hk).2;rw [yj ba,yv,pJ,zk] at h1;exact h1.1
section
variable (R:DB P O nt B F0 aa w0 D s a w ι Θ)
include R
theorem val_iaddr {t e':TypeId} {z:Nat} (ht:P.underlying t=some (.slice e')) (hz:CB P e'=some z) {X I:Operand} {y i:bB} (h:opd X=some y) (hi:opd I=some i) (ho:o.op=.indexAddr t X I)
  {call} {x:rA} {e:SC} (hr:(K.iaddr z y i).run call s=some (x,e)):e=.none/\pS P aa a w ι Θ o x:=by
 have hX:=(R.opd h).1;have hI:=(R.opd hi).1;simp only [K.run] at hr;split at hr
 ·rename_i k hk;obtain ⟨kk,n,bd,h0,hn⟩:=nK hk;rw [bd,JA] at hI;have na:∀ b off len cap,a.eval X=.slice (some ⟨b,off,none⟩) len cap->k<len->(execOp a.eval o).run P w=.ok (.value (.pointer (some ⟨b,off + k * z,none⟩))) w:=fun b off len cap hv ba=>by
   have hc:0<=n/\n<(len:Int):=⟨h0,by omega⟩;simp [execOp,ho,Instr.indexAt,run_underlying ht,hv,hI,asIntOf,hc,jC hz,Addr.add_lit,hn]
  split at hr
  ·rename_i nl l hy;rw [hy,WC] at hX;simp only [ID] at hX;obtain ⟨A,c,hv,hc,hu,zu,hs⟩:=hX;cases hl:l[k]? with
   | none=>rw [hl] at hr; cases hr
   | some cs =>
    rw [hl,J] at hr;split at hr
    ·rename_i al;injection hr with hr; injection hr with h1 h2; subst h1; subst h2;have ba:k<l.length:=(yh.1 hl).1;have we:cs∈l:=yD hl;have hnf:nl=false:=by
      cases nl with
      | false=>rfl
      | true=>have:=(zu rfl).2.1; omega
     obtain ⟨b,off,rfl,ja⟩:=(hs hnf).2 (by omega);exact ⟨rfl,_,na _ _ _ _ hv ba,by rw [xK]; exact ⟨b,_,rfl,Rows_get ja (fun c hc=>(hu c hc cs we).trans al) hl⟩,trivial⟩
    ·cases hr
  ·rename_i l hy;rw [hy] at hX;obtain ⟨a',c,hv,hc,hu,hs⟩:=hX;cases hl:l[k]? with
   | none=>rw [hl] at hr; cases hr
   | some cs =>
    rw [hl,J] at hr;split at hr
    ·rename_i al;injection hr with hr; injection hr with h1 h2; subst h1; subst h2;have ba:k<l.length:=(yh.1 hl).1;have we:cs∈l:=yD hl;obtain ⟨b,off,rfl,ja⟩:=hs (by omega);exact ⟨rfl,_,na _ _ _ _ hv ba,⟨b,_,rfl,RowsB_get ja (fun c hc=>(hu c hc cs we).trans al) hl⟩,trivial⟩
    ·cases hr
  ·rename_i t' n' sz off ln cap hy;rw [hy,RG] at hX;obtain ⟨b,hb,sb,_,_,_,hv⟩:=hX;split at hr
   ·rename_i ba;injection hr with hr; injection hr with h1 h2; subst h1; subst h2;obtain ⟨ba,rfl⟩:=ba;exact ⟨rfl,_,na _ _ _ _ hv ba,⟨b,hb,rfl⟩,trivial⟩
   ·cases hr
  ·cases hr
 ·cases hr
theorem val_aaddr {t e':TypeId} {n z:Nat} (ht:P.underlying t=some (.array n e')) (hz:CB P e'=some z) {X I:Operand} {y i:bB} (h:opd X=some y) (hi:opd I=some i) (ho:o.op=.indexAddr t X I)
  {call} {x:rA} {e:SC} (hr:(K.aaddr n z y i).run call s=some (x,e)):e=.none/\pS P aa a w ι Θ o x:=by
 have hX:=(R.opd h).1;have hI:=(R.opd hi).1;simp only [K.run] at hr;split at hr
 ·rename_i k hk;obtain ⟨kk,m,bd,h0,hn⟩:=nK hk;rw [bd,JA] at hI;split at hr
  ·rename_i ba;have na:∀ b off,a.eval X=.pointer (some ⟨b,off,none⟩)->(execOp a.eval o).run P w=.ok (.value (.pointer (some ⟨b,off + k * z,none⟩))) w:=fun b off hv=>by
    have hc:0<=m/\m<(n:Int):=⟨h0,by omega⟩;simp [execOp,ho,Instr.indexAt,run_underlying ht,hv,hI,asIntOf,hc,Instr.sureAddr,jC hz,Addr.add_lit,hn]
   split at hr
   ·rename_i t' n' off hy;injection hr with hr; injection hr with h1 h2; subst h1; subst h2;rw [hy,KF] at hX;obtain ⟨b,hb,hv⟩:=hX;exact ⟨rfl,_,na _ _ hv,⟨b,hb,rfl⟩,trivial⟩
   ·rename_i cs hy;injection hr with hr; injection hr with h1 h2; subst h1; subst h2;rw [hy,xK] at hX;obtain ⟨b,off,hv,hc⟩:=hX;exact ⟨rfl,_,na _ _ hv,by rw [xK]; exact ⟨b,_,rfl,mK _ hc⟩,trivial⟩
   ·rename_i cs hy;injection hr with hr; injection hr with h1 h2; subst h1; subst h2;rw [hy] at hX;obtain ⟨b,off,hv,hc⟩:=hX;exact ⟨rfl,_,na _ _ hv,⟨b,_,rfl,lJ _ hc⟩,trivial⟩
   ·cases hr
  ·cases hr
 ·cases hr
theorem val_index {t:TypeId} (ht:P.underlying t=some .string) {X I:Operand} {y i:bB} (h:opd X=some y) (hi:opd I=some i) (ho:o.op=.index t X I)
  {call} {x:rA} {e:SC} (hr:(K.index y i).run call s=some (x,e)):e=.none/\pS P aa a w ι Θ o x:=by
 have hX:=(R.opd h).1;have hI:=(R.opd hi).1;simp only [K.run] at hr;split at hr
 ·rename_i k b hk hy;obtain ⟨kk,n,bd,h0,hn⟩:=nK hk;rw [bd,JA] at hI;rw [hy,LF] at hX;cases hb:b[k]? with
  | none=>rw [hb] at hr; cases hr
  | some u =>
   rw [hb] at hr;injection hr with hr; injection hr with h1 h2; subst h1; subst h2;exact ⟨rfl,.int .u8 u.toNat,by simp [execOp,ho,Instr.index,run_underlying ht,hX,hI,asIntOf,h0,hn,hb],by rw [JA],trivial⟩
 ·cases hr
end
theorem P1 {av:Av}:∀ {xs:List AV} {us:List Value} (_:wG ι av w xs us) {j:Nat} {x:AV},xs[j]?=some x->∃ u,us[j]?=some u/\qP ι av w x u
 | [],_,_,_,_,hx=>by simp at hx
 | y :: r,_,h,j,x,hx=>by
  simp only [wG] at h;obtain ⟨u,db,rfl,h0,h⟩:=h;cases j with
  | zero=>simp at hx; subst hx; exact ⟨u,rfl,h0⟩
  | succ j=>exact P1 h (j:=j) (by simpa using hx)
theorem fG {av:Av} {x:AV} {u:Value} (h:ID av w x u):qP ι av w x u:=by
 cases x <;> first
  | (simp only [ID] at h; obtain ⟨us,hv,hc⟩:=h; exact ⟨us,hv,cD hc⟩)
  | exact xJ (ι:=ι) h
theorem D1 {av:Av}:∀ {xs:List AV} {us:List Value},mL av w xs us->wG ι av w xs us
 | [],_,h=>by simpa [mL,wG] using h
 | x :: r,_,h=>by
  simp only [mL] at h;obtain ⟨u,db,rfl,h0,h⟩:=h;exact ⟨u,db,rfl,fG h0,D1 h⟩
theorem cJ {av avb:Av} {x:AV} {u:Value} (h:ID av w x u):GA ι av avb w x u:=by
 cases x <;> first
  | exact h
  | (simp only [ID] at h; obtain ⟨us,hv,hc⟩:=h; exact ⟨us,hv,cD hc⟩)
  | (simp only [ID] at h; obtain ⟨us,hv,hc⟩:=h; exact ⟨us,hv,D1 hc⟩)
  | (simp [ID] at h; done)
theorem RepU_to_S {av avb:Av} {x:AV} {u:Value} (h:qP ι av w x u):GA ι av avb w x u:=by
 cases x <;> first
  | exact h
  | exact cJ h
theorem OD {av avb:Av} {x:AV} {u:Value} (h:HA ι av w x u):GA ι av avb w x u:=by
 cases x <;> first | exact h | exact cJ h
section
variable (R:DB P O nt B F0 aa w0 D s a w ι Θ)
include R
theorem val_ext {i:Nat} {X:Operand} {y:bB} (h:opd X=some y) (ho:o.op=.extract X i)
  {call} {x:rA} {e:SC} (hr:(K.ext y i).run call s=some (x,e)):e=.none/\pS P aa a w ι Θ o x:=by
 have hX:=(R.opd h).1;simp only [K.run] at hr;split at hr
 ·rename_i vs hy;rw [hy,repS_tup] at hX;obtain ⟨us,hv,hc⟩:=hX;cases hb:vs[i]? with
  | none=>rw [hb] at hr; cases hr
  | some u =>
   rw [hb] at hr;injection hr with hr; injection hr with h1 h2; subst h1; subst h2;obtain ⟨u',hu,ic⟩:=P1 hc hb;have wr:us[i]?=some u':=by simpa using hu
   exact ⟨rfl,u',by simp [execOp,ho,Instr.extract,hv,wr],RepU_to_S ic,trivial⟩
 ·cases hr
theorem g9 {X:Operand} {y:bB} (h:opd X=some y) (ho:o.op=.nilCheck X)
  {call} {x:rA} {e:SC} (hr:(K.nilchk y).run call s=some (x,e)):e=.none/\pS P aa a w ι Θ o x:=by
 have hX:=(R.opd h).1;simp only [K.run] at hr;split at hr
 ·rename_i t n off hy;injection hr with hr; injection hr with h1 h2; subst h1; subst h2;rw [hy] at hX;obtain ⟨b,hb,hv⟩:=KF.1 hX;exact ⟨rfl,.pointer (some ⟨b,off,none⟩),by simp [execOp,ho,hv],by rw [KF]; exact ⟨b,hb,rfl⟩,trivial⟩
 ·rename_i cs hy;injection hr with hr; injection hr with h1 h2; subst h1; subst h2;rw [hy] at hX;obtain ⟨b,off,hv,hc⟩:=xK.1 hX;exact ⟨rfl,.pointer (some ⟨b,off,none⟩),by simp [execOp,ho,hv],by rw [xK]; exact ⟨b,off,rfl,hc⟩,trivial⟩
 ·rename_i cs hy;injection hr with hr; injection hr with h1 h2; subst h1; subst h2;rw [hy] at hX;obtain ⟨b,off,hv,hc⟩:=hX;exact ⟨rfl,.pointer (some ⟨b,off,none⟩),by simp [execOp,ho,hv],⟨b,off,rfl,hc⟩,trivial⟩
 ·cases hr
theorem val_len {t:TypeId} {str:Bool} (ht:if str then P.underlying t=some .string else ∃ e,P.underlying t=some (.slice e)) {X:Operand} {y:bB} (h:opd X=some y) (ho:o.op=.call { callee:=.builtin .len,args:=#[X],argTypes:=#[t] })
  {call} {x:rA} {e:SC} (hr:(K.len str y).run call s=some (x,e)):e=.none/\pS P aa a w ι Θ o x:=by
 have hX:=(R.opd h).1;have xf:∀ A n c,str=false->a.eval X=.slice A n c->(execOp a.eval o).run P w=.ok (.value (.int .i64 n)) w:=fun A n c hs hv=>by
  subst hs;obtain ⟨e',ht⟩:=ht;simp [execOp,ho,resolve,invoke,builtin,Builtin.len_,run_underlying ht,hv,goInt]
 simp only [K.run] at hr;split at hr
 ·rename_i nl l hy;rw [hy,WC] at hX;simp only [ID] at hX;obtain ⟨A,c,hv,_⟩:=hX;cases str with
  | true=>simp at hr
  | false =>
   simp only [yI,if_false] at hr;injection hr with hr; injection hr with h1 h2; subst h1; subst h2;exact ⟨rfl,_,xf _ _ _ rfl hv,by rw [JA],trivial⟩
 ·rename_i l hy;rw [hy] at hX;obtain ⟨A,c,hv,_⟩:=hX;cases str with
  | true=>simp at hr
  | false =>
   simp only [yI,if_false] at hr;injection hr with hr; injection hr with h1 h2; subst h1; subst h2;exact ⟨rfl,_,xf _ _ _ rfl hv,by rw [JA],trivial⟩
 ·rename_i t' n sz off ln cap hy;rw [hy,RG] at hX;obtain ⟨b,_,_,_,_,_,hv⟩:=hX;cases str with
  | true=>simp at hr
  | false =>
   simp only [yI,if_false] at hr;injection hr with hr; injection hr with h1 h2; subst h1; subst h2;exact ⟨rfl,_,xf _ _ _ rfl hv,by rw [JA],trivial⟩
 ·rename_i b hy;rw [hy,LF] at hX;cases str with
  | false=>simp at hr
  | true =>
   simp only [if_true] at hr ht;injection hr with hr; injection hr with h1 h2; subst h1; subst h2;exact ⟨rfl,.int .i64 b.size,by simp [execOp,ho,resolve,invoke,builtin,Builtin.len_,run_underlying ht,hX,goInt],by rw [JA],trivial⟩
 ·cases hr
theorem val_un {op:UnOp} {t:TypeId} {X:Operand} {y:bB} (h:opd X=some y) (ho:o.op=.unOp op t X)
  {call} {x:rA} {e:SC} (hr:(K.un op y).run call s=some (x,e)):e=.none/\pS P aa a w ι Θ o x:=by
 have hX:=(R.opd h).1;simp only [K.run] at hr;split at hr
 ·rename_i b hy;injection hr with hr; injection hr with h1 h2; subst h1; subst h2;rw [hy,nB] at hX;exact ⟨rfl,.bool (!b),by simp [execOp,ho,Op.unary,hX],by rw [nB],trivial⟩
 ·rename_i k n hy;injection hr with hr; injection hr with h1 h2; subst h1; subst h2;rw [hy,JA] at hX;exact ⟨rfl,.int k (k.wrap (0 - n)),by simp [execOp,ho,Op.unary,Op.intArith,hX],by rw [JA],trivial⟩
 ·cases hr
theorem U7 {k:Option IntKind} {t t':TypeId} (hk:match k with | some k=>(∃ j,P.underlying t=some (.int j))/\P.underlying t'=some (.int k) | none=>P.underlying t=some .string/\P.underlying t'=some .string)
  {X:Operand} {y:bB} (h:opd X=some y) (ho:o.op=.convert t t' X) {call} {x:rA} {e:SC} (hr:(K.conv k y).run call s=some (x,e)):e=.none/\pS P aa a w ι Θ o x:=by
 have hX:=(R.opd h).1;simp only [K.run] at hr;split at hr
 ·rename_i k' j n hy;injection hr with hr; injection hr with h1 h2; subst h1; subst h2;rw [hy,JA] at hX;obtain ⟨⟨i,h1⟩,h2⟩:=hk;exact ⟨rfl,.int k' (k'.wrap n),by simp [execOp,ho,Go.convert,run_underlying h1,run_underlying h2,Conv.intToInt,hX],by rw [JA],trivial⟩
 ·rename_i b hy;injection hr with hr; injection hr with h1 h2; subst h1; subst h2;rw [hy,LF] at hX;exact ⟨rfl,.string b,by simp [execOp,ho,Go.convert,run_underlying hk.1,run_underlying hk.2,hX],by rw [LF],trivial⟩
 ·cases hr
end
end
end
section
open Go Go.RowKit
section
variable {P:Program} {O:XE} {nt B:Nat} {F0:BN} {aa:Av} {w0:World} {D:Nat->Prop} {s:pA} {a:Act} {w w':World} {ι:Ix} {Θ:aJ} {o:Oper}
def XX (a:Act) (d:Nat):Option Operand->Option Value × Nat->Prop
 | none,(v,n)=>v=none/\n=d
 | some x,(v,n)=>v=some (a.eval x)/\∃ k i,a.eval x=.int k i/\0<=i/\i.toNat=n
theorem kM {t e:TypeId} {z:Nat} (ht:P.underlying t=some (.slice e)) (hz:CB P e=some z) {A:Option Addr} {n c:Nat} {L H:Option Operand} {l h:Nat} (hl:XX a 0 L (L.map a.eval,l)) (hh:XX a n H (H.map a.eval,h)) (h1:l<=h) (h2:h<=c) :
  (Instr.sliceAt t (.slice A n c) (L.map a.eval) (H.map a.eval) none).run P w=.ok (.slice (if c=l then A else A.map (·.add (l * z))) (h - l) (c - l)) w:=by
 cases L with
 | none =>
  obtain ⟨_,rfl⟩:=hl;cases H with
  | none =>
   obtain ⟨_,rfl⟩:=hh;simp [Instr.sliceAt,Instr.slice,Instr.sliceBounds,run_underlying ht,jC hz]
  | some x =>
   obtain ⟨_,k,i,hx,h0,rfl⟩:=hh;have:0<=i/\i<=(c:Int):=⟨h0,by omega⟩;simp [Instr.sliceAt,Instr.slice,Instr.sliceBounds,Instr.sliceBound,run_underlying ht,jC hz,hx,asIntOf,this]
 | some y =>
  obtain ⟨_,k',i',hy,fh,rfl⟩:=hl;cases H with
  | none =>
   obtain ⟨_,rfl⟩:=hh;have:0<=i'/\i'<=(h:Int):=⟨fh,by omega⟩;simp [Instr.sliceAt,Instr.slice,Instr.sliceBounds,Instr.sliceBound,run_underlying ht,jC hz,hy,asIntOf,this]
  | some x =>
   obtain ⟨_,k,i,hx,h0,rfl⟩:=hh;have h3:0<=i/\i<=(c:Int):=⟨h0,by omega⟩;have h4:0<=i'/\i'<=(i.toNat:Int):=⟨fh,by omega⟩;have h5:i'<=max i 0:=by omega
   simp [Instr.sliceAt,Instr.slice,Instr.sliceBounds,Instr.sliceBound,run_underlying ht,jC hz,hx,hy,asIntOf,h3,h4,h5]
theorem UZ {t:TypeId} (ht:P.underlying t=some .string) {b:ByteArray} {L H:Option Operand} {l h:Nat} (hl:XX a 0 L (L.map a.eval,l)) (hh:XX a b.size H (H.map a.eval,h)) (h1:l<=h) (h2:h<=b.size) :
  (Instr.sliceAt t (.string b) (L.map a.eval) (H.map a.eval) none).run P w=.ok (.string (b.extract l h)) w:=by
 cases L with
 | none =>
  obtain ⟨_,rfl⟩:=hl;cases H with
  | none =>
   obtain ⟨_,rfl⟩:=hh;simp [Instr.sliceAt,Instr.slice,Instr.sliceBounds,run_underlying ht]
  | some x =>
   obtain ⟨_,k,i,hx,h0,rfl⟩:=hh;have:0<=i/\i<=(b.size:Int):=⟨h0,by omega⟩;simp [Instr.sliceAt,Instr.slice,Instr.sliceBounds,Instr.sliceBound,run_underlying ht,hx,asIntOf,this]
 | some y =>
  obtain ⟨_,k',i',hy,fh,rfl⟩:=hl;cases H with
  | none =>
   obtain ⟨_,rfl⟩:=hh;have:0<=i'/\i'<=(b.size:Int):=⟨fh,by omega⟩;simp [Instr.sliceAt,Instr.slice,Instr.sliceBounds,Instr.sliceBound,run_underlying ht,hy,asIntOf,this]
  | some x =>
   obtain ⟨_,k,i,hx,h0,rfl⟩:=hh;have h3:0<=i/\i<=(b.size:Int):=⟨h0,by omega⟩;have h4:0<=i'/\i'<=(i.toNat:Int):=⟨fh,by omega⟩;have h5:i'<=max i 0:=by omega
   simp [Instr.sliceAt,Instr.slice,Instr.sliceBounds,Instr.sliceBound,run_underlying ht,hx,hy,asIntOf,h3,h4,h5]
theorem rJ (R:DB P O nt B F0 aa w0 D s a w ι Θ) {L:Option Operand} {l:Option bB} (h:rX L=some l) {d n:Nat} (hn:XI s d l=some n):XX a d L (L.map a.eval,n):=by
 cases L with
 | none =>
  injection h with h;subst h;injection hn with hn;exact ⟨rfl,hn.symm⟩
 | some X =>
  simp only [rX] at h;cases hx:opd X with
  | none=>rw [hx] at h; cases h
  | some x =>
   rw [hx] at h;injection h with h;subst h;obtain ⟨k,i,hi,h0,hn⟩:=nK hn;have:=(R.opd hx).1;rw [hi,JA] at this;exact ⟨rfl,k,i,this,h0,hn⟩
theorem b7 {sz:Nat} {e:List (List AV)} (hu:∀ c∈e,c.length=sz) (l h:Nat):((e.take h).drop l).flatten=(e.flatten.take (h * sz)).drop (l * sz):=by
 rw [<- sQ (fun c hc=>hu c (List.mem_of_mem_take hc)) l];congr 1;clear l
 induction e generalizing h with
 | nil=>simp
 | cons c r ih =>
  cases h with
  | zero=>simp
  | succ h =>
   have hc:c.length=sz:=hu c (by simp);rw [List.take_succ_cons,yv,yv,List.take_append,hc,ih (fun c hc=>hu c (by simp [hc])),
    yS (l:=c) (by rw [hc,yM]; omega),show (h + 1) * sz - sz=h * sz from by rw [yM]; omega]
theorem D7 {av:Av} {cs:List AV} {b off:Nat} (k:Nat) (h:oE av w cs b off):oE av w (cs.take k) b off:=by
 rw [<- Y05 k cs,iK] at h;exact h.1
theorem T5 {av avb:Av} {cs:List AV} {b off:Nat} (k:Nat) (h:fC av avb w cs b off):fC av avb w (cs.take k) b off:=by
 rw [<- Y05 k cs,pJ] at h;exact h.1
theorem val_slc (R:DB P O nt B F0 aa w0 D s a w ι Θ) {t:TypeId} {str:Bool} {z:Nat} (ht:if str then P.underlying t=some .string else ∃ e,P.underlying t=some (.slice e)/\CB P e=some z) {X:Operand} {L H:Option Operand} {x:bB} {l h:Option bB} (hx:opd X=some x) (hl:rX L=some l) (hh:rX H=some h)
  (ho:o.op=.slice t X L H none) {call} {y:rA} {e:SC} (hr:(K.slc str z x l h none).run call s=some (y,e)):e=.none/\pS P aa a w ι Θ o y:=by
 have hX:=(R.opd hx).1;simp only [K.run] at hr;split at hr
 ·cases hr
 ·rename_i lo uy;have hL:=rJ R hl uy;split at hr
  ·rename_i b e' hy;rw [hy,WC] at hX;simp only [ID] at hX;obtain ⟨A,c,hv,hc,hu,hn,hs⟩:=hX;split at hr
   ·rename_i hi rx;have hH:=rJ R hh rx;split at hr
    ·rename_i ia;obtain ⟨h1,h2,h3,rfl⟩:=ia;injection hr with hr; injection hr with e1 e2; subst e1; subst e2;obtain ⟨el,ht1,ht2⟩:=ht;have oc:∀ c∈e',c.length=z:=fun c hc=>by simpa using y8.1 h3 c hc
     have na:=kM (w:=w) (A:=A) ht1 ht2 hL hH h1 (yB h2 hc);refine ⟨rfl,.slice (if c=lo then A else A.map (·.add (lo * z))) (hi - lo) (c - lo),by simp only [execOp,ho,hv,Option.map_none,Sem.run_bind,na,Result.andThen_ok,Sem.run_pure],?_,trivial⟩;simp only [WC,ID];have da:((e'.take hi).drop lo).length=hi - lo:=by rw [yC,ym]; omega
     refine ⟨_,_,by rw [da],by rw [da]; omega,fun x hx y hy=>(oc x (List.mem_of_mem_take (List.mem_of_mem_drop hx))).trans (oc y (List.mem_of_mem_take (List.mem_of_mem_drop hy))).symm,fun hb=>?_,fun hb=>?_⟩
     ·obtain ⟨rfl,h0,rfl⟩:=hn hb;refine ⟨by simp,by omega,by omega⟩
     ·obtain ⟨pf,eo⟩:=hs hb;by_cases re:c=lo
      ·exact ⟨fun _=>by omega,fun h0=>by omega⟩
      ·refine ⟨fun hA=>?_,fun h0=>?_⟩
       ·rw [if_neg re] at hA;cases tk:A with
        | none=>have:=pf tk; omega
        | some a=>rw [tk] at hA; cases hA
       obtain ⟨bb,off,rfl,ja⟩:=eo (by omega);refine ⟨bb,off + lo * z,by rw [if_neg re]; simp only [yt,Addr.add_lit],?_⟩;rw [XD,b7 oc];exact mK _ (D7 _ (XD.1 ja))
    ·cases hr
   ·cases hr
  ·rename_i e' hy;rw [hy] at hX;obtain ⟨a',c,hv,hc,hu,hs⟩:=hX;split at hr
   ·rename_i hi rx;have hH:=rJ R hh rx;split at hr
    ·rename_i ia;obtain ⟨h1,h2,h3,rfl⟩:=ia;injection hr with hr; injection hr with e1 e2; subst e1; subst e2;obtain ⟨el,ht1,ht2⟩:=ht;have oc:∀ c∈e',c.length=z:=fun c hc=>by simpa using y8.1 h3 c hc
     have na:=kM (w:=w) (A:=some a') ht1 ht2 hL hH h1 (yB h2 hc);refine ⟨rfl,.slice (if c=lo then some a' else (some a').map (·.add (lo * z))) (hi - lo) (c - lo),by simp only [execOp,ho,hv,Option.map_none,Sem.run_bind,na,Result.andThen_ok,Sem.run_pure],?_,trivial⟩;have da:((e'.take hi).drop lo).length=hi - lo:=by rw [yC,ym]; omega
     refine ⟨if c=lo then a' else a'.add (lo * z),c - lo,by rw [da]; split <;> simp,by rw [da]; omega,fun x hx y hy=>(oc x (List.mem_of_mem_take (List.mem_of_mem_drop hx))).trans (oc y (List.mem_of_mem_take (List.mem_of_mem_drop hy))).symm,fun h0=>?_⟩;rw [if_neg (by omega)];obtain ⟨bb,off,rfl,ja⟩:=hs (by omega);refine ⟨bb,off + lo * z,by rw [Addr.add_lit],?_⟩;rw [HI,b7 oc];exact lJ _ (T5 _ (HI.1 ja))
    ·cases hr
   ·cases hr
  ·rename_i t' n sz off ln cap hy;rw [hy,RG] at hX;obtain ⟨b,hb,sb,cc,ah,hz,hv⟩:=hX;split at hr
   ·rename_i hi rx;have hH:=rJ R hh rx;split at hr
    ·rename_i ia;obtain ⟨h1,h2,rfl,rfl⟩:=ia;obtain ⟨el,ht1,ht2⟩:=ht;have na:=kM (w:=w) (A:=some ⟨b,off,none⟩) ht1 ht2 hL hH h1 (yB h2 ah);have kj:(execOp a.eval o).run P w=.ok (.value (.slice (if cc=lo then some ⟨b,off,none⟩ else (some (⟨b,off,none⟩:Addr)).map (·.add (lo * sz))) (hi - lo) (cc - lo))) w:=by simp only [execOp,ho,hv,Option.map_none,Sem.run_bind,na,Result.andThen_ok,Sem.run_pure]
     split at hr
     ·rename_i he;injection hr with hr; injection hr with e1 e2; subst e1; subst e2;refine ⟨rfl,_,kj,?_,trivial⟩;rw [WC];simp only [ID,List.length_nil];refine ⟨_,cc - lo,by rw [show hi - lo=0 from by omega],by omega,(fun x hx=>by cases hx),(fun h=>by cases h),fun _=>⟨fun h=>?_,fun h=>absurd h (Nat.lt_irrefl 0)⟩⟩;split at h <;> simp at h
     ·rename_i he;injection hr with hr; injection hr with e1 e2; subst e1; subst e2;refine ⟨rfl,_,kj,⟨b,hb,by omega,cc - lo,by omega,?_,?_⟩,trivial⟩
      ·have:off + lo * sz + (cc - lo) * sz=off + cc * sz:=by
        rw [Nat.add_assoc,<- yK];congr 2;omega
       rw [this];exact hz
      ·rw [if_neg (by omega)];simp [Addr.add_lit]
    ·cases hr
   ·cases hr
  ·rename_i b hy;rw [hy,LF] at hX;split at hr
   ·rename_i hi rx;have hH:=rJ R hh rx;split at hr
    ·rename_i ia;obtain ⟨h1,h2,rfl⟩:=ia;injection hr with hr; injection hr with e1 e2; subst e1; subst e2;have na:=UZ (w:=w) ht hL hH h1 h2;exact ⟨rfl,.string (b.extract lo hi),by simp only [execOp,ho,hX,Option.map_none,Sem.run_bind,na,Result.andThen_ok,Sem.run_pure],by rw [LF],trivial⟩
    ·cases hr
   ·cases hr
  ·cases hr
theorem isZ_eq {H:Option Operand} (h:isZ H=true):H=some (.const (.int .i64 0)):=by
 unfold isZ at h;split at h
 ·rw [of_decide_eq_true h]
 ·cases h
theorem val_slz (R:DB P O nt B F0 aa w0 D s a w ι Θ) {t e':TypeId} {z:Nat} (ht:P.underlying t=some (.slice e')) (hz:CB P e'=some z) {X:Operand} {H M:Option Operand} (hH:isZ H=true) (hM:isZ M=true) {x:bB} (hx:opd X=some x)
  (ho:o.op=.slice t X none H M) {call} {y:rA} {e:SC} (hr:(K.slz x).run call s=some (y,e)):e=.none/\pS P aa a w ι Θ o y:=by
 have hX:=(R.opd hx).1;rw [isZ_eq hH,isZ_eq hM] at ho;have na:∀ (A:Option Addr) (n c:Nat),a.eval X=.slice A n c->(execOp a.eval o).run P w=.ok (.value (.slice A 0 0)) w:=fun A n c hv=>by
  have xf:(Instr.sliceAt t (.slice A n c) none (some (.int .i64 0)) (some (.int .i64 0))).run P w=.ok (.slice A 0 0) w:=by simp [Instr.sliceAt,Instr.slice,Instr.sliceBounds,Instr.sliceBound,run_underlying ht,jC hz,asIntOf]
  have he:a.eval (.const (.int .i64 0))=.int .i64 0:=rfl;simp only [execOp,ho,hv,he,Option.map_none,yt,xf,Sem.run_bind,Result.andThen_ok,Sem.run_pure]
 simp only [K.run] at hr;split at hr
 ·rename_i b l hy;injection hr with hr; injection hr with e1 e2; subst e1; subst e2;rw [hy,WC] at hX;simp only [ID] at hX;obtain ⟨A,c,hv,hc,hu,hn,hs⟩:=hX;refine ⟨rfl,_,na _ _ _ hv,?_,⟨A,0,rfl⟩⟩;simp only [WC,ID,List.length_nil];exact ⟨A,0,rfl,yf _,(fun x hx=>by cases hx),fun hb=>⟨(hn hb).1,trivial,rfl⟩,fun hb=>⟨fun _=>rfl,fun h0=>absurd h0 (Nat.lt_irrefl 0)⟩⟩
 ·rename_i l hy;injection hr with hr; injection hr with e1 e2; subst e1; subst e2;rw [hy] at hX;obtain ⟨a',c,hv,hc,hu,hs⟩:=hX;refine ⟨rfl,_,na _ _ _ hv,?_,⟨_,0,rfl⟩⟩;simp only [WC,ID,List.length_nil];exact ⟨_,0,rfl,yf _,(fun x hx=>by cases hx),(fun hb=>by cases hb),fun hb=>⟨fun _=>rfl,fun h0=>absurd h0 (Nat.lt_irrefl 0)⟩⟩
 ·rename_i t' n sz off ln cap hy;injection hr with hr; injection hr with e1 e2; subst e1; subst e2;rw [hy,RG] at hX;obtain ⟨b,hb,sb,cc,ah,hz',hv⟩:=hX;refine ⟨rfl,_,na _ _ _ hv,?_,⟨_,0,rfl⟩⟩;simp only [WC,ID,List.length_nil];exact ⟨_,0,rfl,yf _,(fun x hx=>by cases hx),(fun hb=>by cases hb),fun hb=>⟨fun _=>rfl,fun h0=>absurd h0 (Nat.lt_irrefl 0)⟩⟩
 ·cases hr
end
end
section
open Go Go.RowKit
section
variable {P:Program} {O:XE} {nt B:Nat} {F0:BN} {aa:Av} {w0:World} {D:Nat->Prop} {s:pA} {a:Act} {w w':World} {ι:Ix} {Θ:aJ} {o:Oper}
theorem eql_slice (d:Nat) {t e:TypeId} (ht:P.underlying t=some (.slice e)) (A:Option Addr) (n c:Nat):(Op.equalIn (d + 1) t (.slice A n c) (.slice none 0 0)).run P w=.ok A.isNone w:=by
 unfold Op.equalIn;simp only [Sem.run_bind,run_underlying ht,Result.andThen_ok];cases A <;> rfl
theorem eql_ptr (d:Nat) {t e:TypeId} (ht:P.underlying t=some (.pointer e)) (A:Option Addr):(Op.equalIn (d + 1) t (.pointer A) (.pointer none)).run P w=.ok A.isNone w:=by
 unfold Op.equalIn;simp only [Sem.run_bind,run_underlying ht,Result.andThen_ok];cases A <;> rfl
theorem zX (R:DB P O nt B F0 aa w0 D s a w ι Θ) {t t':TypeId} {neg ptr:Bool} (ht:if ptr then ∃ e,P.underlying t=some (.pointer e) else ∃ e,P.underlying t=some (.slice e)) {X Y:Operand} {x y:bB} (hx:opd X=some x) (hy:opd Y=some y)
  (ho:o.op=.binOp (if neg then .neq else .eql) t X Y t') {call} {z:rA} {e:SC} (hr:(K.eqn neg ptr x y).run call s=some (z,e)):e=.none/\pS P aa a w ι Θ o z:=by
 have hX:=(R.opd hx).1;have hY:=(R.opd hy).1;have key:∀ (u v:Value) (r:Bool),a.eval X=u->a.eval Y=v->u.oneCell'=true->u≠.nilIface->(∀ op,(Go.binOp op t u v).run P w=(match op with | .eql=>(do pure (.bool (<- Op.equal t u v)):Sem Value) | .neq=>(do pure (.bool (!(<- Op.equal t u v))):Sem Value) | _=>Go.binOp op t u v).run P w)->(Op.equal t u v).run P w=.ok r w →
   (execOp a.eval o).run P w=.ok (.value (.bool (r != neg))) w:=fun u v r hu hv h1 hn hb he=>by
  cases neg with
  | false =>
   simp only [yI,if_false] at ho;have:=hb .eql;simp only [Sem.run_bind,he,Result.andThen_ok,Sem.run_pure] at this;rw [QB ho hu hv h1 hn this];simp
  | true =>
   simp only [if_true] at ho;have:=hb .neq;simp only [Sem.run_bind,he,Result.andThen_ok,Sem.run_pure] at this;rw [QB ho hu hv h1 hn this];simp
 have xf:∀ A n c,ptr=false->a.eval X=.slice A n c->a.eval Y=.slice none 0 0->(execOp a.eval o).run P w=.ok (.value (.bool (A.isNone != neg))) w:=fun A n c hp hu hv=>by
  subst hp;simp only [yI,if_false] at ht;obtain ⟨e,ht⟩:=ht;exact key _ _ _ hu hv rfl (by simp) (fun op=>by cases op <;> simp [Go.binOp]) (eql_slice 9999 ht A n c)
 have hpt:∀ A,ptr=true->a.eval X=.pointer A->a.eval Y=.pointer none->(execOp a.eval o).run P w=.ok (.value (.bool (A.isNone != neg))) w:=fun A hp hu hv=>by
  subst hp;simp only [if_true] at ht;obtain ⟨e,ht⟩:=ht;exact key _ _ _ hu hv rfl (by simp) (fun op=>by cases op <;> simp [Go.binOp]) (eql_ptr 9999 ht A)
 have mI:∀ {b:Bool},(execOp a.eval o).run P w=.ok (.value (.bool (b != neg))) w->pS P aa a w ι Θ o ⟨.bool (b != neg),.no⟩:=fun h=>⟨_,h,by rw [nB],trivial⟩
 simp only [K.run] at hr;split at hr
 ·rename_i l ao;rw [ao,WC] at hY;simp only [ID] at hY;obtain ⟨A,c,hv,_,_,hn,_⟩:=hY;obtain ⟨rfl,h0,rfl⟩:=hn trivial;rw [h0] at hv;cases hi:bG false (x.get s) with
  | none=>rw [hi] at hr; cases hr
  | some b =>
   rw [hi] at hr;injection hr with hr; injection hr with e1 e2; subst e1; subst e2;refine ⟨rfl,mI ?_⟩;unfold bG at hi;split at hi <;> first | (exact absurd ‹false=true› (by decide)) | skip
   ·rename_i l' _ md;injection hi with hi; subst hi;rw [md,WC] at hX;simp only [ID] at hX;obtain ⟨A,c,hu,_,_,wn,ky⟩:=hX;have:=xf _ _ _ rfl hu hv;rw [(wn trivial).1] at this; exact this
   ·rename_i l' _ md;split at hi
    ·cases hi
    ·rename_i za;injection hi with hi; subst hi;rw [md,WC] at hX;simp only [ID] at hX;obtain ⟨A,c,hu,_,_,wn,ky⟩:=hX;have:=xf _ _ _ rfl hu hv;obtain ⟨_,_,rfl,_⟩:=(ky trivial).2 (by cases l' with | nil=>simp at za | cons=>simp);exact this
   ·rename_i l' _ md;injection hi with hi; subst hi;rw [md] at hX;obtain ⟨a',c,hu,_⟩:=hX;exact xf _ _ _ rfl hu hv
   ·rename_i md;injection hi with hi; subst hi;rw [md] at hX;obtain ⟨b,_,_,_,_,_,hu⟩:=RG.1 hX;exact xf _ _ _ rfl hu hv
   ·cases hi
 ·rename_i ao;rw [ao,N2] at hY;cases hi:bG true (x.get s) with
  | none=>rw [hi] at hr; cases hr
  | some b =>
   rw [hi] at hr;injection hr with hr; injection hr with e1 e2; subst e1; subst e2;refine ⟨rfl,mI ?_⟩;unfold bG at hi;split at hi <;> first | (exact absurd ‹true=false› (by decide)) | skip
   ·rename_i md;injection hi with hi; subst hi;rw [md,N2] at hX;exact hpt _ rfl hX hY
   ·rename_i md;injection hi with hi; subst hi;rw [md] at hX;obtain ⟨b,_,hu⟩:=KF.1 hX;exact hpt _ rfl hu hY
   ·rename_i md;injection hi with hi; subst hi;rw [md] at hX;obtain ⟨b,off,hu,_⟩:=xK.1 hX;exact hpt _ rfl hu hY
   ·rename_i md;injection hi with hi; subst hi;rw [md] at hX;obtain ⟨b,off,hu,_⟩:=hX;exact hpt _ rfl hu hY
   ·cases hi
 ·cases hr
def KindEq (P:Program) (d:Nat) (t:TypeId) (w:World):Nat->Value->Value->Prop
 | 0,.int j a,.int j' b=>j=j'->(Op.equalIn (d + 1) t (.int j a) (.int j' b)).run P w=.ok (decide (a=b)) w
 | 1,.string a,.string b=>(Op.equalIn (d + 1) t (.string a) (.string b)).run P w=.ok (decide (a=b)) w
 | 2,.bool a,.bool b=>(Op.equalIn (d + 1) t (.bool a) (.bool b)).run P w=.ok (decide (a=b)) w
 | _,_,_=>True
theorem Q7 (d:Nat) {t:TypeId} {k:Nat} (hk:DZ P t=some k) {xs ys:Array Value} {i:Nat} {u v:Value} (hu:xs[i]?=some u) (hv:ys[i]?=some v) :
  (part t xs i).run P w=.ok u w/\(part t ys i).run P w=.ok v w/\KindEq P d t w k u v:=by
 unfold DZ at hk;split at hk
 ·rename_i j ht _;injection hk with hk;subst hk;refine ⟨by simp [part,isAgg,run_underlying ht,hu],by simp [part,isAgg,run_underlying ht,hv],?_⟩;cases u <;> cases v <;> first | trivial | skip
  rename_i j1 a j2 b;rintro rfl;rw [run_equalIn_int w d t j1 j a b ht];rfl
 ·rename_i ht _;injection hk with hk;subst hk;refine ⟨by simp [part,isAgg,run_underlying ht,hu],by simp [part,isAgg,run_underlying ht,hv],?_⟩;cases u <;> cases v <;> first | trivial | skip
  rename_i a b;show (Op.equalIn (d + 1) t (.string a) (.string b)).run P w=_;rw [run_equalIn_string w d t a b ht,nM]
 ·rename_i ht _;injection hk with hk;subst hk;refine ⟨by simp [part,isAgg,run_underlying ht,hu],by simp [part,isAgg,run_underlying ht,hv],?_⟩;cases u <;> cases v <;> first | trivial | skip
  rename_i a b;show (Op.equalIn (d + 1) t (.bool a) (.bool b)).run P w=_;rw [run_equalIn_bool' w d t a b ht];cases a <;> cases b <;> rfl
 ·cases hk
theorem eqC_step {k:Nat} {ks:List Nat} {x y:AV} {xs ys:List AV} {r:Bool} (h:FJ (k :: ks) (x :: xs) (y :: ys)=some r) {av:Av} {u v:Value} (hu:HA ι av w x u) (hv:HA ι av w y v) (d:Nat) {t:TypeId} (hk:DZ P t=some k) {us vs:Array Value} {i:Nat} (hi:us[i]?=some u) (hj:vs[i]?=some v) :
  ∃ b,(part t us i).run P w=.ok u w/\(part t vs i).run P w=.ok v w/\(Op.equalIn (d + 1) t u v).run P w=.ok b w/\(if b then FJ ks xs ys=some r else r=false):=by
 obtain ⟨h1,h2,h3⟩:=Q7 (w:=w) d hk hi hj;unfold FJ at h;split at h
 ·rename_i e _ _; cases e
 ·rename_i j a r1 j' b r2 e1 e2 e3;injection e1 with e1 e1'; injection e2 with e2 e2'; injection e3 with e3 e3';subst e1; subst e1'; subst e2; subst e2'; subst e3; subst e3';simp only [HA,ID] at hu hv;subst hu; subst hv;split at h
  ·rename_i iT;refine ⟨_,h1,h2,h3 iT,?_⟩;by_cases og:a=b
   ·rw [if_pos og] at h; rw [if_pos (by simpa using og)]; exact h
   ·rw [if_neg og] at h; injection h with h; rw [if_neg (by simpa using og)]; exact h.symm
  ·cases h
 ·rename_i a r1 b r2 e1 e2 e3;injection e1 with e1 e1'; injection e2 with e2 e2'; injection e3 with e3 e3';subst e1; subst e1'; subst e2; subst e2'; subst e3; subst e3';simp only [HA,ID] at hu hv;subst hu; subst hv;refine ⟨_,h1,h2,h3,?_⟩;by_cases og:a=b
  ·rw [if_pos og] at h; rw [if_pos (by simpa using og)]; exact h
  ·rw [if_neg og] at h; injection h with h; rw [if_neg (by simpa using og)]; exact h.symm
 ·rename_i a r1 b r2 e1 e2 e3;injection e1 with e1 e1'; injection e2 with e2 e2'; injection e3 with e3 e3';subst e1; subst e1'; subst e2; subst e2'; subst e3; subst e3';simp only [HA,ID] at hu hv;subst hu; subst hv;refine ⟨_,h1,h2,h3,?_⟩;by_cases og:a=b
  ·rw [if_pos og] at h; rw [if_pos (by simpa using og)]; exact h
  ·rw [if_neg og] at h; injection h with h; rw [if_neg (by simpa using og)]; exact h.symm
 ·cases h
theorem eqC_len:∀ {ks:List Nat} {xs ys:List AV} {r:Bool},FJ ks xs ys=some r->ks≠[]->∃ x oy y ys',xs=x :: oy/\ys=y :: ys'
 | [],_,_,_,h,h'=>absurd rfl h'
 | k :: ks,xs,ys,r,h,_=>by
  cases xs with
  | nil=>simp [FJ] at h
  | cons x xs =>
   cases ys with
   | nil=>unfold FJ at h; split at h <;> simp_all
   | cons y ys=>exact ⟨x,xs,y,ys,rfl,rfl⟩
theorem iQ:∀ {k1 k2:List Nat} {xs ys:List AV} {r:Bool},FJ (k1++k2) xs ys=some r->∃ r1,FJ k1 (xs.take k1.length) (ys.take k1.length)=some r1/\(if r1 then FJ k2 (xs.drop k1.length) (ys.drop k1.length)=some r else r=false)
 | [],k2,xs,ys,r,h=>⟨true,by simp [FJ],by simpa using h⟩
 | k :: k1,k2,xs,ys,r,h=>by
  obtain ⟨x,oy,y,ys',rfl,rfl⟩:=eqC_len h (by simp);simp only [List.cons_append] at h;simp only [yA,List.take_succ_cons,List.drop_succ_cons];unfold FJ at h;split at h
  ·rename_i e _ _; cases e
  ·rename_i j a r1 j' b r2 e1 e2 e3;injection e1 with e1 e1'; injection e2 with e2 e2'; injection e3 with e3 e3';subst e1; subst e1'; subst e2; subst e2'; subst e3; subst e3';split at h
   ·rename_i iT;subst iT;split at h
    ·rename_i og;simp only [FJ,if_true,if_pos og];exact iQ h
    ·rename_i og;injection h with h;exact ⟨false,by simp [FJ,og],by simpa using h.symm⟩
   ·cases h
  ·rename_i a r1 b r2 e1 e2 e3;injection e1 with e1 e1'; injection e2 with e2 e2'; injection e3 with e3 e3';subst e1; subst e1'; subst e2; subst e2'; subst e3; subst e3';split at h
   ·rename_i og;simp only [FJ,if_pos og];exact iQ h
   ·rename_i og;injection h with h;exact ⟨false,by simp [FJ,og],by simpa using h.symm⟩
  ·rename_i a r1 b r2 e1 e2 e3;injection e1 with e1 e1'; injection e2 with e2 e2'; injection e3 with e3 e3';subst e1; subst e1'; subst e2; subst e2'; subst e3; subst e3';split at h
   ·rename_i og;simp only [FJ,if_pos og];exact iQ h
   ·rename_i og;injection h with h;exact ⟨false,by simp [FJ,og],by simpa using h.symm⟩
  ·cases h
def F3 (P:Program) (ι:Ix) (av:Av) (w:World) (n:Nat) (t:TypeId) (ks:List Nat):Prop :=
 ∀ (d:Nat) (us vs:Array Value) (off:Nat) (xs ys:List AV) (r:Bool),SA ι av w xs ((us.toList.drop off).take ks.length)->SA ι av w ys ((vs.toList.drop off).take ks.length)->FJ ks xs ys=some r →
  ∃ a b,(part t us off).run P w=.ok a w/\(part t vs off).run P w=.ok b w/\(Op.equalIn (d + n) t a b).run P w=.ok r w
theorem SL {av:Av} {xs:List AV} {us:List Value} {off k m:Nat} (h:SA ι av w xs ((us.drop off).take (k + m))):SA ι av w (xs.take k) ((us.drop off).take k)/\SA ι av w (xs.drop k) ((us.drop (off + k)).take m):=by
 constructor
 ·have:=bF k h
  rwa [List.take_take,yU (Nat.le_add_right ..)] at this
 ·have:=GE k h
  rwa [List.drop_take,Nat.add_sub_cancel_left,List.drop_drop] at this
theorem wW {av:Av} {n:Nat} (ih:∀ t ks,nG P n t=some ks->F3 P ι av w n t ks) (d:Nat) {us vs:Array Value}:∀ {fs:List Field} {i:Nat} {ks:List Nat} {xs ys:List AV} {r:Bool},aQ (nG P n) i fs=some ks->FJ ks xs ys=some r->SA ι av w xs ((us.toList.drop i).take ks.length)->SA ι av w ys ((vs.toList.drop i).take ks.length) →
  (Op.eqFields (d + n) us vs fs).run P w=.ok r w
 | [],i,ks,xs,ys,r,hk,h,_,_=>by
  injection hk with hk;subst hk;cases xs <;> cases ys <;> simp [FJ] at h
  subst h;simp [Op.eqFields]
 | f :: fs,i,ks,xs,ys,r,hk,h,hx,hy=>by
  unfold aQ at hk;obtain ⟨l,hl,hk⟩:=y9.1 hk;split at hk
  ·rename_i hn;obtain ⟨l',pu,rfl⟩:=yl.1 hk;obtain ⟨r1,h1,h2⟩:=iQ h;rw [yb] at hx hy;obtain ⟨x1,x2⟩:=SL hx;obtain ⟨y1,y2⟩:=SL hy;obtain ⟨a,b,p1,p2,p3⟩:=ih _ _ hl d us vs i _ _ _ x1 y1 h1;unfold Op.eqFields;rw [if_pos hn.1,hn.2];simp only [Sem.run_bind,p1,p2,p3,Result.andThen_ok,Sem.run_ite];cases r1 with
   | true =>
    simp only [if_true] at h2;simp only [Bool.not_true,yI,if_false];exact wW ih d pu h2 x2 y2
   | false =>
    simp only [yI,if_false] at h2;simp [h2]
  ·cases hk
theorem nY {av:Av} {n:Nat} {e:TypeId} {l:List Nat} (ih:F3 P ι av w n e l) (hc:P.cellsOf e=l.length) (d:Nat) {us vs:Array Value}:∀ {m i:Nat} {xs ys:List AV} {r:Bool},FJ (yx m l).flatten xs ys=some r->SA ι av w xs ((us.toList.drop (i * l.length)).take (yx m l).flatten.length)->SA ι av w ys ((vs.toList.drop (i * l.length)).take (yx m l).flatten.length) →
  (Op.eqItems (d + n) e (P.cellsOf e) us vs (List.range' i m)).run P w=.ok r w
 | 0,i,xs,ys,r,h,_,_=>by
  cases xs <;> cases ys <;> simp [FJ] at h
  subst h;simp [Op.eqItems]
 | m + 1,i,xs,ys,r,h,hx,hy=>by
  rw [List.replicate_succ,yv] at h hx hy;obtain ⟨r1,h1,h2⟩:=iQ h;rw [yb] at hx hy;obtain ⟨x1,x2⟩:=SL hx;obtain ⟨y1,y2⟩:=SL hy;rw [<- yM] at x2 y2;obtain ⟨a,b,p1,p2,p3⟩:=ih d us vs (i * l.length) _ _ _ x1 y1 h1;rw [List.range'_succ];unfold Op.eqItems;rw [hc];simp only [Sem.run_bind,p1,p2,p3,Result.andThen_ok,Sem.run_ite];cases r1 with
  | true =>
   simp only [if_true] at h2;simp only [Bool.not_true,yI,if_false];have:=nY ih hc d (m:=m) (i:=i + 1) h2 x2 y2;rw [hc] at this;exact this
  | false =>
   simp only [yI,if_false] at h2;simp [h2]
theorem ZR {t:TypeId} {z:Nat} (hA:xI P t=some true) (hz:CB P t=some z) (us:Array Value) (off:Nat):(part t us off).run P w=.ok (.agg (us.extract off (off + z))) w/\(us.extract off (off + z)).toList=(us.toList.drop off).take z :=
 ⟨by simp [part,BP hA,jC hz],by rw [Array.toList_extract,List.extract_eq_take_drop,Nat.add_sub_cancel_left]⟩
theorem rT {t:TypeId} {z:Nat} (h:CB P t=some z):∃ i,P.info? t=some i:=by
 unfold CB at h;cases hh:P.info? t with
 | none=>rw [hh] at h; cases h
 | some i=>exact ⟨i,rfl⟩
theorem mV {av:Av} {n:Nat} (ih:∀ t ks,nG P n t=some ks->F3 P ι av w n t ks) (d:Nat) {t:TypeId} {ks:List Nat} (hk:nG P (n + 1) t=some ks) (hA:xI P t=some true) {us vs:Array Value} {xs ys:List AV} {r:Bool}
  (hx:SA ι av w xs (us.toList.take ks.length)) (hy:SA ι av w ys (vs.toList.take ks.length)) (h:FJ ks xs ys=some r):CB P t=some ks.length/\(Op.equalIn (d + n + 1) t (.agg us) (.agg vs)).run P w=.ok r w:=by
 unfold nG at hk;split at hk
 ·rename_i k ge;unfold xI at hA;unfold DZ at ge;split at ge <;> first | (cases ge; done) | (rename_i ht _; rw [ht] at hA; injection hA with hA; cases hA) | (rename_i ht; rw [ht] at hA; injection hA with hA; cases hA)
 ·split at hk
  ·rename_i m e ht;obtain ⟨l,hl,hk⟩:=y9.1 hk;split at hk
   ·rename_i hc;injection hk with hk;subst hk;obtain ⟨i,hi⟩:=rT hc.2.1;refine ⟨hc.2.2,?_⟩;have:=run_equalIn_array (P:=P) w (d + n) us vs ht hi;rw [List.range_eq_range'] at this;exact this.trans (nY (ih _ _ hl) hc.1 d h (by simpa using hx) (by simpa using hy))
   ·cases hk
  ·rename_i fs ht;split at hk
   ·cases hk
   ·rename_i ac;obtain ⟨l,hl,hk⟩:=y9.1 hk;split at hk
    ·rename_i hc;injection hk with hk;subst hk;refine ⟨hc,?_⟩;have hf:P.fieldsOf t=fs:=by simp [Program.fieldsOf,ht]
     have:=run_equalIn_struct (P:=P) w (d + n) t us vs (by rw [hf]; exact ht) (by simpa using ac);rw [hf] at this;exact this.trans (wW ih d hl h (by simpa using hx) (by simpa using hy))
    ·cases hk
  ·cases hk
theorem nU {av:Av}:∀ (n:Nat) (t:TypeId) (ks:List Nat),nG P n t=some ks->F3 P ι av w n t ks
 | 0,_,_,h=>by cases h
 | n + 1,t,ks,hk=>by
  intro d us vs off xs ys r hx hy h;have rg:=hk;unfold nG at hk;split at hk
  ·rename_i k ge;injection hk with hk;subst hk;obtain ⟨x,oy,y,ys',rfl,rfl⟩:=eqC_len h (by simp);obtain ⟨u,db,e1,hu,_,gn⟩:=hx;obtain ⟨v,mw,e2,hv,_,ar⟩:=hy;have l1:db=[]:=by
    have:=congrArg List.length e1;simp at this;exact Y00 (by omega)
   have l2:mw=[]:=by
    have:=congrArg List.length e2;simp at this;exact Y00 (by omega)
   have g1:us[off]?=some u:=by
    have:=congrArg (fun l=>l[0]?) e1;simpa [yy,yu] using this
   have g2:vs[off]?=some v:=by
    have:=congrArg (fun l=>l[0]?) e2;simpa [yy,yu] using this
   obtain ⟨b,p1,p2,p3,p4⟩:=eqC_step (P:=P) h hu hv (d + n) ge g1 g2;refine ⟨u,v,p1,p2,?_⟩;have:b=r:=by
    cases b with
    | true =>
     simp only [if_true] at p4;subst l1;subst l2;cases oy with
     | nil=>cases ys' with
      | nil=>simp [FJ] at p4; exact p4.symm
      | cons=>simp [FJ] at p4
     | cons=>simp [FJ] at p4
    | false=>simpa using p4.symm
   rw [<- this];exact p3
  ·rename_i hnk;have hA:xI P t=some true:=by
    split at hk
    ·rename_i ht; simp [xI,ht]
    ·rename_i ht; simp [xI,ht]
    ·cases hk
   have:=mV (fun t ks h=>nU n t ks h) d rg hA (us:=us.extract off (off + ks.length)) (vs:=vs.extract off (off + ks.length)) (xs:=xs) (ys:=ys) (r:=r)
    (by rw [Array.toList_extract,List.extract_eq_take_drop,Nat.add_sub_cancel_left,List.take_take,Nat.min_self]; exact hx)
    (by rw [Array.toList_extract,List.extract_eq_take_drop,Nat.add_sub_cancel_left,List.take_take,Nat.min_self]; exact hy) h
   exact ⟨_,_,(ZR hA this.1 us off).1,(ZR hA this.1 vs off).1,this.2⟩
theorem val_eqa (R:DB P O nt B F0 aa w0 D s a w ι Θ) {t t':TypeId} {neg:Bool} {ks:List Nat} (ht:bR P t=some ks) {X Y:Operand} {x y:bB} (hx:opd X=some x) (hy:opd Y=some y)
  (ho:o.op=.binOp (if neg then .neq else .eql) t X Y t') {call} {z:rA} {e:SC} (hr:(K.eqa neg ks x y).run call s=some (z,e)):e=.none/\pS P aa a w ι Θ o z:=by
 have hX:=(R.opd hx).1;have hY:=(R.opd hy).1;simp only [K.run] at hr;split at hr
 ·rename_i xa ya md ao;rw [md,cZ] at hX;rw [ao,cZ] at hY;obtain ⟨us,hu,gn⟩:=hX;obtain ⟨vs,hv,ar⟩:=hY;cases hq:FJ ks xa ya with
  | none=>rw [hq] at hr; cases hr
  | some r =>
   rw [hq] at hr;injection hr with hr; injection hr with e1 e2; subst e1; subst e2;unfold bR at ht;split at ht
   ·cases ht
   ·rename_i hg;have he:(Op.equal t (.agg us) (.agg vs)).run P w=.ok r w:=by
     have main:nG P 8 t=some ks->xI P t=some true->(Op.equal t (.agg us) (.agg vs)).run P w=.ok r w:=fun hk hA =>
      by
       obtain ⟨r1,h1,h2⟩:=iQ (k1:=ks) (k2:=[]) (by simpa using hq);have e:r1=r:=by
        cases r1 with
        | true =>
         simp only [if_true] at h2;unfold FJ at h2;split at h2 <;> first | (injection h2) | (rename_i e _ _; cases e) | cases h2
        | false=>simpa using h2.symm
       subst e;exact (mV (fun t ks h=>nU 7 t ks h) 9992 hk hA (us:=us) (vs:=vs) (bF _ gn) (bF _ ar) h1).2
     split at ht
     ·rename_i ur; exact main ht (by simp [xI,ur])
     ·rename_i ur; exact main ht (by simp [xI,ur])
     ·cases ht
    have bw:∀ op,(eqGuard op t X Y (.agg us) (.agg vs)).run P w=.ok () w:=fun op=>by
     have:P.eqGuardType P.depth t=false:=by simpa using hg
     unfold eqGuard;cases op <;> simp [this]
    refine ⟨rfl,.bool (r != neg),?_,by rw [nB],trivial⟩;cases neg with
    | false =>
     simp only [yI,if_false] at ho;simp [execOp,ho,hu,hv,bw,Go.binOp,he]
    | true =>
     simp only [if_true] at ho;simp [execOp,ho,hu,hv,bw,Go.binOp,he]
 ·cases hr
end
end
section
open Go Go.RowKit
section
variable {P:Program} {O:XE} {nt B:Nat} {F0:BN} {aa:Av} {w0:World} {D:Nat->Prop} {s:pA} {a:Act} {w w':World} {ι:Ix} {Θ:aJ} {o:Oper}
theorem TY {av avb:Av} {x:AV} {v:Value} (h:GA ι av avb w x v) (hx:x.leaf=true):HA ι av w x v/\v.oneCell'=true:=by
 cases x <;> first
  | (simp [AV.leaf] at hx; done)
  | (refine ⟨h,?_⟩; simp only [GA,HA,ID] at h; subst h; rfl)
  | (refine ⟨h,?_⟩; obtain ⟨b,_,rfl⟩:=h; rfl)
  | (refine ⟨h,?_⟩; obtain ⟨b,_,_,_,_,_,rfl⟩:=h; rfl)
  | (refine ⟨h,?_⟩; simp only [GA,HA,ID] at h; obtain ⟨b,off,rfl,_⟩:=h; rfl)
theorem cells_rep {av avb:Av} {x:AV} {v:Value} (h:GA ι av avb w x v) (hx:x.whole=true):SA ι av w x.cells v.cells.toList:=by
 cases x with
 | agg cs=>obtain ⟨us,rfl,hc⟩:=h; exact hc
 | _ =>
  obtain ⟨h1,h2⟩:=TY h hx;cases v <;> first | exact ⟨_,[],rfl,h1,h2,rfl⟩ | (simp [Value.oneCell'] at h2; done)
theorem P7 (off:Nat):∀ (l:List Value) (k:Nat) (cells:Array Value),off + k + l.length<=cells.size →
  ((l.zipIdx k).foldl (fun cs (p:Value × Nat)=>cs.setIfInBounds (off + p.2) p.1) cells).toList=cells.toList.take (off + k)++l++cells.toList.drop (off + k + l.length)
 | [],k,cells,_=>by simp
 | v :: l,k,cells,h=>by
  simp only [yA] at h;rw [List.zipIdx_cons,List.foldl_cons,P7 off l (k + 1) _ (by simp; omega)];simp only [Array.toList_setIfInBounds,yA];have hk:off + k<cells.toList.length:=by simp; omega
  rw [show off + (k + 1)=off + k + 1 from by omega,List.take_succ_eq_append_getElem (by simpa using hk)];rw [List.take_set_of_le (yf _),List.getElem_set_self,List.drop_set_of_lt (by omega)];simp [yo,show off + k + 1 + l.length=off + k + (l.length + 1) from by omega]
theorem XS {pl:Nat->Option (Nat × Nat)} {av avb:Av} (pd:avb=avb):∀ {ps:List (Nat × Operand)} {ys:List (Nat × bB)} {zs:List (Nat × Nat × bB)} {cs ds:List AV} {us:Array Value},
  (∀ (X:Operand) (y:bB),opd X=some y->GA ι av avb w (y.get s) (a.eval X))->opds ps=some ys->HP pl ys=some zs->(∀ p∈zs,(p.2.2.get s).whole=true) →
  ZS cs (zs.map fun p=>(p.1,p.2.1,(p.2.2.get s).cells))=some ds->SA ι av w cs us.toList->∃ db,Instr.fill pl us (ps.map fun p=>(p.1,a.eval p.2))=some db/\SA ι av w ds db.toList
 | [],ys,zs,cs,ds,us,_,hy,hz,_,hf,hc=>by
  injection hy with hy; subst hy;injection hz with hz; subst hz;injection hf with hf; subst hf;exact ⟨us,rfl,hc⟩
 | (i,X) :: ps,ys,zs,cs,ds,us,tb,hy,hz,hl,hf,hc=>by
  unfold opds at hy;split at hy
  ·rename_i x l hx hr;injection hy with hy; subst hy;unfold HP at hz;split at hz
   ·rename_i off z l' hp hr';injection hz with hz; subst hz;simp only [yk,ZS] at hf;split at hf
    ·rename_i ia;have gc:=cells_rep (tb X x hx) (hl _ (yp));have da:=mC gc;have hlu:=mC hc;simp only [yP] at da hlu;have oc:(a.eval X).cells.size=z:=by rw [da]; exact ia.1
     have hfold:((a.eval X).cells.zipIdx.foldl (fun cs (p:Value × Nat)=>cs.setIfInBounds (off + p.2) p.1) us).toList=us.toList.take off++(a.eval X).cells.toList++us.toList.drop (off + z):=by
      rw [<- Array.foldl_toList,Array.toList_zipIdx,P7 off _ 0 us (by simp [oc]; omega)];simp [oc]
     have uc:SA ι av w (cs.take off++(x.get s).cells++cs.drop (off + z)) (((a.eval X).cells.zipIdx.foldl (fun cs (p:Value × Nat)=>cs.setIfInBounds (off + p.2) p.1) us)).toList:=by
      rw [hfold];exact DG (DG (bF off hc) gc) (GE (off + z) hc)
     obtain ⟨db,h1,h2⟩:=XS pd tb hr hr' (fun p hp=>hl p (yG _ hp)) hf uc;refine ⟨db,?_,h2⟩;simp only [yk,Instr.fill,hp];rw [if_neg (by simp [oc]; omega)];exact h1
    ·cases hf
   ·cases hz
  ·cases hy
theorem I3 (R:DB P O nt B F0 aa w0 D s a w ι Θ) {t:TypeId} {ps:Array (Nat × Operand)} {ys:List (Nat × bB)} {zs:List (Nat × Nat × bB)} {zero:List AV} {pl:Nat->Option (Nat × Nat)} {z:Value} (hzl:bJ z.cells.toList=some zero)
  (hb:P.built t (ps.map fun (i,x)=>(i,a.eval x)).toList=Instr.fill pl z.cells (ps.map fun (i,x)=>(i,a.eval x)).toList) (hy:opds ps.toList=some ys) (hp:HP pl ys=some zs) (ho:o.op=.build t ps)
  {call} {x:rA} {e:SC} (hr:(K.build zero zs).run call s=some (x,e)):e=.none/\pS P aa a w ι Θ o x:=by
 simp only [K.run] at hr;split at hr
 ·rename_i bc;cases hf:ZS zero (zs.map fun p=>(p.1,p.2.1,(p.2.2.get s).cells)) with
  | none=>rw [hf] at hr; cases hr
  | some ds =>
   rw [hf] at hr;injection hr with hr; injection hr with e1 e2; subst e1; subst e2;obtain ⟨db,h1,h2⟩:=XS (pl:=pl) (ι:=ι) (av:=BB aa ι Θ) (avb:=eC ι Θ) (w:=w) (s:=s) (a:=a) rfl (fun X y h=>(R.opd h).1) hy hp (fun p hp=>by
    have:=y8.1 bc p hp;exact this) hf (PH hzl _ _)
   have h3:P.built t (ps.map fun (i,x)=>(i,a.eval x)).toList=some db:=by
    rw [hb,Array.toList_map];exact h1
   exact ⟨rfl,.agg db,by simp only [execOp,ho,Sem.run_bind,run_build w t _ db h3,Result.andThen_ok,Sem.run_pure],⟨db,rfl,h2⟩,trivial⟩
 ·cases hr
def Ix.add (ι:Ix) (d n b z:Nat):Ix:=⟨fun t' n'=>if t'=d/\n'=n then some b else ι t' n',ι.ob,fun b'=>if b'=b then z else ι.z b'⟩
section
variable (R:DB P O nt B F0 aa w0 D s a w ι Θ)
include R
theorem DB.low {b o:Nat} (h:BB aa ι Θ b o):b<w.heap.size:=by
 have h1:=R.kept.size;have h2:=R.base;rcases h with h | (⟨t,n,h⟩ | ⟨t,n,H,h,hb⟩) | ⟨k,ow,h,rfl,_⟩
 ·have:=R.out _ _ h; omega
 ·exact (R.mine _ _ _ h).2.1
 ·exact ((R.obs _ _ _ h).1 _ hb).2.1
 ·obtain ⟨_,_,_,_,cur,h5,_⟩:=R.tok _ _ h;exact cA h5
theorem DB.lowB:B<=w.heap.size:=by
 have h1:=R.kept.size;have h2:=R.base;omega
theorem DB.new {d:Nat} (hd:d<nt) (hD:¬ D d) {r:List rA} {cur:Array Value} (ty:TypeId) (ja:aD ι Θ (BB aa ι Θ) w r cur) {x:AV} {v:Value}
  (hx:∀ ι':Ix,ι' d s.next=some w.heap.size->ι'.z w.heap.size=cur.size->GA ι' (BB aa ι' Θ) (eC ι' Θ) (w.alloc (.cells cur ty)) x v) :
  ∃ ι',DB P O nt B F0 aa w0 (fun t=>D t\/t=d) ((s.setRow d s.next r).put (some d) ⟨x,.no⟩) (a.put (some d) v) (w.alloc (.cells cur ty)) ι' Θ:=by
 have le:ι d s.next=none:=by
  cases h:ι d s.next with
  | none=>rfl
  | some b =>
   rcases (R.mine _ _ _ h).2.2 with h1 | h1
   ·omega
   ·exact absurd h1.2 hD
 have fe:ι.ob d s.next=none:=by
  cases h:ι.ob d s.next with
  | none=>rfl
  | some b =>
   rcases (R.obs _ _ _ h).2 with h1 | h1
   ·omega
   ·exact absurd h1.2 hD
 have wc:∀ t n b,ι t n=some b->(ι.add d s.next w.heap.size cur.size) t n=some b:=fun t n b h=>by
  show (if t=d/\n=s.next then some w.heap.size else ι t n)=some b;split
  ·rename_i e; rw [e.1,e.2,le] at h; cases h
  ·exact h
 have rd:∀ t n b,(ι.add d s.next w.heap.size cur.size) t n=some b->b<w.heap.size->ι t n=some b:=fun t n b h hb=>by
  have h':(if t=d/\n=s.next then some w.heap.size else ι t n)=some b:=h;split at h'
  ·injection h' with h'; omega
  ·exact h'
 have uc:(ι.add d s.next w.heap.size cur.size) d s.next=some w.heap.size:=by
  show (if d=d/\s.next=s.next then some w.heap.size else ι d s.next)=_;rw [if_pos ⟨rfl,rfl⟩]
 have ij:∀ b o,b<w.heap.size->eC (ι.add d s.next w.heap.size cur.size) Θ b o->eC ι Θ b o:=fun b o hb h=>h.imp (fun h=>h.imp (fun ⟨t,n,h⟩=>⟨t,n,rd t n b h hb⟩) id) id
 have hAx:∀ b o,b<w.heap.size->BB aa (ι.add d s.next w.heap.size cur.size) Θ b o->BB aa ι Θ b o:=fun b o hb h=>h.imp id (ij b o hb)
 have wh:∀ b,b<w.heap.size->(w.alloc (.cells cur ty)).heap[b]?=w.heap[b]?:=fun b hb=>Below.heap_alloc w _ b hb
 have hA:FA (BB aa ι Θ) (BB aa (ι.add d s.next w.heap.size cur.size) Θ) w (w.alloc (.cells cur ty)):=FA.grown wh hAx;have hB:FA (eC ι Θ) (eC (ι.add d s.next w.heap.size cur.size) Θ) w (w.alloc (.cells cur ty)):=FA.grown wh ij;have ir:=R.lowB;have sb:Ix.Le ι (ι.add d s.next w.heap.size cur.size):=⟨wc,fun t n b h=>by
  have:=(R.mine t n b h).2.1;show (if b=w.heap.size then cur.size else ι.z b)=ι.z b;rw [if_neg (by omega)]⟩
 have hzn:(ι.add d s.next w.heap.size cur.size).z w.heap.size=cur.size:=if_pos rfl;refine ⟨ι.add d s.next w.heap.size cur.size,DB.put (s:=s.setRow d s.next r) ⟨R.defers,R.size,fun t=>GA.held sb hA hB _ _ (R.env t),R.ann,fun t n r' hr=>?_,fun t n b h=>?_,fun t n t' n' b h h'=>?_,fun k o h=>?_,R.tinj,fun k o t n h h'=>?_,R.out,fun p h=>⟨wc _ _ _ (R.pin p h).1,(R.pin p h).2.imp (fun g=>⟨g.1,(sb.z _ _ _ (R.pin p h).1).trans g.2⟩) id⟩,R.kept.alloc _,R.base,fun t n S h=>?_,fun t n H h=>?_,fun t=>GA.held sb hA hB _ _ (R.gen t),R.gann⟩ hd (hx _ uc hzn) trivial⟩
 ·simp only [pA.setRow] at hr;split at hr
  ·rename_i e;injection hr with hr;subst hr;refine ⟨by show ι.ob t n=none; rw [e.1,e.2]; exact fe,w.heap.size,cur,ty,by rw [e.1,e.2]; exact uc,OR rfl,ja.held sb hA (fun _ _ h=>h),.inl ir,hzn.symm⟩
  ·obtain ⟨h0,b,ua,uh,h1,h2,h3,h4,h5⟩:=R.rows t n r' hr;exact ⟨h0,b,ua,uh,wc _ _ _ h1,(wh b (cA h2)).trans h2,h3.held sb hA (fun _ _ h=>h),h4,h5.trans (sb.z _ _ _ h1).symm⟩
 ·have h':(if t=d/\n=s.next then some w.heap.size else ι t n)=some b:=h;split at h'
  ·rename_i e;injection h' with h';subst h';exact ⟨.inl ir,by simp,.inr ⟨e.2,.inr e.1⟩⟩
  ·obtain ⟨h2,h3,h4⟩:=R.mine t n b h';exact ⟨h2,by simp; omega,h4.imp id fun ⟨e,d⟩=>⟨e,.inl d⟩⟩
 ·have g:(if t=d/\n=s.next then some w.heap.size else ι t n)=some b:=h;have g':(if t'=d/\n'=s.next then some w.heap.size else ι t' n')=some b:=h';split at g <;> split at g'
  ·rename_i e e'; exact ⟨e.1.trans e'.1.symm,e.2.trans e'.2.symm⟩
  ·injection g with g; have:=(R.mine _ _ _ g').2.1; omega
  ·injection g' with g'; have:=(R.mine _ _ _ g).2.1; omega
  ·exact R.inj t n t' n' b g g'
 ·obtain ⟨h1,h2,h3,h4,ua,h5,h6⟩:=R.tok k o h;exact ⟨h1,h2,h3,h4,ua,(wh _ (cA h5)).trans h5,h6⟩
 ·obtain ⟨_,_,_,_,ua,h5,_⟩:=R.tok k o h;exact R.apart k o t n h (rd t n _ h' (cA h5))
 ·obtain ⟨p,H,h1,h2,h3,h4⟩:=R.objs t n S h;exact ⟨p,H,wc _ _ _ h1,h2,O.keep h3 (fun b hH=>wh b (O.lt h3 hH)) (by simp),h4.keep (fun t n b H h g=>⟨wc _ _ _ h,H,g⟩) fun x hx=>(wh _ (cA hx)).trans hx⟩
 ·obtain ⟨h1,h2⟩:=R.obs t n H h;refine ⟨fun b hb=>?_,h2.imp id fun ⟨e,d⟩=>⟨e,.inl d⟩⟩;obtain ⟨g1,g2,g3,g4⟩:=h1 b hb;exact ⟨g1,by simp; omega,fun t' n' h'=>g3 t' n' (rd t' n' b h' g2),g4⟩
end
end
end
section
open Go Go.RowKit
section
variable {P:Program} {O:XE} {nt B:Nat} {F0:BN} {aa:Av} {w0:World} {D:Nat->Prop} {s:pA} {a:Act} {w w':World} {ι:Ix} {Θ:aJ} {o:Oper}
def WD (P:Program) (O:XE) (nt B:Nat) (F0:BN) (aa:Av) (w0:World) (D:Nat->Prop) (s:pA) (a:Act) (w:World):Prop:=∃ ι Θ,DB P O nt B F0 aa w0 D s a w ι Θ
theorem aD.of {av:Av}:∀ {r:List rA} {cur:List Value},SA ι av w (r.map (·.v)) cur->(∀ (j:Nat) (x:rA) (u:Value),r[j]?=some x->cur[j]?=some u->kJ Θ x.a u)->aD ι Θ av w r cur.toArray:=by
 intro r cur h ha;refine ⟨by have:=mC h; simp at this; simp [this],fun j x hx=>?_⟩;obtain ⟨u,hu,h1,hr⟩:=GI h (j:=j) (x:=x.v) (by simp [hx]);exact ⟨u,by simpa using hu,h1,hr,ha j x u hx hu⟩
theorem op_alloc (R:DB P O nt B F0 aa w0 D s a w ι Θ) {t:TypeId} {zero:List AV} (hz:cI P t=some zero) (ho:o.op=.alloc t) {d:Nat} (ka:o.dst=some d) (hd:d<nt) (hD:¬ D d) {call} {xe:rA × SC} (hr:(K.alloc zero).run call s=some xe) {g} {s':pA} (he:WA.eff ⟨o.dst,.alloc zero,g⟩ s xe=some s') :
  ∃ v w',(execOp a.eval o).run P w=.ok (.value v) w'/\WD P O nt B F0 aa w0 (fun t=>D t\/t=d) s' (a.put o.dst v) w':=by
 obtain ⟨z,i,hi,bq,na,hl⟩:=BF hz w;simp only [K.run] at hr;injection hr with hr;subst hr;simp only [WA.eff,ka] at he;injection he with he;subst he;refine ⟨.pointer (some ⟨w.heap.size,0,none⟩),w.alloc (.cells z.cells t),by simp [execOp,ho,Instr.alloc,na,newVar,newRow],?_⟩;rw [ka];have ic:=PH (ι:=ι) hl (BB aa ι Θ) w;have ja:aD ι Θ (BB aa ι Θ) w (zero.map fun v=>⟨v,OG v⟩) z.cells.toList.toArray:=aD.of (by
  rw [y5,show ((fun x:rA=>x.v) ∘ fun v=>(⟨v,OG v⟩:rA))=id from rfl,List.map_id];exact ic) (fun j x u hx hu=>by
  rw [yc] at hx;cases rq:zero[j]? with
  | none=>rw [rq] at hx; cases hx
  | some v =>
   rw [rq] at hx;injection hx with hx;subst hx;obtain ⟨u',wr,_,hr⟩:=GI ic rq;rw [hu] at wr;injection wr with wr;subst wr;show kJ Θ (OG v) u;unfold OG;split
   ·simp only [HA,ID] at hr;obtain ⟨A,c,rfl,_,_,hn,_⟩:=hr;obtain ⟨rfl,h0,rfl⟩:=hn trivial;exact ⟨none,0,by rw [h0]⟩
   ·trivial)
 rw [yX] at ja;exact let ⟨ι',h⟩:=R.new hd hD t ja (x:=.ptr d s.next 0) (v:=.pointer (some ⟨w.heap.size,0,none⟩)) (fun ι' h _=>⟨_,h,rfl⟩); ⟨ι',Θ,h⟩
theorem op_boxE (R:DB P O nt B F0 aa w0 D s a w ι Θ) {t:TypeId} {z:Nat} {X:Operand} {x:bB} (hx:opd X=some x) (ho:o.op=.box t X) {d:Nat} (ka:o.dst=some d) (hd:d<nt) (hD:¬ D d) {call} {xe:rA × SC} (hr:(K.box z x).run call s=some xe) {g} {s':pA} (he:WA.eff ⟨o.dst,.box z x,g⟩ s xe=some s') :
  ∃ v w',(execOp a.eval o).run P w=.ok (.value v) w'/\WD P O nt B F0 aa w0 (fun t=>D t\/t=d) s' (a.put o.dst v) w':=by
 have hX:=R.opd hx;have na:(execOp a.eval o).run P w=.ok (.value (.pointer (some ⟨w.heap.size,0,none⟩))) (w.alloc (.cells (a.eval X).cells t)):=by simp [execOp,ho,Instr.box,newVar,newRow]
 have key:∀ (r:List rA),aD ι Θ (BB aa ι Θ) w r (a.eval X).cells->WD P O nt B F0 aa w0 (fun t=>D t\/t=d) ((s.setRow d s.next r).put (some d) ⟨.ptr d s.next 0,.no⟩) (a.put (some d) (.pointer (some ⟨w.heap.size,0,none⟩))) (w.alloc (.cells (a.eval X).cells t)):=fun r h =>
  let ⟨ι',h⟩:=R.new hd hD t h (x:=.ptr d s.next 0) (v:=.pointer (some ⟨w.heap.size,0,none⟩)) (fun ι' h _=>⟨_,h,rfl⟩); ⟨ι',Θ,h⟩
 simp only [K.run] at hr;split at hr
 ·rename_i cs hv;split at hr
  ·injection hr with hr;subst hr;simp only [WA.eff,ka] at he;injection he with he;subst he;refine ⟨_,_,na,?_⟩;rw [ka];refine key _ ?_;rw [hv] at hX;obtain ⟨us,hu,hc⟩:=hX.1;rw [hu];have:=aD.of (Θ:=Θ) (r:=cs.map fun v=>(⟨v,.no⟩:rA)) (cur:=us.toList) (ι:=ι) (w:=w) (av:=BB aa ι Θ) (by rw [y5,show ((fun x:rA=>x.v) ∘ fun v=>(⟨v,.no⟩:rA))=id from rfl,List.map_id]; exact hc) (fun j x u hx _=>by
    rw [yc] at hx;cases rq:cs[j]? with
    | none=>rw [rq] at hx; cases hx
    | some v=>rw [rq] at hx; injection hx with hx; subst hx; trivial)
   simpa [Value.cells] using this
  ·cases hr
 ·rename_i hv;split at hr
  ·rename_i ru;injection hr with hr;subst hr;simp only [WA.eff,ka] at he;injection he with he;subst he;refine ⟨_,_,na,?_⟩;rw [ka];refine key _ ?_;obtain ⟨h1,h2⟩:=TY hX.1 ru;have hc:(a.eval X).cells=#[a.eval X]:=by
    generalize a.eval X=u at *
    cases u <;> first | rfl | (simp [Value.oneCell'] at h2; done)
   rw [hc];refine ⟨yf _,fun j y hy=>?_⟩;cases j with
   | zero =>
    simp only [Y01] at hy;injection hy with hy;subst hy;exact ⟨a.eval X,rfl,h2,h1,hX.2⟩
   | succ j=>simp at hy
  ·cases hr
theorem kQ (zero:List Value) (av:Av) {zs:List AV} (hz:SA ι av w zs zero) (c:Nat):SA ι av w (yx c zs).flatten (yx c zero).flatten:=by
 induction c with
 | zero=>simp [SA]
 | succ c ih=>rw [List.replicate_succ,List.replicate_succ,yv,yv]; exact DG hz ih
theorem jQ (zero:Array Value) (c:Nat):((Array.range (c * zero.size)).map (zero[· % zero.size]!)).toList=(yx c zero.toList).flatten:=by
 apply List.ext_getElem?;intro j;have da:(yx c zero.toList).flatten.length=c * zero.size:=by simp
 rcases Nat.lt_or_ge j (c * zero.size) with h | h
 ·have pb:0<zero.size:=by
   rcases yT zero.size with h0 | h0
   ·rw [h0] at h; simp at h
   ·exact h0
  have hm:=Nat.mod_lt j pb;have e1:((Array.range (c * zero.size)).map (zero[· % zero.size]!)).toList[j]?=some zero[j % zero.size]:=by
   simp [h,hm]
  rw [e1];clear e1 da
  induction c generalizing j with
  | zero=>simp at h
  | succ c ih =>
   rw [List.replicate_succ,yv];rcases Nat.lt_or_ge j zero.size with h1 | h1
   ·rw [yL (by simpa using h1)];have:j % zero.size=j:=Nat.mod_eq_of_lt h1;simp [this,h1]
   ·rw [yE (by simpa using h1)];have h2:j - zero.size<c * zero.size:=by rw [yM] at h; omega
    have h3:(j - zero.size) % zero.size=j % zero.size:=by
     conv=>rhs; rw [show j=(j - zero.size) + zero.size from by omega,Nat.add_mod_right]
    have:=ih (j - zero.size) h2 (Nat.mod_lt _ pb);simp only [yP] at this ⊢;rw [<- this];simp [h3]
 ·rw [Y07 (by simpa using h),Y07 (by omega)]
theorem op_mks (R:DB P O nt B F0 aa w0 D s a w ι Θ) {t e:TypeId} {i:TypeInfo} {zero:List AV} (ht:P.underlying t=some (.slice e)) (hi:P.info? e=some i) (hz:cI P e=some zero) (oc:zero.length=i.size) {X Y:Operand} {x y:bB} (hx:opd X=some x) (hy:opd Y=some y) (ho:o.op=.makeSlice t X Y) {d:Nat} (ka:o.dst=some d) (hd:d<nt) (hD:¬ D d)
  {call} {xe:rA × SC} (hr:(K.mks i.size i.bytes zero x y).run call s=some xe) {g} {s':pA} (he:WA.eff ⟨o.dst,.mks i.size i.bytes zero x y,g⟩ s xe=some s') :
  ∃ v w',(execOp a.eval o).run P w=.ok (.value v) w'/\WD P O nt B F0 aa w0 (fun t=>D t\/t=d) s' (a.put o.dst v) w':=by
 obtain ⟨z,i',bd,bq,si,hl⟩:=BF hz w;rw [hi] at bd;injection bd with bd;subst bd;have hX:=(R.opd hx).1;have hY:=(R.opd hy).1;simp only [K.run] at hr;split at hr
 ·rename_i l c hln hcn;obtain ⟨k1,n1,h1,sw,uw⟩:=nK hln;obtain ⟨k2,n2,h2,h20,h21⟩:=nK hcn;rw [h1,JA] at hX;rw [h2,JA] at hY;split at hr
  ·rename_i ia;obtain ⟨iw,xg,ff,_⟩:=ia;injection hr with hr;subst hr;simp only [WA.eff,ka] at he;injection he with he;subst he;have ti:z.cells.size=i.size:=by
    have:=nF hl;simp only [yP] at this;omega
   have hc2:n2=(c:Int):=by omega
   have ix:(i.bytes:Int) * n2<=281474976710656:=by
    rw [hc2,<- Int.natCast_mul,Nat.mul_comm];omega
   have ol:madeCells z.cells (c * i.size)=(yx c z.cells.toList).flatten.toArray:=by
    have h:=jQ z.cells c;rw [ti] at h;unfold madeCells;rw [<- ti] at h;rw [<- ti];have h':=congrArg List.toArray h;rw [yX] at h';exact h'
   have na:(execOp a.eval o).run P w=.ok (.value (.slice (some ⟨w.heap.size,0,none⟩) l c)) (w.alloc (.cells (yx c z.cells.toList).flatten.toArray e)):=by
    have:=run_make (P:=P) w t e i z ht hi bq k1 k2 n1 n2 sw (by omega) ix (by omega);rw [uw,h21,ol] at this;simp [execOp,ho,hX,hY,this]
   refine ⟨_,_,na,?_⟩;rw [ka];have ja:aD ι Θ (BB aa ι Θ) w ((yx c zero).flatten.map fun v=>(⟨v,.no⟩:rA)) (yx c z.cells.toList).flatten.toArray:=aD.of (by
    rw [y5,show ((fun x:rA=>x.v) ∘ fun v=>(⟨v,.no⟩:rA))=id from rfl,List.map_id];exact kQ _ _ (PH hl _ _) c) (fun j x u hx _=>by
    rw [yc] at hx;cases rq:(yx c zero).flatten[j]? with
    | none=>rw [rq] at hx; cases hx
    | some v=>rw [rq] at hx; injection hx with hx; subst hx; trivial)
   exact let ⟨ι',h⟩:=R.new hd hD e ja (x:=.ref d s.next i.size 0 l c) (v:=.slice (some ⟨w.heap.size,0,none⟩) l c) (fun ι' h hz=>⟨_,h,iw,c,yf _,by rw [hz,yr]; simp [List.length_flatten,ti],rfl⟩); ⟨ι',Θ,h⟩
  ·cases hr
 ·cases hr
end
end
section
open Go Go.RowKit
section
variable {P:Program} {O:XE} {nt B:Nat} {F0:BN} {aa:Av} {w0:World} {D:Nat->Prop} {s:pA} {a:Act} {w w':World} {ι:Ix} {Θ:aJ} {o:Oper}
theorem DB.alloc (R:DB P O nt B F0 aa w0 D s a w ι Θ) (ob:Obj):DB P O nt B F0 aa w0 D s a (w.alloc ob) ι Θ :=
 R.grow (fun b hb=>Below.heap_alloc w _ b hb) (by simp) (R.kept.alloc _)
theorem FG {av:Av}:∀ {xs:List AV} {us:List Value},SA ι av w xs us->(∀ x∈xs,x.free0=true)->rB av w xs us
 | [],_,h,_=>by simpa [rB,SA] using h
 | x :: r,_,h,hf=>by
  simp only [SA] at h;obtain ⟨u,db,rfl,h0,h1,h⟩:=h;refine ⟨u,db,rfl,?_,h1,FG h fun y hy=>hf y (yG _ hy)⟩;have hx:=hf x (yp);cases x <;> first | exact h0 | (simp [AV.free0] at hx; done)
theorem sU (sz:Nat):∀ (ps:List (Nat × bB)) (k:Nat) (A Z:List AV),ps.map (·.1)=List.range' k ps.length->A.length=k * sz->Z.length=ps.length * sz->(∀ p∈ps,(p.2.get s).cells.length=sz) →
  ZS (A++Z) (ps.map fun p=>(p.1 * sz,sz,(p.2.get s).cells))=some (A++(ps.map fun p=>(p.2.get s).cells).flatten)
 | [],k,A,Z,_,_,hz,_=>by
  have:Z=[]:=Y00 (by simpa using hz);subst this;simp [ZS]
 | (i,y) :: ps,k,A,Z,hp,hA,hZ,hl=>by
  simp only [yk,yA,List.range'_succ] at hp;injection hp with h1 h2;subst h1;have hy:(y.get s).cells.length=sz:=hl (_,y) (yp);simp only [yA] at hZ;have hZ2:sz<=Z.length:=by rw [hZ,yM]; omega
  simp only [yk,ZS];rw [if_pos ⟨hy,by simp [hA]; omega⟩];have e1:(A++Z).take (i * sz)=A:=by rw [<- hA]; exact List.take_left
  have e2:(A++Z).drop (i * sz + sz)=Z.drop sz:=by rw [List.drop_append,<- hA,yn (by omega),yW]; congr 1; omega
  rw [e1,e2];have:=sU sz ps (i + 1) (A++(y.get s).cells) (Z.drop sz) h2 (by rw [yb,hA,hy,yM]) (by rw [yC,hZ,yM]; omega) (fun p hp=>hl p (yG _ hp));rw [this];simp
theorem XR (sz:Nat):∀ (ps:List (Nat × bB)),HP (fun i=>some (i * sz,sz)) ps=some (ps.map fun p=>(p.1 * sz,sz,p.2))
 | []=>rfl
 | (i,x) :: r=>by simp [HP,XR sz r]
theorem op_bsl (R:DB P O nt B F0 aa w0 D s a w ι Θ) {t e:TypeId} {n z:Nat} {zero:List AV} (ht:P.underlying t=some (.slice e)) (hz:cI P e=some zero) (hs:CB P e=some z) (oc:zero.length=z) (pb:0<z) (hmax:n * z<=16777216) {ps:Array (Nat × Operand)} {ys:List (Nat × bB)} (hy:opds ps.toList=some ys) (ho:o.op=.buildSlice t n ps)
  {call} {x:rA} {ef:SC} (hr:(K.bsl zero n ys).run call s=some (x,ef)):ef=.none/\∃ v w',(execOp a.eval o).run P w=.ok (.value v) w'/\DB P O nt B F0 aa w0 D s a w' ι Θ/\GA ι (BB aa ι Θ) (eC ι Θ) w' x.v v/\kJ Θ x.a v:=by
 obtain ⟨zv,i',bd,bq,si,hl⟩:=BF hz w;have hisz:i'.size=z:=by simp [CB,bd] at hs; exact hs
 have ti:zv.cells.size=z:=by
  have:=nF hl;simp only [yP] at this;omega
 simp only [K.run] at hr;split at hr
 ·rename_i ia;obtain ⟨ki,bc⟩:=ia;injection hr with hr; injection hr with e1 e2; subst e1; subst e2;have fd:∀ p∈ys,(p.2.get s).free=true/\(p.2.get s).cells.length=zero.length:=fun p hp=>by
   have:=y8.1 bc p hp;simpa using this
  have hn:ys.length=n:=by
   have:=congrArg List.length ki;simpa using this
  have jl:=sU (s:=s) z ys 0 [] (yx n zero).flatten (by rw [ki,List.range_eq_range',hn]) (by simp) (by simp [hn,oc]) (fun p hp=>by rw [(fd p hp).2,oc]);rw [yW,yW] at jl;have hwhole:∀ p∈ys,(p.2.get s).whole=true:=fun p hp=>by
   have:=(fd p hp).1;generalize p.2.get s=v at this;cases v <;> first | rfl | (simp [AV.free,AV.free0] at this; done)
  have hp:=XR z ys;have ol:((Array.range (n * z)).map (((if n * z=0 then (#[]:Array Value) else zv.cells)[· % (if n * z=0 then (#[]:Array Value) else zv.cells).size]!))).toList=(yx n zv.cells.toList).flatten:=by
   rcases yT n with h0 | h0
   ·subst h0; simp
   ·have:¬ n * z=0:=by have:=Nat.mul_pos h0 pb; omega
    simp only [if_neg this];rw [<- ti];exact jQ zv.cells n
  obtain ⟨db,h1,h2⟩:=XS (pl:=fun i=>some (i * z,z)) (ι:=ι) (av:=BB aa ι Θ) (avb:=eC ι Θ) (w:=w) (s:=s) (a:=a) rfl (fun X y h=>(R.opd h).1) hy hp (fun p hp=>by
   obtain ⟨q,hq,rfl⟩:=yQ.1 hp;exact hwhole q hq) (by rw [y5]; exact jl) (us:=(Array.range (n * z)).map (((if n * z=0 then (#[]:Array Value) else zv.cells)[· % (if n * z=0 then (#[]:Array Value) else zv.cells).size]!))) (by
    rw [ol];exact kQ _ _ (PH hl _ _) n)
  have na:(execOp a.eval o).run P w=.ok (.value (.slice (some ⟨w.heap.size,0,none⟩) n n)) (w.alloc (.cells db e)):=by
   have h3:Instr.fill (fun i=>some (i * z,z)) ((Array.range (n * z)).map (((if n * z=0 then (#[]:Array Value) else zv.cells)[· % (if n * z=0 then (#[]:Array Value) else zv.cells).size]!))) (ps.map fun (i,x)=>(i,a.eval x)).toList=some db:=by
    rw [Array.toList_map];exact h1
   have sb:¬ (n * z > 2 ^ 24):=by omega
   by_cases h0:n * z=0
   ·simp only [if_pos h0] at h3;simp only [execOp,ho,Instr.buildSlice,Sem.run_bind,run_underlying ht,Result.andThen_ok,jC hs,if_neg sb,if_pos h0,Sem.run_pure,h3,newRow,run_newObj_alloc]
   ·simp only [if_neg h0] at h3;simp only [execOp,ho,Instr.buildSlice,Sem.run_bind,run_underlying ht,Result.andThen_ok,jC hs,if_neg sb,if_neg h0,Sem.run_pure,si,h3,newRow,run_newObj_alloc]
  refine ⟨rfl,_,_,na,R.alloc _,?_,⟨_,_,rfl⟩⟩;have R':=R.alloc (.cells db e);have hA:FA (BB aa ι Θ) (BB aa ι Θ) w (w.alloc (.cells db e)):=FA.grown (fun b hb=>Below.heap_alloc w _ b hb) fun _ _ _ h=>h
  rw [WC];simp only [ID];have da:(ys.map fun p=>(p.2.get s).cells).length=n:=by simp [hn]
  refine ⟨_,n,by rw [da],by rw [da]; exact yf _,fun x hx y hy=>?_,(fun h=>by cases h),fun _=>⟨fun h=>(by cases h),fun _=>⟨w.heap.size,0,rfl,?_⟩⟩⟩
  ·obtain ⟨p,hp,rfl⟩:=yQ.1 hx;obtain ⟨q,hq,rfl⟩:=yQ.1 hy;rw [(fd p hp).2,(fd q hq).2]
  ·rw [XD];have df:∀ x∈(ys.map fun p=>(p.2.get s).cells).flatten,x.free0=true:=fun x hx=>by
    obtain ⟨l,hl,hx⟩:=List.mem_flatten.1 hx;obtain ⟨p,hp,rfl⟩:=yQ.1 hl;have:=(fd p hp).1;generalize p.2.get s=v at this hx;cases v <;> first | (simp [AV.cells] at hx; subst hx; exact this) | exact y8.1 this x hx
   refine zJ (rB.held hA _ _ (FG h2 df)) fun j u hu=>⟨?_,fun h=>?_⟩
   ·rw [yr,cell_of_row _ w.heap.size j db e (0,0) (OR rfl)];simpa using hu
   ·have:=R.low h;omega
 ·cases hr
theorem set_run {t:TypeId} {z:Nat} (hz:CB P t=some z) {b off:Nat} {cur:Array Value} {ty:TypeId} (hb:w.heap[b]?=some (.cells cur ty (0,0))) {v:Value} (hv:v.cells.size=z) (sb:off + z<=cur.size) (h1:∀ u∈v.cells.toList,u.oneCell'=true) :
  (Instr.storeAt t (.pointer (some ⟨b,off,none⟩)) v).run P w=.ok () (w.setRow b (cur.toList.take off++v.cells.toList++cur.toList.drop (off + z)).toArray):=by
 have ac:=run_storeCells_at P b off ty v.cells.toList 0 cur w hb (by simp [hv]; omega) h1;simp only [yJ,yP,hv] at ac;simp [Instr.storeAt,Instr.sureAddr,storeVar,jC hz,hv,ac]
theorem DB.set (R:DB P O nt B F0 aa w0 D s a w ι Θ) {t n b:Nat} {cur:Array Value} {ty:TypeId} (hb:ι t n=some b) (zc:ι.ob t n=none) (ra:w.heap[b]?=some (.cells cur ty (0,0))) {r:List rA} {new:Array Value} (ja:aD ι Θ (BB aa ι Θ) w r new) (cj:B<=b\/F0.r b) (hnz:new.size=ι.z b) :
  DB P O nt B F0 aa w0 D (s.setRow t n r) a (w.setRow b new) ι Θ:=by
 have za:∀ b',b'≠b->(w.setRow b new).heap[b']?=w.heap[b']?:=fun b' h=>setRow_other w b b' new h
 have jd:(w.setRow b new).heap[b]?=some (.cells new ty (0,0)):=setRow_heap w b cur new ty (0,0) ra;have hB:FA (eC ι Θ) (eC ι Θ) w (w.setRow b new):=⟨fun b' o u hc hn=>by
  have:b'≠b:=fun e=>hn (.inl (.inl ⟨t,n,e ▸ hb⟩))
  exact ⟨(World.cell?_of_block (w:=w) (a:=⟨b',o,none⟩) (za b' this)).trans hc,hn⟩⟩
 have hA:FA (BB aa ι Θ) (BB aa ι Θ) w (w.setRow b new):=⟨fun b' o u hc hn=>by
  have:b'≠b:=fun e=>hn (.inr (.inl (.inl ⟨t,n,e ▸ hb⟩)))
  exact ⟨(World.cell?_of_block (w:=w) (a:=⟨b',o,none⟩) (za b' this)).trans hc,hn⟩⟩
 have xu:=R.mine t n b hb;refine ⟨R.defers,R.size,fun t=>GA.held (Ix.Le.refl _) hA hB _ _ (R.env t),R.ann,fun t' n' r' hr=>?_,fun t n b h=>?_,R.inj,fun k o h=>?_,R.tinj,R.apart,R.out,R.pin,?_,R.base,fun t' n' S h=>?_,fun t n H h=>(R.obs t n H h).grow (by simp),fun t=>GA.held (Ix.Le.refl _) hA hB _ _ (R.gen t),R.gann⟩
 ·simp only [pA.setRow] at hr;split at hr
  ·rename_i e;injection hr with hr;subst hr;exact ⟨by rw [e.1,e.2]; exact zc,b,new,ty,by rw [e.1,e.2]; exact hb,jd,ja.held (Ix.Le.refl _) hA (fun _ _ h=>h),cj,hnz⟩
  ·rename_i e;obtain ⟨h0,b',ua,uh,h1,h2,h3,h4⟩:=R.rows t' n' r' hr;have:b'≠b:=fun e'=>e (R.inj _ _ _ _ _ (e' ▸ h1) hb)
   exact ⟨h0,b',ua,uh,h1,(za b' this).trans h2,h3.held (Ix.Le.refl _) hA (fun _ _ h=>h),h4⟩
 ·obtain ⟨h1,h2,h3⟩:=R.mine t n b h;exact ⟨h1,by simpa using h2,h3⟩
 ·obtain ⟨h1,h2,h3,h4,ua,h5,h6⟩:=R.tok k o h;have:o.g≠b:=fun e=>R.apart k o t n h (e ▸ hb)
  exact ⟨h1,h2,h3,h4,ua,(za _ this).trans h5,h6⟩
 ·refine R.kept.setRow (fun ba=>?_) _;rcases xu.1 with h | h
  ·have:=R.base; omega
  ·exact h
 ·obtain ⟨p,H,h1,h2,h3,h4⟩:=R.objs t' n' S h;have ep:∀ b',H b'->b'≠b:=fun b' hH e=>by
   subst e;have:=((R.obs _ _ _ h2).1 _ hH).2.2.1 t n hb;rw [this.1,this.2,h2] at zc;cases zc
  exact ⟨p,H,h1,h2,O.keep h3 (fun b' hH=>za b' (ep b' hH)) (by simp),h4.keep (fun t n b H h g=>⟨h,H,g⟩) fun x hx=>(za p (ep p (O.main h3))).trans hx⟩
theorem aD.splice {av:Av} {r:List rA} {cur:Array Value} (h:aD ι Θ av w r cur) {off z:Nat} {m:List rA} {us:Array Value} (hm:aD ι Θ av w m us) (de:us.size=m.length) (hz:m.length=z) (sb:off + z<=r.length):aD ι Θ av w (r.take off++m++r.drop (off + z)) (cur.toList.take off++us.toList++cur.toList.drop (off + z)).toArray:=by
 obtain ⟨h1,h2⟩:=h;obtain ⟨m1,m2⟩:=hm;have hl:r.length<=cur.toList.length:=by simpa using h1
 refine ⟨by simp only [yb,ym,yC,yO,yP,de] at *; omega,fun j x hx=>?_⟩;have ht:(r.take off).length=off:=by rw [ym]; omega
 have ht':(cur.toList.take off).length=off:=by rw [ym]; omega
 simp only [List.getElem?_toArray];rcases Nat.lt_or_ge j off with hj | hj
 ·rw [yo,yL (by omega),yy] at hx;rw [yo,yL (by omega),yy];rw [if_pos hj] at hx ⊢;obtain ⟨u,hu,h⟩:=h2 j x hx;exact ⟨u,by simpa using hu,h⟩
 ·rcases Nat.lt_or_ge j (off + z) with hj2 | hj2
  ·rw [yo,yE (by omega),yL (by omega),ht] at hx;rw [yo,yE (by omega),yL (by simp [de]; omega),ht'];obtain ⟨u,hu,h⟩:=m2 _ x hx;exact ⟨u,by simpa using hu,h⟩
  ·rw [yo,yE (by omega),yE (by omega),ht,yu] at hx;rw [yo,yE (by omega),yE (by simp [de]; omega),ht',yu];obtain ⟨u,hu,h⟩:=h2 _ x hx;refine ⟨u,?_,h⟩;have:us.toList.length=m.length:=by simpa using de
   rw [this];simpa using hu
theorem op_store (R:DB P O nt B F0 aa w0 D s a w ι Θ) {t:TypeId} {agg:Bool} {z:Nat} (hz:CB P t=some z) (hag:agg=true\/z=1) {X Y:Operand} {x y:bB} (hx:opd X=some x) (hy:opd Y=some y) (ho:o.op=.store t X Y) (hd:∀ d,o.dst=some d->d<nt) {cl:Cl} {call} {xe:rA × SC} (hr:(K.store cl agg z x y).run call s=some xe) {g} {s':pA} (he:WA.eff ⟨o.dst,.store cl agg z x y,g⟩ s xe=some s') :
  ∃ w',(execOp a.eval o).run P w=.ok .skip w'/\WD P O nt B F0 aa w0 D s' (a.put o.dst undef) w':=by
 have hX:=(R.opd hx).1;have hY:=R.opd hy;simp only [K.run] at hr;split at hr
 ·rename_i t' n off md;rw [md,KF] at hX;obtain ⟨b,hb,hv⟩:=hX;split at hr
  ·cases hm:s.mem t' n with
   | none=>rw [hm] at hr; cases hr
   | some r =>
    rw [hm,J] at hr;cases hs:uA agg z off r (y.get s) (y.an s) with
    | none=>rw [hs] at hr; cases hr
    | some r' =>
     rw [hs] at hr;injection hr with hr;subst hr;simp only [WA.eff] at he;injection he with he;subst he;obtain ⟨sh,b',cur,ty,jb,ra,ja,cj,xk⟩:=R.rows t' n r hm;rw [hb] at jb;injection jb with jb;subst jb;have mI:∀ (m:List rA) (us:Array Value),r'=r.take off++m++r.drop (off + z)->m.length=z->off + z<=r.length->(a.eval Y).cells=us->us.size=m.length->aD ι Θ (BB aa ι Θ) w m us->∃ w',(execOp a.eval o).run P w=.ok .skip w'/\WD P O nt B F0 aa w0 D ((s.setRow t' n r').put o.dst ⟨.undef,.no⟩) (a.put o.dst undef) w':=fun m us h1 h2 h3 h4 h4' h5=>by
      have oc:(a.eval Y).cells.size=z:=by rw [h4,h4',h2]
      have ii:∀ u∈(a.eval Y).cells.toList,u.oneCell'=true:=fun u hu=>by
       rw [h4] at hu;obtain ⟨j,hj,rfl⟩:=List.getElem_of_mem hu;have hjm:j<m.length:=by simp at hj; omega
       obtain ⟨u',wr,h6,_⟩:=h5.2 j m[j] (yg hjm);have:us[j]?=some (us.toList[j]):=by simp at hj ⊢
       rw [this] at wr;injection wr with wr;rw [wr];exact h6
      have na:=set_run (P:=P) hz ra oc (yB h3 ja.1) ii;refine ⟨w.setRow b (cur.toList.take off++(a.eval Y).cells.toList++cur.toList.drop (off + z)).toArray,by simp only [execOp,ho,hv,Sem.run_bind,na,Result.andThen_ok,Sem.run_pure],ι,Θ,DB.putN ?_ hd trivial trivial⟩;rw [h4];subst h1;exact R.set hb sh ra (ja.splice h5 h4' h2 h3) cj (by
       rw [<- xk];have h6:=ja.1;simp only [yO,yb,ym,yC,yP];omega)
     cases agg with
     | true =>
      simp only [uA,if_true] at hs;split at hs
      ·rename_i cs ao;split at hs
       ·rename_i ia;injection hs with hs;rw [ao] at hY;obtain ⟨us,hu,hc⟩:=hY.1;refine mI (cs.map (⟨·,.no⟩)) us hs.symm (by simpa using ia.1) ia.2 (by rw [hu]; rfl) (by have:=mC hc; simpa using this) ?_;have:=aD.of (Θ:=Θ) (r:=cs.map fun v=>(⟨v,.no⟩:rA)) (cur:=us.toList) (ι:=ι) (w:=w) (av:=BB aa ι Θ) (by rw [y5,show ((fun x:rA=>x.v) ∘ fun v=>(⟨v,.no⟩:rA))=id from rfl,List.map_id]; exact hc) (fun j x u hx _=>by
         rw [yc] at hx;cases rq:cs[j]? with
         | none=>rw [rq] at hx; cases hx
         | some v=>rw [rq] at hx; injection hx with hx; subst hx; trivial)
        simpa using this
       ·cases hs
      ·cases hs
     | false =>
      have eh:z=1:=by rcases hag with h | h; cases h; exact h
      subst eh;simp only [uA,yI,if_false] at hs;split at hs
      ·rename_i ia;injection hs with hs;obtain ⟨h1,h2⟩:=TY hY.1 ia.1;have hc:(a.eval Y).cells=#[a.eval Y]:=by
        generalize a.eval Y=u at *
        cases u <;> first | rfl | (simp [Value.oneCell'] at h2; done)
       refine mI [⟨y.get s,y.an s⟩] #[a.eval Y] ?_ rfl (by have:=ia.2; omega) hc rfl ⟨yf _,fun j x hx=>?_⟩
       ·rw [<- hs,List.set_eq_take_append_cons_drop,if_pos ia.2];simp
       ·cases j with
        | zero=>simp at hx; subst hx; exact ⟨a.eval Y,rfl,h2,h1,hY.2⟩
        | succ j=>simp at hx
      ·cases hs
  ·cases hr
 ·cases hr
theorem NT {av:Av}:∀ {xs:List AV} {us:List Value},SA ι av w xs us->∀ u∈us,u.oneCell'=true
 | [],us,h,u,hu=>by simp only [SA] at h; subst h; cases hu
 | x :: r,us,h,u,hu=>by
  simp only [SA] at h;obtain ⟨u',db,rfl,_,h1,h⟩:=h;rcases yw.1 hu with rfl | hu
  ·exact h1
  ·exact NT h u hu
theorem op_clr (R:DB P O nt B F0 aa w0 D s a w ι Θ) {t e:TypeId} {zero:List AV} (ht:P.underlying t=some (.slice e)) (hz:cI P e=some zero) {X:Operand} {x:bB} (hx:opd X=some x) (ho:o.op=.call { callee:=.builtin .clear,args:=#[X],argTypes:=#[t] }) (hd:∀ d,o.dst=some d->d<nt) {cl:Cl} {call} {xe:rA × SC} (hr:(K.clr cl zero x).run call s=some xe) {g} {s':pA} (he:WA.eff ⟨o.dst,.clr cl zero x,g⟩ s xe=some s') :
  ∃ v w',(execOp a.eval o).run P w=.ok (.value v) w'/\WD P O nt B F0 aa w0 D s' (a.put o.dst v) w':=by
 obtain ⟨z,i',bd,bq,si,hl⟩:=BF hz w;have hX:=(R.opd hx).1;simp only [K.run] at hr;split at hr
 ·rename_i nl hy;rw [hy,WC] at hX;simp only [ID] at hX;obtain ⟨A,c,hv,_⟩:=hX;injection hr with hr;subst hr;simp only [WA.eff] at he;injection he with he;subst he;refine ⟨.tuple #[],w,?_,ι,Θ,R.putN hd trivial trivial⟩;cases A <;> simp [execOp,ho,resolve,invoke,builtin,Builtin.clear_,run_underlying ht,hv]
 ·rename_i t' n sz off ln cap hy;rw [hy] at hX;obtain ⟨b,hb,_,c,_,_,hv⟩:=hX;split at hr
  ·rename_i ia;obtain ⟨_,hzl,hln⟩:=ia;cases hm:s.mem t' n with
   | none=>rw [hm] at hr; cases hr
   | some r =>
    rw [hm,J] at hr;unfold clrC at hr;split at hr
    ·rename_i sb;injection hr with hr;subst hr;simp only [WA.eff] at he;injection he with he;subst he;obtain ⟨sh,b',cur,ty,jb,ra,ja,cj,xk⟩:=R.rows t' n r hm;rw [hb] at jb;injection jb with jb;subst jb;have ti:z.cells.size=zero.length:=by
      have:=nF hl;simp only [yP] at this;omega
     have hzc:(Builtin.zeroCells z.cells ln).toList=(yx ln z.cells.toList).flatten:=jQ z.cells ln;have hRep:=kQ (ι:=ι) (w:=w) z.cells.toList (BB aa ι Θ) (PH hl _ _) ln;have da:(yx ln z.cells.toList).flatten.length=ln * zero.length:=by simp [ti]
     have ii:∀ u∈(yx ln z.cells.toList).flatten,u.oneCell'=true:=NT hRep;have ac:=run_storeCells_at P b off ty (yx ln z.cells.toList).flatten 0 cur w ra (by have:=ja.1; omega) ii;simp only [yJ,da] at ac;obtain ⟨m,rfl⟩:∃ m,ln=m + 1:=⟨ln - 1,by omega⟩;have na:(execOp a.eval o).run P w=.ok (.value (.tuple #[])) (w.setRow b (cur.toList.take off++(yx (m + 1) z.cells.toList).flatten++cur.toList.drop (off + (m + 1) * zero.length)).toArray):=by
      simp [execOp,ho,resolve,invoke,builtin,Builtin.clear_,run_underlying ht,hv,si,hzc,ac]
     refine ⟨_,_,na,ι,Θ,DB.putN ?_ hd trivial trivial⟩;have pe:aD ι Θ (BB aa ι Θ) w (xA (yx (m + 1) zero)) (yx (m + 1) z.cells.toList).flatten.toArray:=aD.of (by
      unfold xA;rw [y5,show ((fun x:rA=>x.v) ∘ fun v=>(⟨v,.no⟩:rA))=id from rfl,List.map_id];exact hRep) (fun j x u hx _=>by
      unfold xA at hx;rw [yc] at hx;cases rq:(yx (m + 1) zero).flatten[j]? with
      | none=>rw [rq] at hx; cases hx
      | some v=>rw [rq] at hx; injection hx with hx; subst hx; trivial)
     have oc:(yx (m + 1) z.cells.toList).flatten.toArray.size=(xA (yx (m + 1) zero)).length:=by simp [xA,ti]
     have hzl2:(xA (yx (m + 1) zero)).length=(m + 1) * zero.length:=by simp [xA]
     have:=ja.splice pe oc hzl2 sb;exact R.set hb sh ra this cj (by
      rw [<- xk];have h6:=ja.1;simp only [yO,yb,ym,yC,yP,da];omega)
    ·cases hr
  ·cases hr
 ·cases hr
end
end
section
section
variable {call:uB} {s s':pA}
def xX (s s':pA) (l:List bB):Prop:=∀ o∈l,o.get s=o.get s'/\o.an s=o.an s'
def K.reads (k:K) (t:Nat):Prop:=match k.cl with
 | none=>False
 | some .imm=>False
 | some (.root r)=>t=r
 | some (.out L)=>L.contains t=false
 | some .any=>True
theorem U6 {cl:Cl} (hm:cl.okMem=true->∀ t n,s.mem t n=s'.mem t n) (v:AV):TP s cl v=TP s' cl v:=by
 cases v <;> simp only [TP]
 split
 ·rename_i sa; rw [hm sa]
 ·rfl
theorem EN {cl:Cl} (hm:cl.okMem=true->∀ t n,s.mem t n=s'.mem t n):∀ (l:List AV),kD s cl l=kD s' cl l
 | []=>rfl
 | x :: r=>by simp only [kD,U6 hm x,EN hm r]
section
variable {cl:Cl} (hm:cl.okMem=true->∀ t n,s.mem t n=s'.mem t n) (ub:s.obj=s'.obj) (v:AV)
include cl hm ub v
theorem TR:oT s cl v=oT s' cl v:=by
 unfold oT;split
 ·split
  ·rename_i sa; rw [hm sa]
  ·rfl
 ·rfl
 ·rfl
 ·rw [ub]
 ·rfl
theorem R6:ZE s cl v=ZE s' cl v:=by
 have:=TR hm ub v;cases v <;> simp only [ZE,EN hm] <;> exact this
end
theorem XF {cl:Cl} (hm:cl.okMem=true->∀ t n,s.mem t n=s'.mem t n) (ub:s.obj=s'.obj):∀ {xs:List bB},xX s s' xs->JD s cl xs=JD s' cl xs
 | [],_=>rfl
 | x :: r,h=>by
  have h1:=h x (yp);have h2:=XF hm ub (xs:=r) fun o ho=>h o (yG _ ho)
  unfold JD;rw [h2,h1.1];rw [R6 hm ub]
theorem pT {cl:Cl} {t n:Nat} (hm:cl.okMem=true->∀ t n,s.mem t n=s'.mem t n) (ub:s.obj=s'.obj):∀ {xs:List bB},xX s s' xs->NI s cl t n xs=NI s' cl t n xs
 | [],_=>rfl
 | x :: r,h=>by
  have h1:=h x (yp);have h2:=pT (t:=t) (n:=n) hm ub (xs:=r) fun o ho=>h o (yG _ ho)
  unfold NI;rw [h2,h1.1];have:pW s cl t n (x.get s')=pW s' cl t n (x.get s'):=by
   unfold pW;split
   ·rfl
   ·rw [TR hm ub]
   ·rfl
   ·rw [TR hm ub]
  rw [this]
theorem fI {xs:List bB} (h:xX s s' xs):NF s xs=NF s' xs:=by
 induction xs with
 | nil=>rfl
 | cons x r ih =>
  have h1:=h x (yp);unfold NF at ih ⊢;rw [List.filterMap_cons,List.filterMap_cons,h1.1,ih fun o ho=>h o (yG _ ho)]
section
variable {cl:Cl} (hm:cl.okMem=true->∀ t n,s.mem t n=s'.mem t n) (v:AV)
include cl hm v
theorem TJ:v.elems s cl=v.elems s' cl:=by
 cases v <;> simp only [AV.elems]
 split
 ·rename_i sa; rw [hm sa]
 ·rfl
theorem F8:v.raws s cl=v.raws s' cl:=by
 cases v <;> simp only [AV.raws]
 case ref t n sz off len c =>
  split
  ·rename_i h; rw [hm h t n]
  ·rfl
end
theorem QN {d:Nat} {o:Option bB} (h:xX s s' o.toList):XI s d o=XI s' d o:=by
 cases o with
 | none=>rfl
 | some o=>simp only [XI]; rw [(h o (by simp)).1]
theorem frz_congr {s s':pA} (hm:∀ t n,s.mem t n=s'.mem t n) (v:AV):v.frz s=v.frz s':=by
 have e:s.mem=s'.mem:=funext fun t=>funext fun n=>hm t n
 have h1:∀ v:AV,v.frz1 s=v.frz1 s':=fun v=>by cases v <;> simp only [AV.frz1,e]
 have zo:AV.frz1 s=AV.frz1 s':=funext h1;have h0:∀ v:AV,v.frz0 s=v.frz0 s':=fun v=>by cases v <;> simp only [AV.frz0,jX,e,zo]
 have fh:AV.frz0 s=AV.frz0 s':=funext h0;cases v <;> simp only [AV.frz,h0,fh]
theorem zQ (k:K) (h:xX s s' k.opds) (hm:∀ t n,k.reads t->s.mem t n=s'.mem t n) (ub:CT k=true->s.obj=s'.obj):k.run call s=k.run call s':=by
 cases k with
 | mv x=>have h1:=h x (by simp [K.opds]); simp only [K.run,h1.1,h1.2]
 | pick c a b =>
  have h1:=h c (by simp [K.opds]); have h2:=h a (by simp [K.opds]); have h3:=h b (by simp [K.opds]);simp only [K.run,h1.1,h2.1,h2.2,h3.1,h3.2]
 | alloc z=>rfl
 | box z x=>have h1:=h x (by simp [K.opds]); simp only [K.run,h1.1,h1.2]
 | build z ps =>
  have h1:∀ p∈ps,p.2.2.get s=p.2.2.get s':=fun p hp=>(h p.2.2 (yQ.2 ⟨p,hp,rfl⟩)).1
  have e1:ps.all (fun p=>(p.2.2.get s).whole)=ps.all (fun p=>(p.2.2.get s').whole):=by
   rw [Bool.eq_iff_iff,y8,y8];exact ⟨fun h p hp=>by rw [<- h1 p hp]; exact h p hp,fun h p hp=>by rw [h1 p hp]; exact h p hp⟩
  have e2:(ps.map fun p=>(p.1,p.2.1,(p.2.2.get s).cells))=ps.map fun p=>(p.1,p.2.1,(p.2.2.get s').cells):=yH fun p hp=>by rw [h1 p hp]
  simp only [K.run,e1,e2]
 | bsl z n ps =>
  have h1:∀ p∈ps,p.2.get s=p.2.get s':=fun p hp=>(h p.2 (yQ.2 ⟨p,hp,rfl⟩)).1
  have e1:ps.all (fun p=>(p.2.get s).free&&decide ((p.2.get s).cells.length=z.length))=ps.all (fun p=>(p.2.get s').free&&decide ((p.2.get s').cells.length=z.length)):=by
   rw [Bool.eq_iff_iff,y8,y8];exact ⟨fun h p hp=>by rw [<- h1 p hp]; exact h p hp,fun h p hp=>by rw [h1 p hp]; exact h p hp⟩
  have e2:(ps.map fun p=>(p.2.get s).cells)=ps.map fun p=>(p.2.get s').cells:=yH fun p hp=>by rw [h1 p hp]
  simp only [K.run,e1,e2]
 | load cl g z x =>
  have h1:=h x (by simp [K.opds]);simp only [K.run,h1.1];split
  ·rename_i t n off _;split
   ·rename_i sa;rw [hm t n];cases cl with
    | any=>trivial
    | imm=>simp [Cl.okPtr] at sa
    | root r=>simp [Cl.okPtr] at sa; exact sa.symm
    | out L=>show L.contains t=false; simpa [Cl.okPtr] using sa
   ·rfl
  ·rfl
  ·rfl
  ·rfl
 | clr cl z x =>
  have h1:=h x (by simp [K.opds]);simp only [K.run,h1.1];split
  ·rfl
  ·rename_i t n sz off ln _ _;split
   ·rename_i sa;have sa:=sa.1;rw [hm t n];cases cl with
    | any=>trivial
    | imm=>simp [Cl.okPtr] at sa
    | root r=>simp [Cl.okPtr] at sa; exact sa.symm
    | out L=>show L.contains t=false; simpa [Cl.okPtr] using sa
   ·rfl
  ·rfl
 | store cl g z x y =>
  have h1:=h x (by simp [K.opds]); have h2:=h y (by simp [K.opds]);simp only [K.run,h1.1,h2.1,h2.2];split
  ·rename_i t n off _;split
   ·rename_i sa;rw [hm t n];cases cl with
    | any=>trivial
    | imm=>simp [Cl.okPtr] at sa
    | root r=>simp [Cl.okPtr] at sa; exact sa.symm
    | out L=>show L.contains t=false; simpa [Cl.okPtr] using sa
   ·rfl
  ·rfl
 | mm b x y=>have h1:=h x (by simp [K.opds]); have h2:=h y (by simp [K.opds]); simp only [K.run,h1.1,h2.1]
 | bin op b x y=>have h1:=h x (by simp [K.opds]); have h2:=h y (by simp [K.opds]); simp only [K.run,h1.1,h2.1]
 | eqa n ks x y=>have h1:=h x (by simp [K.opds]); have h2:=h y (by simp [K.opds]); simp only [K.run,h1.1,h2.1]
 | eqn n p x y=>have h1:=h x (by simp [K.opds]); have h2:=h y (by simp [K.opds]); simp only [K.run,h1.1,h2.1]
 | un op x=>have h1:=h x (by simp [K.opds]); simp only [K.run,h1.1]
 | conv o x=>have h1:=h x (by simp [K.opds]); simp only [K.run,h1.1]
 | rstr x=>have h1:=h x (by simp [K.opds]); simp only [K.run,h1.1]
 | bstr cl x =>
  have h1:=h x (by simp [K.opds]);have h3:=TJ (cl:=cl) (s:=s) (s':=s') (fun sa t n=>hm t n (by cases cl <;> simp [Cl.okMem] at sa; trivial)) (x.get s');simp only [K.run,h1.1,h3]
 | aslc cl l z x lo hi =>
  have h1:=h x (by simp [K.opds]);have h2:∀ d,XI s d lo=XI s' d lo:=fun d=>QN fun o ho=>h o (by simp only [K.opds,yw,yq]; exact .inr (.inl ho))
  have h3:∀ d,XI s d hi=XI s' d hi:=fun d=>QN fun o ho=>h o (by simp only [K.opds,yw,yq]; exact .inr (.inr ho))
  simp only [K.run,h1.1,h2,h3];split
  ·rename_i t n o _;cases hc:cl.okMem with
   | true=>rw [hm t n (by cases cl <;> simp [Cl.okMem] at hc; trivial)]
   | false =>
    simp only [yI,and_false,if_false];cases XI s' 0 lo <;> try rfl
    cases XI s' l hi <;> try rfl
    cases s.mem t n <;> cases s'.mem t n <;> rfl
  ·rfl
 | mkf f xs =>
  have h1:∀ x∈xs,x.get s=x.get s':=fun x hx=>(h x hx).1
  have e1:xs.all (fun x=>(x.get s).capOk)=xs.all (fun x=>(x.get s').capOk):=by
   rw [Bool.eq_iff_iff,y8,y8];exact ⟨fun h p hp=>by rw [<- h1 p hp]; exact h p hp,fun h p hp=>by rw [h1 p hp]; exact h p hp⟩
  have e2:xs.map (·.get s)=xs.map (·.get s'):=yH h1;simp only [K.run,e1,e2]
 | callv cl x xs =>
  have h0:=h x (by simp [K.opds]);have hx:xX s s' xs:=fun o ho=>h o (by simp [K.opds,ho])
  have wy:cl.okMem=true->∀ t n,s.mem t n=s'.mem t n:=fun sa t n=>hm t n (by cases cl <;> simp [Cl.okMem] at sa; trivial)
  have h1:=XF (cl:=cl) (s:=s) (s':=s') wy (ub rfl) (xs:=xs) hx;have h2:=fI (xs:=xs) hx;have h3:∀ l,kD s cl l=kD s' cl l:=EN wy;simp only [K.run,h0.1,h1,h2,h3]
 | callr cl f xs =>
  have wy:cl.okMem=true->∀ t n,s.mem t n=s'.mem t n:=fun sa t n=>hm t n (by cases cl <;> simp [Cl.okMem] at sa; trivial)
  have h1:∀ t n,NI s cl t n xs=NI s' cl t n xs:=fun t n=>pT wy (ub rfl) (xs:=xs) h
  have h2:kL s xs=kL s' xs:=by
   cases xs with
   | nil=>rfl
   | cons x r=>simp only [kL,(h x (by simp [K.opds])).1]
  simp only [K.run,h1,h2];split
  ·rename_i t n _;split
   ·rename_i sa;rw [hm t n (by cases cl with
     | any=>trivial
     | imm=>simp [Cl.okPtr] at sa
     | root r=>simp [Cl.okPtr] at sa; exact sa.symm
     | out L=>show L.contains t=false; simpa [Cl.okPtr] using sa)]
   ·rfl
  ·rfl
 | callh nt x xs=>rfl
 | nxt x=>rfl
 | slz x=>have h1:=h x (by simp [K.opds]); simp only [K.run,h1.1]
 | ent x=>have h1:=h x (by simp [K.opds]); simp only [K.run,h1.1,ub rfl]
 | rng x=>have h1:=h x (by simp [K.opds]); simp only [K.run,h1.1,ub rfl]
 | mks z b zs x y=>have h1:=h x (by simp [K.opds]); have h2:=h y (by simp [K.opds]); simp only [K.run,h1.1,h2.1]
 | slc st z x lo hi mx =>
  have h1:=h x (by simp [K.opds]);have h2:∀ d,XI s d lo=XI s' d lo:=fun d=>QN fun o ho=>h o (by simp only [K.opds,yw,yq]; exact .inr (.inl ho))
  have h3:∀ d,XI s d hi=XI s' d hi:=fun d=>QN fun o ho=>h o (by simp only [K.opds,yw,yq]; exact .inr (.inr (.inl ho)))
  simp only [K.run,h1.1,h2,h3]
 | faddr f x=>have h1:=h x (by simp [K.opds]); simp only [K.run,h1.1]
 | field g f z x=>have h1:=h x (by simp [K.opds]); simp only [K.run,h1.1]
 | aaddr l z x i=>have h1:=h x (by simp [K.opds]); have h2:=h i (by simp [K.opds]); simp only [K.run,h1.1,h2.1]
 | iaddr z x i=>have h1:=h x (by simp [K.opds]); have h2:=h i (by simp [K.opds]); simp only [K.run,h1.1,h2.1]
 | index x i=>have h1:=h x (by simp [K.opds]); have h2:=h i (by simp [K.opds]); simp only [K.run,h1.1,h2.1]
 | ext x i=>have h1:=h x (by simp [K.opds]); simp only [K.run,h1.1]
 | call cl f xs =>
  have h1:=XF (cl:=cl) (s:=s) (s':=s') (fun sa t n=>hm t n (by cases cl <;> simp [Cl.okMem] at sa; trivial)) (ub rfl) (xs:=xs) h;have h2:=fI (xs:=xs) h;simp only [K.run,h1,h2,ub rfl]
 | callf cl f z xs =>
  have h1:=XF (cl:=cl) (s:=s) (s':=s') (fun sa t n=>hm t n (by cases cl <;> simp [Cl.okMem] at sa; trivial)) (ub rfl) (xs:=xs) h;have h2:=fI (xs:=xs) h;simp only [K.run,h1,h2,ub rfl]
 | callo cl f z xs =>
  have h1:=XF (cl:=cl) (s:=s) (s':=s') (fun sa t n=>hm t n (by cases cl <;> simp [Cl.okMem] at sa; trivial)) (ub rfl) (xs:=xs) h;have h2:=fI (xs:=xs) h;simp only [K.run,h1,h2]
 | calln cl f z L x xs =>
  have hx:=h x yp;have lc:xX s s' xs:=fun o ho=>h o (yG _ ho)
  have h1:=XF (cl:=cl) (s:=s) (s':=s') (fun sa t n=>hm t n (by cases cl <;> simp [Cl.okMem] at sa; trivial)) (ub rfl) lc;have h2:=fI lc;have h3:=TJ (cl:=cl) (s:=s) (s':=s') (fun sa t n=>hm t n (by cases cl <;> simp [Cl.okMem] at sa; trivial));simp only [K.run,h1,h2,h3,hx.1,hx.2]
 | callq cl f xs =>
  by_cases sa:cl.okMem=true
  ·have fc:∀ t n,s.mem t n=s'.mem t n:=fun t n=>hm t n (by cases cl <;> simp [Cl.okMem] at sa; trivial)
   have e:(xs.map fun x=>(x.get s).frz s)=xs.map fun x=>(x.get s').frz s':=yH fun x hx=>by rw [(h x hx).1,frz_congr fc]
   simp only [K.run,e]
  ·simp [K.run,sa]
 | len st x=>have h1:=h x (by simp [K.opds]); simp only [K.run,h1.1]
 | app cl e z b x y =>
  have h1:=h x (by simp [K.opds]); have h2:=h y (by simp [K.opds]);have h3:=TJ (cl:=cl) (s:=s) (s':=s') (fun sa t n=>hm t n (by cases cl <;> simp [Cl.okMem] at sa; trivial)) (y.get s');simp only [K.run,h1.1,h1.2,h2.1,h3]
 | mkm=>rfl
 | bad=>rfl
 | mkb T e=>rfl
 | mget ok ty z x k=>have h1:=h x (by simp [K.opds]); have h2:=h k (by simp [K.opds]); simp only [K.run,h1.1,h2.1,ub rfl]
 | mset ty x k v=>have h1:=h x (by simp [K.opds]); have h2:=h k (by simp [K.opds]); have h3:=h v (by simp [K.opds]); simp only [K.run,h1.1,h2.1,h3.1,ub rfl]
 | mlen x=>have h1:=h x (by simp [K.opds]); simp only [K.run,h1.1,ub rfl]
 | appf cl e z b x y =>
  have h1:=h x (by simp [K.opds]); have h2:=h y (by simp [K.opds]);have h3:∀ v:AV,v.elems s cl=v.elems s' cl:=fun v=>TJ (cl:=cl) (s:=s) (s':=s') (fun sa t n=>hm t n (by cases cl <;> simp [Cl.okMem] at sa; trivial)) v
  simp only [K.run,h1.1,h1.2,h2.1,h3]
 | appm cl e z b x y =>
  have h1:=h x (by simp [K.opds]); have h2:=h y (by simp [K.opds]);have h3:∀ v:AV,v.elems s cl=v.elems s' cl:=fun v=>TJ (cl:=cl) (s:=s) (s':=s') (fun sa t n=>hm t n (by cases cl <;> simp [Cl.okMem] at sa; trivial)) v
  simp only [K.run,h1.1,h1.2,h2.1,h3]
 | appn cl e z b x y =>
  have h1:=h x (by simp [K.opds]); have h2:=h y (by simp [K.opds]);have h3:∀ v:AV,v.raws s cl=v.raws s' cl:=fun v=>F8 (cl:=cl) (s:=s) (s':=s') (fun sa t n=>hm t n (by cases cl <;> simp [Cl.okMem] at sa; trivial)) v
  simp only [K.run,h1.1,h1.2,h2.1,h3]
 | bslr sz z n ps =>
  have h1:∀ p∈ps,p.2.get s=p.2.get s':=fun p hp=>(h p.2 (yQ.2 ⟨p,hp,rfl⟩)).1
  have e1:ps.all (fun p=>(p.2.get s).whole&&decide ((p.2.get s).cells.length=z.length))=ps.all (fun p=>(p.2.get s').whole&&decide ((p.2.get s').cells.length=z.length)):=by
   rw [Bool.eq_iff_iff,y8,y8];exact ⟨fun h p hp=>by rw [<- h1 p hp]; exact h p hp,fun h p hp=>by rw [h1 p hp]; exact h p hp⟩
  have e2:(ps.map fun p=>(p.2.get s).cells)=ps.map fun p=>(p.2.get s').cells:=yH fun p hp=>by rw [h1 p hp]
  simp only [K.run,e1,e2]
 | nilchk x=>have h1:=h x (by simp [K.opds]); simp only [K.run,h1.1]
structure D3 (f:An->An):Prop where
 no:f .no=.no
 ex:f .ex=.ex
 own:∀ k e,f (.own k e)≠.ex
def pA.mapAn (s:pA) (f:An->An):pA:=⟨fun t=>⟨(s.env t).v,f (s.env t).a⟩,fun t n=>(s.mem t n).map (·.map fun x=>⟨x.v,f x.a⟩),s.next,s.obj,fun t=>⟨(s.gh t).v,f (s.gh t).a⟩⟩
def rA.mapAn (f:An->An) (x:rA):rA:=⟨x.v,f x.a⟩
def SC.mapAn (f:An->An):SC->SC
 | .new r=>.new (r.map (rA.mapAn f))
 | .set t n r=>.set t n (r.map (rA.mapAn f))
 | .ob2 t n S r=>.ob2 t n S (r.map (rA.mapAn f))
 | e=>e
theorem IA (f:An->An) (o:bB):o.get (s.mapAn f)=o.get s:=by cases o <;> rfl
theorem W9 {f:An->An} (hf:D3 f) (b:Bool) (a:An):iB b (f a)=f (iB b a):=by
 cases b with
 | true=>exact hf.ex.symm
 | false=>rfl
theorem exB_mapAn {f:An->An} (hf:D3 f) (b:Bool) (a:An):uX b (f a)=uX b a:=by
 unfold uX;rw [W9 hf];cases h:iB b a with
 | no=>rw [hf.no]
 | ex=>rw [hf.ex]
 | own k e =>
  cases h2:f (.own k e) with
  | ex=>exact absurd h2 (hf.own k e)
  | no=>rfl
  | own k' e'=>rfl
theorem bM {f:An->An} (hf:D3 f) (o:bB):o.an (s.mapAn f)=f (o.an s):=by
 cases o with
 | t n=>rfl
 | c v=>cases v <;> first | exact hf.no.symm | (rename_i b l; cases b; exact hf.no.symm; exact hf.ex.symm)
theorem GN (f:An->An) (r:List rA) (sz off len:Nat):UG (r.map (rA.mapAn f)) sz off len=UG r sz off len:=by
 unfold UG;have h1:(r.map (rA.mapAn f)).all (fun x=>x.v.free0)=r.all (fun x=>x.v.free0):=by rw [List.all_map]; rfl
 simp only [y7,h1];congr 1;congr 1;apply yH;intro i _;rw [<- List.map_drop,<- List.map_take,y5];rfl
theorem bP (f:An->An) (cl:Cl) (v:AV):v.elems (s.mapAn f) cl=v.elems s cl:=by
 cases v <;> simp only [AV.elems]
 rename_i t n sz off len cap;split
 ·simp only [pA.mapAn];cases s.mem t n with
  | none=>rfl
  | some r=>exact GN f r sz off len
 ·rfl
theorem I6 (f:An->An) (cl:Cl) (v:AV):TP (s.mapAn f) cl v=TP s cl v:=by
 cases v <;> simp only [TP]
 rename_i t n off;split
 ·simp only [pA.mapAn];cases s.mem t n with
  | none=>rfl
  | some r =>
   simp only [yt,<- List.map_drop,List.all_map,y5];rfl
 ·rfl
theorem RN (f:An->An) (cl:Cl):∀ (l:List AV),kD (s.mapAn f) cl l=kD s cl l
 | []=>rfl
 | x :: r=>by simp only [kD,I6 f cl x,RN f cl r]
theorem UR (f:An->An) (cl:Cl) (v:AV):oT (s.mapAn f) cl v=oT s cl v:=by
 unfold oT;split
 ·rename_i t n sz off len cap;split
  ·simp only [pA.mapAn];cases s.mem t n with
   | none=>rfl
   | some r=>simp only [yt,J]; rw [show (fun x:rA=>(⟨x.v,f x.a⟩:rA))=rA.mapAn f from rfl,GN]
  ·rfl
 ·rfl
 ·rfl
 ·rfl
 ·rfl
theorem T6 (f:An->An) (cl:Cl) (v:AV):ZE (s.mapAn f) cl v=ZE s cl v:=by
 have:=UR (s:=s) f cl v;cases v <;> simp only [ZE,RN] <;> exact this
theorem CF (f:An->An) (cl:Cl):∀ (xs:List bB),JD (s.mapAn f) cl xs=JD s cl xs
 | []=>rfl
 | x :: r=>by
  unfold JD;rw [CF f cl r,IA];rw [T6]
theorem aT (f:An->An) (cl:Cl) (t n:Nat):∀ (xs:List bB),NI (s.mapAn f) cl t n xs=NI s cl t n xs
 | []=>rfl
 | x :: r=>by
  unfold NI;rw [aT f cl t n r,IA];have:pW (s.mapAn f) cl t n (x.get s)=pW s cl t n (x.get s):=by
   unfold pW;split
   ·rfl
   ·rw [UR]
   ·rfl
   ·rw [UR]
  rw [this]
theorem mZ (f:An->An) (xs:List bB):kL (s.mapAn f) xs=kL s xs:=by
 cases xs with
 | nil=>rfl
 | cons x r=>simp only [kL,IA]
theorem O7 {f:An->An} (hf:D3 f) (v:AV):f (OG v)=OG v:=by
 unfold OG;split
 ·exact hf.ex
 ·exact hf.no
theorem gI (f:An->An) (xs:List bB):NF (s.mapAn f) xs=NF s xs:=by
 unfold NF;simp only [IA]
theorem ZX (f:An->An) (d:Nat) (o:Option bB):XI (s.mapAn f) d o=XI s d o:=by
 cases o with
 | none=>rfl
 | some o=>simp only [XI,IA]
theorem loadC_map (f:An->An) (hf:D3 f) (g:Bool) (z off:Nat) (r:List rA):aA g z off (r.map (rA.mapAn f))=(aA g z off r).map (rA.mapAn f):=by
 unfold aA;cases g with
 | true =>
  simp only [if_true,y7];split
  ·simp only [yt,rA.mapAn,hf.no,<- List.map_drop,<- List.map_take,y5];rfl
  ·rfl
 | false=>simp
theorem clrC_map (f:An->An) (hf:D3 f) (z:List AV) (off ln:Nat) (r:List rA):clrC z off ln (r.map (rA.mapAn f))=(clrC z off ln r).map (·.map (rA.mapAn f)):=by
 have h:(xA (yx ln z)).map (rA.mapAn f)=xA (yx ln z):=by
  unfold xA;rw [y5];refine yH fun v _=>?_
  simp [rA.mapAn,hf.no]
 unfold clrC;rw [y7];split
 ·simp only [yt,List.map_append,List.map_take,List.map_drop,h]
 ·rfl
theorem g7 (f:An->An) (hf:D3 f) (g:Bool) (z off:Nat) (r:List rA) (v:AV) (a:An):uA g z off (r.map (rA.mapAn f)) v (f a)=(uA g z off r v a).map (·.map (rA.mapAn f)):=by
 unfold uA;cases g with
 | true =>
  simp only [if_true,y7];cases v <;> try rfl
  simp only;split
  ·simp only [yt,List.map_append,List.map_take,List.map_drop,y5];congr 3;apply yH;intro x _;simp [rA.mapAn,hf.no]
  ·rfl
 | false =>
  simp only [yI,if_false,y7];split
  ·simp [rA.mapAn,List.map_set]
  ·rfl
theorem frz_mapAn (f:An->An) (v:AV):v.frz (s.mapAn f)=v.frz s:=by
 have hm:∀ t n,(s.mapAn f).mem t n=(s.mem t n).map (·.map (rA.mapAn f)):=fun _ _=>rfl
 have hr:∀ (r:List rA) sz off len,lL (r.map (rA.mapAn f)) sz off len=lL r sz off len:=fun r sz off len=>by
  simp only [lL,y7];congr 2;exact yH fun i _=>by
   rw [<- List.map_drop,<- List.map_take,y5];rfl
 have h1:∀ v:AV,v.frz1 (s.mapAn f)=v.frz1 s:=fun v=>by
  cases v <;> simp only [AV.frz1,hm]
  rename_i t n sz off len cap;cases s.mem t n with
  | none=>rfl
  | some r=>simp only [yt,J,GN]
 have zo:AV.frz1 (s.mapAn f)=AV.frz1 s:=funext h1;have h0:∀ v:AV,v.frz0 (s.mapAn f)=v.frz0 s:=fun v=>by
  cases v <;> simp only [AV.frz0,hm]
  rename_i t n sz off len cap;cases s.mem t n with
  | none=>rfl
  | some r=>simp only [yt,J,GN,jX,hr,zo]
 have fh:AV.frz0 (s.mapAn f)=AV.frz0 s:=funext h0;cases v <;> simp only [AV.frz,h0,fh]
theorem run_mapAn {f:An->An} (hf:D3 f) (k:K) (hk:isT k=false):k.run call (s.mapAn f)=(k.run call s).map fun p=>(p.1.mapAn f,p.2.mapAn f):=by
  cases k with
  | mv x=>simp [K.run,IA,bM hf,rA.mapAn,SC.mapAn]
  | callh nt x xs=>rfl
  | nxt x=>rfl
  | slz x =>
    simp only [K.run,IA];split <;> simp [rA.mapAn,SC.mapAn,hf.ex]
  | ent x =>
    simp only [K.run,IA,show (s.mapAn f).obj=s.obj from rfl];split
    · split
      · split
        · split
          · split
            · split <;> simp [rA.mapAn,SC.mapAn,hf.no]
            · rfl
          · rfl
        · rfl
      · rfl
    · rfl
  | rng x =>
    simp only [K.run,IA,show (s.mapAn f).obj=s.obj from rfl];split
    · split <;> simp [rA.mapAn,SC.mapAn,hf.no]
    · rfl
  | pick c a b =>
    simp only [K.run,IA,bM hf];split
    · rename_i t _
      cases t <;> simp [rA.mapAn,SC.mapAn]
    · rfl
  | alloc z =>
    simp only [K.run,yt,rA.mapAn,SC.mapAn,hf.no,y5];congr 3;apply yH;intro v _;simp only [Function.comp,rA.mapAn,OG];split <;> simp [hf.no,hf.ex]
  | box z x =>
    simp only [K.run,IA,bM hf];split
    · split
      · simp [rA.mapAn,SC.mapAn,hf.no,Function.comp_def]
      · rfl
    · split
      · simp [rA.mapAn,SC.mapAn,hf.no]
      · rfl
  | build z ps =>
    simp only [K.run,IA];split
    · rw [Option.map_map]
      congr 1;funext cs;simp [rA.mapAn,SC.mapAn,hf.no]
    · rfl
  | bsl z n ps =>
    simp only [K.run,IA];split
    · simp [rA.mapAn,SC.mapAn,hf.ex]
    · rfl
  | load cl g z x =>
    simp only [K.run,IA];split
    · rename_i t n off _
      split
      · simp only [pA.mapAn]
        cases s.mem t n with
        | none=>rfl
        | some r =>
          simp only [yt,J];rw [show (fun x:rA=>(⟨x.v,f x.a⟩:rA))=rA.mapAn f from rfl,loadC_map f hf];cases aA g z off r <;> rfl
      · rfl
    · split
      · rfl
      · rename_i cs _ _ _
        cases GF g z cs <;> simp [rA.mapAn,SC.mapAn,hf.no]
    · split
      · rfl
      · rename_i cs _ _ _
        cases GF g z cs <;> simp [rA.mapAn,SC.mapAn,hf.no]
    · rfl
  | clr cl z x =>
    simp only [K.run,IA];split
    · simp [rA.mapAn,SC.mapAn,hf.no]
    · rename_i t n sz off ln _ _
      split
      · simp only [pA.mapAn]
        cases s.mem t n with
        | none=>rfl
        | some r =>
          simp only [yt,J];rw [show (fun x:rA=>(⟨x.v,f x.a⟩:rA))=rA.mapAn f from rfl,clrC_map f hf];cases clrC z off ln r <;> simp [rA.mapAn,SC.mapAn,hf.no]
      · rfl
    · rfl
  | store cl g z x y =>
    simp only [K.run,IA,bM hf];split
    · rename_i t n off _
      split
      · simp only [pA.mapAn]
        cases s.mem t n with
        | none=>rfl
        | some r =>
          simp only [yt,J];rw [show (fun x:rA=>(⟨x.v,f x.a⟩:rA))=rA.mapAn f from rfl,g7 f hf];cases uA g z off r (y.get s) (y.an s) <;> simp [rA.mapAn,SC.mapAn,hf.no]
      · rfl
    · rfl
  | mm b x y=>simp only [K.run,IA]; cases mmC b (x.get s) (y.get s) <;> simp [rA.mapAn,SC.mapAn,hf.no]
  | bin op b x y=>simp only [K.run,IA]; cases binC op b (x.get s) (y.get s) <;> simp [rA.mapAn,SC.mapAn,hf.no]
  | eqa n ks x y =>
    simp only [K.run,IA];split
    · rename_i a b _ _
      cases FJ ks a b <;> simp [rA.mapAn,SC.mapAn,hf.no]
    · rfl
  | eqn n p x y =>
    simp only [K.run,IA];split
    · cases bG false (x.get s) <;> simp [rA.mapAn,SC.mapAn,hf.no]
    · cases bG true (x.get s) <;> simp [rA.mapAn,SC.mapAn,hf.no]
    · rfl
  | un op x=>simp only [K.run,IA]; split <;> simp [rA.mapAn,SC.mapAn,hf.no]
  | conv o x=>simp only [K.run,IA]; split <;> simp [rA.mapAn,SC.mapAn,hf.no]
  | rstr x=>simp only [K.run,IA]; split <;> simp [rA.mapAn,SC.mapAn,hf.no]
  | bstr cl x =>
    simp only [K.run,IA,bP];split
    · rename_i l _
      cases bytesOf l <;> simp [rA.mapAn,SC.mapAn,hf.no]
    · rfl
  | aslc cl l z x lo hi =>
    simp only [K.run,IA,ZX];split
    · rename_i t n o _
      simp only [pA.mapAn];cases XI s 0 lo <;> try rfl
      cases XI s l hi <;> try rfl
      cases s.mem t n with
      | none=>rfl
      | some r =>
        simp only [yt,y7];split
        · split <;> simp [rA.mapAn,SC.mapAn,hf.no]
        · rfl
    · rfl
  | mkf g xs =>
    simp only [K.run,IA];split <;> simp [rA.mapAn,SC.mapAn,hf.no]
  | callv cl x xs =>
    simp only [K.run,IA,CF,gI,RN];split
    · split
      · rename_i vs ws _ _ _
        rename_i g cs _ _ _ _ _ _;cases call _ _ none with
        | none=>rfl
        | some r =>
          simp only [J];split
          · split <;> simp [rA.mapAn,SC.mapAn,hf.no]
          · rfl
      · rfl
    · rfl
  | callr cl g xs =>
    simp only [K.run,aT,mZ];split
    · rename_i t n _
      split
      · simp only [pA.mapAn]
        cases s.mem t n with
        | none=>rfl
        | some r =>
          simp only [yt];cases NI s cl t n xs with
          | none=>rfl
          | some vs =>
            simp only [List.all_map,y5,y7];have e1:r.all ((fun x:rA=>x.v.free0) ∘ fun x=>(⟨x.v,f x.a⟩:rA))=r.all (fun x=>x.v.free0):=rfl;have e2:r.map ((fun x:rA=>x.v) ∘ fun x=>(⟨x.v,f x.a⟩:rA))=r.map (·.v):=rfl;rw [e1,e2];split
            · cases call g (.undef :: .undef :: vs) (some (.agg (r.map (·.v)))) with
              | none=>rfl
              | some q =>
                simp only [J];split
                · split <;> simp [rA.mapAn,SC.mapAn,hf.no,Function.comp_def,O7 hf]
                · rfl
            · rfl
      · rfl
    · rfl
  | mks z b zs x y =>
    simp only [K.run,IA];split
    · split
      · simp only [yt,rA.mapAn,SC.mapAn,hf.no,y5]
        congr 3;apply yH;intro v _;simp [rA.mapAn,hf.no]
      · rfl
    · rfl
  | slc st z x lo hi mx =>
    simp only [K.run,IA,ZX];split
    · rfl
    · split
      · rfl
      · split <;> first
          | rfl
          | (split
             · split <;> (try split) <;> simp [rA.mapAn,SC.mapAn,hf.no]
             · rfl)
  | faddr o x=>simp only [K.run,IA]; split <;> simp [rA.mapAn,SC.mapAn,hf.no]
  | field g o z x =>
    simp only [K.run,IA];split
    · rename_i cs _
      cases GF g z (cs.drop o) <;> simp [rA.mapAn,SC.mapAn,hf.no]
    · rfl
  | aaddr l z x i =>
    simp only [K.run,IA];split
    · split
      · split <;> simp [rA.mapAn,SC.mapAn,hf.no]
      · rfl
    · rfl
  | iaddr z x i =>
    simp only [K.run,IA];split
    · split
      · rename_i k _ _ _ l _
        cases l[k]? with
        | none=>rfl
        | some cs=>simp only [J]; split <;> simp [rA.mapAn,SC.mapAn,hf.no]
      · rename_i k _ _ l _
        cases l[k]? with
        | none=>rfl
        | some cs=>simp only [J]; split <;> simp [rA.mapAn,SC.mapAn,hf.no]
      · split <;> simp [rA.mapAn,SC.mapAn,hf.no]
      · rfl
    · rfl
  | index x i =>
    simp only [K.run,IA];split
    · rename_i k b _ _
      cases b[k]? <;> simp [rA.mapAn,SC.mapAn,hf.no]
    · rfl
  | ext x i =>
    simp only [K.run,IA];split
    · rename_i vs _
      cases vs[i]? <;> simp [rA.mapAn,SC.mapAn,hf.no]
    · rfl
  | call cl g xs =>
    simp only [K.run,CF,gI];cases JD s cl xs with
    | none=>rfl
    | some vs =>
      simp only [J];split
      · cases call g vs none with
        | none=>rfl
        | some r =>
          simp only [J];split
          · split <;> simp [rA.mapAn,SC.mapAn,hf.no]
          · split <;> simp [rA.mapAn,SC.mapAn,hf.no]
      · rename_i t n _
        simp only [show (s.mapAn f).obj=s.obj from rfl];cases call g vs (s.obj t n) with
        | none=>rfl
        | some r =>
          simp only [J];split
          · rfl
          · split <;> simp [rA.mapAn,SC.mapAn,hf.no]
      · rfl
  | callf cl g z xs =>
    simp only [K.run,CF,gI];cases JD s cl xs with
    | none=>rfl
    | some vs =>
      simp only [J];split
      · rename_i t n _
        simp only [show (s.mapAn f).obj=s.obj from rfl];cases call g (.undef :: vs) (s.obj t n) with
        | none=>rfl
        | some r =>
          simp only [J];split
          · split
            · split
              · simp [rA.mapAn,SC.mapAn,hf.no]
              · simp [rA.mapAn,SC.mapAn,hf.no,xA,Function.comp_def]
            · rfl
          · rfl
      · rfl
  | callo cl g z xs =>
    simp only [K.run,CF,gI];split
    · rename_i vs _ _
      cases call g (.undef :: vs) none with
      | none=>rfl
      | some r =>
        simp only [J];split
        · rename_i b l
          split
          · split
            · simp [rA.mapAn,SC.mapAn,hf.ex]
            · split
              · rfl
              · simp [rA.mapAn,SC.mapAn,hf.no,xA,Function.comp_def]
          · rfl
        · rfl
    · rfl
  | calln cl g z L x xs =>
    simp only [K.run,CF,gI,IA,bP,bM hf,exB_mapAn hf];split
    · rename_i vs _ _
      split
      · split
        · split
          · rename_i l _
            split
            · cases call g (.undef :: .sl false l :: vs) (some (.int .i64 z)) with
              | none=>rfl
              | some r =>
                simp only [J];split
                · split
                  · simp [rA.mapAn,SC.mapAn,hf.no,xA,Function.comp_def]
                  · rfl
                · rfl
            · rfl
          · rfl
        · rename_i b _
          split
          · cases call g (.undef :: .sl b [] :: vs) (some (.int .i64 z)) with
            | none=>rfl
            | some r =>
              simp only [J];split
              · split
                · simp [rA.mapAn,SC.mapAn,hf.no,xA,Function.comp_def]
                · rfl
              · rfl
          · rfl
        · rfl
      · rfl
    · rfl
  | callq cl g xs =>
    have e:(xs.map fun x=>(x.get (s.mapAn f)).frz (s.mapAn f))=xs.map fun x=>(x.get s).frz s:=yH fun x _=>by rw [IA,frz_mapAn]
    simp only [K.run,e];split
    · cases call g (xs.map fun x=>(x.get s).frz s) none with
      | none=>rfl
      | some r =>
        simp only [J];split
        · split <;> simp [rA.mapAn,SC.mapAn,hf.no]
        · rfl
    · rfl
  | len st x=>simp only [K.run,IA]; split <;> (try split) <;> simp [rA.mapAn,SC.mapAn,hf.no]
  | app cl e z b x y=>simp [isT] at hk
  | mkm=>simp [K.run,rA.mapAn,SC.mapAn,hf.no]
  | bad=>simp [K.run]
  | mkb T e=>simp [K.run,rA.mapAn,SC.mapAn,hf.no]
  | mget ok ty z x k =>
    simp only [K.run,IA,show (s.mapAn f).obj=s.obj from rfl];split
    · split
      · split <;> simp [rA.mapAn,SC.mapAn,hf.no]
      · rfl
    · rfl
  | mset ty x k v =>
    simp only [K.run,IA,show (s.mapAn f).obj=s.obj from rfl];split
    · split
      · split <;> simp [rA.mapAn,SC.mapAn,hf.no]
      · rfl
    · rfl
  | mlen x =>
    simp only [K.run,IA,show (s.mapAn f).obj=s.obj from rfl];split
    · split <;> simp [rA.mapAn,SC.mapAn,hf.no]
    · rfl
  | appf cl e z b x y =>
    simp only [K.run,IA,bM hf,bP];split
    · split
      · rename_i bb _ _ _ _ _
        rw [W9 hf];cases hx:iB bb (x.an s) with
        | no=>simp [hf.no]
        | ex =>
          simp only [hf.ex];split
          · simp [rA.mapAn,SC.mapAn,hf.ex]
          · simp [rA.mapAn,SC.mapAn,hf.no,Function.comp_def,xA]
        | own k e =>
          simp only;have:=hf.own k e;split
          · contradiction
          · rfl
      · rfl
    · rfl
  | appm cl e z b x y=>simp [isT] at hk
  | appn cl e z b x y=>simp [isT] at hk
  | bslr sz z n ps =>
    simp only [K.run,IA];split
    · simp [rA.mapAn,SC.mapAn,hf.no,Function.comp_def,xA]
    · rfl
  | nilchk x=>simp only [K.run,IA]; split <;> simp [rA.mapAn,SC.mapAn,hf.no]
end
end
section
open Go Go.RowKit
section
variable {P:Program} {O:XE} {nt B:Nat} {F0:BN} {aa:Av} {w0:World} {D:Nat->Prop} {s:pA} {a:Act} {w w':World} {ι:Ix} {Θ:aJ} {o:Oper}
theorem X7 {α:Type} (sz:Nat):∀ (len:Nat) (L:List α),len * sz<=L.length->((List.range len).map fun i=>(L.drop (i * sz)).take sz).flatten=L.take (len * sz)
 | 0,L,_=>by simp
 | len + 1,L,h=>by
  have h1:len * sz<=L.length:=by rw [yM] at h; omega
  rw [y0,List.map_append,List.flatten_append,X7 sz len L h1];simp only [yk,yR,yv,List.flatten_nil,yz];rw [yM,List.take_add]
theorem IG {av:Av} {r:List rA} {cur:Array Value} (ja:aD ι Θ av w r cur) {b:Nat} {ty:TypeId} (hb:w.heap[b]?=some (.cells cur ty (0,0))) {sz off len:Nat} {m:List (List AV)} (h:UG r sz off len=some m) :
  m.length=len/\(∀ c∈m,c.length=sz)/\∃ us,rB av w m.flatten us/\∀ (j:Nat) (u:Value),us[j]?=some u->w.cell? ⟨b,off + j,none⟩=some u:=by
 unfold UG at h;split at h
 ·rename_i hc;injection h with h;subst h;have df:∀ x∈r.map (·.v),x.free0=true:=fun x hx=>by
   obtain ⟨y,hy,rfl⟩:=yQ.1 hx;exact y8.1 hc.2 y hy
  have ll:((List.range len).map fun i=>((r.drop (off + i * sz)).take sz).map (·.v)).flatten=((r.map (·.v)).drop off).take (len * sz):=by
   rw [<- X7 sz len _ (by simp; omega)];congr 1;apply yH;intro i _;rw [List.drop_drop,List.map_take,List.map_drop]
  have ic:=bF (len * sz) (GE off ja.rep);refine ⟨by simp,fun c aw=>?_,((cur.toList.take r.length).drop off).take (len * sz),?_,fun j u hu=>?_⟩
  ·obtain ⟨i,hi,rfl⟩:=yQ.1 aw;have bd:i<len:=by simpa using hi
   have:(i + 1) * sz<=len * sz:=Y02 _ bd;rw [yM] at this;simp;omega
  ·rw [ll];exact FG ic fun x hx=>df x (List.mem_of_mem_drop (List.mem_of_mem_take hx))
  ·rw [cell_of_row w b (off + j) cur ty (0,0) hb];rw [yy] at hu;split at hu
   ·rw [yu,yy] at hu;split at hu
    ·simpa using hu
    ·cases hu
   ·cases hu
 ·cases h
theorem XK (R:DB P O nt B F0 aa w0 D s a w ι Θ) {v:Value} {y:AV} (hY:GA ι (BB aa ι Θ) (eC ι Θ) w y v) {cl:Cl} {m:List (List AV)} (h:y.elems s cl=some m) {sz:Nat} (pb:0<sz) (oc:∀ c∈m,c.length=sz) :
  ∃ us,rB (BB aa ι Θ) w m.flatten us/\Sl (fun _=>False) w sz v m.length us:=by
 have cu:m.flatten.length=m.length * sz:=by
  clear h hY
  induction m with
  | nil=>simp
  | cons c r ih=>rw [yv,yb,oc c (by simp),ih (fun c hc=>oc c (by simp [hc])),yA,yM]; omega
 have da:∀ {av:Av} {us:List Value},rB av w m.flatten us->us.length=m.length * sz:=fun h=>by
  have:=mC (cD (ι:=ι) h);omega
 cases y with
 | sl nil l =>
  injection h with h;subst h;rw [WC] at hY;simp only [ID] at hY;obtain ⟨A,c,hv,hc,_,hn,hs⟩:=hY;rcases yT l.length with h0 | h0
  ·have:l=[]:=Y00 h0;subst this;exact ⟨[],rfl,by simp,A,c,hv,hc,fun h=>by simp at h⟩
  ·cases nil with
   | true=>have:=(hn rfl).2.1; omega
   | false =>
    obtain ⟨b,off,rfl,ja⟩:=(hs rfl).2 h0;obtain ⟨us,hl,de⟩:=FI (XD.1 ja);refine ⟨us,hl,da hl,_,c,hv,hc,fun _=>⟨b,off,rfl,?_,fun h=>h,fun j u hu=>(de j u hu).1⟩⟩;have hp:0<us.length:=by rw [da hl]; exact Nat.mul_pos h0 pb
    exact EE (de 0 us[0] (yg hp)).1
 | bl l =>
  injection h with h;subst h;obtain ⟨a',c,hv,hc,_,hs⟩:=hY;rcases yT l.length with h0 | h0
  ·have:l=[]:=Y00 h0;subst this;exact ⟨[],rfl,by simp,some a',c,hv,hc,fun h=>by simp at h⟩
  ·obtain ⟨b,off,rfl,ja⟩:=hs h0;obtain ⟨us,hl,de⟩:=NO (HI.1 ja);refine ⟨us,hl,da hl,_,c,hv,hc,fun _=>⟨b,off,rfl,?_,fun h=>h,fun j u hu=>(de j u hu).1⟩⟩;have hp:0<us.length:=by rw [da hl]; exact Nat.mul_pos h0 pb
   exact EE (de 0 us[0] (yg hp)).1
 | ref t n sz' off len cap =>
  simp only [AV.elems] at h;split at h
  ·cases hm:s.mem t n with
   | none=>rw [hm] at h; cases h
   | some r =>
    rw [hm,J] at h;obtain ⟨b,hb,sb,cc,ah,_,hv⟩:=RG.1 hY;obtain ⟨sh,b',cur,ty,jb,ra,ja,_⟩:=R.rows t n r hm;rw [hb] at jb;injection jb with jb;subst jb;obtain ⟨h1,h2,us,hl,de⟩:=IG ja ra h;subst h1;exact ⟨us,hl,da hl,_,cc,hv,yB sb ah,fun _=>⟨b,off,rfl,cA ra,fun h=>h,de⟩⟩
  ·cases h
 | _=>simp [AV.elems] at h
theorem LP {av:Av} {r:List rA} {cur:Array Value} (ja:aD ι Θ av w r cur) {b:Nat} {ty:TypeId} (hb:w.heap[b]?=some (.cells cur ty (0,0))) {sz off len:Nat} {m:List (List AV)} (h:lL r sz off len=some m) :
  m.length=len/\(∀ c∈m,c.length=sz)/\∃ us,SA ι av w m.flatten us/\∀ (j:Nat) (u:Value),us[j]?=some u->w.cell? ⟨b,off + j,none⟩=some u:=by
 unfold lL at h;split at h
 ·rename_i hc;injection h with h;subst h;have ll:((List.range len).map fun i=>((r.drop (off + i * sz)).take sz).map (·.v)).flatten=((r.map (·.v)).drop off).take (len * sz):=by
   rw [<- X7 sz len _ (by simp; omega)];congr 1;apply yH;intro i _;rw [List.drop_drop,List.map_take,List.map_drop]
  have ic:=bF (len * sz) (GE off ja.rep);refine ⟨by simp,fun c aw=>?_,((cur.toList.take r.length).drop off).take (len * sz),?_,fun j u hu=>?_⟩
  ·obtain ⟨i,hi,rfl⟩:=yQ.1 aw;have bd:i<len:=by simpa using hi
   have:(i + 1) * sz<=len * sz:=Y02 _ bd;rw [yM] at this;simp;omega
  ·rw [ll];exact ic
  ·rw [cell_of_row w b (off + j) cur ty (0,0) hb];rw [yy] at hu;split at hu
   ·rw [yu,yy] at hu;split at hu
    ·simpa using hu
    ·cases hu
   ·cases hu
 ·cases h
theorem raws_sl (R:DB P O nt B F0 aa w0 D s a w ι Θ) {v:Value} {y:AV} (hY:GA ι (BB aa ι Θ) (eC ι Θ) w y v) {cl:Cl} {m:List (List AV)} (h:y.raws s cl=some m) {sz:Nat} (pb:0<sz) (oc:∀ c∈m,c.length=sz) :
  ∃ us,SA ι (BB aa ι Θ) w m.flatten us/\Sl (fun _=>False) w sz v m.length us:=by
 have cu:m.flatten.length=m.length * sz:=by
  clear h hY
  induction m with
  | nil=>simp
  | cons c r ih=>rw [yv,yb,oc c (by simp),ih (fun c hc=>oc c (by simp [hc])),yA,yM]; omega
 have da:∀ {av:Av} {us:List Value},SA ι av w m.flatten us->us.length=m.length * sz:=fun h=>by
  have:=mC h;omega
 have old:∀ (hm:y.elems s cl=some m),∃ us,SA ι (BB aa ι Θ) w m.flatten us/\Sl (fun _=>False) w sz v m.length us:=fun hm=>by
  obtain ⟨us,h1,h2⟩:=XK R hY hm pb oc;exact ⟨us,cD h1,h2⟩
 cases y with
 | sl nil l=>exact old h
 | bl l=>exact old h
 | ref t n sz' off len cap =>
  simp only [AV.raws] at h;split at h
  ·cases hm:s.mem t n with
   | none=>rw [hm] at h; cases h
   | some r =>
    rw [hm,J] at h;obtain ⟨b,hb,sb,cc,ah,_,hv⟩:=RG.1 hY;obtain ⟨sh,b',cur,ty,jb,ra,ja,_⟩:=R.rows t n r hm;rw [hb] at jb;injection jb with jb;subst jb;obtain ⟨h1,h2,us,hl,de⟩:=LP ja ra h;subst h1;exact ⟨us,hl,da hl,_,cc,hv,yB sb ah,fun _=>⟨b,off,rfl,cA ra,fun h=>h,de⟩⟩
  ·cases h
 | _=>simp [AV.raws] at h
theorem D5 {t e:TypeId} {i:TypeInfo} {z:Value} (ht:P.underlying t=some (.slice e)) (hi:P.info? e=some i) (ty:TypeId) {g n c:Nat} {cur:Array Value} (hg:w.heap[g]?=some (.cells cur e (0,0))) (fg:cur.size=c * i.size) (_hz:i.zero=some z)
  {src:Value} {m:Nat} {news:List Value} (hs:Sl (fun _=>False) w i.size src m news) (h1:∀ u∈news,u.oneCell'=true) (sb:n + m<=c) :
  (Builtin.append_ #[t,t] ty #[.slice (some ⟨g,0,none⟩) n c,src]).run P w=.ok (.slice (some ⟨g,0,none⟩) (n + m) c) (w.setRow g (cur.toList.take (n * i.size)++news++cur.toList.drop (n * i.size + news.length)).toArray):=by
 obtain ⟨hl,A,c',rfl,hc,gc⟩:=hs;have zh:n * i.size + news.length<=cur.size:=by rw [hl,fg,<- yK]; exact Y02 _ sb
 cases A with
 | none =>
  have hm:m=0:=by
   rcases yT m with h | h
   ·exact h
   ·obtain ⟨b,off,hA,_⟩:=gc h; cases hA
  subst hm;have zg:news=[]:=Y00 (by simpa using hl);subst zg;simp only [yJ] at sb;have jv:w.setRow g (cur.toList.take (n * i.size)++[]++cur.toList.drop (n * i.size + ([]:List Value).length)).toArray=w:=by
   simp only [yz,List.length_nil,yJ,Y05,yX];exact setRow_self w g cur e (0,0) hg
  rw [jv];simp [Builtin.append_,run_underlying ht,sizeOf,typeInfo,hi,Builtin.lenOf,Builtin.firstCells,sb,storeCells]
 | some a =>
  refine run_append_room (P:=P) w t ty e i ht hi g n c cur hg a m c' news hl (fun j u hu=>?_) h1 sb zh;have hm:0<m:=by
   rcases yT m with h | h
   ·subst h; have:=(yh.1 hu).1; omega
   ·exact h
  obtain ⟨b,off,hA,_,_,re⟩:=gc hm;injection hA with hA;subst hA;rw [Addr.add_lit];exact re j u hu
theorem PV {t e:TypeId} {i:TypeInfo} (ht:P.underlying t=some (.slice e)) (hi:P.info? e=some i) (ty:TypeId) {A:Option Addr} {n c:Nat} (sb:n<=c) {src:Value} {news:List Value} (hs:Sl (fun _=>False) w i.size src 0 news) :
  (Builtin.append_ #[t,t] ty #[.slice A n c,src]).run P w=.ok (.slice A n c) w:=by
 obtain ⟨hl,A',c',rfl,hc,gc⟩:=hs;cases A' <;> cases A <;> simp [Builtin.append_,run_underlying ht,sizeOf,typeInfo,hi,Builtin.lenOf,Builtin.firstCells,sb,storeCells,loadCells,loadCellsFrom]
def grewW (w:World) (xs news:List Value) (z:Value) (e:TypeId) (need c:Nat):World:=w.drew.alloc (.cells (xs.toArray++news.toArray++Builtin.zeroCells z.cells (grownCap w need c e - need)) e)
theorem OV {t e:TypeId} {i:TypeInfo} {z:Value} (ht:P.underlying t=some (.slice e)) (hi:P.info? e=some i) (hz:i.zero=some z) (ty:TypeId) {A:Option Addr} {n c:Nat} {xs:List Value} (lc:xs.length=n * i.size) (hA:A=none->n=0/\c=0) (hx:∀ a,A=some a->∀ j u,xs[j]?=some u->w.cell? (a.add j)=some u)
  {src:Value} {m:Nat} {news:List Value} (hs:Sl (fun _=>False) w i.size src m news) (ba:c<n + m) (hnc:n<=c) (h63:n + m<=140737488355328) (xg:(n + m) * i.bytes<=140737488355328) :
  (Builtin.append_ #[t,t] ty #[.slice A n c,src]).run P w=.ok (.slice (some ⟨w.heap.size,0,none⟩) (n + m) (grownCap w (n + m) c e)) (grewW w xs news z e (n + m) c):=by
 obtain ⟨hl,A',c',rfl,hc,gc⟩:=hs;have hm:0<m:=by omega
 obtain ⟨b,off,rfl,_,_,re⟩:=gc hm;have zb:∀ j u,news[j]?=some u->w.cell? ((⟨b,off,none⟩:Addr).add j)=some u:=fun j u hu=>by rw [Addr.add_lit]; exact re j u hu
 cases A with
 | none =>
  obtain ⟨rfl,rfl⟩:=hA rfl;have hx0:xs=[]:=Y00 (by simpa using lc);subst hx0;have:=run_append_nil (P:=P) w t ty e i z ht hi hz ⟨b,off,none⟩ m c' news hl zb hm (by omega) (by rw [yr] at xg; omega);simpa [grewW] using this
 | some a =>
  exact run_append_grow (P:=P) w t ty e i z ht hi hz a n c xs lc (hx a rfl) ⟨b,off,none⟩ m c' news hl zb ba (by omega) (growslice_fits (by omega) xg)
section
variable (R:DB P O nt B F0 aa w0 D s a w ι Θ)
include R
theorem DB.fam (Θ':aJ) (f:An->An) (pd:∀ b o,eC ι Θ' b o->eC ι Θ b o) (ry:∀ A v,kJ Θ A v->kJ Θ' (f A) v)
  (tok:∀ k o,Θ' k=some o->B<=o.g/\0<o.sz/\o.n<=o.c/\o.c<=maxLen/\∃ cur,w.heap[o.g]?=some (.cells cur o.e (0,0))/\(cur.size=o.c * o.sz/\CB P o.e=some o.sz)) (tinj:∀ k k' o o',Θ' k=some o->Θ' k'=some o'->o.g=o'.g->k=k') (apart:∀ k o t n,Θ' k=some o->ι t n≠some o.g)
  (apob:∀ k o t n H,Θ' k=some o->ι.ob t n=some H->¬ H o.g) :
  DB P O nt B F0 aa w0 D (s.mapAn f) a w ι Θ':=by
 have hB:FA (eC ι Θ) (eC ι Θ') w w:=FA.less pd;have hA:FA (BB aa ι Θ) (BB aa ι Θ') w w:=FA.less fun b o h=>h.imp id (pd b o)
 refine ⟨R.defers,R.size,fun t=>GA.held (Ix.Le.refl _) hA hB _ _ (R.env t),fun t=>ry _ _ (R.ann t),fun t n r hr=>?_,R.mine,R.inj,tok,tinj,apart,R.out,R.pin,R.kept,R.base,R.objs,fun t n H h=>?_,fun t=>GA.held (Ix.Le.refl _) hA hB _ _ (R.gen t),fun t=>ry _ _ (R.gann t)⟩
 ·simp only [pA.mapAn] at hr;cases hm:s.mem t n with
  | none=>rw [hm] at hr; cases hr
  | some r0 =>
   rw [hm] at hr;injection hr with hr;subst hr;obtain ⟨h0,b,cur,ty,h1,h2,⟨h3,h4⟩,h8⟩:=R.rows t n r0 hm;refine ⟨h0,b,cur,ty,h1,h2,⟨by simpa using h3,fun j x hx=>?_⟩,h8⟩;rw [yc] at hx;cases hj:r0[j]? with
   | none=>rw [hj] at hx; cases hx
   | some y =>
    rw [hj] at hx;injection hx with hx;subst hx;obtain ⟨u,hu,h5,h6,h7⟩:=h4 j y hj;exact ⟨u,hu,h5,HA.held (Ix.Le.refl _) hA _ _ h6,ry _ _ h7⟩
 ·obtain ⟨h1,h2⟩:=R.obs t n H h;exact ⟨fun b hb=>let ⟨g1,g2,g3,_,g5⟩:=h1 b hb; ⟨g1,g2,g3,fun k o hk e=>apob k o t n H hk h (e ▸ hb),g5⟩,h2⟩
theorem DB.spare {k:Nat} {ow:Ow} (hk:Θ k=some ow) {cur new:Array Value} (fg:w.heap[ow.g]?=some (.cells cur ow.e (0,0))) (oc:new.size=cur.size) (bg:∀ j,j<ow.n * ow.sz->new[j]?=cur[j]?) :
  DB P O nt B F0 aa w0 D s a (w.setRow ow.g new) ι Θ:=by
 have za:∀ b',b'≠ow.g->(w.setRow ow.g new).heap[b']?=w.heap[b']?:=fun b' h=>setRow_other w ow.g b' new h
 have jd:(w.setRow ow.g new).heap[ow.g]?=some (.cells new ow.e (0,0)):=setRow_heap w ow.g cur new ow.e (0,0) fg;have nf:∀ b o u,w.cell? ⟨b,o,none⟩=some u->(b=ow.g->o<ow.n * ow.sz)->(w.setRow ow.g new).cell? ⟨b,o,none⟩=some u:=fun b o u hc ba=>by
  by_cases hb:b=ow.g
  ·subst hb;rw [cell_of_row _ ow.g o new ow.e (0,0) jd,bg o (ba rfl),<- cell_of_row w ow.g o cur ow.e (0,0) fg];exact hc
  ·exact (World.cell?_of_block (w:=w) (a:=⟨b,o,none⟩) (za b hb)).trans hc
 have hB:FA (eC ι Θ) (eC ι Θ) w (w.setRow ow.g new):=⟨fun b o u hc hn=>⟨nf b o u hc fun e=>by
  rcases Nat.lt_or_ge o (ow.n * ow.sz) with h | h
  ·exact h
  ·exact absurd (.inr ⟨k,ow,hk,e.symm,h⟩) hn,hn⟩⟩
 have hA:FA (BB aa ι Θ) (BB aa ι Θ) w (w.setRow ow.g new):=⟨fun b o u hc hn=>⟨nf b o u hc fun e=>by
  rcases Nat.lt_or_ge o (ow.n * ow.sz) with h | h
  ·exact h
  ·exact absurd (.inr (.inr ⟨k,ow,hk,e.symm,h⟩)) hn,hn⟩⟩
 refine ⟨R.defers,R.size,fun t=>GA.held (Ix.Le.refl _) hA hB _ _ (R.env t),R.ann,fun t n r hr=>?_,fun t n b h=>?_,R.inj,fun j o h=>?_,R.tinj,R.apart,R.out,R.pin,?_,R.base,fun t n S h=>?_,fun t n H h=>(R.obs t n H h).grow (by simp),fun t=>GA.held (Ix.Le.refl _) hA hB _ _ (R.gen t),R.gann⟩
 ·obtain ⟨h0,b,ua,ty,h1,h2,h3,h8⟩:=R.rows t n r hr;have:b≠ow.g:=fun e=>R.apart k ow t n hk (e ▸ h1)
  exact ⟨h0,b,ua,ty,h1,(za b this).trans h2,h3.held (Ix.Le.refl _) hA (fun _ _ h=>h),h8⟩
 ·obtain ⟨h1,h2,h3⟩:=R.mine t n b h;exact ⟨h1,by simpa using h2,h3⟩
 ·obtain ⟨h1,h2,h3,h4,ua,h5,h6⟩:=R.tok j o h;by_cases hg:o.g=ow.g
  ·have:=R.tinj _ _ _ _ h hk hg;subst this;rw [hk] at h;injection h with h;subst h;rw [fg] at h5;injection h5 with h5;injection h5 with h5;subst h5;exact ⟨h1,h2,h3,h4,new,jd,oc.trans h6.1,h6.2⟩
  ·exact ⟨h1,h2,h3,h4,ua,(za _ hg).trans h5,h6⟩
 ·have:=(R.tok k ow hk).1;have hb:=R.base;exact R.kept.setRow (fun ba=>by omega) _
 ·obtain ⟨p,H,h1,h2,h3,h4⟩:=R.objs t n S h;have ep:∀ b',H b'->b'≠ow.g:=fun b' hH e=>(((R.obs _ _ _ h2).1 _ hH).2.2.2.1 k ow hk) e.symm
  exact ⟨p,H,h1,h2,O.keep h3 (fun b' hH=>za b' (ep b' hH)) (by simp),h4.keep (fun t n b H h g=>⟨h,H,g⟩) fun x hx=>(za p (ep p (O.main h3))).trans hx⟩
theorem DB.fresh {d:Nat} (hd:Θ d=none) {cur:Array Value} {e:TypeId} {n c sz:Nat} (fg:cur.size=c * sz) (oc:0<sz) (hn:n<=c) (hc:c<=maxLen) (htz:CB P e=some sz) :
  DB P O nt B F0 aa w0 D s a (w.drew.alloc (.cells cur e)) ι (fun j=>if j=d then some ⟨w.heap.size,n,c,sz,e⟩ else Θ j):=by
 have wh:∀ b,b<w.heap.size->(w.drew.alloc (.cells cur e)).heap[b]?=w.heap[b]?:=fun b hb=>Below.heap_alloc w.drew _ b hb
 have ij:∀ b o,b<w.heap.size->eC ι (fun j=>if j=d then some ⟨w.heap.size,n,c,sz,e⟩ else Θ j) b o->eC ι Θ b o:=fun b o hb h=>h.imp id fun ⟨k,ow,h,h1,h2⟩=>by
  by_cases e:k=d
  ·simp only [if_pos e] at h; injection h with h; subst h; simp only at h1; omega
  ·simp only [if_neg e] at h; exact ⟨k,ow,h,h1,h2⟩
 have hB:FA (eC ι Θ) (eC ι (fun j=>if j=d then some ⟨w.heap.size,n,c,sz,e⟩ else Θ j)) w (w.drew.alloc (.cells cur e)):=FA.grown wh ij;have hA:FA (BB aa ι Θ) (BB aa ι (fun j=>if j=d then some ⟨w.heap.size,n,c,sz,e⟩ else Θ j)) w (w.drew.alloc (.cells cur e)):=FA.grown wh fun b o hb h=>h.imp id (ij b o hb)
 have hΘ:∀ k o,Θ k=some o->(fun j=>if j=d then some ⟨w.heap.size,n,c,sz,e⟩ else Θ j) k=some o:=fun k o h=>by
  by_cases e:k=d
  ·subst e; rw [hd] at h; cases h
  ·simp only [if_neg e]; exact h
 have ry:∀ A v,kJ Θ A v->kJ (fun j=>if j=d then some ⟨w.heap.size,n,c,sz,e⟩ else Θ j) A v:=fun A v h=>by
  cases A with
  | no=>trivial
  | ex=>exact h
  | own k e'=>exact h.imp id fun ⟨ow,h1,h2⟩=>⟨ow,hΘ _ _ h1,h2⟩
 have kv:w.heap.size<=(w.drew.alloc (.cells cur e)).heap.size:=by
  have:(w.drew.alloc (.cells cur e)).heap.size=w.drew.heap.size + 1:=World.size_alloc _ _;have h4:w.drew.heap.size=w.heap.size:=rfl;omega
 refine ⟨R.defers,R.size,fun t=>GA.held (Ix.Le.refl _) hA hB _ _ (R.env t),fun t=>ry _ _ (R.ann t),fun t n r hr=>?_,fun t n b h=>?_,R.inj,fun j o h=>?_,fun k k' o o' h h' hg=>?_,fun k o t n h h'=>?_,R.out,R.pin,R.kept.drew.alloc _,R.base,fun t n S h=>?_,fun t n H h=>?_,fun t=>GA.held (Ix.Le.refl _) hA hB _ _ (R.gen t),fun t=>ry _ _ (R.gann t)⟩
 ·obtain ⟨h0,b,ua,ty,h1,h2,h3,h8⟩:=R.rows t n r hr;exact ⟨h0,b,ua,ty,h1,(wh b (cA h2)).trans h2,h3.held (Ix.Le.refl _) hA hΘ,h8⟩
 ·obtain ⟨h1,h2,h3⟩:=R.mine t n b h;exact ⟨h1,by omega,h3⟩
 ·by_cases e':j=d
  ·simp only [if_pos e'] at h;injection h with h;subst h;exact ⟨R.lowB,oc,hn,hc,cur,OR rfl,fg,htz⟩
  ·simp only [if_neg e'] at h;obtain ⟨h1,h2,h3,h4,ua,h5,h6⟩:=R.tok j o h;exact ⟨h1,h2,h3,h4,ua,(wh _ (cA h5)).trans h5,h6⟩
 ·by_cases e1:k=d <;> by_cases e2:k'=d
  ·rw [e1,e2]
  ·simp only [if_pos e1] at h; simp only [if_neg e2] at h';injection h with h; subst h;obtain ⟨_,_,_,_,ua,h5,_⟩:=R.tok _ _ h';have:=cA h5;simp only at hg; omega
  ·simp only [if_neg e1] at h; simp only [if_pos e2] at h';injection h' with h'; subst h';obtain ⟨_,_,_,_,ua,h5,_⟩:=R.tok _ _ h;have:=cA h5;simp only at hg; omega
  ·simp only [if_neg e1] at h; simp only [if_neg e2] at h';exact R.tinj _ _ _ _ h h' hg
 ·by_cases e':k=d
  ·simp only [if_pos e'] at h;injection h with h;subst h;have:=(R.mine _ _ _ h').2.1;simp only at this; omega
  ·simp only [if_neg e'] at h;exact R.apart k o t n h h'
 ·obtain ⟨p,H,h1,h2,h3,h4⟩:=R.objs t n S h;exact ⟨p,H,h1,h2,O.keep h3 (fun b' hH=>wh b' (O.lt h3 hH)) kv,h4.keep (fun t n b H h g=>⟨h,H,g⟩) fun x hx=>(wh _ (cA hx)).trans hx⟩
 ·obtain ⟨h1,h2⟩:=R.obs t n H h;refine ⟨fun b hb=>?_,h2⟩;obtain ⟨g1,g2,g3,g4,g5⟩:=h1 b hb;refine ⟨g1,by omega,g3,fun k o hk=>?_,g5⟩;by_cases e':k=d
  ·simp only [if_pos e'] at hk;injection hk with hk;subst hk;simp only;omega
  ·simp only [if_neg e'] at hk;exact g4 k o hk
end
end
end
end Go.Proofs.YtbhbeakhognieaaGreatDoor
