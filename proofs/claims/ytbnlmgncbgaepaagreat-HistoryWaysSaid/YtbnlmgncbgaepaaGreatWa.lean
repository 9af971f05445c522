/- A part of the proof. -/
import Derived.Calls
import Derived.Orders
import Derived.Below
import Derived.Scope
import Derived.Test.YtbnlmgncbgaepaaGreatRows
import Derived.WalkKit
import Derived.WalkSpells
import Derived.WalkLawsBesides
import Derived.Handy
import Derived.Maps.AppendAt
import Derived.Lib.FrozenHead
import Derived.Laws.Cells
import Derived.ChangeKeysEq
import Derived.Laws.Tables
set_option linter.all false
set_option maxRecDepth 100000
set_option maxHeartbeats 8000000
open Option renaming bind_some → V, bind_eq_some_iff → y8, map_eq_some_iff → yg, map_some → yz
open List renaming range_succ → J, map_map → y0, all_eq_true → y4, getElem?_eq_getElem → y5, drop_eq_getElem_cons → y9, getElem?_eq_some_iff → yb, getElem?_map → yc, drop_eq_nil_of_le → ye, mem_cons → yf, map_cons → yh, mem_of_getElem? → yj, mem_cons_self → yk, map_congr_left → yl, length_map → yo, length_append → yp, mem_cons_of_mem → yq, map_nil → yr, mem_append → yu, mem_map → yw, getElem_of_mem → yx, replicate → yA, flatten_cons → yB, length_take → yC, take_of_length_le → yD, getElem?_append_left → yE, length_cons → yH, getElem?_eq_none → yL, eq_nil_of_length_eq_zero → yN, append_nil → yO, getElem?_append_right → yP, getElem?_drop → yQ, getElem?_take → yR, append_assoc → yV
open Nat renaming le_refl → ym, succ_mul → yt, zero_add → yF, eq_zero_or_pos → yI, mul_le_mul_right → yW
open Bool renaming false_eq_true → yn
open Array renaming length_toList → yS, toArray_toList → yT, getD_eq_getD_getElem? → yY
namespace Go.Proofs.YtbnlmgncbgaepaaGreat
open Go
inductive AV where
 | int (k:IntKind) (n:Int)
 | bool (b:Bool)
 | str (s:ByteArray)
 | nilP
 | ptr (t n off:Nat)
 | ip (cs:List AV)
 | bp (cs:List AV)
 | sl (nil:Bool) (l:List (List AV))
 | bl (l:List (List AV))
 | ref (t n sz off len cap:Nat)
 | mp (t n:Nat)
 | fn (f:Nat) (caps:List AV)
 | agg (cs:List AV)
 | tup (vs:List AV)
 | undef
 deriving Inhabited
inductive An where
 | no
 | ex
 | own (k:Nat) (e:TypeId)
structure Slot where
 v:AV
 a:An
inductive Opd where
 | t (n:Nat)
 | c (v:AV)
 deriving Inhabited
inductive Cl where
 | any
 | imm
 | root (t:Nat)
 /-- in no box of these slots -/
 | out (L:List Nat)
inductive KTy where
 | none
 | some (k:IntKind)
 | agg (l:List (Option IntKind))
instance:Inhabited KTy:=⟨.none⟩
inductive K where
 | mv (x:Opd)
 | pick (c a b:Opd)
 | alloc (zero:List AV)
 | box (size:Nat) (x:Opd)
 | build (zero:List AV) (parts:List (Nat × Nat × Opd))
 | bsl (zero:List AV) (n:Nat) (parts:List (Nat × Opd))
 | load (cl:Cl) (agg:Bool) (size:Nat) (x:Opd)
 | store (cl:Cl) (agg:Bool) (size:Nat) (x y:Opd)
 | bin (op:BinOp) (bl:Bool) (x y:Opd)
 | mm (mx:Bool) (x y:Opd)
 | eqa (neg:Bool) (ks:List Nat) (x y:Opd)
 | eqn (neg ptr:Bool) (x y:Opd)
 | un (op:UnOp) (x:Opd)
 | conv (k:Option IntKind) (x:Opd)
 | rstr (x:Opd)
 | bstr (cl:Cl) (x:Opd)
 | mks (size bytes:Nat) (zero:List AV) (len cap:Opd)
 | slc (str:Bool) (size:Nat) (x:Opd) (lo hi mx:Option Opd)
 | aslc (cl:Cl) (len size:Nat) (x:Opd) (lo hi:Option Opd)
 | faddr (off:Nat) (x:Opd)
 | field (agg:Bool) (off size:Nat) (x:Opd)
 | iaddr (size:Nat) (x i:Opd)
 | aaddr (len size:Nat) (x i:Opd)
 | index (x i:Opd)
 | ext (x:Opd) (i:Nat)
 | call (cl:Cl) (f:Nat) (xs:List Opd)
 | callf (cl:Cl) (f:Nat) (sz:Nat) (xs:List Opd)
 | mkf (f:Nat) (xs:List Opd)
 | callv (cl:Cl) (x:Opd) (xs:List Opd)
 | callr (cl:Cl) (f:Nat) (xs:List Opd)
 | callh (nt:Nat) (x:Opd) (xs:List Opd)
 | len (str:Bool) (x:Opd)
 | app (cl:Cl) (e:TypeId) (size bytes:Nat) (x y:Opd)
 | appf (cl:Cl) (e:TypeId) (size bytes:Nat) (x y:Opd)
 | appm (cl:Cl) (e:TypeId) (size bytes:Nat) (x y:Opd)
 | appn (cl:Cl) (e:TypeId) (size bytes:Nat) (x y:Opd)
 | bslr (size:Nat) (zero:List AV) (n:Nat) (parts:List (Nat × Opd))
 | mkm
 | mkb (T e:TypeId)
 | mget (ok:Bool) (ty:KTy) (zero:AV) (x k:Opd)
 | mset (ty:KTy) (x k v:Opd)
 | mlen (x:Opd)
 | rng (x:Opd)
 | slz (x:Opd)
 | ent (x:Opd)
 | nxt (x:Opd)
 | nilchk (x:Opd)
 | bad
 deriving Inhabited
instance:Inhabited Cl:=⟨.any⟩
structure OpC where
 dst:Option Nat
 op:K
 guard:Option (Nat × Bool)
inductive C where
 | skip
 | seq (a b:C)
 | reg (ops:List OpC)
 | cond (c:Opd) (t e:C)
 | block (id:Nat) (b:C)
 | loop (b:C)
 | exit (id:Nat)
 | ret
inductive Ex where
 | nrm
 | exit (id:Nat)
 | ret
structure MSt where
 env:Nat->Slot
 mem:Nat->Nat->Option (List Slot)
 next:Nat
 obj:Nat->Nat->Option AV
 /-- the slots of the calls that wait -/
 gh:Nat->Slot
def An.strip (k:Nat):An->An
 | .own j e=>if j=k then .no else .own j e
 | a=>a
def Slot.strip (k:Nat) (x:Slot):Slot:=⟨x.v,x.a.strip k⟩
def MSt.strip (s:MSt) (k:Nat):MSt:=⟨fun t=>(s.env t).strip k,fun t n=>(s.mem t n).map (·.map (Slot.strip k)),s.next,s.obj,fun t=>(s.gh t).strip k⟩
def MSt.stripA (s:MSt):An->MSt
 | .own k _=>s.strip k
 | _=>s
def MSt.put (s:MSt) (d:Option Nat) (x:Slot):MSt:=match d with
 | some d=>{ s with env:=fun t=>if t=d then x else s.env t }
 | none=>s
def MSt.setRow (s:MSt) (t n:Nat) (r:List Slot):MSt:={ s with mem:=fun t' n'=>if t'=t/\n'=n then some r else s.mem t' n' }
def MSt.setObj (s:MSt) (t n:Nat) (S:AV):MSt:={ s with obj:=fun t' n'=>if t'=t/\n'=n then some S else s.obj t' n' }
def q0c (l:List (List AV)):List Slot:=l.flatten.map (⟨·,.no⟩)
def AV.kill0 (t n:Nat):AV->AV
 | .ptr t' n' o=>if t'=t/\n'=n then .undef else .ptr t' n' o
 | .ref t' n' z o l c=>if t'=t/\n'=n then .undef else .ref t' n' z o l c
 | .mp t' n'=>if t'=t/\n'=n then .undef else .mp t' n'
 | v=>v
def AV.kill1 (t n:Nat):AV->AV
 | .agg cs=>.agg (cs.map (AV.kill0 t n))
 | v=>v.kill0 t n
def AV.kill (t n:Nat):AV->AV
 | .agg cs=>.agg (cs.map (AV.kill0 t n))
 | .tup vs=>.tup (vs.map (AV.kill1 t n))
 | .fn f vs=>.fn f (vs.map (AV.kill0 t n))
 | v=>v.kill0 t n
def Slot.kill (t n:Nat) (x:Slot):Slot:=⟨x.v.kill t n,x.a⟩
def MSt.kill (s:MSt) (t n:Nat):MSt:=⟨fun j=>(s.env j).kill t n,fun t' n'=>if t'=t/\n'=n then none else (s.mem t' n').map (·.map (Slot.kill t n)),s.next,s.obj,fun j=>(s.gh j).kill t n⟩
def MSt.killO (s:MSt):Option (Nat × Nat)->MSt
 | none=>s
 | some p=>s.kill p.1 p.2
def Opd.get (s:MSt):Opd->AV
 | .t n=>(s.env n).v
 | .c v=>v
def Opd.an (s:MSt):Opd->An
 | .t n=>(s.env n).a
 | .c (.sl true _)=>.ex
 | .c _=>.no
def AV.cells:AV->List AV
 | .agg cs=>cs
 | v=>[v]
def AV.leaf:AV->Bool
 | .agg _ | .tup _ | .bp _ | .bl _ | .fn .. | .undef=>false
 | _=>true
def AV.whole:AV->Bool
 | .agg _=>true
 | v=>v.leaf
def AV.free0:AV->Bool
 | .ptr .. | .bp _ | .bl _ | .ref .. | .mp .. | .fn .. | .undef | .agg _ | .tup _=>false
 | _=>true
def AV.free:AV->Bool
 | .agg cs=>cs.all AV.free0
 | v=>v.free0
def q2R (row:List Slot) (sz off len:Nat):Option (List (List AV)) :=
 if off + len * sz<=row.length/\row.all (fun x=>x.v.free0) then some ((List.range len).map fun i=>((row.drop (off + i * sz)).take sz).map (·.v)) else none
def Cl.okMem:Cl->Bool
 | .any=>true
 | _=>false
def AV.elems (s:MSt) (cl:Cl):AV->Option (List (List AV))
 | .sl _ l=>some l
 | .bl l=>some l
 | .ref t n sz off len _=>if cl.okMem then (s.mem t n).bind fun r=>q2R r sz off len else none
 | _=>none
def q5G (row:List Slot) (sz off len:Nat):Option (List (List AV)) :=
 if off + len * sz<=row.length then some ((List.range len).map fun i=>((row.drop (off + i * sz)).take sz).map (·.v)) else none
def AV.raws (s:MSt) (cl:Cl):AV->Option (List (List AV))
 | .sl _ l=>some l
 | .bl l=>some l
 | .ref t n sz off len _=>if cl.okMem then (s.mem t n).bind fun r=>q5G r sz off len else none
 | _=>none
def AV.noName (t n:Nat):AV->Bool
 | .ptr t' n' _ | .ref t' n' _ _ _ _ | .mp t' n'=>!(decide (t'=t)&&decide (n'=n))
 | .agg _ | .tup _ | .fn ..=>false
 | _=>true
def natOf:AV->Option Nat
 | .int _ n=>if 0<=n then some n.toNat else none
 | _=>none
def endC (s:MSt) (d:Nat):Option Opd->Option Nat
 | none=>some d
 | some o=>natOf (o.get s)
def fillC (cells:List AV):List (Nat × Nat × List AV)->Option (List AV)
 | []=>some cells
 | (off,size,v) :: r=>if v.length=size/\off + size<=cells.length then fillC (cells.take off++v++cells.drop (off + size)) r else none
def bitsC (k:IntKind) (r:BitVec k.bits):AV:=.int k (k.wrap r.toNat)
def shN (k:IntKind) (b:Int):Nat:=min b.toNat k.bits
def binC (op:BinOp) (bl:Bool):AV->AV->Option AV
 | .int k a,.int k' b=>match op with
  | .shl=>if 0<=b then some (.int k (k.wrap (a * 2 ^ shN k b))) else none
  | .shr=>if 0<=b then some (.int k (a.fdiv (2 ^ shN k b))) else none
  | _=>if k=k' then (match op with
  | .and=>some (bitsC k (BitVec.ofInt k.bits a &&& BitVec.ofInt k.bits b))
  | .or=>some (bitsC k (BitVec.ofInt k.bits a ||| BitVec.ofInt k.bits b))
  | .xor=>some (bitsC k (BitVec.ofInt k.bits a ^^^ BitVec.ofInt k.bits b))
  | .andNot=>some (bitsC k (BitVec.ofInt k.bits a &&& ~~~ BitVec.ofInt k.bits b))
  | .add=>some (.int k (k.wrap (a + b)))
  | .sub=>some (.int k (k.wrap (a - b)))
  | .mul=>some (.int k (k.wrap (a * b)))
  | .quo=>if b=0 then none else some (.int k (k.wrap (a.tdiv b)))
  | .rem=>if b=0 then none else some (.int k (a.tmod b))
  | .eql=>some (.bool (decide (a=b)))
  | .neq=>some (.bool (!decide (a=b)))
  | .lss=>some (.bool (decide (a<b)))
  | .leq=>some (.bool (decide (a<=b)))
  | .gtr=>some (.bool (decide (b<a)))
  | .geq=>some (.bool (decide (b<=a)))
  | _=>none) else none
 | .str a,.str b=>match op with
  | .add=>if a.size + b.size<=9223372036854775807 then some (.str (a++b)) else none
  | .eql=>some (.bool (decide (a=b)))
  | .neq=>some (.bool (!decide (a=b)))
  | .lss=>some (.bool (Op.bytesLess a.toList b.toList))
  | .gtr=>some (.bool (!(Op.bytesLess a.toList b.toList||decide (a=b))))
  | .leq=>some (.bool (Op.bytesLess a.toList b.toList||decide (a=b)))
  | .geq=>some (.bool (!Op.bytesLess a.toList b.toList))
  | _=>none
 | .bool a,.bool b=>if bl then (match op with
  | .eql=>some (.bool (a == b))
  | .neq=>some (.bool (!(a == b)))
  | _=>none) else none
 | _,_=>none
def mmC (mx:Bool):AV->AV->Option AV
 | .int k a,.int k' b=>if k=k' then some (.int k (if mx then max a b else min a b)) else none
 | _,_=>none
def eqC:List Nat->List AV->List AV->Option Bool
 | [],[],[]=>some true
 | 0 :: ks,.int k a :: r,.int k' b :: r'=>if k=k' then (if a=b then eqC ks r r' else some false) else none
 | 1 :: ks,.str a :: r,.str b :: r'=>if a=b then eqC ks r r' else some false
 | 2 :: ks,.bool a :: r,.bool b :: r'=>if a=b then eqC ks r r' else some false
 | _,_,_=>none
def isNil:Bool->AV->Option Bool
 | false,.sl true _=>some true
 | false,.sl false l=>if l.isEmpty then none else some false
 | false,.bl _=>some false
 | false,.ref ..=>some false
 | true,.nilP=>some true
 | true,.ptr ..=>some false
 | true,.ip _=>some false
 | true,.bp _=>some false
 | _,_=>none
inductive Eff where
 | none
 | new (r:List Slot)
 | set (t n:Nat) (r:List Slot)
 | app (a:An) (k:Nat)
 | obj (t n:Nat) (S:AV)
 | mk (S:AV)
 | rn (k:Option (Nat × Nat)) (r:List Slot)
 | ob2 (t n:Nat) (S:AV) (r:List Slot)
def Cl.okPtr:Cl->Nat->Bool
 | .any,_=>true
 | .imm,_=>false
 | .root r,t=>r == t
 | .out L,t=>!L.contains t
def q0Y (agg:Bool) (size off:Nat) (row:List Slot):Option Slot :=
 if agg then (if off + size<=row.length then some ⟨.agg (((row.drop off).take size).map (·.v)),.no⟩ else none)
 else row[off]?
def q5T (agg:Bool) (size:Nat) (cs:List AV):Option AV :=
 if agg then (if size<=cs.length then some (.agg (cs.take size)) else none) else cs[0]?
def lend (s:MSt) (cl:Cl):AV->Option AV
 | .ref t n sz off len _=>if cl.okMem then ((s.mem t n).bind fun r=>q2R r sz off len).map .bl else none
 | .bl l=>some (.bl l)
 | .bp l=>some (.bp l)
 | .ptr t n off=>if off=0/\cl.okMem/\(s.obj t n).isSome then some (.ptr 0 0 0) else none
 | v=>if v.free then some v else none
def lendP (s:MSt) (cl:Cl):AV->Option AV
 | .ptr t n off=>if cl.okMem then match s.mem t n with
  | some r=>if (r.drop off).all (fun x=>x.v.free0) then some (.bp ((r.drop off).map (·.v))) else none
  | none=>none else none
 | .bp l=>some (.bp l)
 | .nilP=>some .nilP
 | _=>none
def q2G (s:MSt) (cl:Cl):List AV->Option (List AV)
 | []=>some []
 | x :: r=>match lendP s cl x,q2G s cl r with
  | some v,some vs=>some (v :: vs)
  | _,_=>none
def q5y (s:MSt) (cl:Cl):AV->Option AV
 | .fn f cs=>(q2G s cl cs).map (.fn f)
 | v=>lend s cl v
def q3C:AV->Option (Nat × Nat)
 | .ptr t n _=>some (t,n)
 | .ref t n _ _ _ _=>some (t,n)
 | _=>none
def q6l (s:MSt) (cl:Cl) (t n:Nat):AV->Option AV
 | .ptr t' n' off=>if t'=t/\n'=n then some (.ptr 0 0 off) else none
 | .ref t' n' sz off len cap=>if t'=t/\n'=n then some (.ref 0 0 sz off len cap) else lend s cl (.ref t' n' sz off len cap)
 | .fn f cs=>if cs.isEmpty then some (.fn f []) else none
 | v=>lend s cl v
def q2z (s:MSt) (cl:Cl) (t n:Nat):List Opd->Option (List AV)
 | []=>some []
 | x :: r=>match q6l s cl t n (x.get s),q2z s cl t n r with
  | some v,some vs=>some (v :: vs)
  | _,_=>none
def q1w (s:MSt):List Opd->Option (Nat × Nat)
 | []=>none
 | x :: _=>q3C (x.get s)
def AV.capOk:AV->Bool
 | .ptr .. | .bp _ | .nilP=>true
 | _=>false
def bytesOf:List (List AV)->Option (List UInt8)
 | []=>some []
 | c :: r=>match c,bytesOf r with
  | [.int .u8 n],some l=>some (UInt8.ofNat n.toNat :: l)
  | _,_=>none
def q79 (s:MSt) (xs:List Opd):List (Nat × Nat):=xs.filterMap fun x=>match x.get s with
 | .ptr t n _=>some (t,n)
 | _=>none
def q30 (s:MSt) (cl:Cl):List Opd->Option (List AV)
 | []=>some []
 | x :: r=>match q5y s cl (x.get s),q30 s cl r with
  | some v,some vs=>some (v :: vs)
  | _,_=>none
def AV.isUn:AV->Bool
 | .undef=>true
 | _=>false
def AV.back:AV->Bool
 | .tup vs=>vs.all fun v=>v.free||v.isUn
 | v=>v.free
def AV.isObj:AV->Bool
 | .ptr 0 0 0=>true
 | _=>false
def AV.backN:AV->Bool
 | .tup vs=>vs.all fun v=>v.free||v.isObj
 | v=>v.isObj
def AV.named (d n:Nat):AV->AV
 | .tup vs=>.tup (vs.map fun v=>if v.isObj then .ptr d n 0 else v)
 | .mp _ _=>.mp d n
 | v=>if v.isObj then .ptr d n 0 else v
def q13 (size:Nat) (l:List (List AV)):Bool:=l.all (·.length == size)
def q0G (bytes n:Nat):Bool:=decide (n * bytes<=140737488355328)&&decide (n<=140737488355328)
theorem q0d {b n:Nat}:q0G b n=true ↔ n * b<=140737488355328/\n<=140737488355328:=by simp [q0G]
theorem elsOk_nil (z:Nat):q13 z []=true:=rfl
theorem qan (z:Nat) (c:List AV) (l:List (List AV)):q13 z (c :: l)=(decide (c.length=z)&&q13 z l):=rfl
theorem elsOk_append (z:Nat) (l m:List (List AV)):q13 z (l++m)=(q13 z l&&q13 z m):=by simp [q13]
theorem q1a {α:Type} (z:Nat) (f:α->List AV) (l:List α) (h:∀ x,(f x).length=z):q13 z (l.map f)=true:=by simp [q13,h]
theorem elsOk_take {z:Nat} {l:List (List AV)} (h:q13 z l=true) (n:Nat):q13 z (l.take n)=true:=by
 simp only [q13,y4] at h ⊢;exact fun x hx=>h x (List.mem_of_mem_take hx)
theorem elsOk_drop {z:Nat} {l:List (List AV)} (h:q13 z l=true) (n:Nat):q13 z (l.drop n)=true:=by
 simp only [q13,y4] at h ⊢;exact fun x hx=>h x (List.mem_of_mem_drop hx)
def AV.scal:AV->Bool
 | .int .. | .bool _ | .str _=>true
 | _=>false
def AV.flat:AV->Bool
 | .agg cs=>cs.all AV.scal
 | v=>v.scal
def q6m (L:List (List AV)):AV:=.tup [.undef,.sl false L]
def q7g:AV->Option (List (List AV))
 | .tup [.undef,.sl false L]=>some L
 | _=>none
theorem q46 (L:List (List AV)):q7g (q6m L)=some L:=rfl
def bldAV (T e:TypeId) (s:ByteArray):AV:=.tup [.undef,.undef,.int .i64 (T:Nat),.int .i64 (e:Nat),.str s]
def bldOf:AV->Option (TypeId × TypeId × ByteArray)
 | .tup [.undef,.undef,.int _ T,.int _ e,.str s]=>some (T.toNat,e.toNat,s)
 | _=>none
def itAV (tm nm N:Nat) (seen:List Nat):AV:=.tup [.undef,.undef,.undef,.mp tm nm,.int .i64 N,.sl false (seen.map fun i:Nat=>[.int .i64 i])]
def itSeen:List (List AV)->List Nat
 | [.int _ i] :: r=>i.toNat :: itSeen r
 | _=>[]
def itOf:AV->Option (Nat × Nat × Nat × List Nat)
 | .tup [.undef,.undef,.undef,.mp tm nm,.int _ N,.sl false l]=>some (tm,nm,N.toNat,itSeen l)
 | _=>none
theorem itSeen_map:∀ l:List Nat,itSeen (l.map fun i:Nat=>[AV.int .i64 i])=l
 | []=>rfl
 | i :: r=>by simp [itSeen,itSeen_map r]
theorem itOf_av (tm nm N:Nat) (seen:List Nat):itOf (itAV tm nm N seen)=some (tm,nm,N,seen):=by simp [itOf,itAV,itSeen_map]
def noIt (S:AV):Bool:=(itOf S).isNone
def noItO:Option AV->Bool
 | none=>true
 | some S=>noIt S
noncomputable def pickAll (f:Nat->Option (AV × Option AV)) (z:Option (AV × Option AV)):List Nat->Option (AV × Option AV)
 | []=>z
 | [i]=>f i
 | i :: j :: r=>open Classical in if ∀ x∈j :: r,f x=f i then f i else none
def q82:List (Option IntKind)->List AV->Bool
 | [],[]=>true
 | .some k :: r,.int k' _ :: cs=>decide (k=k')&&q82 r cs
 | .none :: r,.str _ :: cs=>q82 r cs
 | _,_=>false
def q6i:KTy->AV->Bool
 | .some k,.int k' _=>decide (k=k')
 | .none,.str _=>true
 | .agg l,.agg cs=>q82 l cs
 | _,_=>false
def q76 (ty:KTy) (L:List (List AV)):Bool:=L.all fun e=>match e with
 | [k,v]=>q6i ty k&&v.flat
 | _=>false
def keyEqs:List AV->List AV->Bool
 | [],[]=>true
 | .int k a :: r,.int k' b :: r'=>(decide (k=k')&&decide (a=b))&&keyEqs r r'
 | .str a :: r,.str b :: r'=>decide (a=b)&&keyEqs r r'
 | _,_=>false
def qbe:AV->AV->Bool
 | .int k a,.int k' b=>decide (k=k')&&decide (a=b)
 | .str a,.str b=>decide (a=b)
 | .agg a,.agg b=>keyEqs a b
 | _,_=>false
def q6J:List (List AV)->AV->Option AV
 | [],_=>none
 | e :: r,k=>match e with
  | [k',v]=>if qbe k' k then some v else q6J r k
  | _=>q6J r k
def q55:List (List AV)->AV->AV->List (List AV)
 | [],k,v=>[[k,v]]
 | e :: r,k,v=>match e with
  | [k',_]=>if qbe k' k then [k,v] :: r else e :: q55 r k v
  | _=>e :: q55 r k v
abbrev RV:=AV × Option AV
abbrev q18:=Nat->List AV->Option AV->Option RV
abbrev LpT:=C->MSt->(Ex->MSt->Option RV)->Option RV
abbrev HpT:=Nat->List Slot->MSt->(Slot->MSt->Option RV)->Option RV
structure LH where
 l:LpT
 h:HpT
instance:CoeFun LH (fun _=>LpT):=⟨LH.l⟩
def q0f (agg:Bool) (size off:Nat) (row:List Slot) (x:AV) (a:An):Option (List Slot) :=
 if agg then match x with
  | .agg cs=>if cs.length=size/\off + size<=row.length then some (row.take off++cs.map (⟨·,.no⟩)++row.drop (off + size)) else none
  | _=>none
 else if x.leaf/\off<row.length then some (row.set off ⟨x,a⟩) else none
def anN:Bool->An->An
 | true,_=>.ex
 | false,a=>a
def q1C:AV->An
 | .sl true _=>.ex
 | _=>.no
def K.run (call:q18) (s:MSt):K->Option (Slot × Eff)
 | .mv x=>some (⟨x.get s,x.an s⟩,.none)
 | .pick c a b=>match c.get s with
  | .bool t=>some (if t then ⟨a.get s,a.an s⟩ else ⟨b.get s,b.an s⟩,.none)
  | _=>none
 | .alloc zero=>some (⟨.ptr 0 0 0,.no⟩,.new (zero.map fun v=>⟨v,q1C v⟩))
 | .box size x=>match x.get s with
  | .agg cs=>if cs.length=size then some (⟨.ptr 0 0 0,.no⟩,.new (cs.map (⟨·,.no⟩))) else none
  | v=>if v.leaf then some (⟨.ptr 0 0 0,.no⟩,.new [⟨v,x.an s⟩]) else none
 | .build zero parts=>if parts.all (fun p=>(p.2.2.get s).whole) then
   (fillC zero (parts.map fun p=>(p.1,p.2.1,(p.2.2.get s).cells))).map fun cs=>(⟨.agg cs,.no⟩,.none) else none
 | .bsl zero n parts=>if parts.map (·.1)=List.range n/\parts.all (fun p=>(p.2.get s).free&&decide ((p.2.get s).cells.length=zero.length)) then
   some (⟨.sl false (parts.map fun p=>(p.2.get s).cells),.ex⟩,.none) else none
 | .load cl agg size x=>match x.get s with
  | .ptr t n off=>if cl.okPtr t then ((s.mem t n).bind (q0Y agg size off)).map fun x=>(x,.none) else none
  | .ip cs=>match cl with
   | .root _=>none
   | _=>(q5T agg size cs).map fun v=>(⟨v,.no⟩,.none)
  | .bp cs=>match cl with
   | .root _=>none
   | _=>(q5T agg size cs).map fun v=>(⟨v,.no⟩,.none)
  | _=>none
 | .store cl agg size x y=>match x.get s with
  | .ptr t n off=>if cl.okPtr t then ((s.mem t n).bind fun r=>q0f agg size off r (y.get s) (y.an s)).map fun r=>(⟨.undef,.no⟩,.set t n r) else none
  | _=>none
 | .bin op t x y=>(binC op t (x.get s) (y.get s)).map fun v=>(⟨v,.no⟩,.none)
 | .mm mx x y=>(mmC mx (x.get s) (y.get s)).map fun v=>(⟨v,.no⟩,.none)
 | .eqa neg ks x y=>match x.get s,y.get s with
  | .agg a,.agg b=>(eqC ks a b).map fun t=>(⟨.bool (t != neg),.no⟩,.none)
  | _,_=>none
 | .eqn neg ptr x y=>match ptr,y.get s with
  | false,.sl true _=>(isNil false (x.get s)).map fun t=>(⟨.bool (t != neg),.no⟩,.none)
  | true,.nilP=>(isNil true (x.get s)).map fun t=>(⟨.bool (t != neg),.no⟩,.none)
  | _,_=>none
 | .un op x=>match op,x.get s with
  | .not,.bool b=>some (⟨.bool (!b),.no⟩,.none)
  | .neg,.int k n=>some (⟨.int k (k.wrap (0 - n)),.no⟩,.none)
  | _,_=>none
 | .conv k x=>match k,x.get s with
  | some k,.int _ n=>some (⟨.int k (k.wrap n),.no⟩,.none)
  | none,.str b=>some (⟨.str b,.no⟩,.none)
  | _,_=>none
 | .rstr x=>match x.get s with
  | .int _ n=>some (⟨.str (Utf8.encode n),.no⟩,.none)
  | _=>none
 | .bstr cl x=>match (x.get s).elems s cl with
  | some l=>(bytesOf l).map fun bs=>(⟨.str ⟨bs.toArray⟩,.no⟩,.none)
  | none=>none
 | .aslc cl ln size x lo hi=>match x.get s with
  | .ptr t n o=>match endC s 0 lo,endC s ln hi,s.mem t n with
   | some l,some h,some r=>if l<=h/\h<=ln/\0<size/\o + ln * size<=r.length/\cl.okMem=true then
     (if h=l then some (⟨.sl false [],.no⟩,.none) else some (⟨.ref t n size (o + l * size) (h - l) (ln - l),.no⟩,.none)) else none
   | _,_,_=>none
  | _=>none
 | .mkf f xs=>if xs.all (fun x=>(x.get s).capOk) then some (⟨.fn f (xs.map (·.get s)),.no⟩,.none) else none
 | .callv cl x xs=>match x.get s with
  | .fn f cs=>match q30 s cl xs,q2G s cl cs,q79 s xs with
   | some vs,some ws,[]=>(call f (vs++ws) none).bind fun r=>match r.2 with
    | none=>if r.1.back then some (⟨r.1,.no⟩,.none) else none
    | some _=>none
   | _,_,_=>none
  | _=>none
 | .callr cl f xs=>match q1w s xs with
  | some (t,n)=>if cl.okPtr t then (match s.mem t n,q2z s cl t n xs with
   | some r,some vs=>if r.all (fun x=>x.v.free0) then (call f (.undef :: .undef :: vs) (some (.agg (r.map (·.v))))).bind fun q=>match q.2 with
     | some (.agg cs)=>if q.1.back/\cs.length=r.length/\cs.all AV.free0=true then some (⟨q.1,.no⟩,.set t n (cs.map fun v=>⟨v,q1C v⟩)) else none
     | _=>none else none
   | _,_=>none) else none
  | none=>none
 | .callh ..=>none
 | .bad=>none
 | .mks size bytes zero ln cap=>match natOf (ln.get s),natOf (cap.get s) with
  | some l,some c=>if l<=c/\c * bytes<=140737488355328/\c<=140737488355328/\zero.length=size then some (⟨.ref 0 0 size 0 l c,.no⟩,.new ((List.replicate c zero).flatten.map (⟨·,.no⟩))) else none
  | _,_=>none
 | .slc str size x lo hi mx=>match mx with
  | some _=>none
  | none =>
   match endC s 0 lo with
   | none=>none
   | some l=>match x.get s with
    | .sl b e=>match endC s e.length hi with
     | some h=>if l<=h/\h<=e.length/\q13 size e=true/\str=false then some (⟨.sl b ((e.take h).drop l),.no⟩,.none) else none
     | _=>none
    | .bl e=>match endC s e.length hi with
     | some h=>if l<=h/\h<=e.length/\q13 size e=true/\str=false then some (⟨.bl ((e.take h).drop l),.no⟩,.none) else none
     | _=>none
    | .ref t n sz off ln cap=>match endC s ln hi with
     | some h=>if l<=h/\h<=cap/\sz=size/\str=false then (if h=l/\¬ (l=0/\0<cap) then some (⟨.sl false [],.no⟩,.none) else some (⟨.ref t n sz (off + l * sz) (h - l) (cap - l),.no⟩,.none)) else none
     | _=>none
    | .str b=>match endC s b.size hi with
     | some h=>if l<=h/\h<=b.size/\str=true then some (⟨.str (b.extract l h),.no⟩,.none) else none
     | _=>none
    | _=>none
 | .faddr off x=>match x.get s with
  | .ptr t n o=>some (⟨.ptr t n (o + off),.no⟩,.none)
  | .ip cs=>some (⟨.ip (cs.drop off),.no⟩,.none)
  | .bp cs=>some (⟨.bp (cs.drop off),.no⟩,.none)
  | _=>none
 | .field agg off size x=>match x.get s with
  | .agg cs=>(q5T agg size (cs.drop off)).map fun v=>(⟨v,.no⟩,.none)
  | _=>none
 | .aaddr ln size x i=>match natOf (i.get s) with
  | some k=>if k<ln then (match x.get s with
   | .ptr t n o=>some (⟨.ptr t n (o + k * size),.no⟩,.none)
   | .ip cs=>some (⟨.ip (cs.drop (k * size)),.no⟩,.none)
   | .bp cs=>some (⟨.bp (cs.drop (k * size)),.no⟩,.none)
   | _=>none) else none
  | none=>none
 | .iaddr size x i=>match natOf (i.get s) with
  | some k=>match x.get s with
   | .sl _ l=>l[k]?.bind fun cs=>if cs.length=size then some (⟨.ip cs,.no⟩,.none) else none
   | .bl l=>l[k]?.bind fun cs=>if cs.length=size then some (⟨.bp cs,.no⟩,.none) else none
   | .ref t n sz off ln _=>if k<ln/\sz=size then some (⟨.ptr t n (off + k * sz),.no⟩,.none) else none
   | _=>none
  | none=>none
 | .index x i=>match natOf (i.get s),x.get s with
  | some k,.str b=>b[k]?.map fun u=>(⟨.int .u8 u.toNat,.no⟩,.none)
  | _,_=>none
 | .ext x i=>match x.get s with
  | .tup vs=>vs[i]?.map fun v=>(⟨v,.no⟩,.none)
  | _=>none
 | .call cl f xs=>(q30 s cl xs).bind fun vs=>match q79 s xs with
  | []=>(call f vs none).bind fun r=>match r.2 with
   | none=>if r.1.back then some (⟨r.1,.no⟩,.none) else none
   | some S=>if r.1.backN/\cl.okMem/\noIt S=true then some (⟨r.1,.no⟩,.mk S) else none
  | [(t,n)]=>(call f vs (s.obj t n)).bind fun r=>match r.2 with
   | none=>none
   | some S=>if r.1.back/\(s.obj t n).isSome/\noIt S=true then some (⟨r.1,.no⟩,.obj t n S) else none
  | _=>none
 | .callf cl f sz xs=>(q30 s cl xs).bind fun vs=>match q79 s xs with
  | [(t,n)]=>(call f (.undef :: vs) (s.obj t n)).bind fun r=>match r with
   | (.sl false l,some S)=>if (s.obj t n).isSome=true/\q13 sz l=true/\l.all (fun c=>c.all AV.scal)=true/\noIt S=true then
     (if l.isEmpty then some (⟨.sl false [],.no⟩,.obj t n S) else some (⟨.ref 0 0 sz 0 l.length l.length,.no⟩,.ob2 t n S (q0c l))) else none
   | _=>none
  | _=>none
 | .len str x=>match x.get s with
  | .sl _ l=>if str then none else some (⟨.int .i64 l.length,.no⟩,.none)
  | .bl l=>if str then none else some (⟨.int .i64 l.length,.no⟩,.none)
  | .ref _ _ _ _ ln _=>if str then none else some (⟨.int .i64 ln,.no⟩,.none)
  | .str b=>if str then some (⟨.int .i64 b.size,.no⟩,.none) else none
  | _=>none
 | .app cl e size bytes x y=>match x.get s,(y.get s).elems s cl with
  | .sl b l,some m=>if q0G bytes (l.length + m.length)=true/\q13 size (l++m)=true then
    (match anN b (x.an s) with
    | .no=>none
    | .own k e'=>if e'=e then some (⟨.sl (b&&m.isEmpty) (l++m),.own 0 e⟩,.app (.own k e') 0) else none
    | .ex=>some (⟨.sl (b&&m.isEmpty) (l++m),.own 0 e⟩,.app .ex 0)) else none
  | _,_=>none
 | .appf cl e size bytes x y=>match x.get s,(y.get s).elems s cl with
  | .sl b l,some m=>if q0G bytes (l.length + m.length)=true/\q13 size (l++m)=true then
    (match anN b (x.an s) with
    | .ex=>if m.isEmpty then some (⟨.sl b l,.ex⟩,.none) else some (⟨.ref 0 0 size 0 (l.length + m.length) (l.length + m.length),.no⟩,.new (q0c (l++m)))
    | _=>none) else none
  | _,_=>none
 | .appm cl e size bytes x y=>match x.get s,(y.get s).elems s cl with
  | .sl b l,some m=>if q0G bytes (l.length + m.length)=true/\q13 size (l++m)=true then
    (match anN b (x.an s) with
    | .ex=>if m.isEmpty then some (⟨.sl b l,.ex⟩,.none) else some (⟨.ref 0 0 size 0 (l.length + m.length) (l.length + m.length),.no⟩,.new (q0c (l++m)))
    | _=>none) else none
  | .ref t n sz off ln _,some m=>match (AV.ref t n sz off ln 0).elems s cl with
   | some l=>if off=0/\sz=size/\q0G bytes (ln + m.length)=true/\q13 size m=true/\t≠0 then
     some (⟨.ref 0 0 size 0 (ln + m.length) (ln + m.length),.no⟩,.rn (some (t,n)) (q0c (l++m))) else none
   | none=>none
  | _,_=>none
 | .appn cl e size bytes x y=>match x.get s,(y.get s).raws s cl with
  | .sl b l,some m=>if q0G bytes (l.length + m.length)=true/\q13 size (l++m)=true/\0<m.length then
    (match anN b (x.an s) with
    | .ex=>some (⟨.ref 0 0 size 0 (l.length + m.length) (l.length + m.length),.no⟩,.new (q0c (l++m)))
    | _=>none) else none
  | .ref t n sz off ln _,some m=>match (AV.ref t n sz off ln 0).raws s cl with
   | some l=>if off=0/\sz=size/\q0G bytes (ln + m.length)=true/\q13 size m=true/\t≠0/\(l++m).flatten.all (AV.noName t n)=true then
     some (⟨.ref 0 0 size 0 (ln + m.length) (ln + m.length),.no⟩,.rn (some (t,n)) (q0c (l++m))) else none
   | none=>none
  | _,_=>none
 | .bslr size zero n parts=>if parts.map (·.1)=List.range n/\parts.all (fun p=>(p.2.get s).whole&&decide ((p.2.get s).cells.length=zero.length))/\0<n/\zero.length=size then
   some (⟨.ref 0 0 size 0 n n,.no⟩,.new (q0c (parts.map fun p=>(p.2.get s).cells))) else none
 | .mkm=>some (⟨.mp 0 0,.no⟩,.mk (q6m []))
 | .mkb T e=>some (⟨.ptr 0 0 0,.no⟩,.mk (bldAV T e ⟨#[]⟩))
 | .mget ok ty zero x k=>match x.get s with
  | .mp t n=>match (s.obj t n).bind q7g with
   | some L=>if q76 ty L=true/\q6i ty (k.get s)=true/\zero.flat=true then
     some (⟨if ok then .tup [(q6J L (k.get s)).getD zero,.bool (q6J L (k.get s)).isSome] else (q6J L (k.get s)).getD zero,.no⟩,.none) else none
   | none=>none
  | _=>none
 | .mset ty x k v=>match x.get s with
  | .mp t n=>match (s.obj t n).bind q7g with
   | some L=>if q76 ty L=true/\q6i ty (k.get s)=true/\(v.get s).flat=true then
     some (⟨.undef,.no⟩,.obj t n (q6m (q55 L (k.get s) (v.get s)))) else none
   | none=>none
  | _=>none
 | .mlen x=>match x.get s with
  | .mp t n=>match (s.obj t n).bind q7g with
   | some L=>some (⟨.int .i64 L.length,.no⟩,.none)
   | none=>none
  | _=>none
 | .rng x=>match x.get s with
  | .mp t n=>match (s.obj t n).bind q7g with
   | some L=>some (⟨.ptr 0 0 0,.no⟩,.mk (itAV t n L.length []))
   | none=>none
  | _=>none
 | .nxt _=>none
 | .ent x=>match x.get s with
  | .ptr t n 0=>match (s.obj t n).bind itOf with
   | some (tm,nm,N,seen)=>match (s.obj tm nm).bind q7g,seen.getLast? with
    | some L,some i=>if L.length=N then (match L[i]? with
      | some [y,v]=>if y.flat&&v.flat then some (⟨.tup [y,v],.no⟩,.none) else none
      | _=>none) else none
    | _,_=>none
   | none=>none
  | _=>none
 | .slz x=>match x.get s with
  | .sl b _=>some (⟨.sl b [],.ex⟩,.none)
  | .bl _=>some (⟨.sl false [],.ex⟩,.none)
  | .ref ..=>some (⟨.sl false [],.ex⟩,.none)
  | _=>none
 | .nilchk x=>match x.get s with
  | .ptr t n o=>some (⟨.ptr t n o,.no⟩,.none)
  | .ip cs=>some (⟨.ip cs,.no⟩,.none)
  | .bp cs=>some (⟨.bp cs,.no⟩,.none)
  | _=>none
def OpC.eff (o:OpC) (s:MSt):Slot × Eff->Option MSt
 | (x,.none)=>some (s.put o.dst x)
 | (x,.new r)=>match o.dst with
  | none=>none
  | some d=>some ((s.setRow d s.next r).put (some d) ⟨match x.v with | .ref _ _ sz off l c=>.ref d s.next sz off l c | _=>.ptr d s.next 0,.no⟩)
 | (x,.set t n r)=>some ((s.setRow t n r).put o.dst x)
 | (x,.app a _)=>match o.dst with
  | none=>none
  | some d=>some (((s.stripA a).strip d).put (some d) ⟨x.v,match x.a with | .own _ e=>.own d e | a=>a⟩)
 | (x,.obj t n S)=>some ((s.setObj t n S).put o.dst x)
 | (x,.mk S)=>match o.dst with
  | none=>none
  | some d=>some ((s.setObj d s.next S).put (some d) ⟨x.v.named d s.next,.no⟩)
 | (x,.ob2 t n S r)=>match o.dst with
  | none=>none
  | some d=>some (((s.setObj t n S).setRow d s.next r).put (some d) ⟨match x.v with | .ref _ _ sz off l c=>.ref d s.next sz off l c | _=>.ptr d s.next 0,.no⟩)
 | (x,.rn k r)=>match o.dst with
  | none=>none
  | some d=>some (((s.killO k).setRow d s.next r).put (some d) ⟨match x.v with | .ref _ _ sz off l c=>.ref d s.next sz off l c | _=>.ptr d s.next 0,.no⟩)
def OpC.step (call:q18) (o:OpC) (s:MSt):Option MSt :=
 match o.guard with
 | none=>(o.op.run call s).bind (o.eff s)
 | some (t,want)=>match (s.env t).v with
  | .bool b=>if b=want then (o.op.run call s).bind (o.eff s) else some (s.put o.dst ⟨.tup [],.no⟩)
  | .tup []=>some (s.put o.dst ⟨.tup [],.no⟩)
  | _=>none
def MSt.enter (s:MSt) (nt:Nat):MSt:={ s with next:=s.next + 1,gh:=fun t=>if t<nt then s.env t else s.gh (t - nt) }
def MSt.leave (s:MSt) (nt:Nat):MSt:={ s with env:=fun t=>if t<nt then s.gh t else ⟨.undef,.no⟩,gh:=fun t=>s.gh (t + nt) }
def q9E (s:MSt) (xs:List Opd):List Slot:=xs.map fun x=>⟨x.get s,x.an s⟩
def qbd (lh:LH) (d:Option Nat) (nt:Nat) (x:Opd) (xs:List Opd) (s:MSt) (k:MSt->Option RV):Option RV:=match x.get s with
 | .fn f cs=>lh.h f (q9E s xs++cs.map (⟨·,.no⟩)) (s.enter nt) fun y s'=>k ((s'.leave nt).put d y)
 | _=>none
noncomputable def nstep (d:Option Nat) (x:Opd) (s:MSt) (k:MSt->Option RV):Option RV:=match x.get s with
 | .ptr t n 0=>match (s.obj t n).bind itOf with
  | some (tm,nm,N,seen)=>match (s.obj tm nm).bind q7g with
   | some L=>if L.length=N then pickAll (fun i=>match L[i]? with
     | some [y,v]=>if y.flat&&v.flat then k ((s.setObj t n (itAV tm nm N (seen++[i]))).put d ⟨.tup [.bool true,y,v],.no⟩) else none
     | _=>none) (k (s.put d ⟨.tup [.bool false],.no⟩)) ((List.range N).filter fun i=>!seen.contains i) else none
   | none=>none
  | none=>none
 | _=>none
def q5Y (s:MSt) (d:Option Nat) (g:Option (Nat × Bool)) (a:Option RV) (k:MSt->Option RV):Option RV:=match g with
 | none=>a
 | some (t,want)=>match (s.env t).v with
  | .bool b=>if b=want then a else k (s.put d ⟨.tup [],.no⟩)
  | .tup []=>k (s.put d ⟨.tup [],.no⟩)
  | _=>none
noncomputable def OpC.stepK (call:q18) (lh:LH) (o:OpC) (s:MSt) (k:MSt->Option RV):Option RV:=match o.op with
 | .callh nt x xs=>q5Y s o.dst o.guard (qbd lh o.dst nt x xs s k) k
 | .nxt x=>q5Y s o.dst o.guard (nstep o.dst x s k) k
 | _=>(o.step call s).bind k
noncomputable def q4q (call:q18) (lh:LH):List OpC->MSt->(MSt->Option RV)->Option RV
 | [],s,k=>k s
 | o :: r,s,k=>o.stepK call lh s fun s=>q4q call lh r s k
noncomputable def C.run (call:q18) (lp:LH):C->MSt->(Ex->MSt->Option RV)->Option RV
 | .skip,s,k=>k .nrm s
 | .seq a b,s,k=>a.run call lp s fun e s=>match e with
  | .nrm=>b.run call lp s k
  | e=>k e s
 | .reg ops,s,k=>q4q call lp ops s fun s=>k .nrm { s with next:=s.next + 1 }
 | .cond c t e,s,k=>match c.get s with
  | .bool b=>if b then t.run call lp s k else e.run call lp s k
  | _=>none
 | .block id b,s,k=>b.run call lp s fun e s=>match e with
  | .exit j=>if j=id then k .nrm s else k (.exit j) s
  | e=>k e s
 | .loop b,s,k=>lp b s k
 | .exit id,s,k=>k (.exit id) s
 | .ret,s,k=>k .ret s
inductive ResC where
 | tmp (t:Nat)
 | cell (t:Nat) (agg:Bool) (size:Nat)
structure FnC where
 code:C
 res:List ResC
 np:Nat
 mu:List Nat:=[]
def resC (s:MSt):List ResC->Option (List AV)
 | []=>some []
 | .tmp t :: r=>(resC s r).map ((s.env t).v :: ·)
 | .cell t agg size :: r=>match (s.env t).v with
  | .ptr t n off=>((s.mem t n).bind (q0Y agg size off)).bind fun x=>(resC s r).map (x.v :: ·)
  | _=>none
def pack:List AV->AV
 | [v]=>v
 | vs=>.tup vs
def objAt:List AV->Option (Nat × Nat)
 | []=>none
 | .ptr t n 0 :: _=>some (t,n)
 | _ :: r=>objAt r
def q7c (t n:Nat):AV->AV
 | .ptr t' n' o=>if t'=t/\n'=n/\o=0 then .ptr 0 0 0 else .undef
 | v=>v
def AV.frz1 (s:MSt):AV->AV
 | .ref t n sz off len c=>match (s.mem t n).bind fun r=>q2R r sz off len with
  | some l=>.sl false l
  | none=>.ref t n sz off len c
 | v=>v
def rowDeep (s:MSt) (row:List Slot) (sz off len:Nat):Option (List (List AV)):=(q5G row sz off len).bind fun l =>
 if (l.map fun c=>c.map (AV.frz1 s)).flatten.all AV.free0=true then some (l.map fun c=>c.map (AV.frz1 s)) else none
def AV.frz0 (s:MSt):AV->AV
 | .ref t n sz off len c=>match (s.mem t n).bind fun r=>q2R r sz off len with
  | some l=>.sl false l
  | none=>match (s.mem t n).bind fun r=>rowDeep s r sz off len with
   | some l=>.sl false l
   | none=>.ref t n sz off len c
 | v=>v
def AV.frz (s:MSt):AV->AV
 | .agg cs=>.agg (cs.map (AV.frz0 s))
 | v=>v.frz0 s
def finV (S0:Option AV) (s:MSt) (vs:List AV):Option RV :=
 match S0 with
 | some _=>if vs.all AV.free then (s.obj 0 0).map fun S=>(pack vs,some S) else none
 | none=>if vs.all AV.free then some (pack vs,none) else match objAt vs with
  | some (t,n)=>match s.obj t n with
   | some S=>if (vs.map (q7c t n)).all (fun v=>v.free||v.isObj) then some (pack (vs.map (q7c t n)),some S) else none
   | none=>none
  | none=>none
def fin (f:FnC) (S0:Option AV):Ex->MSt->Option RV
 | .exit _,_=>none
 | _,s=>(resC s f.res).bind fun vs=>finV S0 s (vs.map (AV.frz s))
def MSt.init (args:List AV) (S0:Option AV):MSt:=⟨fun t=>⟨args.getD t .undef,.no⟩,fun _ _=>none,1,fun t n=>if t=0/\n=0 then S0 else none,fun _=>⟨.undef,.no⟩⟩
def MSt.initR (args:List AV) (cs:List AV):MSt:=⟨fun t=>⟨args.getD t .undef,.no⟩,fun t n=>if t=0/\n=0 then some (cs.map fun v=>⟨v,q1C v⟩) else none,1,fun _ _=>none,fun _=>⟨.undef,.no⟩⟩
def MSt.drop0 (s:MSt):MSt:={ s with mem:=fun t n=>if t=0/\n=0 then none else s.mem t n }
def q7u (n:Nat) (s:MSt) (vs:List AV):Option RV :=
 if vs.all AV.free then (s.mem 0 0).bind fun r =>
  if (r.map fun x=>AV.frz0 s.drop0 x.v).all AV.free0=true/\r.length=n then some (pack vs,some (.agg (r.map fun x=>AV.frz0 s.drop0 x.v))) else none
 else none
def finR (f:FnC) (n:Nat):Ex->MSt->Option RV
 | .exit _,_=>none
 | _,s=>(resC s f.res).bind fun vs=>q7u n s (vs.map (AV.frz s.drop0))
def markR:List AV->Option (List AV)
 | .undef :: .undef :: r=>some r
 | _=>none
def q83 (lp:LpT) (b:C) (k:Ex->MSt->Option RV):Ex->MSt->Option RV
 | .nrm,s=>lp b s k
 | e,s=>k e s
def q6K:List AV->Bool
 | .undef :: _=>true
 | _=>false
def resS (s:MSt):List ResC->Option (List Slot)
 | []=>some []
 | .tmp t :: r=>(resS s r).map (s.env t :: ·)
 | .cell t agg size :: r=>match (s.env t).v with
  | .ptr t n off=>((s.mem t n).bind (q0Y agg size off)).bind fun x=>(resS s r).map (⟨x.v,.no⟩ :: ·)
  | _=>none
def AV.tupOk:AV->Bool
 | .bp _ | .bl _ | .fn .. | .tup _=>false
 | _=>true
def packS:List Slot->Option Slot
 | [x]=>some x
 | l=>if l.all (fun x=>x.v.tupOk) then some ⟨.tup (l.map (·.v)),.no⟩ else none
def finH (f:FnC) (k:Slot->MSt->Option RV):Ex->MSt->Option RV
 | .exit _,_=>none
 | _,s=>((resS s f.res).bind packS).bind fun x=>k x s
def MSt.initH (s:MSt) (args:List Slot):MSt:={ s with env:=fun t=>args.getD t ⟨.undef,.no⟩ }
mutual
noncomputable def q38 (T:Nat->Option FnC) (ext:q18):Nat->q18
 | 0,f,args,S0=>match T f with
  | none=>ext f args S0
  | some _=>none
 | n + 1,f,args,S0=>match T f with
  | none=>ext f args S0
  | some c=>match markR args,S0 with
   | some rest,some (.agg cs)=>if rest.length=c.np/\q6K rest=false then c.code.run (q38 T ext n) ⟨lpN T ext n,hpN T ext n⟩ (MSt.initR rest cs) (finR c cs.length) else none
   | some _,_=>none
   | none,_=>if args.length=c.np/\q6K args=false/\noItO S0=true then c.code.run (q38 T ext n) ⟨lpN T ext n,hpN T ext n⟩ (MSt.init args S0) (fin c S0) else none
noncomputable def lpN (T:Nat->Option FnC) (ext:q18):Nat->LpT
 | 0,_,_,_=>none
 | n + 1,b,s,k=>b.run (q38 T ext n) ⟨lpN T ext n,hpN T ext n⟩ s (q83 (lpN T ext n) b k)
noncomputable def hpN (T:Nat->Option FnC) (ext:q18):Nat->HpT
 | 0,_,_,_,_=>none
 | n + 1,f,args,s,k=>match T f with
  | none=>none
  | some c=>if args.length=c.np then c.code.run (q38 T ext n) ⟨lpN T ext n,hpN T ext n⟩ (s.initH args) (finH c k) else none
end
section
def avOf:Value->Option AV
 | .int k n=>some (.int k n)
 | .bool b=>some (.bool b)
 | .string s=>some (.str s)
 | .pointer none=>some .nilP
 | .slice none 0 0=>some (.sl true [])
 | _=>none
def q8j:List Value->Option (List AV)
 | []=>some []
 | v :: r=>match avOf v,q8j r with
  | some x,some l=>some (x :: l)
  | _,_=>none
def avC:Value->Option AV
 | .agg cs=>(q8j cs.toList).map .agg
 | v=>avOf v
def opd:Operand->Option Opd
 | .tmp t=>some (.t t)
 | .const v=>(avC v).map .c
 | .func f=>some (.c (.fn f []))
 | _=>none
section
variable (P:Program)
def tAgg (t:TypeId):Option Bool:=(P.underlying t).map fun | .struct _=>true | .array ..=>true | _=>false
def q1Z (t:TypeId):Option Nat:=(P.info? t).map (·.size)
def q8E (t:TypeId):Option (List AV):=((P.info? t).bind (·.zero)).bind fun z=>q8j z.cells.toList
def tScal (t:TypeId):Bool:=match P.underlying t with | some (.int _)=>true | some .string=>true | some .bool=>true | _=>false
def opds:List (Nat × Operand)->Option (List (Nat × Opd))
 | []=>some []
 | (i,x) :: r=>match opd x,opds r with
  | some x,some l=>some ((i,x) :: l)
  | _,_=>none
def opdL:List Operand->Option (List Opd)
 | []=>some []
 | x :: r=>match opd x,opdL r with
  | some x,some l=>some (x :: l)
  | _,_=>none
def opdO:Option Operand->Option (Option Opd)
 | none=>some none
 | some x=>(opd x).map some
def qb4 (pl:Nat->Option (Nat × Nat)):List (Nat × Opd)->Option (List (Nat × Nat × Opd))
 | []=>some []
 | (i,x) :: r=>match pl i,qb4 pl r with
  | some (off,z),some l=>some ((off,z,x) :: l)
  | _,_=>none
def tKind (t:TypeId):Option Nat:=match P.underlying t,q1Z P t with
 | some (.int _),some 1=>some 0
 | some .string,some 1=>some 1
 | some .bool,some 1=>some 2
 | _,_=>none
def qaq (r:TypeId->Option (List Nat)) (i:Nat):List Field->Option (List Nat)
 | []=>some []
 | f :: fs=>(r f.type).bind fun l=>if f.name≠"_"/\f.offset=i then (qaq r (i + l.length) fs).map (l++·) else none
def q5x:Nat->TypeId->Option (List Nat)
 | 0,_=>none
 | n + 1,t=>match tKind P t with
  | some k=>some [k]
  | none=>match P.underlying t with
   | some (.array m e)=>(q5x n e).bind fun l=>if P.cellsOf e=l.length/\q1Z P e=some l.length/\q1Z P t=some (List.replicate m l).flatten.length then some (List.replicate m l).flatten else none
   | some (.struct fs)=>if P.stoodInHeld t then none else (qaq (q5x n) 0 fs.toList).bind fun l=>if q1Z P t=some l.length then some l else none
   | _=>none
def tFlat (t:TypeId):Option (List Nat):=if P.eqGuardType P.depth t then none else match P.underlying t with
 | some (.array ..)=>q5x P 8 t
 | some (.struct _)=>q5x P 8 t
 | _=>none
def scalK (t:TypeId):Option (Option IntKind):=match P.underlying t with
 | some (.int k)=>some (some k)
 | some .string=>some none
 | _=>none
def keysT (t:TypeId):Option (List (Option IntKind)):=match P.underlying t with
 | some (.array n e)=>(scalK P e).map (List.replicate n)
 | some (.struct fs)=>fs.toList.mapM fun f=>scalK P f.type
 | _=>none
def q7f:Option IntKind->Nat
 | some _=>0
 | none=>1
def keyTy (t:TypeId):Option KTy:=match P.underlying t with
 | some (.int k)=>some (.some k)
 | some .string=>some .none
 | _=>(keysT P t).bind fun l=>if tFlat P t=some (l.map q7f)/\l≠[] then some (.agg l) else none
def isBld:List AV->Bool
 | [.nilP,.sl true []]=>true
 | _=>false
def bldEl (e:TypeId):Option TypeId:=if (q8E P e).map isBld=some true then (match P.underlying e with
  | some (.struct fs)=>(fs[1]?).bind fun f=>match P.underlying f.type with
   | some (.slice el)=>some el
   | _=>none
  | _=>none) else none
def isZ:Option Operand->Bool
 | some (.const (.int .i64 n))=>decide (n=0)
 | _=>false
def compOp (cl:Cl) (mu:Option Bool) (o:Go.Op) (nest:Bool:=false):Option K :=
 match o with
 | .move x | .assign x=>(opd x).map .mv
 | .pick c a b=>match opd c,opd a,opd b with
  | some c,some a,some b=>some (.pick c a b)
  | _,_,_=>none
 | .alloc e=>match mu with
  | none=>(q8E P e).map .alloc
  | some _=>(bldEl P e).map (.mkb e)
 | .box e x=>match q1Z P e,opd x with
  | some z,some x=>some (.box z x)
  | _,_=>none
 | .build t ps=>match P.underlying t,q8E P t,opds ps.toList with
  | some (.struct fs),some z,some ps=>(match fs.toList.mapM (fun f=>(P.info? f.type).map fun i=>(f.offset,i.size)) with
   | some pl=>(qb4 (pl.toArray[·]?) ps).map (.build z)
   | none=>none)
  | some (.array _ e),some z,some ps=>(match P.info? e with
   | some ie=>(qb4 (fun i=>some (i * ie.size,ie.size)) ps).map (.build z)
   | none=>none)
  | _,_,_=>none
 | .buildSlice t n ps=>match P.underlying t,opds ps.toList with
  | some (.slice e),some ps=>match q8E P e,q1Z P e with
   | some z,some k=>if z.length=k/\0<k/\n * k<=16777216 then (match mu with | none=>some (.bsl z n ps) | some _=>some (.bslr k z n ps)) else none
   | _,_=>none
  | _,_=>none
 | .load t x=>match tAgg P t,q1Z P t,opd x with
  | some a,some z,some x=>some (.load cl a z x)
  | _,_,_=>none
 | .store t x y=>match tAgg P t,q1Z P t,opd x,opd y with
  | some a,some z,some x,some y=>if a||z == 1 then some (.store cl a z x y) else none
  | _,_,_,_=>none
 | .binOp op t x y _=>match opd x,opd y with
  | some x,some y=>if tScal P t then some (.bin op (match P.underlying t with | some .bool=>true | _=>false) x y) else
   match op with
   | .eql=>(match P.underlying t with
    | some (.slice _)=>some (.eqn false false x y)
    | some (.pointer _)=>some (.eqn false true x y)
    | _=>(tFlat P t).map fun ks=>.eqa false ks x y)
   | .neq=>(match P.underlying t with
    | some (.slice _)=>some (.eqn true false x y)
    | some (.pointer _)=>some (.eqn true true x y)
    | _=>(tFlat P t).map fun ks=>.eqa true ks x y)
   | _=>none
  | _,_=>none
 | .unOp op t x=>if tScal P t then (opd x).map (.un op) else none
 | .convert s d x=>match P.underlying s,P.underlying d,opd x with
  | some (.int _),some (.int k),some x=>some (.conv (some k) x)
  | some .string,some .string,some x=>some (.conv none x)
  | some (.int _),some .string,some x=>some (.rstr x)
  | some (.slice e),some .string,some x=>(match P.underlying e with
   | some (.int .u8)=>if q1Z P e=some 1 then some (.bstr cl x) else none
   | _=>none)
  | _,_,_=>none
 | .makeSlice t l c=>match P.underlying t,opd l,opd c with
  | some (.slice e),some l,some c=>match q8E P e,P.info? e with
   | some z,some i=>if z.length=i.size/\0<i.size then some (.mks i.size i.bytes z l c) else none
   | _,_=>none
  | _,_,_=>none
 | .entry x=>(opd x).map .ent
 | .slice t x lo hi mx0=>match opd x,opdO lo,opdO hi,opdO mx0 with
  | some x,some l,some h,some m=>match P.underlying t with
   | some .string=>some (.slc true 1 x l h m)
   | some (.slice e)=>(match lo,isZ hi&&isZ mx0 with
    | none,true=>(q1Z P e).map fun _=>.slz x
    | _,_=>(q1Z P e).map fun k=>.slc false k x l h m)
   | some (.array n e)=>(match m with
    | none=>(q1Z P e).map fun k=>.aslc cl n k x l h
    | some _=>none)
   | _=>none
  | _,_,_,_=>none
 | .fieldAddr t x i=>match P.underlying t,opd x with
  | some (.struct fs),some x=>match fs[i]? with
   | some f=>match q1Z P f.type with
    | some (_ + 1)=>some (.faddr f.offset x)
    | _=>none
   | none=>none
  | _,_=>none
 | .field t x i=>match P.underlying t,opd x with
  | some (.struct fs),some x=>match fs[i]? with
   | some f=>match tAgg P f.type,q1Z P f.type with
    | some a,some z=>some (.field a f.offset z x)
    | _,_=>none
   | none=>none
  | _,_=>none
 | .indexAddr t x i=>match P.underlying t,opd x,opd i with
  | some (.slice e),some x,some i=>(q1Z P e).map fun k=>.iaddr k x i
  | some (.array n e),some x,some i=>(q1Z P e).map fun k=>.aaddr n k x i
  | _,_,_=>none
 | .index t x i=>match P.underlying t,opd x,opd i with
  | some .string,some x,some i=>some (.index x i)
  | _,_,_=>none
 | .range t x=>match P.underlying t with
  | some (.map _ _)=>(opd x).map .rng
  | _=>none
 | .makeMap t r=>match r,P.underlying t with
  | none,some (.map kT _)=>(keyTy P kT).map fun _=>.mkm
  | _,_=>none
 | .lookup t x i ok=>match P.underlying t,opd x,opd i with
  | some (.map kT eT),some x,some i=>match keyTy P kT,((P.info? eT).bind (·.zero)).bind avC with
   | some ty,some z=>some (.mget ok ty z x i)
   | _,_=>none
  | _,_,_=>none
 | .mapUpdate t m k v=>match P.underlying t,opd m,opd k,opd v with
  | some (.map kT _),some m,some k,some v=>(keyTy P kT).map fun ty=>.mset ty m k v
  | _,_,_,_=>none
 | .insert t m k v=>match P.underlying t,opd m,opd k,opd v with
  | some (.map kT _),some m,some k,some v=>(keyTy P kT).map fun ty=>.mset ty m k v
  | _,_,_,_=>none
 | .extract x i=>(opd x).map fun x=>.ext x i
 | .nilCheck x=>(opd x).map .nilchk
 | .call { callee:=.value (.func f),args:=xs,.. }=>match mu with
  | some false=>(match P.funcs[f]? with
   | some fn=>(match fn.resultTypes.toList with
    | [t]=>(match P.underlying t with
     | some (.slice e)=>(match q1Z P e,opdL xs.toList with
      | some z,some xs=>if 0<z then some (.callf cl f z xs) else none
      | _,_=>none)
     | _=>none)
    | _=>none)
   | none=>none)
  | some true=>(opdL xs.toList).map (.callr cl f)
  | none=>(opdL xs.toList).map (.call cl f)
 | .makeFunc (.func f) fs xs=>if fs.size=0 then (opdL xs.toList).map (.mkf f) else none
 | .call { callee:=.value (.tmp t),args:=xs,.. }=>(opdL xs.toList).map (.callv cl (.t t))
 | .call { callee:=.builtin .len,args:=xs,argTypes:=ts }=>match opdL xs.toList,ts.toList with
  | some [x],[t]=>(match P.underlying t with
   | some .string=>some (.len true x)
   | some (.slice _)=>some (.len false x)
   | some (.map _ _)=>some (.mlen x)
   | _=>none)
  | _,_=>none
 | .call { callee:=.builtin .max,args:=xs,.. }=>match xs.toList with
  | [X,Y]=>(match opd X,opd Y with
   | some x,some y=>some (.mm true x y)
   | _,_=>none)
  | _=>none
 | .call { callee:=.builtin .min,args:=xs,.. }=>match xs.toList with
  | [X,Y]=>(match opd X,opd Y with
   | some x,some y=>some (.mm false x y)
   | _,_=>none)
  | _=>none
 | .call { callee:=.builtin .append,args:=xs,argTypes:=ts }=>match opdL xs.toList,ts.toList with
  | some [x,y],[t,t']=>if t=t' then match P.underlying t with
   | some (.slice e)=>match P.info? e,q8E P e with
    | some i,some z=>if z.length=i.size/\0<i.size then some (match mu with | some true=>(if nest then .appn cl e i.size i.bytes x y else .appm cl e i.size i.bytes x y) | some false=>.appf cl e i.size i.bytes x y | none=>.app cl e i.size i.bytes x y) else none
    | _,_=>none
   | _=>none else none
  | _,_=>none
 | _=>none
def compB (cl:Cl) (mu:Option Bool) (bad nest:Bool) (o:Go.Op):Option K:=match compOp P cl mu o nest with
 | some k=>some k
 | none=>if bad then some .bad else none
def compH (nt:Nat) (hs:Nat->Bool) (o:Go.Op):Option K:=match o with
 | .call { callee:=.value (.func f),args:=xs,.. }=>if hs (1000000 + f) then (opdL xs.toList).map (.callh nt (.c (.fn f []))) else none
 | .call { callee:=.value (.tmp t),args:=xs,.. }=>if hs (2000000 + t) then (opdL xs.toList).map (.callh nt (.t t)) else none
 | .next x false=>(opd x).map .nxt
 | _=>none
def qb5 (boxes:List Nat) (ops:List Oper):Nat->Operand->Option Nat
 | 0,_=>none
 | n + 1,.tmp t=>if boxes.contains t then some t else
  match ops.find? (fun o=>o.dst == some t) with
  | some o=>match o.op with
   | .fieldAddr _ x _=>qb5 boxes ops n x
   | .move x=>qb5 boxes ops n x
   | .nilCheck x=>qb5 boxes ops n x
   | _=>none
  | none=>none
 | _ + 1,_=>none
def isS:K->Bool
 | .store .. | .callr ..=>true
 | _=>false
def isH:K->Bool
 | .callh ..=>true
 | .nxt _=>true
 | _=>false
def isA:K->Bool
 | .alloc _ | .box .. | .mks .. | .appf .. | .appm .. | .appn .. | .bslr .. | .callf ..=>true
 | _=>false
def isM:K->Bool
 | .appm ..=>true
 | .appn ..=>true
 | .callh ..=>true
 | .nxt _=>true
 | _=>false
def isO:K->Bool
 | .call .. | .callf .. | .callv .. | .callr .. | .mkm | .mkb .. | .mget .. | .mset .. | .mlen _ | .rng _ | .ent _=>true
 | _=>false
def isR:K->Bool
 | .mget .. | .mlen _ | .ent _=>true
 | _=>false
def isT:K->Bool
 | .app .. | .appm .. | .appn ..=>true
 | _=>false
def K.cl:K->Option Cl
 | .load cl ..=>some cl
 | .store cl ..=>some cl
 | .call cl ..=>some cl
 | .callf cl ..=>some cl
 | .callv cl ..=>some cl
 | .callr cl ..=>some cl
 | .bstr cl _=>some cl
 | .aslc cl ..=>some cl
 | .app cl ..=>some cl
 | .appf cl ..=>some cl
 | .appm cl ..=>some cl
 | .appn cl ..=>some cl
 | _=>none
def q5U (a b:OpC):Bool :=
 !isM a.op&&!isM b.op&&(!isT a.op||!isT b.op)&&(!isO a.op||!isO b.op||(isR a.op&&isR b.op)) &&
 (match a.op.cl,b.op.cl with
  | some c,some d=>!(isS a.op||isS b.op)||(match c,d with
   | .imm,_=>true
   | _,.imm=>true
   | .root r,.root r'=>r != r'
   | .root r,.out L=>L.contains r
   | .out L,.root r=>L.contains r
   | _,_=>false)
  | _,_=>true) &&
 (!isA a.op||(match b.op.cl with | none=>true | some .imm=>true | some (.root r)=>a.dst != some r | some (.out L)=>(match a.dst with | some d=>L.contains d | none=>false) | some .any=>false)) &&
 (!isA b.op||(match a.op.cl with | none=>true | some .imm=>true | some (.root r)=>b.dst != some r | some (.out L)=>(match b.dst with | some d=>L.contains d | none=>false) | some .any=>false)) &&
 (!isA a.op||!isA b.op||a.dst != b.dst)
def isMv (o:OpC):Bool:=match o.op,o.guard with
 | .mv (.t _),none=>true
 | _,_=>false
def isN:K->Bool
 | .appm ..=>true
 | .appn ..=>true
 | _=>false
def qa2 (a b:OpC):Bool:=q5U a b||((isMv a&&isN b.op)||(isMv b&&isN a.op))
def qal (ops:List Oper):List Nat :=
 (ops.foldl (fun acc o=>acc.push (o.after.foldl (fun s e=>if Region.binds .any e then s ||| 2 ^ e.on ||| acc.getD e.on 0 else s) 0)) (#[]:Array Nat)).toList
def K.opds:K->List Opd
 | .mv x | .box _ x | .load _ _ _ x | .un _ x | .conv _ x | .rstr x | .bstr _ x | .faddr _ x | .field _ _ _ x | .ext x _ | .len _ x | .nilchk x | .rng x | .nxt x | .slz x | .ent x=>[x]
 | .pick c a b=>[c,a,b]
 | .alloc _ | .mkm | .mkb .. | .bad=>[]
 | .mget _ _ _ x k=>[x,k]
 | .mset _ x k v=>[x,k,v]
 | .mlen x=>[x]
 | .build _ ps=>ps.map (·.2.2)
 | .bsl _ _ ps=>ps.map (·.2)
 | .bslr _ _ _ ps=>ps.map (·.2)
 | .store _ _ _ x y | .bin _ _ x y | .mm _ x y | .eqa _ _ x y | .eqn _ _ x y | .mks _ _ _ x y | .iaddr _ x y | .aaddr _ _ x y | .index x y | .app _ _ _ _ x y | .appf _ _ _ _ x y | .appm _ _ _ _ x y | .appn _ _ _ _ x y=>[x,y]
 | .slc _ _ x lo hi mx=>x :: (lo.toList++(hi.toList++mx.toList))
 | .aslc _ _ _ x lo hi=>x :: (lo.toList++hi.toList)
 | .mkf _ xs=>xs
 | .callv _ x xs=>x :: xs
 | .callr _ _ xs=>xs
 | .callh _ x xs=>x :: xs
 | .call _ _ xs=>xs
 | .callf _ _ _ xs=>xs
def OpC.looks (o:OpC):List Nat:=o.op.opds.filterMap (fun | .t n=>some n | _=>none)++(match o.guard with | some (t,_)=>[t] | none=>[])
def OpC.clear (a b:OpC):Bool:=match a.dst with
 | some d=>!b.looks.contains d&&b.dst != some d
 | none=>true
def q7q (a b:OpC):Bool:=a.clear b&&b.clear a
def q7e (o:Oper):List Nat:=o.after.toList.filterMap fun e=>if Region.binds .any e then some e.on else none
def bfOk (ops:List Oper) (bf:List Nat):Bool:=(List.range ops.length).all fun i=>match ops[i]? with
 | some o=>(q7e o).all (fun e=>decide (e<i))&&(List.range i).all fun r=>!(bf.getD i 0).testBit r||(q7e o).any fun e=>e == r||(decide (r<e)&&(bf.getD e 0).testBit r)
 | none=>false
def drawOk (ops:List Oper) (cs:List OpC):Bool :=
 let bf:=qal ops
 bfOk ops bf&&(List.range ops.length).all fun j=>(List.range j).all fun i =>
  (bf.getD j 0).testBit i||(match cs[i]?,cs[j]? with
   | some x,some y=>q7q x y&&qa2 x y
   | _,_=>false)
def freshOk (cs:List OpC):Bool:=(List.range cs.length).all fun j=>match cs[j]? with
 | some y=>!((isA y.op||isO y.op)&&y.dst.isSome)||(List.range cs.length).all fun i=>i == j||(match cs[i]? with | some x=>x.dst != y.dst | none=>false)
 | none=>false
def turns (o:Oper):Bool:=match o.op with | .store ..=>true | .alloc _=>true | .box ..=>true | .makeSlice ..=>true | .call { callee:=.builtin .append,.. }=>true | _=>false
def fixed (ops:List Oper) (o:Oper):Bool:=match o.dst with
 | none=>false
 | some d=>match ops.findIdx? (fun p=>p.dst == some d) with
  | none=>false
  | some i=>let bf:=qal ops
   (List.range ops.length).all fun j=>i == j||!(match ops[j]? with | some p=>turns p | none=>false)||(bf.getD j 0).testBit i||(bf.getD i 0).testBit j
def claim (boxes:List Nat) (adv:Bool) (out:Option (List Nat)) (ops:List Oper) (draw:Bool) (o:Oper):Cl :=
 if !draw then .any else
 if adv then (match o.op with
  | .load _ x=>(match qb5 boxes ops 10 x with | some t=>.root t | none=>if fixed ops o then .any else .imm)
  | .store _ x _=>(match qb5 boxes ops 10 x,out with | some t,_=>.root t | none,some L=>.out (L++ops.filterMap fun p=>if turns p then p.dst else none) | none,none=>.any)
  | .call { callee:=.value (.func _),args:=xs,.. }=>(match (xs[0]?).bind (qb5 (boxes.filter (· == 0)) ops 10) with | some t=>.root t | none=>if fixed ops o||!(ops.any turns) then .any else .imm)
  | _=>if fixed ops o||!(ops.any turns) then .any else .imm) else
 if ops.any (fun o=>match o.op with | .store ..=>true | .alloc _=>true | .box ..=>true | .makeSlice ..=>true | _=>false) then
  match o.op with
  | .load _ x=>(match qb5 boxes ops 10 x with | some t=>.root t | none=>.imm)
  | .store _ x _=>(match qb5 boxes ops 10 x with | some t=>.root t | none=>.any)
  | _=>.imm
 else .any
def dstOk (nt:Nat):Option Nat->Bool
 | some d=>decide (d<nt)
 | none=>true
def compOps (boxes:List Nat) (nt:Nat) (all:List Oper) (draw:Bool):List Oper->Option (List OpC)
 | []=>some []
 | o :: r=>match (match compH nt (fun c=>boxes.contains (nt + 1 + c)) o.op with | some k=>some k | none=>(compB P (claim boxes (boxes.any (nt<·)) (if boxes.contains (nt + 1 + 6000000) then some (boxes.filter (·<nt)) else none) all draw o) (match o.dst with | some d=>if boxes.contains (nt + 1 + (2 * d + 1)) then some true else if boxes.contains (nt + 1 + 2 * d) then some false else none | none=>none) (boxes.contains (nt + 1 + 4000000)) (boxes.contains (nt + 1 + 5000000)) o.op).filter (fun k=>!isH k)),compOps boxes nt all draw r with
  | some k,some l =>
   if dstOk nt o.dst then
    match o.guard with
    | none=>some (⟨o.dst,k,none⟩ :: l)
    | some (g,want)=>match (all[g]?).bind (·.dst) with
     | some t=>some (⟨o.dst,k,some (t,want)⟩ :: l)
     | none=>none
   else none
  | _,_=>none
def comp (boxes:List Nat) (nt:Nat):Code->Option C
 | .skip=>some .skip
 | .seq a b=>match comp boxes nt a,comp boxes nt b with
  | some a,some b=>some (.seq a b)
  | _,_=>none
 | .region _ ops draw=>match compOps P boxes nt ops.toList draw ops.toList with
  | some cs=>if freshOk cs&&(!draw||drawOk ops.toList cs) then some (.reg cs) else none
  | none=>none
 | .cond c t e=>match opd c,comp boxes nt t,comp boxes nt e with
  | some c,some t,some e=>some (.cond c t e)
  | _,_,_=>none
 | .block id b=>(comp boxes nt b).map (.block id)
 | .loop b=>(comp boxes nt b).map .loop
 | .exit id=>some (.exit id)
 | .scope b=>comp boxes nt b
 | .ret=>some .ret
 | _=>none
def q8l:Code->List Nat
 | .seq a b=>q8l a++q8l b
 | .region _ ops _=>ops.toList.filterMap fun o=>match o.op with | .alloc _=>o.dst | .box ..=>o.dst | _=>none
 | .cond _ t e=>q8l t++q8l e
 | .block _ b=>q8l b
 | .loop b=>q8l b
 | .scope b=>q8l b
 | _=>[]
def q7N:List ResultVar->Option (List ResC)
 | []=>some []
 | .tmp t :: r=>(q7N r).map (.tmp t :: ·)
 | .cell t ty :: r=>match tAgg P ty,q1Z P ty,q7N r with
  | some a,some z,some l=>some (.cell t a z :: l)
  | _,_,_=>none
def compF (mu:List Nat) (fn:Func):Option FnC:=match fn.body with
 | none=>none
 | some b=>match comp P (q8l b++(if mu.contains 3000000 then [0] else [])++mu.map (fn.ntmps + 1 + ·)) fn.ntmps b,q7N P fn.results.toList with
  | some c,some r=>if fn.params.size + fn.nfree<=fn.ntmps then some ⟨c,r,fn.params.size + fn.nfree,mu⟩ else none
  | _,_=>none
end
end
section
open Go.RowKit
structure Keep (F:Nat->Prop) (w w':World):Prop where
 os:w'.os=w.os
 tape:w'.tape=w.tape
 output:w'.output=w.output
 size:w.heap.size<=w'.heap.size
 block:∀ k,k<w.heap.size->¬ F k->w'.heap[k]?=w.heap[k]?
section
variable {F G:Nat->Prop} {w w1 w2:World}
theorem Keep.refl (F:Nat->Prop) (w:World):Keep F w w:=⟨rfl,rfl,rfl,ym _,fun _ _ _=>rfl⟩
theorem Keep.trans (h:Keep F w w1) (k:Keep G w1 w2) (hG:∀ i,i<w.heap.size->G i->F i):Keep F w w2 :=
 ⟨k.os.trans h.os,k.tape.trans h.tape,k.output.trans h.output,Nat.le_trans h.size k.size,fun i hi hF =>
  (k.block i (Nat.lt_of_lt_of_le hi h.size) (fun g=>hF (hG i hi g))).trans (h.block i hi hF)⟩
theorem Keep.mono (h:Keep F w w1) (hG:∀ i,i<w.heap.size->F i->G i):Keep G w w1 :=
 ⟨h.os,h.tape,h.output,h.size,fun i hi hg=>h.block i hi fun hf=>hg (hG i hi hf)⟩
theorem Keep.of_below (h:Below w.heap.size w w1) (F:Nat->Prop):Keep F w w1:=⟨h.os,h.tape,h.output,h.size,fun k hk _=>h.block k hk⟩
theorem Keep.below (h:Keep (fun _=>False) w w1):Below w.heap.size w w1:=⟨h.os,h.tape,h.output,h.size,fun k hk=>h.block k hk id⟩
theorem Keep.alloc (h:Keep F w w1) (o:Obj):Keep F w (w1.alloc o) :=
 ⟨h.os,h.tape,h.output,by have:=h.size; simp; omega,fun k hk hF=>(Below.heap_alloc w1 o k (Nat.lt_of_lt_of_le hk h.size)).trans (h.block k hk hF)⟩
theorem Keep.drew (h:Keep F w w1):Keep F w w1.drew:=⟨h.os,h.tape,h.output,h.size,h.block⟩
theorem Keep.trans_below (h:Keep F w w1) (k:Below w1.heap.size w1 w2):Keep F w w2:=h.trans (Keep.of_below k (fun _=>False)) (fun _ _ h=>h.elim)
theorem Keep.grown (h:Keep F w w1) {row:Option Nat} (hg:w1.grownBy w2 row) (hr:∀ k,k<w.heap.size->row=some k->F k):Keep F w w2 :=
 ⟨hg.os.trans h.os,hg.tape.trans h.tape,hg.output.trans h.output,Nat.le_trans h.size hg.size,fun k hk hF =>
  (hg.block k (Nat.lt_of_lt_of_le hk h.size) (fun e=>hF (hr k hk e.symm))).trans (h.block k hk hF)⟩
theorem Keep.cell (h:Keep F w w1) {a:Addr} (ha:a.block<w.heap.size) (hF:¬ F a.block):w1.cell? a=w.cell? a:=World.cell?_of_block (w:=w) (h.block _ ha hF)
theorem Keep.frozen (h:Keep F w w1) {a:Addr} (ha:a.block<w.heap.size) (hF:¬ F a.block):w1.frozen? a=w.frozen? a:=World.frozen?_of_block (w:=w) (h.block _ ha hF)
end
theorem hid {p:Prop} (h:p):Hid p:=h
theorem q0h {w:World} {k:Nat} {o:Obj} (h:w.heap[k]?=some o):k<w.heap.size:=by
 rcases Nat.lt_or_ge k w.heap.size with h' | h'
 ·exact h'
 ·rw [Array.getElem?_eq_none h'] at h; cases h
theorem Keep.at_ {F:Nat->Prop} {w w1:World} (h:Keep F w w1) {a:Addr} {v:Value} (hc:w.cell? a=some v) (hF:¬ F a.block):w1.cell? a=some v:=(h.cell (World.block_lt_of_cell? w a hc) hF).trans hc
theorem Keep.fz {F:Nat->Prop} {w w1:World} (h:Keep F w w1) {a:Addr} (hc:w.frozen? a=false) (hl:a.block<w.heap.size) (hF:¬ F a.block):w1.frozen? a=false:=(h.frozen hl hF).trans hc
theorem new_at {w:World} {o:Obj} {n:Nat} (h:n=w.heap.size):(w.alloc o).heap[n]?=some o:=by rw [h]; exact heap_alloc_new w o
def Sl (av:Nat->Prop) (w:World) (sz:Nat) (v:Value) (n:Nat) (cs:List Value):Prop :=
 cs.length=n * sz/\∃ A c,v=.slice A n c/\n<=c ∧
  (0<n->∃ b off,A=some ⟨b,off,none⟩/\b<w.heap.size/\¬ av b/\∀ j u,cs[j]?=some u->w.cell? ⟨b,off + j,none⟩=some u)
section
variable {av eb:Nat->Prop} {w w':World} {sz n:Nat} {v:Value} {cs:List Value}
theorem Sl.nil (av:Nat->Prop) (w:World) (sz:Nat):Sl av w sz (.slice none 0 0) 0 []:=⟨by simp,none,0,rfl,ym _,fun h=>absurd h (by omega)⟩
theorem Sl.keep {F:Nat->Prop} (h:Sl av w sz v n cs) (hk:Keep F w w') (hF:∀ b,b<w.heap.size->F b->av b):Sl av w' sz v n cs:=by
 obtain ⟨hl,A,c,rfl,hc,hn⟩:=h;refine ⟨hl,A,c,rfl,hc,fun h0=>?_⟩;obtain ⟨b,off,rfl,hb,td,pb⟩:=hn h0;exact ⟨b,off,rfl,Nat.lt_of_lt_of_le hb hk.size,td,fun j u hu=>(hk.cell (a:=⟨b,off + j,none⟩) hb (fun f=>td (hF b hb f))).trans (pb j u hu)⟩
theorem Sl.below (h:Sl av w sz v n cs) (hk:Below w.heap.size w w'):Sl av w' sz v n cs:=h.keep (Keep.of_below hk (fun _=>False)) (fun _ _ h=>h.elim)
theorem Sl.len (h:Sl av w sz v n cs):cs.length=n * sz:=h.1
theorem Sl.zero (av:Nat->Prop) (w:World) (sz:Nat) (A:Option Addr) (c:Nat):Sl av w sz (.slice A 0 c) 0 []:=⟨by simp,A,c,rfl,Nat.zero_le _,fun h=>absurd h (by omega)⟩
end
theorem Keep.setRow {F:Nat->Prop} {w w1:World} (h:Keep F w w1) {B:Nat} (hF:B<w.heap.size->F B) (cs:Array Value):Keep F w (w1.setRow B cs) :=
 ⟨h.os,h.tape,h.output,by have:=h.size; simpa using this,fun k hk hn=>(setRow_other w1 B k cs (fun e=>hn (e ▸ hF (e ▸ hk)))).trans (h.block k hk hn)⟩
/-! maps -/
def getA {κ β:Type} [DecidableEq κ]:List (κ × β)->κ->Option β
 | [],_=>none
 | p :: l,k=>if k=p.1 then some p.2 else getA l k
def setA {κ β:Type} [DecidableEq κ]:List (κ × β)->κ->β->List (κ × β)
 | [],k,v=>[(k,v)]
 | p :: l,k,v=>if k=p.1 then (k,v) :: l else p :: setA l k v
section
variable {κ β:Type} [DecidableEq κ]
end
structure qaR (P:Program) (T:TypeId) {κ:Type} [DecidableEq κ] (ke:κ->Value):Prop where
 check:∀ (empty:Bool) (k:κ) (w:World),(Instr.checkKey empty 10000 T (ke k)).run P w=.ok () w
 find:∀ (k:κ) (es:List MapEntry) (L:List (κ × Value)) (w:World),es.map (fun e=>(e.key,e.val))=L.map (fun p=>(ke p.1,p.2)) →
  (Instr.findKey T (ke k) es).run P w=.ok (((L.map (·.1)).idxOf? k).bind fun i=>(L[i]?).map fun p=>(i,p.2)) w
 same:∀ (k:κ),Instr.sameBits 10000 (ke k) (ke k)=true
def qb9 {κ:Type} (ke:κ->Value) (w:World) (m:Nat) (L:List (κ × Value)):Prop :=
 ∃ es clock,w.heap[m]?=some (.map es clock)/\es.toList.map (fun e=>(e.key,e.val))=L.map (fun p=>(ke p.1,p.2))
theorem idx_get {κ β:Type} [DecidableEq κ] (L:List (κ × β)) (k:κ):(((L.map (·.1)).idxOf? k).bind fun i=>(L[i]?).map fun p=>(i,p.2)).map (·.2)=getA L k:=by
 induction L with
 | nil=>simp [getA]
 | cons p l ih =>
  unfold getA;simp only [yh,List.idxOf?_cons];by_cases h:p.1=k
  ·subst h; simp
  ·have h':(p.1 == k)=false:=by simpa using h
   have h2:¬ k=p.1:=fun e=>h e.symm
   rw [h',if_neg h2,<- ih];cases hi:List.idxOf? k (List.map (fun x=>x.1) l) with
   | none=>simp
   | some i=>simp [Function.comp_def]
section
theorem qb9.keep {κ:Type} {ke:κ->Value} {w:World} {m:Nat} {L:List (κ × Value)} {F:Nat->Prop} {w':World} (h:qb9 ke w m L) (hk:Keep F w w') (hF:¬ F m):qb9 ke w' m L:=by
 obtain ⟨es,clock,h1,h2⟩:=h;exact ⟨es,clock,(hk.block m (q0h h1) hF).trans h1,h2⟩
theorem qb9.lt {κ:Type} {ke:κ->Value} {w:World} {m:Nat} {L:List (κ × Value)} (h:qb9 ke w m L):m<w.heap.size:=by
 obtain ⟨es,clock,h1,h2⟩:=h;exact q0h h1
theorem idx_set {κ β:Type} [DecidableEq κ] (L:List (κ × β)) (k:κ) (v:β):setA L k v=match (L.map (·.1)).idxOf? k with | some i=>L.set i (k,v) | none=>L++[(k,v)]:=by
 induction L with
 | nil=>simp [setA]
 | cons p l ih =>
  unfold setA;simp only [yh,List.idxOf?_cons];by_cases h:p.1=k
  ·subst h; simp
  ·have h':(p.1 == k)=false:=by simpa using h
   have h2:¬ k=p.1:=fun e=>h e.symm
   rw [h',if_neg h2,ih];cases hi:List.idxOf? k (List.map (fun x=>x.1) l) <;> simp
variable {κ:Type} [DecidableEq κ] {P:Program} {T kT eT:TypeId} {ke:κ->Value} {w:World} {m:Nat} {L:List (κ × Value)}
theorem qb9.lookup (h:qb9 ke w m L) (K:qaR P kT ke) (hT:P.underlying T=some (.map kT eT)) {z:Value} (hz:(zeroValue eT).run P w=.ok z w) (k:κ) :
  (Instr.lookup T (.map (some m)) (ke k) false).run P w=.ok ((getA L k).getD z) w:=by
 obtain ⟨es,clock,h1,h2⟩:=h;have hg:(getObj m).run P w=.ok (.map es clock) w:=by simp [getObj,Sem.run,h1]
 have hf:=K.find k es.toList L w h2;have hi:=idx_get L k;simp only [Instr.lookup,Sem.run_bind,run_underlying hT,Result.andThen_ok,hg,Sem.run_pure,K.check,hf];rw [<- hi];cases hq:((L.map (·.1)).idxOf? k).bind fun i=>(L[i]?).map fun p=>(i,p.2) with
 | none=>simp [hz]
 | some x=>obtain ⟨i,v⟩:=x; simp
theorem qb9.lookup_ok (h:qb9 ke w m L) (K:qaR P kT ke) (hT:P.underlying T=some (.map kT eT)) {z:Value} (hz:(zeroValue eT).run P w=.ok z w) (k:κ) :
  (Instr.lookup T (.map (some m)) (ke k) true).run P w=.ok (.tuple #[(getA L k).getD z,.bool (getA L k).isSome]) w:=by
 obtain ⟨es,clock,h1,h2⟩:=h;have hg:(getObj m).run P w=.ok (.map es clock) w:=by simp [getObj,Sem.run,h1]
 have hf:=K.find k es.toList L w h2;have hi:=idx_get L k;simp only [Instr.lookup,Sem.run_bind,run_underlying hT,Result.andThen_ok,hg,Sem.run_pure,K.check,hf];rw [<- hi];cases hq:((L.map (·.1)).idxOf? k).bind fun i=>(L[i]?).map fun p=>(i,p.2) with
 | none=>simp [hz]
 | some x=>obtain ⟨i,v⟩:=x; simp
theorem Keep.setObj {F:Nat->Prop} {w w1:World} (h:Keep F w w1) {m:Nat} (hF:F m) (o:Obj):Keep F w { w1 with heap:=w1.heap.setIfInBounds m o } :=
 ⟨h.os,h.tape,h.output,by have:=h.size; simpa using this,fun k hk hn=>by
  have:m≠k:=fun e=>hn (e ▸ hF)
  show (w1.heap.setIfInBounds m o)[k]?=_;rw [Array.getElem?_setIfInBounds_ne this];exact h.block k hk hn⟩
end
end
section
open Go Go.RowKit
abbrev Av:=Nat->Nat->Prop
structure Ix where
 f:Nat->Nat->Option Nat
 ob:Nat->Nat->Option (Nat->Prop)
 z:Nat->Nat
instance:CoeFun Ix (fun _=>Nat->Nat->Option Nat):=⟨Ix.f⟩
def Ix.none:Ix:=⟨fun _ _=>.none,fun _ _=>.none,fun _=>0⟩
structure Ix.Le (ι ι':Ix):Prop where
 f:∀ t n b,ι t n=some b->ι' t n=some b
 z:∀ t n b,ι t n=some b->ι'.z b=ι.z b
theorem Ix.Le.refl (ι:Ix):Ix.Le ι ι:=⟨fun _ _ _ h=>h,fun _ _ _ _=>rfl⟩
def AV.scalV:AV->Value
 | .int k n=>.int k n
 | .bool b=>.bool b
 | .str s=>.string s
 | _=>Go.undef
def AV.flatV:AV->Value
 | .agg cs=>.agg (cs.map AV.scalV).toArray
 | v=>v.scalV
def entV:List AV->Value × Value
 | [k,v]=>(k.flatV,v.flatV)
 | _=>(Go.undef,Go.undef)
def Stamps (es:Array MapEntry) (clock:Nat):Prop:=clock=es.size/\∀ i (h:i<es.size),es[i].born=i
theorem it_none {S:AV} (h:(itOf S).isSome=true):q7g S=none/\bldOf S=none:=by
 unfold itOf at h;split at h
 ·exact ⟨rfl,rfl⟩
 ·cases h
def MapO (L:List (List AV)) (H:Nat->Prop) (p:Nat) (w:World):Prop:=(∀ b,H b ↔ b=p)/\∃ es clock,w.heap[p]?=some (.map es clock)/\es.toList.map (fun e=>(e.key,e.val))=L.map entV/\Stamps es clock
def BldO (T e:TypeId) (s:ByteArray) (H:Nat->Prop) (p:Nat) (w:World):Prop :=
 ∃ v q,w.heap[p]?=some (.cells #[q,v] T (0,0))/\(q=.pointer none\/q=.pointer (some ⟨p,0,none⟩))/\w.ownsRowF 0 e 1 v s.size (Go.Lib.strCells s)/\v.ownBlock≠some p/\∀ b,H b ↔ b=p\/v.ownBlock=some b
theorem BldO.keep {T e:TypeId} {s:ByteArray} {H:Nat->Prop} {p:Nat} {w w':World} (h:BldO T e s H p w) (hb:∀ b,H b->w'.heap[b]?=w.heap[b]?):BldO T e s H p w':=by
 obtain ⟨v,q,h1,h2,h3,h4,h5⟩:=h;refine ⟨v,q,(hb p ((h5 p).2 (.inl rfl))).trans h1,h2,⟨h3.1,?_⟩,h4,h5⟩;rcases h3.2 with hn | ⟨g,cap,cur,fz,rfl,wE,hg,rest⟩
 ·exact .inl hn
 ·exact .inr ⟨g,cap,cur,fz,rfl,wE,(hb g ((h5 g).2 (.inr rfl))).trans hg,rest⟩
theorem BldO.lt {T e:TypeId} {s:ByteArray} {H:Nat->Prop} {p b:Nat} {w:World} (h:BldO T e s H p w) (hb:H b):b<w.heap.size:=by
 obtain ⟨v,q,h1,h2,h3,h4,h5⟩:=h;rcases (h5 b).1 hb with rfl | hv
 ·exact q0h h1
 ·exact (h3.lt b hv).2
structure Objs0 where
 at_:AV->(Nat->Prop)->Nat->World->Prop
 keep:∀ {S H p w w'},at_ S H p w->(∀ b,H b->w'.heap[b]?=w.heap[b]?)->w.heap.size<=w'.heap.size->at_ S H p w'
 main:∀ {S H p w},at_ S H p w->H p
 lt:∀ {S H p w b},at_ S H p w->H b->b<w.heap.size
structure Objs extends Objs0 where
 maps:∀ L H p w,at_ (q6m L) H p w ↔ MapO L H p w
 blds:∀ T e s H p w,at_ (bldAV T e s) H p w ↔ BldO T e s H p w
 iters:∀ S H p w,(itOf S).isSome=true->(at_ S H p w ↔ ((∀ b,H b ↔ b=p)/\p<w.heap.size))
def Objs0.ofAt (O:Objs0) (A:AV) (H:Nat->Prop) (p:Nat) (w:World):Prop:=match q7g A with
 | some L=>MapO L H p w
 | none=>match bldOf A with
  | some (T,e,s)=>BldO T e s H p w
  | none=>if (itOf A).isSome=true then (∀ b,H b ↔ b=p)/\p<w.heap.size else O.at_ A H p w
def Objs0.of (O:Objs0):Objs where
 at_:=O.ofAt
 keep:=fun {A H p w w'} h hb hs=>by
  unfold Objs0.ofAt at h ⊢
  split at h
  ·obtain ⟨h1,es,clock,h2,h3⟩:=h
   exact ⟨h1,es,clock,(hb p ((h1 p).2 rfl)).trans h2,h3⟩
  ·split at h
   ·exact h.keep hb
   ·split at h
    ·rename_i hi
     simp only [hi,if_true]
     exact ⟨h.1,Nat.lt_of_lt_of_le h.2 hs⟩
    ·rename_i hi
     simp only [hi,if_false]
     exact O.keep h hb hs
 main:=fun {A H p w} h=>by
  unfold Objs0.ofAt at h
  split at h
  ·exact (h.1 p).2 rfl
  ·split at h
   ·obtain ⟨v,q,h1,h2,h3,h4,h5⟩:=h
    exact (h5 p).2 (.inl rfl)
   ·split at h
    ·exact (h.1 p).2 rfl
    ·exact O.main h
 lt:=fun {A H p w b} h hb=>by
  unfold Objs0.ofAt at h
  split at h
  ·obtain ⟨h1,es,clock,h2,h3⟩:=h
   rw [(h1 b).1 hb]
   exact q0h h2
  ·split at h
   ·exact h.lt hb
   ·split at h
    ·rw [(h.1 b).1 hb]; exact h.2
    ·exact O.lt h hb
 maps:=fun L H p w=>Iff.rfl
 blds:=fun T e s H p w=>Iff.rfl
 iters:=fun S H p w h=>by
  unfold Objs0.ofAt
  rw [(it_none h).1,(it_none h).2]
  simp only [h,if_true]
def noObjs:Objs0 where
 at_:=fun _ _ _ _=>False
 keep:=fun h _ _=>h.elim
 main:=fun h=>h.elim
 lt:=fun h _=>h.elim
mutual
/-- v reads as x in w,and nothing that it reads lies in av -/
def Rep (av:Av) (w:World):AV->Value->Prop
 | .int k n,v=>v=.int k n
 | .bool b,v=>v=.bool b
 | .str s,v=>v=.string s
 | .nilP,v=>v=.pointer none
 | .ip cs,v=>∃ b off,v=.pointer (some ⟨b,off,none⟩)/\q3Q av w cs b off
 | .sl nil l,v=>∃ A c,v=.slice A l.length c/\l.length<=c/\(∀ x∈l,∀ y∈l,x.length=y.length)/\(nil=true->A=none/\l.length=0/\c=0)/\(nil=false->(A=none->c=0)/\(0<l.length->∃ b off,A=some ⟨b,off,none⟩/\Rows av w l b off))
 | .agg cs,v=>∃ us,v=.agg us/\RepL av w cs us.toList
 | .tup xs,v=>∃ us,v=.tuple us/\RepT av w xs us.toList
 | .ptr ..,_=>False
 | .bp ..,_=>False
 | .bl ..,_=>False
 | .ref ..,_=>False
 | .mp ..,_=>False
 | .fn ..,_=>False
 | .undef,_=>True
def RepL (av:Av) (w:World):List AV->List Value->Prop
 | [],us=>us=[]
 | x :: r,us=>∃ u sa,us=u :: sa/\Rep av w x u/\u.oneCell'=true/\RepL av w r sa
def RepT (av:Av) (w:World):List AV->List Value->Prop
 | [],us=>us=[]
 | x :: r,us=>∃ u sa,us=u :: sa/\Rep av w x u/\RepT av w r sa
def q3Q (av:Av) (w:World):List AV->Nat->Nat->Prop
 | [],_,_=>True
 | x :: r,b,off=>(∃ u,w.cell? ⟨b,off,none⟩=some u/\Rep av w x u/\u.oneCell'=true)/\¬ av b off/\q3Q av w r b (off + 1)
def Rows (av:Av) (w:World):List (List AV)->Nat->Nat->Prop
 | [],_,_=>True
 | cs :: r,b,off=>q3Q av w cs b off/\Rows av w r b (off + cs.length)
end
structure Held (av eb:Av) (w w':World):Prop where
 cell:∀ b o u,w.cell? ⟨b,o,none⟩=some u->¬ av b o->w'.cell? ⟨b,o,none⟩=some u/\¬ eb b o
mutual
theorem Rep.held {av eb:Av} {w w':World} (h:Held av eb w w'):∀ (x:AV) (v:Value),Rep av w x v->Rep eb w' x v
 | .int _ _,_,hr=>by simpa [Rep] using hr
 | .bool _,_,hr=>by simpa [Rep] using hr
 | .str _,_,hr=>by simpa [Rep] using hr
 | .nilP,_,hr=>by simpa [Rep] using hr
 | .ip cs,_,hr=>by
  simp only [Rep] at hr ⊢
  obtain ⟨b,off,rfl,hc⟩:=hr
  exact ⟨b,off,rfl,q3Q.held h cs b off hc⟩
 | .sl nil l,_,hr=>by
  simp only [Rep] at hr ⊢
  obtain ⟨A,c,rfl,hc,hu,hn,hs⟩:=hr
  refine ⟨A,c,rfl,hc,hu,hn,fun hf=>⟨(hs hf).1,fun h0=>?_⟩⟩
  obtain ⟨b,off,rfl,ka⟩:=(hs hf).2 h0
  exact ⟨b,off,rfl,Rows.held h l b off ka⟩
 | .agg cs,_,hr=>by
  simp only [Rep] at hr ⊢
  obtain ⟨us,rfl,hc⟩:=hr
  exact ⟨us,rfl,RepL.held h cs _ hc⟩
 | .tup xs,_,hr=>by
  simp only [Rep] at hr ⊢
  obtain ⟨us,rfl,hc⟩:=hr
  exact ⟨us,rfl,RepT.held h xs _ hc⟩
 | .ptr ..,_,hr=>by simp [Rep] at hr
 | .bp ..,_,hr=>by simp [Rep] at hr
 | .bl ..,_,hr=>by simp [Rep] at hr
 | .ref ..,_,hr=>by simp [Rep] at hr
 | .mp ..,_,hr=>by simp [Rep] at hr
 | .fn ..,_,hr=>by simp [Rep] at hr
 | .undef,_,hr=>trivial
theorem RepL.held {av eb:Av} {w w':World} (h:Held av eb w w'):∀ (xs:List AV) (us:List Value),RepL av w xs us->RepL eb w' xs us
 | [],_,hr=>by simpa [RepL] using hr
 | x :: r,_,hr=>by
  simp only [RepL] at hr ⊢
  obtain ⟨u,sa,rfl,hx,h1,hr⟩:=hr
  exact ⟨u,sa,rfl,Rep.held h x u hx,h1,RepL.held h r sa hr⟩
theorem RepT.held {av eb:Av} {w w':World} (h:Held av eb w w'):∀ (xs:List AV) (us:List Value),RepT av w xs us->RepT eb w' xs us
 | [],_,hr=>by simpa [RepT] using hr
 | x :: r,_,hr=>by
  simp only [RepT] at hr ⊢
  obtain ⟨u,sa,rfl,hx,hr⟩:=hr
  exact ⟨u,sa,rfl,Rep.held h x u hx,RepT.held h r sa hr⟩
theorem q3Q.held {av eb:Av} {w w':World} (h:Held av eb w w'):∀ (cs:List AV) (b off:Nat),q3Q av w cs b off->q3Q eb w' cs b off
 | [],_,_,_=>by simp [q3Q]
 | x :: r,b,off,hr=>by
  simp only [q3Q] at hr ⊢
  obtain ⟨⟨u,hc,hx,h1⟩,ha,hr⟩:=hr
  obtain ⟨cf,ru⟩:=h.cell b off u hc ha
  exact ⟨⟨u,cf,Rep.held h x u hx,h1⟩,ru,q3Q.held h r b (off + 1) hr⟩
theorem Rows.held {av eb:Av} {w w':World} (h:Held av eb w w'):∀ (l:List (List AV)) (b off:Nat),Rows av w l b off->Rows eb w' l b off
 | [],_,_,_=>by simp [Rows]
 | cs :: r,b,off,hr=>by
  simp only [Rows] at hr ⊢
  exact ⟨q3Q.held h cs b off hr.1,Rows.held h r b (off + cs.length) hr.2⟩
end
theorem Held.refl (av:Av) (w:World):Held av av w w:=⟨fun _ _ _ hc ha=>⟨hc,ha⟩⟩
theorem Held.less {av eb:Av} {w:World} (h:∀ b o,eb b o->av b o):Held av eb w w:=⟨fun _ _ _ hc ha=>⟨hc,fun hx=>ha (h _ _ hx)⟩⟩
def q1G (av avB:Av) (w:World):List AV->Nat->Nat->Prop
 | [],_,_=>True
 | x :: r,b,off=>(∃ u,w.cell? ⟨b,off,none⟩=some u/\Rep av w x u/\u.oneCell'=true)/\¬ avB b off/\q1G av avB w r b (off + 1)
def q95 (av avB:Av) (w:World):List (List AV)->Nat->Nat->Prop
 | [],_,_=>True
 | cs :: r,b,off=>q1G av avB w cs b off/\q95 av avB w r b (off + cs.length)
theorem q1G.held {av eb avB avB':Av} {w w':World} (h:Held av eb w w') (hB:Held avB avB' w w'):∀ (cs:List AV) (b off:Nat),q1G av avB w cs b off->q1G eb avB' w' cs b off
 | [],_,_,_=>by simp [q1G]
 | x :: r,b,off,hr=>by
  simp only [q1G] at hr ⊢;obtain ⟨⟨u,hc,hx,h1⟩,ha,hr⟩:=hr;obtain ⟨cf,ru⟩:=hB.cell b off u hc ha;exact ⟨⟨u,cf,Rep.held h x u hx,h1⟩,ru,q1G.held h hB r b (off + 1) hr⟩
theorem q95.held {av eb avB avB':Av} {w w':World} (h:Held av eb w w') (hB:Held avB avB' w w'):∀ (l:List (List AV)) (b off:Nat),q95 av avB w l b off->q95 eb avB' w' l b off
 | [],_,_,_=>by simp [q95]
 | cs :: r,b,off,hr=>by
  simp only [q95] at hr ⊢;exact ⟨q1G.held h hB cs b off hr.1,q95.held h hB r b (off + cs.length) hr.2⟩
def RepC (ι:Ix) (av:Av) (w:World):AV->Value->Prop
 | .ptr t n off,v=>∃ b,ι t n=some b/\v=.pointer (some ⟨b,off,none⟩)
 | .ref t n sz off len cap,v=>∃ b,ι t n=some b/\len<=cap/\∃ c,cap<=c/\off + c * sz<=ι.z b/\v=.slice (some ⟨b,off,none⟩) len c
 | .mp t n,v=>∃ b,ι t n=some b/\v=.map (some b)
 | .undef,_=>True
 | x,v=>Rep av w x v
def q0w (ι:Ix) (av:Av) (w:World):List AV->List Value->Prop
 | [],us=>us=[]
 | x :: r,us=>∃ u sa,us=u :: sa/\RepC ι av w x u/\u.oneCell'=true/\q0w ι av w r sa
def RepU (ι:Ix) (av:Av) (w:World):AV->Value->Prop
 | .agg cs,v=>∃ us,v=.agg us/\q0w ι av w cs us.toList
 | x,v=>RepC ι av w x v
def q62 (ι:Ix) (av:Av) (w:World):List AV->List Value->Prop
 | [],us=>us=[]
 | x :: r,us=>∃ u sa,us=u :: sa/\RepU ι av w x u/\q62 ι av w r sa
def RepP (ι:Ix) (av avB:Av) (w:World):AV->Value->Prop
 | .bp cs,v=>∃ b off,v=.pointer (some ⟨b,off,none⟩)/\q1G av avB w cs b off
 | x,v=>RepC ι av w x v
def q6v (ι:Ix) (av avB:Av) (w:World):List AV->List Value->Prop
 | [],us=>us=[]
 | x :: r,us=>∃ u sa,us=u :: sa/\RepP ι av avB w x u/\q6v ι av avB w r sa
def RepS (ι:Ix) (av avB:Av) (w:World):AV->Value->Prop
 | .bp cs,v=>∃ b off,v=.pointer (some ⟨b,off,none⟩)/\q1G av avB w cs b off
 | .bl l,v=>∃ a c,v=.slice (some a) l.length c/\l.length<=c/\(∀ x∈l,∀ y∈l,x.length=y.length)/\(0<l.length->∃ b off,a=⟨b,off,none⟩/\q95 av avB w l b off)
 | .agg cs,v=>∃ us,v=.agg us/\q0w ι av w cs us.toList
 | .tup xs,v=>∃ us,v=.tuple us/\q62 ι av w xs us.toList
 | .fn f cs,v=>∃ us,v=.func (.func f) #[] us/\q6v ι av avB w cs us.toList
 | .undef,_=>True
 | x,v=>RepC ι av w x v
theorem RepC.held {ι ι':Ix} {av eb:Av} {w w':World} (hι:Ix.Le ι ι') (h:Held av eb w w') (x:AV) (v:Value) (hr:RepC ι av w x v):RepC ι' eb w' x v:=by
 cases x <;> first
  | exact Rep.held h _ v hr
  | (obtain ⟨b,hb,h1,c,h2,h3,hv⟩:=hr; exact ⟨b,hι.f _ _ _ hb,h1,c,h2,by rw [hι.z _ _ _ hb]; exact h3,hv⟩)
  | (obtain ⟨b,hb,hv⟩:=hr; exact ⟨b,hι.f _ _ _ hb,hv⟩)
  | trivial
theorem q0w.held {ι ι':Ix} {av eb:Av} {w w':World} (hι:Ix.Le ι ι') (h:Held av eb w w'):∀ (xs:List AV) (us:List Value),q0w ι av w xs us->q0w ι' eb w' xs us
 | [],_,hr=>by simpa [q0w] using hr
 | x :: r,_,hr=>by
  simp only [q0w] at hr ⊢;obtain ⟨u,sa,rfl,hx,h1,hr⟩:=hr;exact ⟨u,sa,rfl,RepC.held hι h x u hx,h1,q0w.held hι h r sa hr⟩
theorem RepU.held {ι ι':Ix} {av eb:Av} {w w':World} (hι:Ix.Le ι ι') (h:Held av eb w w') (x:AV) (v:Value) (hr:RepU ι av w x v):RepU ι' eb w' x v:=by
 cases x with
 | agg cs=>obtain ⟨us,hv,hc⟩:=hr; exact ⟨us,hv,q0w.held hι h _ _ hc⟩
 | int=>exact RepC.held hι h (.int _ _) v hr
 | bool=>exact RepC.held hι h (.bool _) v hr
 | str=>exact RepC.held hι h (.str _) v hr
 | nilP=>exact RepC.held hι h .nilP v hr
 | ptr t n o=>exact RepC.held hι h (.ptr t n o) v hr
 | ip cs=>exact RepC.held hι h (.ip cs) v hr
 | bp cs=>exact RepC.held hι h (.bp cs) v hr
 | sl n l=>exact RepC.held hι h (.sl n l) v hr
 | bl l=>exact RepC.held hι h (.bl l) v hr
 | ref a b c d e f=>exact RepC.held hι h (.ref a b c d e f) v hr
 | mp t n=>exact RepC.held hι h (.mp t n) v hr
 | fn f cs=>exact RepC.held hι h (.fn f cs) v hr
 | tup cs=>exact RepC.held hι h (.tup cs) v hr
 | undef=>trivial
theorem q62.held {ι ι':Ix} {av eb:Av} {w w':World} (hι:Ix.Le ι ι') (h:Held av eb w w'):∀ (xs:List AV) (us:List Value),q62 ι av w xs us->q62 ι' eb w' xs us
 | [],_,hr=>by simpa [q62] using hr
 | x :: r,_,hr=>by
  simp only [q62] at hr ⊢;obtain ⟨u,sa,rfl,hx,hr⟩:=hr;exact ⟨u,sa,rfl,RepU.held hι h x u hx,q62.held hι h r sa hr⟩
theorem RepP.held {ι ι':Ix} {av eb avB avB':Av} {w w':World} (hι:Ix.Le ι ι') (h:Held av eb w w') (hB:Held avB avB' w w') (x:AV) (v:Value) (hr:RepP ι av avB w x v):RepP ι' eb avB' w' x v:=by
 match x,hr with
 | .bp cs,⟨b,off,hv,hc⟩=>exact ⟨b,off,hv,q1G.held h hB _ b off hc⟩
 | .int k n,hr=>exact RepC.held hι h (.int k n) v hr
 | .bool b,hr=>exact RepC.held hι h (.bool b) v hr
 | .str s,hr=>exact RepC.held hι h (.str s) v hr
 | .nilP,hr=>exact RepC.held hι h .nilP v hr
 | .ptr t n off,hr=>exact RepC.held hι h (.ptr t n off) v hr
 | .ip cs,hr=>exact RepC.held hι h (.ip cs) v hr
 | .sl n l,hr=>exact RepC.held hι h (.sl n l) v hr
 | .mp t n,hr=>exact RepC.held hι h (.mp t n) v hr
 | .ref t n sz off len cap,hr=>exact RepC.held hι h (.ref t n sz off len cap) v hr
 | .undef,hr=>trivial
 | .agg cs,hr=>exact RepC.held hι h (.agg cs) v hr
 | .tup cs,hr=>exact RepC.held hι h (.tup cs) v hr
theorem q6v.held {ι ι':Ix} {av eb avB avB':Av} {w w':World} (hι:Ix.Le ι ι') (h:Held av eb w w') (hB:Held avB avB' w w'):∀ (xs:List AV) (us:List Value),q6v ι av avB w xs us->q6v ι' eb avB' w' xs us
 | [],_,hr=>by simpa [q6v] using hr
 | x :: r,_,hr=>by
  simp only [q6v] at hr ⊢;obtain ⟨u,sa,rfl,hx,hr⟩:=hr;exact ⟨u,sa,rfl,RepP.held hι h hB x u hx,q6v.held hι h hB r sa hr⟩
theorem RepS.held {ι ι':Ix} {av eb avB avB':Av} {w w':World} (hι:Ix.Le ι ι') (h:Held av eb w w') (hB:Held avB avB' w w') (x:AV) (v:Value) (hr:RepS ι av avB w x v):RepS ι' eb avB' w' x v:=by
 match x,hr with
 | .bp cs,⟨b,off,hv,hc⟩=>exact ⟨b,off,hv,q1G.held h hB _ b off hc⟩
 | .bl l,⟨a,c,hv,hl,hu,hc⟩ =>
  refine ⟨a,c,hv,hl,hu,fun h0=>?_⟩;obtain ⟨b,off,ha,hr⟩:=hc h0;exact ⟨b,off,ha,q95.held h hB _ b off hr⟩
 | .agg cs,⟨us,hv,hc⟩=>exact ⟨us,hv,q0w.held hι h _ _ hc⟩
 | .undef,_=>trivial
 | .int k n,hr=>exact RepC.held hι h (.int k n) v hr
 | .bool b,hr=>exact RepC.held hι h (.bool b) v hr
 | .str s,hr=>exact RepC.held hι h (.str s) v hr
 | .nilP,hr=>exact RepC.held hι h .nilP v hr
 | .ptr t n off,hr=>exact RepC.held hι h (.ptr t n off) v hr
 | .ip cs,hr=>exact RepC.held hι h (.ip cs) v hr
 | .sl n l,hr=>exact RepC.held hι h (.sl n l) v hr
 | .mp t n,hr=>exact RepC.held hι h (.mp t n) v hr
 | .ref t n sz off len cap,hr=>exact RepC.held hι h (.ref t n sz off len cap) v hr
 | .tup vs,⟨us,hv,hc⟩=>exact ⟨us,hv,q62.held hι h _ _ hc⟩
 | .fn f cs,⟨us,hv,hc⟩=>exact ⟨us,hv,q6v.held hι h hB _ _ hc⟩
end
section
open Go Go.RowKit
structure Own where
 b:Nat->Prop
 p:Option Nat
 r:Nat->Prop
 z:Nat
 /-- what the slots of the calls that wait wh -/
 g:Nat->Value
instance:CoeFun Own (fun _=>Nat->Prop):=⟨Own.b⟩
structure Ow where
 g:Nat
 n:Nat
 c:Nat
 sz:Nat
 e:TypeId
abbrev Fam:=Nat->Option Ow
def Ix.has (ι:Ix) (b:Nat):Prop:=(∃ t n,ι t n=some b)\/∃ t n H,ι.ob t n=some H/\H b
def avB (ι:Ix) (Θ:Fam):Av:=fun b o=>ι.has b\/(∃ k ow,Θ k=some ow/\ow.g=b/\ow.n * ow.sz<=o)
def avA (da:Av) (ι:Ix) (Θ:Fam):Av:=fun b o=>da b o\/avB ι Θ b o
def exV (v:Value):Prop:=∃ A n,v=.slice A n n
def AnOk (Θ:Fam):An->Value->Prop
 | .no,_=>True
 | .ex,v=>exV v
 | .own k e,v=>exV v\/∃ ow,Θ k=some ow/\ow.e=e/\v=.slice (some ⟨ow.g,0,none⟩) ow.n ow.c
def q3p (ι:Ix) (Θ:Fam) (av:Av) (w:World) (r:List Slot) (cur:Array Value):Prop :=
 r.length<=cur.size/\∀ (j:Nat) (x:Slot),r[j]?=some x->∃ u,cur[j]?=some u/\u.oneCell'=true/\RepC ι av w x.v u/\AnOk Θ x.a u
def ObOk (B:Nat) (F0:Own) (D:Nat->Prop) (next:Nat) (w:World) (ι:Ix) (Θ:Fam) (t n:Nat) (H:Nat->Prop):Prop :=
 (∀ b,H b->(B<=b\/F0 b)/\b<w.heap.size/\(∀ t' n',ι t' n'=some b->t'=t/\n'=n)/\(∀ k o,Θ k=some o->o.g≠b)/\∀ t' n' H',ι.ob t' n'=some H'->H' b->t'=t/\n'=n)/\(n<next\/n=next/\D t)
def Tie (ι:Ix) (S:AV) (p:Nat) (w:World):Prop:=∀ tm nm N seen,itOf S=some (tm,nm,N,seen)->∃ m H,ι tm nm=some m/\ι.ob tm nm=some H/\w.heap[p]?=some (.mapIter (some m) N seen.toArray N)
theorem Tie.no {ι:Ix} {S:AV} {p:Nat} {w:World} (h:noIt S=true):Tie ι S p w:=fun tm nm N seen e=>by
 unfold noIt at h;rw [e] at h;cases h
theorem Tie.keep {ι ι':Ix} {S:AV} {p:Nat} {w w':World} (h:Tie ι S p w) (hι:∀ t n b H,ι t n=some b->ι.ob t n=some H->ι' t n=some b/\∃ H',ι'.ob t n=some H') (hp:∀ x,w.heap[p]?=some x->w'.heap[p]?=some x):Tie ι' S p w':=fun tm nm N seen e=>by
 obtain ⟨m,H,h1,h2,h3⟩:=h tm nm N seen e;obtain ⟨g1,H',g2⟩:=hι _ _ _ _ h1 h2;exact ⟨m,H',g1,g2,hp _ h3⟩
structure Rel (P:Program) (O:Objs) (nt B:Nat) (F0:Own) (da:Av) (w0:World) (D:Nat->Prop) (s:MSt) (a:Act) (w:World) (ι:Ix) (Θ:Fam):Prop where
 defers:a.defers=[]
 size:a.tmps.size=nt
 env:∀ t,RepS ι (avA da ι Θ) (avB ι Θ) w (s.env t).v (a.tmps.getD t undef)
 ann:∀ t,AnOk Θ (s.env t).a (a.tmps.getD t undef)
 rows:∀ t n r,s.mem t n=some r->ι.ob t n=none/\∃ b cur ty,ι t n=some b/\w.heap[b]?=some (.cells cur ty (0,0))/\q3p ι Θ (avA da ι Θ) w r cur/\(B<=b\/F0.r b)/\cur.size=ι.z b
 mine:∀ t n b,ι t n=some b->(B<=b\/F0 b)/\b<w.heap.size/\(n<s.next\/n=s.next/\D t)
 inj:∀ t n t' n' b,ι t n=some b->ι t' n'=some b->t=t'/\n=n'
 tok:∀ k o,Θ k=some o->B<=o.g/\0<o.sz/\o.n<=o.c/\o.c<=maxLen/\∃ cur,w.heap[o.g]?=some (.cells cur o.e (0,0))/\(cur.size=o.c * o.sz/\q1Z P o.e=some o.sz)
 tinj:∀ k k' o o',Θ k=some o->Θ k'=some o'->o.g=o'.g->k=k'
 apart:∀ k o t n,Θ k=some o->ι t n≠some o.g
 out:∀ b o,da b o->b<B
 pin:∀ p,F0.p=some p->ι 0 0=some p/\((F0.r p/\ι.z p=F0.z)\/∃ H,ι.ob 0 0=some H)
 kept:Keep F0.b w0 w
 base:B=w0.heap.size
 objs:∀ t n S,s.obj t n=some S->∃ p H,ι t n=some p/\ι.ob t n=some H/\O.at_ S H p w/\Tie ι S p w
 obs:∀ t n H,ι.ob t n=some H->ObOk B F0 D s.next w ι Θ t n H
 gen:∀ t,RepS ι (avA da ι Θ) (avB ι Θ) w (s.gh t).v (F0.g t)
 gann:∀ t,AnOk Θ (s.gh t).a (F0.g t)
section
variable {P:Program} {O:Objs} {nt B:Nat} {F0:Own} {da:Av} {w0:World} {D:Nat->Prop} {s:MSt} {a:Act} {w w':World} {ι:Ix} {Θ:Fam}
theorem q5R {w:World} {b o:Nat} {u:Value} (h:w.cell? ⟨b,o,none⟩=some u):b<w.heap.size:=World.block_lt_of_cell? w ⟨b,o,none⟩ (by exact h)
theorem Held.grown {av eb:Av} (hb:∀ b,b<w.heap.size->w'.heap[b]?=w.heap[b]?) (ha:∀ b o,b<w.heap.size->eb b o->av b o):Held av eb w w' :=
 ⟨fun b o _ hc hn=>⟨(World.cell?_of_block (w:=w) (a:=⟨b,o,none⟩) (hb b (q5R hc))).trans hc,fun h=>hn (ha b o (q5R hc) h)⟩⟩
theorem q3p.held {ι ι':Ix} {Θ Θ':Fam} {av eb:Av} {r:List Slot} {cur:Array Value} (h:q3p ι Θ av w r cur) (hι:Ix.Le ι ι') (hh:Held av eb w w') (hΘ:∀ k o,Θ k=some o->Θ' k=some o):q3p ι' Θ' eb w' r cur:=by
 refine ⟨h.1,fun j x hx=>?_⟩;obtain ⟨u,hu,h1,hr,ha⟩:=h.2 j x hx;refine ⟨u,hu,h1,RepC.held hι hh _ _ hr,?_⟩;cases lL:x.a with
 | no=>trivial
 | ex=>rw [lL] at ha; exact ha
 | own k e =>
  rw [lL] at ha;rcases ha with ha | ⟨ow,h1,h2⟩
  ·exact .inl ha
  ·exact .inr ⟨ow,hΘ _ _ h1,h2⟩
theorem ObOk.grow {t n:Nat} {H:Nat->Prop} {next:Nat} (h:ObOk B F0 D next w ι Θ t n H) (hs:w.heap.size<=w'.heap.size):ObOk B F0 D next w' ι Θ t n H :=
 ⟨fun b hb=>let ⟨h1,h2,h3⟩:=h.1 b hb; ⟨h1,Nat.lt_of_lt_of_le h2 hs,h3⟩,h.2⟩
theorem Rel.grow (R:Rel P O nt B F0 da w0 D s a w ι Θ) (hb:∀ b,b<w.heap.size->w'.heap[b]?=w.heap[b]?) (hs:w.heap.size<=w'.heap.size) (hw:Keep F0.b w0 w'):Rel P O nt B F0 da w0 D s a w' ι Θ:=by
 have hA:Held (avA da ι Θ) (avA da ι Θ) w w':=Held.grown hb fun _ _ _ h=>h
 have hB:Held (avB ι Θ) (avB ι Θ) w w':=Held.grown hb fun _ _ _ h=>h
 refine ⟨R.defers,R.size,fun t=>RepS.held (Ix.Le.refl _) hA hB _ _ (R.env t),R.ann,fun t n r hr=>?_,fun t n b h=>?_,R.inj,fun k o h=>?_,R.tinj,R.apart,R.out,R.pin,hw,R.base,fun t n S h=>?_,fun t n H h=>(R.obs t n H h).grow hs,fun t=>RepS.held (Ix.Le.refl _) hA hB _ _ (R.gen t),R.gann⟩
 ·obtain ⟨h0,b,cur,ty,h1,h2,h3,h4⟩:=R.rows t n r hr;exact ⟨h0,b,cur,ty,h1,(hb b (q0h h2)).trans h2,h3.held (Ix.Le.refl _) hA (fun _ _ h=>h),h4⟩
 ·obtain ⟨h1,h2,h3⟩:=R.mine t n b h;exact ⟨h1,by omega,h3⟩
 ·obtain ⟨h1,h2,h3,h4,cur,h5,h6⟩:=R.tok k o h;exact ⟨h1,h2,h3,h4,cur,(hb _ (q0h h5)).trans h5,h6⟩
 ·obtain ⟨p,H,h1,h2,h3,h4⟩:=R.objs t n S h;exact ⟨p,H,h1,h2,O.keep h3 (fun b hH=>hb b (O.lt h3 hH)) hs,h4.keep (fun t n b H h g=>⟨h,H,g⟩) fun x hx=>(hb _ (q0h hx)).trans hx⟩
theorem getD_put {a:Act} {d t:Nat} {v:Value} (hd:d<a.tmps.size):(a.put (some d) v).tmps.getD t undef=if t=d then v else a.tmps.getD t undef:=by
 simp only [Act.put,yY,Array.getElem?_setIfInBounds];by_cases h:d=t
 ·subst h; simp [hd]
 ·have h':¬ t=d:=fun e=>h e.symm
  simp [h,h']
theorem Rel.put (R:Rel P O nt B F0 da w0 D s a w ι Θ) {d:Nat} (hd:d<nt) {x:Slot} {v:Value} (hx:RepS ι (avA da ι Θ) (avB ι Θ) w x.v v) (ha:AnOk Θ x.a v):Rel P O nt B F0 da w0 D (s.put (some d) x) (a.put (some d) v) w ι Θ:=by
 have gq:d<a.tmps.size:=by rw [R.size]; exact hd
 refine ⟨R.defers,by simpa [Act.put] using R.size,fun t=>?_,fun t=>?_,R.rows,R.mine,R.inj,R.tok,R.tinj,R.apart,R.out,R.pin,R.kept,R.base,R.objs,R.obs,R.gen,R.gann⟩
 ·rw [getD_put gq];simp only [MSt.put];by_cases h:t=d
  ·simp only [if_pos h]; exact hx
  ·simp only [if_neg h]; exact R.env t
 ·rw [getD_put gq];simp only [MSt.put];by_cases h:t=d
  ·simp only [if_pos h]; exact ha
  ·simp only [if_neg h]; exact R.ann t
theorem Rel.putN (R:Rel P O nt B F0 da w0 D s a w ι Θ) {d:Option Nat} (hd:∀ t,d=some t->t<nt) {x:Slot} {v:Value} (hx:RepS ι (avA da ι Θ) (avB ι Θ) w x.v v) (ha:AnOk Θ x.a v):Rel P O nt B F0 da w0 D (s.put d x) (a.put d v) w ι Θ:=by
 cases d with
 | none=>exact R
 | some d=>exact R.put (hd d rfl) hx ha
theorem Rel.more (R:Rel P O nt B F0 da w0 D s a w ι Θ) {D':Nat->Prop} (h:∀ t,D t->D' t):Rel P O nt B F0 da w0 D' s a w ι Θ :=
 ⟨R.defers,R.size,R.env,R.ann,R.rows,fun t n b hb=>let ⟨h1,h2,h3⟩:=R.mine t n b hb; ⟨h1,h2,h3.imp id fun ⟨e,d⟩=>⟨e,h t d⟩⟩,R.inj,R.tok,R.tinj,R.apart,R.out,R.pin,R.kept,R.base,R.objs,fun t n H hb=>⟨(R.obs t n H hb).1,(R.obs t n H hb).2.imp id fun ⟨e,d⟩=>⟨e,h t d⟩⟩,R.gen,R.gann⟩
structure Ix.Lk (t n:Nat) (ι ι':Ix):Prop where
 f:∀ t' n' b,¬ (t'=t/\n'=n)->ι t' n'=some b->ι' t' n'=some b
 z:∀ t n b,ι t n=some b->ι'.z b=ι.z b
theorem RepC.kill {t n:Nat} {ι ι':Ix} {av eb:Av} (hι:Ix.Lk t n ι ι') (h:Held av eb w w') (x:AV) (v:Value) (hr:RepC ι av w x v):RepC ι' eb w' (x.kill0 t n) v:=by
 cases x with
 | ptr t' n' o =>
  obtain ⟨b,hb,hv⟩:=hr;simp only [AV.kill0];split
  ·trivial
  ·rename_i oa; exact ⟨b,hι.f _ _ _ oa hb,hv⟩
 | ref t' n' sz o l c =>
  obtain ⟨b,hb,h1,c',h2,h3,hv⟩:=hr;simp only [AV.kill0];split
  ·trivial
  ·rename_i oa; exact ⟨b,hι.f _ _ _ oa hb,h1,c',h2,by rw [hι.z _ _ _ hb]; exact h3,hv⟩
 | mp t' n' =>
  obtain ⟨b,hb,hv⟩:=hr;simp only [AV.kill0];split
  ·trivial
  ·rename_i oa; exact ⟨b,hι.f _ _ _ oa hb,hv⟩
 | undef=>trivial
 | _=>exact Rep.held h _ v hr
theorem q0w.kill {t n:Nat} {ι ι':Ix} {av eb:Av} (hι:Ix.Lk t n ι ι') (h:Held av eb w w'):∀ (xs:List AV) (us:List Value),q0w ι av w xs us->q0w ι' eb w' (xs.map (AV.kill0 t n)) us
 | [],_,hr=>by simpa [q0w] using hr
 | x :: r,_,hr=>by
  simp only [q0w] at hr;obtain ⟨u,sa,rfl,hx,h1,hr⟩:=hr;exact ⟨u,sa,rfl,RepC.kill hι h x u hx,h1,q0w.kill hι h r sa hr⟩
theorem RepU.kill {t n:Nat} {ι ι':Ix} {av eb:Av} (hι:Ix.Lk t n ι ι') (h:Held av eb w w') (x:AV) (v:Value) (hr:RepU ι av w x v):RepU ι' eb w' (x.kill1 t n) v:=by
 cases x with
 | agg cs=>obtain ⟨us,hv,hc⟩:=hr; exact ⟨us,hv,q0w.kill hι h _ _ hc⟩
 | ptr t' n' o =>
  have:=RepC.kill hι h (.ptr t' n' o) v hr;show RepU ι' eb w' (AV.kill0 t n (.ptr t' n' o)) v;simp only [AV.kill0] at this ⊢;split
  ·trivial
  ·rename_i oa; rw [if_neg oa] at this; exact this
 | ref t' n' sz o l c =>
  have:=RepC.kill hι h (.ref t' n' sz o l c) v hr;show RepU ι' eb w' (AV.kill0 t n (.ref t' n' sz o l c)) v;simp only [AV.kill0] at this ⊢;split
  ·trivial
  ·rename_i oa; rw [if_neg oa] at this; exact this
 | mp t' n' =>
  have:=RepC.kill hι h (.mp t' n') v hr;show RepU ι' eb w' (AV.kill0 t n (.mp t' n')) v;simp only [AV.kill0] at this ⊢;split
  ·trivial
  ·rename_i oa; rw [if_neg oa] at this; exact this
 | undef=>trivial
 | int=>exact RepC.kill hι h (.int _ _) v hr
 | bool=>exact RepC.kill hι h (.bool _) v hr
 | str=>exact RepC.kill hι h (.str _) v hr
 | nilP=>exact RepC.kill hι h .nilP v hr
 | ip=>exact RepC.kill hι h (.ip _) v hr
 | sl n' l=>exact RepC.kill hι h (.sl n' l) v hr
 | tup cs=>exact RepC.kill hι h (.tup cs) v hr
 | bl cs=>exact RepC.kill hι h (.bl cs) v hr
 | bp cs=>exact RepC.kill hι h (.bp cs) v hr
 | fn f cs=>exact RepC.kill hι h (.fn f cs) v hr
theorem q62.kill {t n:Nat} {ι ι':Ix} {av eb:Av} (hι:Ix.Lk t n ι ι') (h:Held av eb w w'):∀ (xs:List AV) (us:List Value),q62 ι av w xs us->q62 ι' eb w' (xs.map (AV.kill1 t n)) us
 | [],_,hr=>by simpa [q62] using hr
 | x :: r,_,hr=>by
  simp only [q62] at hr;obtain ⟨u,sa,rfl,hx,hr⟩:=hr;exact ⟨u,sa,rfl,RepU.kill hι h x u hx,q62.kill hι h r sa hr⟩
theorem RepP.kill {t n:Nat} {ι ι':Ix} {av eb avB avB':Av} (hι:Ix.Lk t n ι ι') (h:Held av eb w w') (hB:Held avB avB' w w') (x:AV) (v:Value) (hr:RepP ι av avB w x v):RepP ι' eb avB' w' (x.kill0 t n) v:=by
 cases x with
 | bp cs=>obtain ⟨b,off,hv,hc⟩:=hr; exact ⟨b,off,hv,q1G.held h hB _ b off hc⟩
 | ptr t' n' o =>
  have:=RepC.kill hι h (.ptr t' n' o) v hr;simp only [AV.kill0] at this ⊢;split
  ·trivial
  ·rename_i oa; rw [if_neg oa] at this; exact this
 | ref t' n' sz o l c =>
  have:=RepC.kill hι h (.ref t' n' sz o l c) v hr;simp only [AV.kill0] at this ⊢;split
  ·trivial
  ·rename_i oa; rw [if_neg oa] at this; exact this
 | mp t' n' =>
  have:=RepC.kill hι h (.mp t' n') v hr;simp only [AV.kill0] at this ⊢;split
  ·trivial
  ·rename_i oa; rw [if_neg oa] at this; exact this
 | undef=>trivial
 | int=>exact RepC.kill hι h (.int _ _) v hr
 | bool=>exact RepC.kill hι h (.bool _) v hr
 | str=>exact RepC.kill hι h (.str _) v hr
 | nilP=>exact RepC.kill hι h .nilP v hr
 | ip=>exact RepC.kill hι h (.ip _) v hr
 | sl=>exact RepC.kill hι h (.sl _ _) v hr
 | agg cs=>exact RepC.kill hι h (.agg cs) v hr
 | tup cs=>exact RepC.kill hι h (.tup cs) v hr
 | bl cs=>exact RepC.kill hι h (.bl cs) v hr
 | fn f cs=>exact RepC.kill hι h (.fn f cs) v hr
theorem q6v.kill {t n:Nat} {ι ι':Ix} {av eb avB avB':Av} (hι:Ix.Lk t n ι ι') (h:Held av eb w w') (hB:Held avB avB' w w'):∀ (xs:List AV) (us:List Value),q6v ι av avB w xs us->q6v ι' eb avB' w' (xs.map (AV.kill0 t n)) us
 | [],_,hr=>by simpa [q6v] using hr
 | x :: r,_,hr=>by
  simp only [q6v] at hr;obtain ⟨u,sa,rfl,hx,hr⟩:=hr;exact ⟨u,sa,rfl,RepP.kill hι h hB x u hx,q6v.kill hι h hB r sa hr⟩
theorem RepS.kill {t n:Nat} {ι ι':Ix} {av eb avB avB':Av} (hι:Ix.Lk t n ι ι') (h:Held av eb w w') (hB:Held avB avB' w w') (x:AV) (v:Value) (hr:RepS ι av avB w x v):RepS ι' eb avB' w' (x.kill t n) v:=by
 cases x with
 | bp cs=>obtain ⟨b,off,hv,hc⟩:=hr; exact ⟨b,off,hv,q1G.held h hB _ b off hc⟩
 | bl l =>
  obtain ⟨a,c,hv,hl,hu,hc⟩:=hr;refine ⟨a,c,hv,hl,hu,fun h0=>?_⟩;obtain ⟨b,off,ha,hr⟩:=hc h0;exact ⟨b,off,ha,q95.held h hB _ b off hr⟩
 | agg cs=>obtain ⟨us,hv,hc⟩:=hr; exact ⟨us,hv,q0w.kill hι h _ _ hc⟩
 | tup cs=>obtain ⟨us,hv,hc⟩:=hr; exact ⟨us,hv,q62.kill hι h _ _ hc⟩
 | fn f cs=>obtain ⟨us,hv,hc⟩:=hr; exact ⟨us,hv,q6v.kill hι h hB _ _ hc⟩
 | undef=>trivial
 | ptr t' n' o =>
  have:=RepC.kill hι h (.ptr t' n' o) v hr;show RepS ι' eb avB' w' (AV.kill0 t n (.ptr t' n' o)) v;simp only [AV.kill0] at this ⊢;split
  ·trivial
  ·rename_i oa; rw [if_neg oa] at this; exact this
 | ref t' n' sz o l c =>
  have:=RepC.kill hι h (.ref t' n' sz o l c) v hr;show RepS ι' eb avB' w' (AV.kill0 t n (.ref t' n' sz o l c)) v;simp only [AV.kill0] at this ⊢;split
  ·trivial
  ·rename_i oa; rw [if_neg oa] at this; exact this
 | mp t' n' =>
  have:=RepC.kill hι h (.mp t' n') v hr;show RepS ι' eb avB' w' (AV.kill0 t n (.mp t' n')) v;simp only [AV.kill0] at this ⊢;split
  ·trivial
  ·rename_i oa; rw [if_neg oa] at this; exact this
 | int=>exact RepC.kill hι h (.int _ _) v hr
 | bool=>exact RepC.kill hι h (.bool _) v hr
 | str=>exact RepC.kill hι h (.str _) v hr
 | nilP=>exact RepC.kill hι h .nilP v hr
 | ip=>exact RepC.kill hι h (.ip _) v hr
 | sl=>exact RepC.kill hι h (.sl _ _) v hr
theorem avOf_rep {v:Value} {x:AV} (h:avOf v=some x) (av:Av) (w:World):Rep av w x v/\v.oneCell'=true/\x.leaf=true/\(∀ n l,x=.sl n l->n=true/\v=.slice none 0 0):=by
 unfold avOf at h;split at h <;> first
  | (injection h with h; subst h; simp [Rep,Value.oneCell',AV.leaf]; done)
  | (cases h; done)
theorem RepS_of_rep {ι:Ix} {av avB:Av} {w:World} {x:AV} {v:Value} (h:Rep av w x v) (hx:x.leaf=true):RepS ι av avB w x v:=by
 cases x <;> first | exact h | (simp [AV.leaf] at hx; done) | (simp [Rep] at h; done)
theorem q6u {ι:Ix} {av:Av} {w:World} {x:AV} {v:Value} (h:Rep av w x v):RepC ι av w x v:=by
 cases x <;> first | exact h | simp [Rep] at h
theorem q6x {ι:Ix}:∀ {vs:List Value} {xs:List AV} (_:q8j vs=some xs) (av:Av) (w:World),q0w ι av w xs vs
 | [],_,h,_,_=>by injection h with h; subst h; rfl
 | v :: r,_,h,av,w=>by
  unfold q8j at h;cases hv:avOf v with
  | none=>rw [hv] at h; cases h
  | some x =>
   rw [hv] at h;cases hr:q8j r with
   | none=>rw [hr] at h; cases h
   | some l =>
    rw [hr] at h;injection h with h;subst h;have h1:=avOf_rep hv av w;exact ⟨v,r,rfl,q6u h1.1,h1.2.1,q6x hr av w⟩
theorem avC_rep {v:Value} {x:AV} (h:avC v=some x) (ι:Ix) (av avB:Av) (w:World):RepS ι av avB w x v:=by
 unfold avC at h;split at h
 ·rename_i cs;cases hc:q8j cs.toList with
  | none=>rw [hc] at h; cases h
  | some l =>
   rw [hc] at h;injection h with h;subst h;exact ⟨cs,rfl,q6x hc av w⟩
 ·have:=avOf_rep h av w;exact RepS_of_rep this.1 this.2.2.1
theorem avC_nil {v:Value} {b:Bool} {l:List (List AV)} (h:avC v=some (.sl b l)):b=true/\v=.slice none 0 0:=by
 unfold avC at h;split at h
 ·rename_i cs;cases hc:q8j cs.toList with
  | none=>rw [hc] at h; cases h
  | some l=>rw [hc] at h; injection h with h; cases h
 ·exact (avOf_rep h (fun _ _=>False) default).2.2.2 _ _ rfl
theorem Rel.opd (R:Rel P O nt B F0 da w0 D s a w ι Θ) {x:Operand} {y:Opd} (h:opd x=some y):RepS ι (avA da ι Θ) (avB ι Θ) w (y.get s) (a.eval x)/\AnOk Θ (y.an s) (a.eval x):=by
 unfold YtbnlmgncbgaepaaGreat.opd at h;split at h
 ·injection h with h;subst h;exact ⟨R.env _,R.ann _⟩
 ·rename_i v;cases hc:avC v with
  | none=>rw [hc] at h; cases h
  | some x =>
   rw [hc] at h;injection h with h;subst h;refine ⟨avC_rep hc _ _ _ _,?_⟩;cases x with
   | sl b l =>
    obtain ⟨rfl,hv⟩:=avC_nil hc;exact ⟨none,0,hv⟩
   | _=>trivial
 ·injection h with h;subst h;exact ⟨⟨#[],rfl,rfl⟩,trivial⟩
 ·cases h
end
end
section
open Go Go.RowKit
section
variable {P:Program} {O:Objs} {nt B:Nat} {F0:Own} {da:Av} {w0:World} {D:Nat->Prop} {s:MSt} {a:Act} {w w':World} {ι:Ix} {Θ:Fam}
theorem qag {t:TypeId} {b:Bool} (h:tAgg P t=some b) (w:World):(isAgg t).run P w=.ok b w:=by
 unfold tAgg at h;cases hu:P.underlying t with
 | none=>rw [hu] at h; cases h
 | some d =>
  rw [hu] at h;injection h with h;subst h;cases d <;> simp [isAgg,run_underlying hu]
theorem q1q {t:TypeId} {z:Nat} (h:q1Z P t=some z) (w:World):(sizeOf t).run P w=.ok z w:=by
 unfold q1Z at h;cases hu:P.info? t with
 | none=>rw [hu] at h; cases h
 | some d =>
  rw [hu] at h;injection h with h;subst h;simp [sizeOf,typeInfo,hu]
theorem q52 {t:TypeId} {l:List AV} (h:q8E P t=some l) (w:World):∃ z i,P.info? t=some i/\i.zero=some z/\(zeroValue t).run P w=.ok z w/\q8j z.cells.toList=some l:=by
 unfold q8E at h;cases hu:P.info? t with
 | none=>rw [hu] at h; cases h
 | some d =>
  rw [hu] at h;cases hz:d.zero with
  | none=>simp [hz] at h
  | some z =>
   simp only [V,hz] at h;exact ⟨z,d,rfl,hz,by simp [zeroValue,typeInfo,hu,hz],h⟩
theorem q4m:∀ {vs:List Value} {xs:List AV},q8j vs=some xs->xs.length=vs.length
 | [],_,h=>by injection h with h; subst h; rfl
 | v :: r,_,h=>by
  unfold q8j at h;cases hv:avOf v with
  | none=>rw [hv] at h; cases h
  | some x =>
   rw [hv] at h;cases hr:q8j r with
   | none=>rw [hr] at h; cases h
   | some l=>rw [hr] at h; injection h with h; subst h; simp [q4m hr]
def Val (P:Program) (da:Av) (a:Act) (w:World) (ι:Ix) (Θ:Fam) (o:Oper) (x:Slot):Prop :=
 ∃ v,(execOp a.eval o).run P w=.ok (.value v) w/\RepS ι (avA da ι Θ) (avB ι Θ) w x.v v/\AnOk Θ x.a v
section
variable {av avb:Av}
include av avb
theorem q0E {k:IntKind} {n:Int} {v:Value}:RepS ι av avb w (.int k n) v ↔ v=.int k n:=by simp [RepS,RepC,Rep]
theorem q0W {b:Bool} {v:Value}:RepS ι av avb w (.bool b) v ↔ v=.bool b:=by simp [RepS,RepC,Rep]
theorem q4Z {b:ByteArray} {v:Value}:RepS ι av avb w (.str b) v ↔ v=.string b:=by simp [RepS,RepC,Rep]
theorem repS_nilP {v:Value}:RepS ι av avb w .nilP v ↔ v=.pointer none:=by simp [RepS,RepC,Rep]
theorem q48 {t n off:Nat} {v:Value}:RepS ι av avb w (.ptr t n off) v ↔ ∃ b,ι t n=some b/\v=.pointer (some ⟨b,off,none⟩):=Iff.rfl
theorem q4Y {t n sz off len cap:Nat} {v:Value}:RepS ι av avb w (.ref t n sz off len cap) v ↔ ∃ b,ι t n=some b/\len<=cap/\∃ c,cap<=c/\off + c * sz<=ι.z b/\v=.slice (some ⟨b,off,none⟩) len c:=Iff.rfl
theorem q7V {cs:List AV} {v:Value}:RepS ι av avb w (.ip cs) v ↔ ∃ b off,v=.pointer (some ⟨b,off,none⟩)/\q3Q av w cs b off:=by simp [RepS,RepC,Rep]
theorem q2F {nil:Bool} {l:List (List AV)} {v:Value}:RepS ι av avb w (.sl nil l) v ↔ Rep av w (.sl nil l) v:=Iff.rfl
theorem repS_agg {cs:List AV} {v:Value}:RepS ι av avb w (.agg cs) v ↔ ∃ us,v=.agg us/\q0w ι av w cs us.toList:=Iff.rfl
theorem repS_tup {cs:List AV} {v:Value}:RepS ι av avb w (.tup cs) v ↔ ∃ us,v=.tuple us/\q62 ι av w cs us.toList:=Iff.rfl
end
theorem q1B {av:Av}:∀ {xs:List AV} {us:List Value},q0w ι av w xs us->us.length=xs.length
 | [],_,h=>by simp only [q0w] at h; subst h; rfl
 | x :: r,_,h=>by
  simp only [q0w] at h;obtain ⟨u,sa,rfl,_,_,h⟩:=h;simp [q1B h]
theorem q3a {av:Av}:∀ {xs:List AV} {us:List Value} (n:Nat),q0w ι av w xs us->q0w ι av w (xs.drop n) (us.drop n)
 | [],_,n,h=>by simp only [q0w] at h; subst h; simp [q0w]
 | x :: r,_,n,h=>by
  cases n with
  | zero=>exact h
  | succ n =>
   simp only [q0w] at h;obtain ⟨u,sa,rfl,_,_,h⟩:=h;exact q3a n h
theorem q3F {av:Av}:∀ {xs:List AV} {us:List Value} (n:Nat),q0w ι av w xs us->q0w ι av w (xs.take n) (us.take n)
 | [],_,n,h=>by simp only [q0w] at h; subst h; simp [q0w]
 | x :: r,_,n,h=>by
  cases n with
  | zero=>simp [q0w]
  | succ n =>
   simp only [q0w] at h;obtain ⟨u,sa,rfl,h0,h1,h⟩:=h;exact ⟨u,sa.take n,rfl,h0,h1,q3F n h⟩
theorem q6t {av:Av}:∀ {xs:List AV} {us:List Value} (_:q0w ι av w xs us) {j:Nat} {x:AV},xs[j]?=some x->∃ u,us[j]?=some u/\u.oneCell'=true/\RepC ι av w x u
 | [],_,_,_,_,hx=>by simp at hx
 | y :: r,_,h,j,x,hx=>by
  simp only [q0w] at h;obtain ⟨u,sa,rfl,h0,h1,h⟩:=h;cases j with
  | zero=>simp at hx; subst hx; exact ⟨u,rfl,h1,h0⟩
  | succ j=>exact q6t h (j:=j) (by simpa using hx)
theorem q4k {av:Av}:∀ {xs ys:List AV} {us vs:List Value},q0w ι av w xs us->q0w ι av w ys vs->q0w ι av w (xs++ys) (us++vs)
 | [],_,_,_,h,h'=>by simp only [q0w] at h; subst h; exact h'
 | x :: r,_,_,_,h,h'=>by
  simp only [q0w] at h;obtain ⟨u,sa,rfl,h0,h1,h⟩:=h;exact ⟨u,sa++_,rfl,h0,h1,q4k h h'⟩
theorem q27 {av:Av}:∀ {xs:List AV} {us:List Value},RepL av w xs us->q0w ι av w xs us
 | [],_,h=>by simpa [RepL,q0w] using h
 | x :: r,_,h=>by
  simp only [RepL] at h;obtain ⟨u,sa,rfl,h0,h1,h⟩:=h;exact ⟨u,sa,rfl,q6u h0,h1,q27 h⟩
theorem qaj {av:Av}:∀ {cs:List AV} {b off:Nat},q3Q av w cs b off->∃ us,RepL av w cs us/\∀ (j:Nat) (u:Value),us[j]?=some u->w.cell? ⟨b,off + j,none⟩=some u/\¬ av b (off + j)
 | [],_,_,_=>⟨[],rfl,fun j u h=>by simp at h⟩
 | x :: r,b,off,h=>by
  simp only [q3Q] at h;obtain ⟨⟨u,hc,hx,h1⟩,ha,hr⟩:=h;obtain ⟨us,hl,hj⟩:=qaj hr;refine ⟨u :: us,⟨u,us,rfl,hx,h1,hl⟩,fun j v hv=>?_⟩;cases j with
  | zero=>simp at hv; subst hv; exact ⟨hc,ha⟩
  | succ j =>
   have:=hj j v (by simpa using hv);rw [show off + (j + 1)=off + 1 + j from by omega];exact this
theorem q93 {av avb:Av}:∀ {cs:List AV} {b off:Nat},q1G av avb w cs b off->∃ us,RepL av w cs us/\∀ (j:Nat) (u:Value),us[j]?=some u->w.cell? ⟨b,off + j,none⟩=some u/\¬ avb b (off + j)
 | [],_,_,_=>⟨[],rfl,fun j u h=>by simp at h⟩
 | x :: r,b,off,h=>by
  simp only [q1G] at h;obtain ⟨⟨u,hc,hx,h1⟩,ha,hr⟩:=h;obtain ⟨us,hl,hj⟩:=q93 hr;refine ⟨u :: us,⟨u,us,rfl,hx,h1,hl⟩,fun j v hv=>?_⟩;cases j with
  | zero=>simp at hv; subst hv; exact ⟨hc,ha⟩
  | succ j =>
   have:=hj j v (by simpa using hv);rw [show off + (j + 1)=off + 1 + j from by omega];exact this
theorem q6T {av:Av}:∀ {cs:List AV} {us:List Value} {b off:Nat},RepL av w cs us->(∀ (j:Nat) (u:Value),us[j]?=some u->w.cell? ⟨b,off + j,none⟩=some u/\¬ av b (off + j))->q3Q av w cs b off
 | [],_,_,_,_,_=>by simp [q3Q]
 | x :: r,_,b,off,h,hj=>by
  simp only [RepL] at h;obtain ⟨u,sa,rfl,h0,h1,h⟩:=h;simp only [q3Q];have h2:=hj 0 u rfl;refine ⟨⟨u,h2.1,h0,h1⟩,h2.2,q6T h fun j v hv=>?_⟩;have:=hj (j + 1) v (by simpa using hv);rw [show off + 1 + j=off + (j + 1) from by omega];exact this
theorem q6S {av:Av}:∀ {cs ds:List AV} {b off:Nat},q3Q av w (cs++ds) b off ↔ q3Q av w cs b off/\q3Q av w ds b (off + cs.length)
 | [],ds,b,off=>by simp [q3Q]
 | x :: r,ds,b,off=>by
  simp only [List.cons_append,q3Q,q6S (cs:=r),yH];rw [show off + (r.length + 1)=off + 1 + r.length from by omega];exact ⟨fun ⟨h1,h2,h3,h4⟩=>⟨⟨h1,h2,h3⟩,h4⟩,fun ⟨⟨h1,h2,h3⟩,h4⟩=>⟨h1,h2,h3,h4⟩⟩
theorem q3q {av:Av}:∀ {l:List (List AV)} {b off:Nat},Rows av w l b off ↔ q3Q av w l.flatten b off
 | [],b,off=>by simp [Rows,q3Q]
 | cs :: r,b,off=>by
  simp only [Rows,yB,q6S,q3q (l:=r)]
theorem q61 {av avb:Av}:∀ {cs ds:List AV} {b off:Nat},q1G av avb w (cs++ds) b off ↔ q1G av avb w cs b off/\q1G av avb w ds b (off + cs.length)
 | [],ds,b,off=>by simp [q1G]
 | x :: r,ds,b,off=>by
  simp only [List.cons_append,q1G,q61 (cs:=r),yH];rw [show off + (r.length + 1)=off + 1 + r.length from by omega];exact ⟨fun ⟨h1,h2,h3,h4⟩=>⟨⟨h1,h2,h3⟩,h4⟩,fun ⟨⟨h1,h2,h3⟩,h4⟩=>⟨h1,h2,h3,h4⟩⟩
theorem q6q {av avb:Av}:∀ {l:List (List AV)} {b off:Nat},q95 av avb w l b off ↔ q1G av avb w l.flatten b off
 | [],b,off=>by simp [q95,q1G]
 | cs :: r,b,off=>by
  simp only [q95,yB,q61,q6q (l:=r)]
theorem q9P {sz:Nat}:∀ {l:List (List AV)} (_:∀ c∈l,c.length=sz) (k:Nat),l.flatten.drop (k * sz)=(l.drop k).flatten
 | [],_,k=>by simp
 | c :: r,h,k=>by
  cases k with
  | zero=>simp
  | succ k =>
   have hc:c.length=sz:=h c (by simp);rw [yB,List.drop_succ_cons,List.drop_append,hc,show (k + 1) * sz - sz=k * sz from by rw [yt]; omega,
    ye (by rw [hc,yt]; omega),List.nil_append]
   exact q9P (fun c hc=>h c (by simp [hc])) k
theorem part_run {t:TypeId} {agg:Bool} {z:Nat} (hA:tAgg P t=some agg) (hz:q1Z P t=some z) {av:Av} {cs:List AV} {us:Array Value} (h:q0w ι av w cs us.toList) {off:Nat} {x:AV} {avb:Av}
  (hx:q5T agg z (cs.drop off)=some x):∃ v,(part t us off).run P w=.ok v w/\RepS ι av avb w x v:=by
 cases agg with
 | true =>
  simp only [q5T,if_true] at hx;split at hx
  ·rename_i wb;injection hx with hx;subst hx;refine ⟨.agg (us.extract off (off + z)),by simp [part,qag hA,q1q hz],_,rfl,?_⟩;have:=q3F z (q3a off h);have he:(us.extract off (off + z)).toList=(us.toList.drop off).take z:=by
    rw [Array.toList_extract,List.extract_eq_take_drop,Nat.add_sub_cancel_left]
   rw [he];exact this
  ·cases hx
 | false =>
  simp only [q5T,yn,if_false,yQ,Nat.add_zero] at hx;obtain ⟨u,hu,h1,hr⟩:=q6t h hx;have kq:us[off]?=some u:=by simpa using hu
  refine ⟨u,by simp [part,qag hA,kq],?_⟩;cases x <;> first | exact hr | (simp [RepC,Rep] at hr; obtain ⟨sa,rfl,_⟩:=hr; simp [Value.oneCell'] at h1) | (simp [RepC,Rep] at hr)
end
end
section
open Go Go.RowKit
section
variable {P:Program} {O:Objs} {nt B:Nat} {F0:Own} {da:Av} {w0:World} {D:Nat->Prop} {s:MSt} {a:Act} {w w':World} {ι:Ix} {Θ:Fam} {o:Oper}
theorem RepC_to_S {av avb:Av} {x:AV} {u:Value} (h:RepC ι av w x u) (h1:u.oneCell'=true):RepS ι av avb w x u:=by
 cases x <;> first | exact h | (simp [RepC,Rep] at h; obtain ⟨sa,rfl,_⟩:=h; simp [Value.oneCell'] at h1; done) | (simp [RepC,Rep] at h; done)
theorem val_mv (R:Rel P O nt B F0 da w0 D s a w ι Θ) {X:Operand} {y:Opd} (h:opd X=some y) (ho:o.op=.move X\/o.op=.assign X):Val P da a w ι Θ o ⟨y.get s,y.an s⟩ :=
 ⟨a.eval X,by rcases ho with ho | ho <;> simp [execOp,ho],(R.opd h).1,(R.opd h).2⟩
theorem val_pick (R:Rel P O nt B F0 da w0 D s a w ι Θ) {C X Y:Operand} {c x y:Opd} (hc:opd C=some c) (hx:opd X=some x) (hy:opd Y=some y) (ho:o.op=.pick C X Y) {t:Bool} (ht:c.get s=.bool t) :
  Val P da a w ι Θ o (if t then ⟨x.get s,x.an s⟩ else ⟨y.get s,y.an s⟩):=by
 have h:=(R.opd hc).1;rw [ht,q0W] at h;cases t with
 | true=>exact ⟨a.eval X,by simp [execOp,ho,h,asBool],(R.opd hx).1,(R.opd hx).2⟩
 | false=>exact ⟨a.eval Y,by simp [execOp,ho,h,asBool],(R.opd hy).1,(R.opd hy).2⟩
theorem q3p.rep {av:Av} {r:List Slot} {cur:Array Value} (h:q3p ι Θ av w r cur):q0w ι av w (r.map (·.v)) (cur.toList.take r.length):=by
 obtain ⟨hl,hj⟩:=h;obtain ⟨l⟩:=cur;simp only [List.size_toArray] at hl;simp only [List.getElem?_toArray] at hj;simp only
 induction r generalizing l with
 | nil=>rfl
 | cons x r ih =>
  cases l with
  | nil=>simp at hl
  | cons u us =>
   obtain ⟨u',hu,h1,hr,_⟩:=hj 0 x rfl;simp at hu;subst hu;exact ⟨_,us.take r.length,rfl,hr,h1,ih us (by simpa using hl) fun j y hy=>hj (j + 1) y hy⟩
theorem q9W {t:TypeId} {agg:Bool} {z:Nat} (hA:tAgg P t=some agg) (hz:q1Z P t=some z) {av avb:Av} {cs:List AV} {us:List Value} (h:q0w ι av w cs us) {b off:Nat} (rd:∀ (j:Nat) (u:Value),us[j]?=some u->w.cell? ⟨b,off + j,none⟩=some u)
  {x:AV} (hx:q5T agg z cs=some x):∃ v,(loadVar t ⟨b,off,none⟩).run P w=.ok v w/\RepS ι av avb w x v/\(agg=false->w.cell? ⟨b,off,none⟩=some v):=by
 cases agg with
 | true =>
  simp only [q5T,if_true] at hx;split at hx
  ·rename_i wb;injection hx with hx;subst hx;have ja:=q1B h;have hl:(us.take z).length=z:=by rw [yC,ja]; omega
   have hr:=run_loadCells_list (P:=P) w ⟨b,off,none⟩ (us.take z) (fun j v hv=>by
    rw [Addr.add_lit];refine rd j v ?_;rw [yR] at hv;split at hv
    ·exact hv
    ·cases hv)
   rw [hl] at hr;exact ⟨.agg (us.take z).toArray,by simp [loadVar,qag hA,q1q hz,hr],⟨_,rfl,q3F z h⟩,fun h=>by cases h⟩
  ·cases hx
 | false =>
  simp only [q5T,yn,if_false] at hx;obtain ⟨u,hu,h1,hr⟩:=q6t h hx;have hc:=rd 0 u hu;rw [Nat.add_zero] at hc;refine ⟨u,by simp [loadVar,qag hA,hc],RepC_to_S hr h1,fun _=>hc⟩
theorem val_load (R:Rel P O nt B F0 da w0 D s a w ι Θ) {t:TypeId} {agg:Bool} {z:Nat} (hA:tAgg P t=some agg) (hz:q1Z P t=some z) {X:Operand} {y:Opd} (h:opd X=some y) (ho:o.op=.load t X) {cl:Cl} {call} {x:Slot} {e:Eff}
  (hr:(K.load cl agg z y).run call s=some (x,e)):e=.none/\Val P da a w ι Θ o x:=by
 have hX:=(R.opd h).1;simp only [K.run] at hr;split at hr
 ·rename_i t' n off hy;rw [hy,q48] at hX;obtain ⟨b,hb,hv⟩:=hX;split at hr
  ·cases hm:s.mem t' n with
   | none=>rw [hm] at hr; cases hr
   | some r =>
    rw [hm,V] at hr;obtain ⟨il,b',cur,ty,ua,ra,ka,_⟩:=R.rows t' n r hm;rw [hb] at ua;injection ua with ua;subst ua;have pb:∀ (j:Nat) (u:Value),((cur.toList.take r.length).drop off)[j]?=some u->w.cell? ⟨b,off + j,none⟩=some u:=fun j u hu=>by
     rw [cell_of_row w b (off + j) cur ty (0,0) ra];rw [yQ,yR] at hu;split at hu
     ·simpa using hu
     ·cases hu
    cases hl:q0Y agg z off r with
    | none=>rw [hl] at hr; cases hr
    | some y' =>
     rw [hl] at hr;injection hr with hr;injection hr with h1 h2;subst h1; subst h2;refine ⟨rfl,?_⟩;have ec:=q3a off ka.rep;have hi:q5T agg z ((r.map (·.v)).drop off)=some y'.v:=by
      cases agg with
      | true =>
       simp only [q0Y,if_true] at hl;split at hl
       ·rename_i wb;injection hl with hl;subst hl;simp only [q5T,if_true,List.length_drop,yo];rw [if_pos (by omega)];simp [List.map_take,List.map_drop]
       ·cases hl
      | false =>
       simp only [q0Y,yn,if_false] at hl;simp [q5T,yQ,hl]
     obtain ⟨v,ia,hS,hc⟩:=q9W (avb:=avB ι Θ) hA hz ec pb hi;refine ⟨v,by simp [execOp,ho,Instr.loadAt,Instr.sureAddr,hv,ia],hS,?_⟩;cases agg with
     | true =>
      simp only [q0Y,if_true] at hl;split at hl
      ·injection hl with hl; subst hl; trivial
      ·cases hl
     | false =>
      simp only [q0Y,yn,if_false] at hl;obtain ⟨u,hu,_,_,ha⟩:=ka.2 off y' hl;have h3:=hc rfl;rw [cell_of_row w b off cur ty (0,0) ra,hu] at h3;injection h3 with h3;subst h3;exact ha
  ·cases hr
 ·rename_i cs hy;rw [hy,q7V] at hX;obtain ⟨b,off,hv,kj⟩:=hX;obtain ⟨us,hl,rd⟩:=qaj kj;split at hr
  ·cases hr
  ·cases hi:q5T agg z cs with
   | none=>rw [hi] at hr; cases hr
   | some x' =>
    rw [hi] at hr;injection hr with hr;injection hr with h1 h2;subst h1; subst h2;obtain ⟨v,ia,hS,_⟩:=q9W (avb:=avB ι Θ) hA hz (q27 (ι:=ι) hl) (fun j u hu=>(rd j u hu).1) hi;exact ⟨rfl,v,by simp [execOp,ho,Instr.loadAt,Instr.sureAddr,hv,ia],hS,trivial⟩
 ·rename_i cs hy;rw [hy] at hX;obtain ⟨b,off,hv,kj⟩:=hX;obtain ⟨us,hl,rd⟩:=q93 kj;split at hr
  ·cases hr
  ·cases hi:q5T agg z cs with
   | none=>rw [hi] at hr; cases hr
   | some x' =>
    rw [hi] at hr;injection hr with hr;injection hr with h1 h2;subst h1; subst h2;obtain ⟨v,ia,hS,_⟩:=q9W (avb:=avB ι Θ) hA hz (q27 (ι:=ι) hl) (fun j u hu=>(rd j u hu).1) hi;exact ⟨rfl,v,by simp [execOp,ho,Instr.loadAt,Instr.sureAddr,hv,ia],hS,trivial⟩
 ·cases hr
theorem q8J (a b:ByteArray):(a.toList == b.toList)=decide (a=b):=by
 rw [ByteArray.toList_eq,ByteArray.toList_eq];obtain ⟨⟨x⟩⟩:=a;obtain ⟨⟨y⟩⟩:=b;rw [Bool.eq_iff_iff];simp
theorem q11 {op:BinOp} {t t':TypeId} {X Y:Operand} {u v r:Value} (ho:o.op=.binOp op t X Y t') (hX:a.eval X=u) (hY:a.eval Y=v) (hu:u.oneCell'=true) (hn:u≠.nilIface) (hv:(Go.binOp op t u v).run P w=.ok r w):(execOp a.eval o).run P w=.ok (.value r) w:=by
 have hg:(eqGuard op t X Y u v).run P w=.ok () w:=by
  unfold eqGuard;cases u <;> first | exact absurd rfl hn | (simp [Value.oneCell'] at hu; done) | (simp; done) | (split <;> simp; done)
 simp [execOp,ho,hX,hY,hg,hv]
theorem val_mm (R:Rel P O nt B F0 da w0 D s a w ι Θ) {mx:Bool} {ts:Array TypeId} {X Y:Operand} {x y:Opd} (hx:opd X=some x) (hy:opd Y=some y) (ho:o.op=.call { callee:=.builtin (if mx then .max else .min),args:=#[X,Y],argTypes:=ts }) {v:AV} (hr:mmC mx (x.get s) (y.get s)=some v) :
  Val P da a w ι Θ o ⟨v,.no⟩:=by
 have hX:=(R.opd hx).1;have hY:=(R.opd hy).1;unfold mmC at hr;split at hr
 ·rename_i k n k' n' e1 e2;rw [e1,q0E] at hX;rw [e2,q0E] at hY;split at hr
  ·rename_i hk;subst hk;injection hr with hr;subst hr;cases mx with
   | true =>
    have e:(if n' > n then n' else n)=max n n':=by rw [Int.max_def]; split <;> split <;> omega
    exact ⟨.int k (max n n'),by simp [execOp,ho,resolve,invoke,builtin,Builtin.max_,Builtin.max2,hX,hY,e],by simp [q0E],trivial⟩
   | false =>
    have e:(if n'<n then n' else n)=min n n':=by rw [Int.min_def]; split <;> split <;> omega
    exact ⟨.int k (min n n'),by simp [execOp,ho,resolve,invoke,builtin,Builtin.min_,Builtin.min2,hX,hY,e],by simp [q0E],trivial⟩
  ·cases hr
 ·cases hr
theorem val_bin (R:Rel P O nt B F0 da w0 D s a w ι Θ) {op:BinOp} {t t':TypeId} {bl:Bool} (ht:bl=true->P.underlying t=some .bool) {X Y:Operand} {x y:Opd} (hx:opd X=some x) (hy:opd Y=some y) (ho:o.op=.binOp op t X Y t') {v:AV} (hr:binC op bl (x.get s) (y.get s)=some v) :
  Val P da a w ι Θ o ⟨v,.no⟩:=by
 have hX:=(R.opd hx).1;have hY:=(R.opd hy).1;unfold binC at hr;split at hr
 ·rename_i k n k' n' e1 e2;rw [e1,q0E] at hX;rw [e2,q0E] at hY;by_cases le:op=.shl
  ·subst le;simp only at hr;split at hr
   ·rename_i h0;injection hr with hr;subst hr;exact ⟨.int k (k.wrap (n * 2 ^ shN k n')),q11 ho hX hY rfl (by simp) (by simp [Go.binOp,Op.shift,shN,Int.not_lt.2 h0]),by rw [q0E],trivial⟩
   ·cases hr
  by_cases iL:op=.shr
  ·subst iL;simp only at hr;split at hr
   ·rename_i h0;injection hr with hr;subst hr;exact ⟨.int k (n.fdiv (2 ^ shN k n')),q11 ho hX hY rfl (by simp) (by simp [Go.binOp,Op.shift,shN,Int.not_lt.2 h0]),by rw [q0E],trivial⟩
   ·cases hr
  split at hr
  ·exact absurd rfl le
  ·exact absurd rfl iL
  split at hr
  ·rename_i hk;subst hk;cases op <;> simp only at hr
   case and=>injection hr with hr; subst hr; exact ⟨_,q11 ho hX hY rfl (by simp) (by simp only [Go.binOp,ne_eq,not_true_eq_false,if_false]; rfl),by rw [bitsC,q0E],trivial⟩
   case or=>injection hr with hr; subst hr; exact ⟨_,q11 ho hX hY rfl (by simp) (by simp only [Go.binOp,ne_eq,not_true_eq_false,if_false]; rfl),by rw [bitsC,q0E],trivial⟩
   case xor=>injection hr with hr; subst hr; exact ⟨_,q11 ho hX hY rfl (by simp) (by simp only [Go.binOp,ne_eq,not_true_eq_false,if_false]; rfl),by rw [bitsC,q0E],trivial⟩
   case andNot=>injection hr with hr; subst hr; exact ⟨_,q11 ho hX hY rfl (by simp) (by simp only [Go.binOp,ne_eq,not_true_eq_false,if_false]; rfl),by rw [bitsC,q0E],trivial⟩
   case add=>injection hr with hr; subst hr; exact ⟨.int k (k.wrap (n + n')),q11 ho hX hY rfl (by simp) (by simp [Go.binOp,Op.intArith]),by rw [q0E],trivial⟩
   case sub=>injection hr with hr; subst hr; exact ⟨.int k (k.wrap (n - n')),q11 ho hX hY rfl (by simp) (by simp [Go.binOp,Op.intArith]),by rw [q0E],trivial⟩
   case mul=>injection hr with hr; subst hr; exact ⟨.int k (k.wrap (n * n')),q11 ho hX hY rfl (by simp) (by simp [Go.binOp,Op.intArith]),by rw [q0E],trivial⟩
   case quo =>
    split at hr
    ·cases hr
    ·rename_i h0;injection hr with hr;subst hr;exact ⟨.int k (k.wrap (n.tdiv n')),q11 ho hX hY rfl (by simp) (by simp [Go.binOp,Op.intDiv,h0]),by rw [q0E],trivial⟩
   case rem =>
    split at hr
    ·cases hr
    ·rename_i h0;injection hr with hr;subst hr;exact ⟨.int k (n.tmod n'),q11 ho hX hY rfl (by simp) (by simp [Go.binOp,Op.intDiv,h0]),by rw [q0E],trivial⟩
   case eql=>injection hr with hr; subst hr; exact ⟨.bool (n == n'),q11 ho hX hY rfl (by simp) (by simp [Go.binOp,Op.intCmp]),q0W.2 (congrArg Value.bool (by first | rfl | (rw [Bool.eq_iff_iff]; simp))),trivial⟩
   case neq=>injection hr with hr; subst hr; exact ⟨.bool (n != n'),q11 ho hX hY rfl (by simp) (by simp [Go.binOp,Op.intCmp]),q0W.2 (congrArg Value.bool (by first | rfl | (rw [Bool.eq_iff_iff]; simp))),trivial⟩
   case lss=>injection hr with hr; subst hr; exact ⟨.bool (decide (n<n')),q11 ho hX hY rfl (by simp) (by simp [Go.binOp,Op.intCmp]),q0W.2 (congrArg Value.bool (by first | rfl | (rw [Bool.eq_iff_iff]; simp))),trivial⟩
   case leq=>injection hr with hr; subst hr; exact ⟨.bool (decide (n<=n')),q11 ho hX hY rfl (by simp) (by simp [Go.binOp,Op.intCmp]),q0W.2 (congrArg Value.bool (by first | rfl | (rw [Bool.eq_iff_iff]; simp))),trivial⟩
   case gtr=>injection hr with hr; subst hr; exact ⟨.bool (decide (n > n')),q11 ho hX hY rfl (by simp) (by simp [Go.binOp,Op.intCmp]),q0W.2 (congrArg Value.bool (by first | rfl | (rw [Bool.eq_iff_iff]; simp))),trivial⟩
   case geq=>injection hr with hr; subst hr; exact ⟨.bool (decide (n>=n')),q11 ho hX hY rfl (by simp) (by simp [Go.binOp,Op.intCmp]),q0W.2 (congrArg Value.bool (by first | rfl | (rw [Bool.eq_iff_iff]; simp))),trivial⟩
   all_goals cases hr
  ·cases hr
 ·rename_i n n' e1 e2;rw [e1,q4Z] at hX;rw [e2,q4Z] at hY;cases op <;> simp only at hr
  case add =>
   split at hr
   ·rename_i wb;injection hr with hr;subst hr;have hm:IntKind.i64.max=9223372036854775807:=by decide
    have:¬ ((n.size + n'.size:Nat):Int) > IntKind.i64.max:=by rw [hm]; omega
    exact ⟨.string (n++n'),q11 ho hX hY rfl (by simp) (by simp only [Go.binOp,Op.stringOp,if_neg this]; simp),by rw [q4Z],trivial⟩
   ·cases hr
  case eql=>injection hr with hr; subst hr; exact ⟨.bool (n.toList == n'.toList),q11 ho hX hY rfl (by simp) (by simp [Go.binOp,Op.stringOp]),q0W.2 (congrArg Value.bool (by first | rfl | (rw [q8J]))),trivial⟩
  case neq=>injection hr with hr; subst hr; exact ⟨.bool (!(n.toList == n'.toList)),q11 ho hX hY rfl (by simp) (by simp [Go.binOp,Op.stringOp]),q0W.2 (congrArg Value.bool (by first | rfl | (rw [q8J]))),trivial⟩
  case lss=>injection hr with hr; subst hr; exact ⟨.bool (Op.bytesLess n.toList n'.toList),q11 ho hX hY rfl (by simp) (by simp [Go.binOp,Op.stringOp]),q0W.2 (congrArg Value.bool (by first | rfl | (rw [q8J]))),trivial⟩
  case gtr=>injection hr with hr; subst hr; exact ⟨.bool (!(Op.bytesLess n.toList n'.toList||n.toList == n'.toList)),q11 ho hX hY rfl (by simp) (by simp [Go.binOp,Op.stringOp]),by rw [q0W,q8J],trivial⟩
  case leq=>injection hr with hr; subst hr; exact ⟨.bool (Op.bytesLess n.toList n'.toList||n.toList == n'.toList),q11 ho hX hY rfl (by simp) (by simp [Go.binOp,Op.stringOp]),by rw [q0W,q8J],trivial⟩
  case geq=>injection hr with hr; subst hr; exact ⟨.bool (!Op.bytesLess n.toList n'.toList),q11 ho hX hY rfl (by simp) (by simp [Go.binOp,Op.stringOp]),by rw [q0W],trivial⟩
  all_goals cases hr
 ·rename_i n n' e1 e2;rw [e1,q0W] at hX;rw [e2,q0W] at hY;split at hr
  case isFalse=>cases hr
  rename_i hb;have hq:(Op.equal t (.bool n) (.bool n')).run P w=.ok (n == n') w:=run_equalIn_bool' w 9999 t n n' (ht hb);cases op <;> simp only at hr
  case eql=>injection hr with hr; subst hr; exact ⟨.bool (n == n'),q11 ho hX hY rfl (by simp) (by simp [Go.binOp,hq]),by rw [q0W],trivial⟩
  case neq=>injection hr with hr; subst hr; exact ⟨.bool (!(n == n')),q11 ho hX hY rfl (by simp) (by simp [Go.binOp,hq]),by rw [q0W],trivial⟩
  all_goals cases hr
 ·cases hr
end
end
section
open Go Go.RowKit
section
variable {P:Program} {O:Objs} {nt B:Nat} {F0:Own} {da:Av} {w0:World} {D:Nat->Prop} {s:MSt} {a:Act} {w w':World} {ι:Ix} {Θ:Fam} {o:Oper}
theorem q7o {av:Av}:∀ {cs:List AV} {b off:Nat} (k:Nat),q3Q av w cs b off->q3Q av w (cs.drop k) b (off + k)
 | [],_,_,k,_=>by simp [q3Q]
 | x :: r,b,off,0,h=>h
 | x :: r,b,off,k + 1,h=>by
  simp only [q3Q] at h;rw [List.drop_succ_cons,show off + (k + 1)=off + 1 + k from by omega];exact q7o k h.2.2
theorem q6s {av avb:Av}:∀ {cs:List AV} {b off:Nat} (k:Nat),q1G av avb w cs b off->q1G av avb w (cs.drop k) b (off + k)
 | [],_,_,k,_=>by simp [q1G]
 | x :: r,b,off,0,h=>h
 | x :: r,b,off,k + 1,h=>by
  simp only [q1G] at h;rw [List.drop_succ_cons,show off + (k + 1)=off + 1 + k from by omega];exact q6s k h.2.2
section
variable (R:Rel P O nt B F0 da w0 D s a w ι Θ) {t:TypeId} {fs:Array Field} {f:Field} {i z:Nat}
include R t fs f i z
theorem val_faddr (ht:P.underlying t=some (.struct fs)) (hf:fs[i]?=some f) (hz:q1Z P f.type=some (z + 1)) {X:Operand} {y:Opd} (h:opd X=some y) (ho:o.op=.fieldAddr t X i)
  {call} {x:Slot} {e:Eff} (hr:(K.faddr f.offset y).run call s=some (x,e)):e=.none/\Val P da a w ι Θ o x:=by
 have hX:=(R.opd h).1;have ia:∀ b off,a.eval X=.pointer (some ⟨b,off,none⟩)->(execOp a.eval o).run P w=.ok (.value (.pointer (some ⟨b,off + f.offset,none⟩))) w:=fun b off hv=>by
  simp [execOp,ho,Instr.fieldAt,run_underlying ht,hf,hv,Instr.sureAddr,fieldPlace,q1q hz,Addr.add_lit]
 simp only [K.run] at hr;split at hr
 ·rename_i t' n off hy;injection hr with hr; injection hr with h1 h2; subst h1; subst h2;rw [hy,q48] at hX;obtain ⟨b,hb,hv⟩:=hX;exact ⟨rfl,_,ia _ _ hv,⟨b,hb,rfl⟩,trivial⟩
 ·rename_i cs hy;injection hr with hr; injection hr with h1 h2; subst h1; subst h2;rw [hy,q7V] at hX;obtain ⟨b,off,hv,hc⟩:=hX;exact ⟨rfl,_,ia _ _ hv,by rw [q7V]; exact ⟨b,_,rfl,q7o _ hc⟩,trivial⟩
 ·rename_i cs hy;injection hr with hr; injection hr with h1 h2; subst h1; subst h2;rw [hy] at hX;obtain ⟨b,off,hv,hc⟩:=hX;exact ⟨rfl,_,ia _ _ hv,⟨b,_,rfl,q6s _ hc⟩,trivial⟩
 ·cases hr
theorem val_field {agg:Bool} (ht:P.underlying t=some (.struct fs)) (hf:fs[i]?=some f) (hA:tAgg P f.type=some agg) (hz:q1Z P f.type=some z) {X:Operand} {y:Opd} (h:opd X=some y) (ho:o.op=.field t X i)
  {call} {x:Slot} {e:Eff} (hr:(K.field agg f.offset z y).run call s=some (x,e)):e=.none/\Val P da a w ι Θ o x:=by
 have hX:=(R.opd h).1;simp only [K.run] at hr;split at hr
 ·rename_i cs hy;rw [hy,repS_agg] at hX;obtain ⟨us,hv,hc⟩:=hX;cases hl:q5T agg z (cs.drop f.offset) with
  | none=>rw [hl] at hr; cases hr
  | some v =>
   rw [hl] at hr;injection hr with hr; injection hr with h1 h2; subst h1; subst h2;obtain ⟨u,hu,hS⟩:=part_run (avb:=avB ι Θ) hA hz hc hl;exact ⟨rfl,u,by simp [execOp,ho,Instr.field,run_underlying ht,hf,hv,asAgg,hu],hS,trivial⟩
 ·cases hr
end
theorem q7x {v:AV} {n:Nat} (h:natOf v=some n):∃ k i,v=.int k i/\0<=i/\i.toNat=n:=by
 unfold natOf at h;split at h
 ·rename_i k i;split at h
  ·injection h with h; exact ⟨k,i,rfl,by assumption,h⟩
  ·cases h
 ·cases h
theorem Rows_get {av:Av} {l:List (List AV)} {b off sz k:Nat} {cs:List AV} (h:Rows av w l b off) (hu:∀ c∈l,c.length=sz) (hk:l[k]?=some cs):q3Q av w cs b (off + k * sz):=by
 have h1:=q7o (k * sz) (q3q.1 h);rw [q9P hu] at h1;have fa:k<l.length:=(yb.1 hk).1;have sb:l[k]=cs:=(yb.1 hk).2;rw [y9 fa,yB,q6S,sb] at h1;exact h1.1
theorem RowsB_get {av avb:Av} {l:List (List AV)} {b off sz k:Nat} {cs:List AV} (h:q95 av avb w l b off) (hu:∀ c∈l,c.length=sz) (hk:l[k]?=some cs):q1G av avb w cs b (off + k * sz):=by
 have h1:=q6s (k * sz) (q6q.1 h);rw [q9P hu] at h1;have fa:k<l.length:=(yb.1 hk).1;have sb:l[k]=cs:=(yb.1 hk).2;rw [y9 fa,yB,q61,sb] at h1;exact h1.1
section
variable (R:Rel P O nt B F0 da w0 D s a w ι Θ)
include R
theorem val_iaddr {t e':TypeId} {z:Nat} (ht:P.underlying t=some (.slice e')) (hz:q1Z P e'=some z) {X I:Operand} {y i:Opd} (h:opd X=some y) (hi:opd I=some i) (ho:o.op=.indexAddr t X I)
  {call} {x:Slot} {e:Eff} (hr:(K.iaddr z y i).run call s=some (x,e)):e=.none/\Val P da a w ι Θ o x:=by
 have hX:=(R.opd h).1;have hI:=(R.opd hi).1;simp only [K.run] at hr;split at hr
 ·rename_i k hk;obtain ⟨kk,n,ac,h0,hn⟩:=q7x hk;rw [ac,q0E] at hI;have ia:∀ b off len cap,a.eval X=.slice (some ⟨b,off,none⟩) len cap->k<len->(execOp a.eval o).run P w=.ok (.value (.pointer (some ⟨b,off + k * z,none⟩))) w:=fun b off len cap hv fa=>by
   have hc:0<=n/\n<(len:Int):=⟨h0,by omega⟩;simp [execOp,ho,Instr.indexAt,run_underlying ht,hv,hI,asIntOf,hc,q1q hz,Addr.add_lit,hn]
  split at hr
  ·rename_i nl l hy;rw [hy,q2F] at hX;simp only [Rep] at hX;obtain ⟨A,c,hv,hc,hu,iq,hs⟩:=hX;cases hl:l[k]? with
   | none=>rw [hl] at hr; cases hr
   | some cs =>
    rw [hl,V] at hr;split at hr
    ·rename_i kj;injection hr with hr; injection hr with h1 h2; subst h1; subst h2;have fa:k<l.length:=(yb.1 hl).1;have na:cs∈l:=yj hl;have cP:nl=false:=by
      cases nl with
      | false=>rfl
      | true=>have:=(iq rfl).2.1; omega
     obtain ⟨b,off,rfl,ka⟩:=(hs cP).2 (by omega);exact ⟨rfl,_,ia _ _ _ _ hv fa,by rw [q7V]; exact ⟨b,_,rfl,Rows_get ka (fun c hc=>(hu c hc cs na).trans kj) hl⟩,trivial⟩
    ·cases hr
  ·rename_i l hy;rw [hy] at hX;obtain ⟨a',c,hv,hc,hu,hs⟩:=hX;cases hl:l[k]? with
   | none=>rw [hl] at hr; cases hr
   | some cs =>
    rw [hl,V] at hr;split at hr
    ·rename_i kj;injection hr with hr; injection hr with h1 h2; subst h1; subst h2;have fa:k<l.length:=(yb.1 hl).1;have na:cs∈l:=yj hl;obtain ⟨b,off,rfl,ka⟩:=hs (by omega);exact ⟨rfl,_,ia _ _ _ _ hv fa,⟨b,_,rfl,RowsB_get ka (fun c hc=>(hu c hc cs na).trans kj) hl⟩,trivial⟩
    ·cases hr
  ·rename_i t' n' sz off ln cap hy;rw [hy,q4Y] at hX;obtain ⟨b,hb,wb,_,_,_,hv⟩:=hX;split at hr
   ·rename_i fa;injection hr with hr; injection hr with h1 h2; subst h1; subst h2;obtain ⟨fa,rfl⟩:=fa;exact ⟨rfl,_,ia _ _ _ _ hv fa,⟨b,hb,rfl⟩,trivial⟩
   ·cases hr
  ·cases hr
 ·cases hr
theorem val_aaddr {t e':TypeId} {n z:Nat} (ht:P.underlying t=some (.array n e')) (hz:q1Z P e'=some z) {X I:Operand} {y i:Opd} (h:opd X=some y) (hi:opd I=some i) (ho:o.op=.indexAddr t X I)
  {call} {x:Slot} {e:Eff} (hr:(K.aaddr n z y i).run call s=some (x,e)):e=.none/\Val P da a w ι Θ o x:=by
 have hX:=(R.opd h).1;have hI:=(R.opd hi).1;simp only [K.run] at hr;split at hr
 ·rename_i k hk;obtain ⟨kk,m,ac,h0,hn⟩:=q7x hk;rw [ac,q0E] at hI;split at hr
  ·rename_i fa;have ia:∀ b off,a.eval X=.pointer (some ⟨b,off,none⟩)->(execOp a.eval o).run P w=.ok (.value (.pointer (some ⟨b,off + k * z,none⟩))) w:=fun b off hv=>by
    have hc:0<=m/\m<(n:Int):=⟨h0,by omega⟩;simp [execOp,ho,Instr.indexAt,run_underlying ht,hv,hI,asIntOf,hc,Instr.sureAddr,q1q hz,Addr.add_lit,hn]
   split at hr
   ·rename_i t' n' off hy;injection hr with hr; injection hr with h1 h2; subst h1; subst h2;rw [hy,q48] at hX;obtain ⟨b,hb,hv⟩:=hX;exact ⟨rfl,_,ia _ _ hv,⟨b,hb,rfl⟩,trivial⟩
   ·rename_i cs hy;injection hr with hr; injection hr with h1 h2; subst h1; subst h2;rw [hy,q7V] at hX;obtain ⟨b,off,hv,hc⟩:=hX;exact ⟨rfl,_,ia _ _ hv,by rw [q7V]; exact ⟨b,_,rfl,q7o _ hc⟩,trivial⟩
   ·rename_i cs hy;injection hr with hr; injection hr with h1 h2; subst h1; subst h2;rw [hy] at hX;obtain ⟨b,off,hv,hc⟩:=hX;exact ⟨rfl,_,ia _ _ hv,⟨b,_,rfl,q6s _ hc⟩,trivial⟩
   ·cases hr
  ·cases hr
 ·cases hr
theorem val_index {t:TypeId} (ht:P.underlying t=some .string) {X I:Operand} {y i:Opd} (h:opd X=some y) (hi:opd I=some i) (ho:o.op=.index t X I)
  {call} {x:Slot} {e:Eff} (hr:(K.index y i).run call s=some (x,e)):e=.none/\Val P da a w ι Θ o x:=by
 have hX:=(R.opd h).1;have hI:=(R.opd hi).1;simp only [K.run] at hr;split at hr
 ·rename_i k b hk hy;obtain ⟨kk,n,ac,h0,hn⟩:=q7x hk;rw [ac,q0E] at hI;rw [hy,q4Z] at hX;cases hb:b[k]? with
  | none=>rw [hb] at hr; cases hr
  | some u =>
   rw [hb] at hr;injection hr with hr; injection hr with h1 h2; subst h1; subst h2;exact ⟨rfl,.int .u8 u.toNat,by simp [execOp,ho,Instr.index,run_underlying ht,hX,hI,asIntOf,h0,hn,hb],by rw [q0E],trivial⟩
 ·cases hr
end
theorem RepCT_get {av:Av}:∀ {xs:List AV} {us:List Value} (_:q62 ι av w xs us) {j:Nat} {x:AV},xs[j]?=some x->∃ u,us[j]?=some u/\RepU ι av w x u
 | [],_,_,_,_,hx=>by simp at hx
 | y :: r,_,h,j,x,hx=>by
  simp only [q62] at h;obtain ⟨u,sa,rfl,h0,h⟩:=h;cases j with
  | zero=>simp at hx; subst hx; exact ⟨u,rfl,h0⟩
  | succ j=>exact RepCT_get h (j:=j) (by simpa using hx)
theorem q49 {av:Av} {x:AV} {u:Value} (h:Rep av w x u):RepU ι av w x u:=by
 cases x <;> first
  | (simp only [Rep] at h; obtain ⟨us,hv,hc⟩:=h; exact ⟨us,hv,q27 hc⟩)
  | exact q6u (ι:=ι) h
theorem RepCT_ofT {av:Av}:∀ {xs:List AV} {us:List Value},RepT av w xs us->q62 ι av w xs us
 | [],_,h=>by simpa [RepT,q62] using h
 | x :: r,_,h=>by
  simp only [RepT] at h;obtain ⟨u,sa,rfl,h0,h⟩:=h;exact ⟨u,sa,rfl,q49 h0,RepCT_ofT h⟩
theorem q8G {av avb:Av} {x:AV} {u:Value} (h:Rep av w x u):RepS ι av avb w x u:=by
 cases x <;> first
  | exact h
  | (simp only [Rep] at h; obtain ⟨us,hv,hc⟩:=h; exact ⟨us,hv,q27 hc⟩)
  | (simp only [Rep] at h; obtain ⟨us,hv,hc⟩:=h; exact ⟨us,hv,RepCT_ofT hc⟩)
  | (simp [Rep] at h; done)
theorem RepU_to_S {av avb:Av} {x:AV} {u:Value} (h:RepU ι av w x u):RepS ι av avb w x u:=by
 cases x <;> first
  | exact h
  | exact q8G h
theorem q24 {av avb:Av} {x:AV} {u:Value} (h:RepC ι av w x u):RepS ι av avb w x u:=by
 cases x <;> first | exact h | exact q8G h
section
variable (R:Rel P O nt B F0 da w0 D s a w ι Θ)
include R
theorem val_ext {i:Nat} {X:Operand} {y:Opd} (h:opd X=some y) (ho:o.op=.extract X i)
  {call} {x:Slot} {e:Eff} (hr:(K.ext y i).run call s=some (x,e)):e=.none/\Val P da a w ι Θ o x:=by
 have hX:=(R.opd h).1;simp only [K.run] at hr;split at hr
 ·rename_i vs hy;rw [hy,repS_tup] at hX;obtain ⟨us,hv,hc⟩:=hX;cases hb:vs[i]? with
  | none=>rw [hb] at hr; cases hr
  | some u =>
   rw [hb] at hr;injection hr with hr; injection hr with h1 h2; subst h1; subst h2;obtain ⟨u',hu,ec⟩:=RepCT_get hc hb;have kq:us[i]?=some u':=by simpa using hu
   exact ⟨rfl,u',by simp [execOp,ho,Instr.extract,hv,kq],RepU_to_S ec,trivial⟩
 ·cases hr
theorem val_nilchk {X:Operand} {y:Opd} (h:opd X=some y) (ho:o.op=.nilCheck X)
  {call} {x:Slot} {e:Eff} (hr:(K.nilchk y).run call s=some (x,e)):e=.none/\Val P da a w ι Θ o x:=by
 have hX:=(R.opd h).1;simp only [K.run] at hr;split at hr
 ·rename_i t n off hy;injection hr with hr; injection hr with h1 h2; subst h1; subst h2;rw [hy] at hX;obtain ⟨b,hb,hv⟩:=q48.1 hX;exact ⟨rfl,.pointer (some ⟨b,off,none⟩),by simp [execOp,ho,hv],by rw [q48]; exact ⟨b,hb,rfl⟩,trivial⟩
 ·rename_i cs hy;injection hr with hr; injection hr with h1 h2; subst h1; subst h2;rw [hy] at hX;obtain ⟨b,off,hv,hc⟩:=q7V.1 hX;exact ⟨rfl,.pointer (some ⟨b,off,none⟩),by simp [execOp,ho,hv],by rw [q7V]; exact ⟨b,off,rfl,hc⟩,trivial⟩
 ·rename_i cs hy;injection hr with hr; injection hr with h1 h2; subst h1; subst h2;rw [hy] at hX;obtain ⟨b,off,hv,hc⟩:=hX;exact ⟨rfl,.pointer (some ⟨b,off,none⟩),by simp [execOp,ho,hv],⟨b,off,rfl,hc⟩,trivial⟩
 ·cases hr
theorem val_len {t:TypeId} {str:Bool} (ht:if str then P.underlying t=some .string else ∃ e,P.underlying t=some (.slice e)) {X:Operand} {y:Opd} (h:opd X=some y) (ho:o.op=.call { callee:=.builtin .len,args:=#[X],argTypes:=#[t] })
  {call} {x:Slot} {e:Eff} (hr:(K.len str y).run call s=some (x,e)):e=.none/\Val P da a w ι Θ o x:=by
 have hX:=(R.opd h).1;have le:∀ A n c,str=false->a.eval X=.slice A n c->(execOp a.eval o).run P w=.ok (.value (.int .i64 n)) w:=fun A n c hs hv=>by
  subst hs;obtain ⟨e',ht⟩:=ht;simp [execOp,ho,resolve,invoke,builtin,Builtin.len_,run_underlying ht,hv,goInt]
 simp only [K.run] at hr;split at hr
 ·rename_i nl l hy;rw [hy,q2F] at hX;simp only [Rep] at hX;obtain ⟨A,c,hv,_⟩:=hX;cases str with
  | true=>simp at hr
  | false =>
   simp only [yn,if_false] at hr;injection hr with hr; injection hr with h1 h2; subst h1; subst h2;exact ⟨rfl,_,le _ _ _ rfl hv,by rw [q0E],trivial⟩
 ·rename_i l hy;rw [hy] at hX;obtain ⟨A,c,hv,_⟩:=hX;cases str with
  | true=>simp at hr
  | false =>
   simp only [yn,if_false] at hr;injection hr with hr; injection hr with h1 h2; subst h1; subst h2;exact ⟨rfl,_,le _ _ _ rfl hv,by rw [q0E],trivial⟩
 ·rename_i t' n sz off ln cap hy;rw [hy,q4Y] at hX;obtain ⟨b,_,_,_,_,_,hv⟩:=hX;cases str with
  | true=>simp at hr
  | false =>
   simp only [yn,if_false] at hr;injection hr with hr; injection hr with h1 h2; subst h1; subst h2;exact ⟨rfl,_,le _ _ _ rfl hv,by rw [q0E],trivial⟩
 ·rename_i b hy;rw [hy,q4Z] at hX;cases str with
  | false=>simp at hr
  | true =>
   simp only [if_true] at hr ht;injection hr with hr; injection hr with h1 h2; subst h1; subst h2;exact ⟨rfl,.int .i64 b.size,by simp [execOp,ho,resolve,invoke,builtin,Builtin.len_,run_underlying ht,hX,goInt],by rw [q0E],trivial⟩
 ·cases hr
theorem val_un {op:UnOp} {t:TypeId} {X:Operand} {y:Opd} (h:opd X=some y) (ho:o.op=.unOp op t X)
  {call} {x:Slot} {e:Eff} (hr:(K.un op y).run call s=some (x,e)):e=.none/\Val P da a w ι Θ o x:=by
 have hX:=(R.opd h).1;simp only [K.run] at hr;split at hr
 ·rename_i b hy;injection hr with hr; injection hr with h1 h2; subst h1; subst h2;rw [hy,q0W] at hX;exact ⟨rfl,.bool (!b),by simp [execOp,ho,Op.unary,hX],by rw [q0W],trivial⟩
 ·rename_i k n hy;injection hr with hr; injection hr with h1 h2; subst h1; subst h2;rw [hy,q0E] at hX;exact ⟨rfl,.int k (k.wrap (0 - n)),by simp [execOp,ho,Op.unary,Op.intArith,hX],by rw [q0E],trivial⟩
 ·cases hr
theorem val_conv {k:Option IntKind} {t t':TypeId} (hk:match k with | some k=>(∃ j,P.underlying t=some (.int j))/\P.underlying t'=some (.int k) | none=>P.underlying t=some .string/\P.underlying t'=some .string)
  {X:Operand} {y:Opd} (h:opd X=some y) (ho:o.op=.convert t t' X) {call} {x:Slot} {e:Eff} (hr:(K.conv k y).run call s=some (x,e)):e=.none/\Val P da a w ι Θ o x:=by
 have hX:=(R.opd h).1;simp only [K.run] at hr;split at hr
 ·rename_i k' j n hy;injection hr with hr; injection hr with h1 h2; subst h1; subst h2;rw [hy,q0E] at hX;obtain ⟨⟨i,h1⟩,h2⟩:=hk;exact ⟨rfl,.int k' (k'.wrap n),by simp [execOp,ho,Go.convert,run_underlying h1,run_underlying h2,Conv.intToInt,hX],by rw [q0E],trivial⟩
 ·rename_i b hy;injection hr with hr; injection hr with h1 h2; subst h1; subst h2;rw [hy,q4Z] at hX;exact ⟨rfl,.string b,by simp [execOp,ho,Go.convert,run_underlying hk.1,run_underlying hk.2,hX],by rw [q4Z],trivial⟩
 ·cases hr
end
end
end
section
open Go Go.RowKit
section
variable {P:Program} {O:Objs} {nt B:Nat} {F0:Own} {da:Av} {w0:World} {D:Nat->Prop} {s:MSt} {a:Act} {w w':World} {ι:Ix} {Θ:Fam} {o:Oper}
def endOf (a:Act) (d:Nat):Option Operand->Option Value × Nat->Prop
 | none,(v,n)=>v=none/\n=d
 | some x,(v,n)=>v=some (a.eval x)/\∃ k i,a.eval x=.int k i/\0<=i/\i.toNat=n
theorem q7Y {t e:TypeId} {z:Nat} (ht:P.underlying t=some (.slice e)) (hz:q1Z P e=some z) {A:Option Addr} {n c:Nat} {L H:Option Operand} {l h:Nat} (hl:endOf a 0 L (L.map a.eval,l)) (hh:endOf a n H (H.map a.eval,h)) (h1:l<=h) (h2:h<=c) :
  (Instr.sliceAt t (.slice A n c) (L.map a.eval) (H.map a.eval) none).run P w=.ok (.slice (if c=l then A else A.map (·.add (l * z))) (h - l) (c - l)) w:=by
 cases L with
 | none =>
  obtain ⟨_,rfl⟩:=hl;cases H with
  | none =>
   obtain ⟨_,rfl⟩:=hh;simp [Instr.sliceAt,Instr.slice,Instr.sliceBounds,run_underlying ht,q1q hz]
  | some x =>
   obtain ⟨_,k,i,hx,h0,rfl⟩:=hh;have:0<=i/\i<=(c:Int):=⟨h0,by omega⟩;simp [Instr.sliceAt,Instr.slice,Instr.sliceBounds,Instr.sliceBound,run_underlying ht,q1q hz,hx,asIntOf,this]
 | some y =>
  obtain ⟨_,k',i',hy,af,rfl⟩:=hl;cases H with
  | none =>
   obtain ⟨_,rfl⟩:=hh;have:0<=i'/\i'<=(h:Int):=⟨af,by omega⟩;simp [Instr.sliceAt,Instr.slice,Instr.sliceBounds,Instr.sliceBound,run_underlying ht,q1q hz,hy,asIntOf,this]
  | some x =>
   obtain ⟨_,k,i,hx,h0,rfl⟩:=hh;have h3:0<=i/\i<=(c:Int):=⟨h0,by omega⟩;have h4:0<=i'/\i'<=(i.toNat:Int):=⟨af,by omega⟩;have h5:i'<=max i 0:=by omega
   simp [Instr.sliceAt,Instr.slice,Instr.sliceBounds,Instr.sliceBound,run_underlying ht,q1q hz,hx,hy,asIntOf,h3,h4,h5]
theorem sliceAt_string {t:TypeId} (ht:P.underlying t=some .string) {b:ByteArray} {L H:Option Operand} {l h:Nat} (hl:endOf a 0 L (L.map a.eval,l)) (hh:endOf a b.size H (H.map a.eval,h)) (h1:l<=h) (h2:h<=b.size) :
  (Instr.sliceAt t (.string b) (L.map a.eval) (H.map a.eval) none).run P w=.ok (.string (b.extract l h)) w:=by
 cases L with
 | none =>
  obtain ⟨_,rfl⟩:=hl;cases H with
  | none =>
   obtain ⟨_,rfl⟩:=hh;simp [Instr.sliceAt,Instr.slice,Instr.sliceBounds,run_underlying ht]
  | some x =>
   obtain ⟨_,k,i,hx,h0,rfl⟩:=hh;have:0<=i/\i<=(b.size:Int):=⟨h0,by omega⟩;simp [Instr.sliceAt,Instr.slice,Instr.sliceBounds,Instr.sliceBound,run_underlying ht,hx,asIntOf,this]
 | some y =>
  obtain ⟨_,k',i',hy,af,rfl⟩:=hl;cases H with
  | none =>
   obtain ⟨_,rfl⟩:=hh;have:0<=i'/\i'<=(b.size:Int):=⟨af,by omega⟩;simp [Instr.sliceAt,Instr.slice,Instr.sliceBounds,Instr.sliceBound,run_underlying ht,hy,asIntOf,this]
  | some x =>
   obtain ⟨_,k,i,hx,h0,rfl⟩:=hh;have h3:0<=i/\i<=(b.size:Int):=⟨h0,by omega⟩;have h4:0<=i'/\i'<=(i.toNat:Int):=⟨af,by omega⟩;have h5:i'<=max i 0:=by omega
   simp [Instr.sliceAt,Instr.slice,Instr.sliceBounds,Instr.sliceBound,run_underlying ht,hx,hy,asIntOf,h3,h4,h5]
theorem q6M (R:Rel P O nt B F0 da w0 D s a w ι Θ) {L:Option Operand} {l:Option Opd} (h:opdO L=some l) {d n:Nat} (hn:endC s d l=some n):endOf a d L (L.map a.eval,n):=by
 cases L with
 | none =>
  injection h with h;subst h;injection hn with hn;exact ⟨rfl,hn.symm⟩
 | some X =>
  simp only [opdO] at h;cases hx:opd X with
  | none=>rw [hx] at h; cases h
  | some x =>
   rw [hx] at h;injection h with h;subst h;obtain ⟨k,i,hi,h0,hn⟩:=q7x hn;have:=(R.opd hx).1;rw [hi,q0E] at this;exact ⟨rfl,k,i,this,h0,hn⟩
theorem sub_flat {sz:Nat} {e:List (List AV)} (hu:∀ c∈e,c.length=sz) (l h:Nat):((e.take h).drop l).flatten=(e.flatten.take (h * sz)).drop (l * sz):=by
 rw [<- q9P (fun c hc=>hu c (List.mem_of_mem_take hc)) l];congr 1;clear l
 induction e generalizing h with
 | nil=>simp
 | cons c r ih =>
  cases h with
  | zero=>simp
  | succ h =>
   have hc:c.length=sz:=hu c (by simp);rw [List.take_succ_cons,yB,yB,List.take_append,hc,ih (fun c hc=>hu c (by simp [hc])),
    yD (l:=c) (by rw [hc,yt]; omega),show (h + 1) * sz - sz=h * sz from by rw [yt]; omega]
theorem Cells_take {av:Av} {cs:List AV} {b off:Nat} (k:Nat) (h:q3Q av w cs b off):q3Q av w (cs.take k) b off:=by
 rw [<- List.take_append_drop k cs,q6S] at h;exact h.1
theorem CellsB_take {av avb:Av} {cs:List AV} {b off:Nat} (k:Nat) (h:q1G av avb w cs b off):q1G av avb w (cs.take k) b off:=by
 rw [<- List.take_append_drop k cs,q61] at h;exact h.1
theorem val_slc (R:Rel P O nt B F0 da w0 D s a w ι Θ) {t:TypeId} {str:Bool} {z:Nat} (ht:if str then P.underlying t=some .string else ∃ e,P.underlying t=some (.slice e)/\q1Z P e=some z) {X:Operand} {L H:Option Operand} {x:Opd} {l h:Option Opd} (hx:opd X=some x) (hl:opdO L=some l) (hh:opdO H=some h)
  (ho:o.op=.slice t X L H none) {call} {y:Slot} {e:Eff} (hr:(K.slc str z x l h none).run call s=some (y,e)):e=.none/\Val P da a w ι Θ o y:=by
 have hX:=(R.opd hx).1;simp only [K.run] at hr;split at hr
 ·cases hr
 ·rename_i lo fD;have hL:=q6M R hl fD;split at hr
  ·rename_i b e' hy;rw [hy,q2F] at hX;simp only [Rep] at hX;obtain ⟨A,c,hv,hc,hu,hn,hs⟩:=hX;split at hr
   ·rename_i hi sr;have hH:=q6M R hh sr;split at hr
    ·rename_i aa;obtain ⟨h1,h2,h3,rfl⟩:=aa;injection hr with hr; injection hr with e1 e2; subst e1; subst e2;obtain ⟨el,gb,xD⟩:=ht;have ic:∀ c∈e',c.length=z:=fun c hc=>by simpa using y4.1 h3 c hc
     have ia:=q7Y (w:=w) (A:=A) gb xD hL hH h1 (Nat.le_trans h2 hc);refine ⟨rfl,.slice (if c=lo then A else A.map (·.add (lo * z))) (hi - lo) (c - lo),by simp only [execOp,ho,hv,Option.map_none,Sem.run_bind,ia,Result.andThen_ok,Sem.run_pure],?_,trivial⟩;simp only [q2F,Rep];have ja:((e'.take hi).drop lo).length=hi - lo:=by rw [List.length_drop,yC]; omega
     refine ⟨_,_,by rw [ja],by rw [ja]; omega,fun x hx y hy=>(ic x (List.mem_of_mem_take (List.mem_of_mem_drop hx))).trans (ic y (List.mem_of_mem_take (List.mem_of_mem_drop hy))).symm,fun hb=>?_,fun hb=>?_⟩
     ·obtain ⟨rfl,h0,rfl⟩:=hn hb;refine ⟨by simp,by omega,by omega⟩
     ·obtain ⟨di,sF⟩:=hs hb;by_cases jd:c=lo
      ·exact ⟨fun _=>by omega,fun h0=>by omega⟩
      ·refine ⟨fun hA=>?_,fun h0=>?_⟩
       ·rw [if_neg jd] at hA;cases tk:A with
        | none=>have:=di tk; omega
        | some a=>rw [tk] at hA; cases hA
       obtain ⟨bb,off,rfl,ka⟩:=sF (by omega);refine ⟨bb,off + lo * z,by rw [if_neg jd]; simp only [yz,Addr.add_lit],?_⟩;rw [q3q,sub_flat ic];exact q7o _ (Cells_take _ (q3q.1 ka))
    ·cases hr
   ·cases hr
  ·rename_i e' hy;rw [hy] at hX;obtain ⟨a',c,hv,hc,hu,hs⟩:=hX;split at hr
   ·rename_i hi sr;have hH:=q6M R hh sr;split at hr
    ·rename_i aa;obtain ⟨h1,h2,h3,rfl⟩:=aa;injection hr with hr; injection hr with e1 e2; subst e1; subst e2;obtain ⟨el,gb,xD⟩:=ht;have ic:∀ c∈e',c.length=z:=fun c hc=>by simpa using y4.1 h3 c hc
     have ia:=q7Y (w:=w) (A:=some a') gb xD hL hH h1 (Nat.le_trans h2 hc);refine ⟨rfl,.slice (if c=lo then some a' else (some a').map (·.add (lo * z))) (hi - lo) (c - lo),by simp only [execOp,ho,hv,Option.map_none,Sem.run_bind,ia,Result.andThen_ok,Sem.run_pure],?_,trivial⟩;have ja:((e'.take hi).drop lo).length=hi - lo:=by rw [List.length_drop,yC]; omega
     refine ⟨if c=lo then a' else a'.add (lo * z),c - lo,by rw [ja]; split <;> simp,by rw [ja]; omega,fun x hx y hy=>(ic x (List.mem_of_mem_take (List.mem_of_mem_drop hx))).trans (ic y (List.mem_of_mem_take (List.mem_of_mem_drop hy))).symm,fun h0=>?_⟩;rw [if_neg (by omega)];obtain ⟨bb,off,rfl,ka⟩:=hs (by omega);refine ⟨bb,off + lo * z,by rw [Addr.add_lit],?_⟩;rw [q6q,sub_flat ic];exact q6s _ (CellsB_take _ (q6q.1 ka))
    ·cases hr
   ·cases hr
  ·rename_i t' n sz off ln cap hy;rw [hy,q4Y] at hX;obtain ⟨b,hb,wb,cc,xf,hz,hv⟩:=hX;split at hr
   ·rename_i hi sr;have hH:=q6M R hh sr;split at hr
    ·rename_i aa;obtain ⟨h1,h2,rfl,rfl⟩:=aa;obtain ⟨el,gb,xD⟩:=ht;have ia:=q7Y (w:=w) (A:=some ⟨b,off,none⟩) gb xD hL hH h1 (Nat.le_trans h2 xf);have fq:(execOp a.eval o).run P w=.ok (.value (.slice (if cc=lo then some ⟨b,off,none⟩ else (some (⟨b,off,none⟩:Addr)).map (·.add (lo * sz))) (hi - lo) (cc - lo))) w:=by simp only [execOp,ho,hv,Option.map_none,Sem.run_bind,ia,Result.andThen_ok,Sem.run_pure]
     split at hr
     ·rename_i he;injection hr with hr; injection hr with e1 e2; subst e1; subst e2;refine ⟨rfl,_,fq,?_,trivial⟩;rw [q2F];simp only [Rep,List.length_nil];refine ⟨_,cc - lo,by rw [show hi - lo=0 from by omega],by omega,(fun x hx=>by cases hx),(fun h=>by cases h),fun _=>⟨fun h=>?_,fun h=>absurd h (Nat.lt_irrefl 0)⟩⟩;split at h <;> simp at h
     ·rename_i he;injection hr with hr; injection hr with e1 e2; subst e1; subst e2;refine ⟨rfl,_,fq,⟨b,hb,by omega,cc - lo,by omega,?_,?_⟩,trivial⟩
      ·have:off + lo * sz + (cc - lo) * sz=off + cc * sz:=by
        rw [Nat.add_assoc,<- Nat.add_mul];congr 2;omega
       rw [this];exact hz
      ·rw [if_neg (by omega)];simp [Addr.add_lit]
    ·cases hr
   ·cases hr
  ·rename_i b hy;rw [hy,q4Z] at hX;split at hr
   ·rename_i hi sr;have hH:=q6M R hh sr;split at hr
    ·rename_i aa;obtain ⟨h1,h2,rfl⟩:=aa;injection hr with hr; injection hr with e1 e2; subst e1; subst e2;have ia:=sliceAt_string (w:=w) ht hL hH h1 h2;exact ⟨rfl,.string (b.extract lo hi),by simp only [execOp,ho,hX,Option.map_none,Sem.run_bind,ia,Result.andThen_ok,Sem.run_pure],by rw [q4Z],trivial⟩
    ·cases hr
   ·cases hr
  ·cases hr
theorem isZ_eq {H:Option Operand} (h:isZ H=true):H=some (.const (.int .i64 0)):=by
 unfold isZ at h;split at h
 ·rw [of_decide_eq_true h]
 ·cases h
theorem val_slz (R:Rel P O nt B F0 da w0 D s a w ι Θ) {t e':TypeId} {z:Nat} (ht:P.underlying t=some (.slice e')) (hz:q1Z P e'=some z) {X:Operand} {H M:Option Operand} (hH:isZ H=true) (hM:isZ M=true) {x:Opd} (hx:opd X=some x)
  (ho:o.op=.slice t X none H M) {call} {y:Slot} {e:Eff} (hr:(K.slz x).run call s=some (y,e)):e=.none/\Val P da a w ι Θ o y:=by
 have hX:=(R.opd hx).1;rw [isZ_eq hH,isZ_eq hM] at ho;have ia:∀ (A:Option Addr) (n c:Nat),a.eval X=.slice A n c->(execOp a.eval o).run P w=.ok (.value (.slice A 0 0)) w:=fun A n c hv=>by
  have le:(Instr.sliceAt t (.slice A n c) none (some (.int .i64 0)) (some (.int .i64 0))).run P w=.ok (.slice A 0 0) w:=by simp [Instr.sliceAt,Instr.slice,Instr.sliceBounds,Instr.sliceBound,run_underlying ht,q1q hz,asIntOf]
  have he:a.eval (.const (.int .i64 0))=.int .i64 0:=rfl;simp only [execOp,ho,hv,he,Option.map_none,yz,le,Sem.run_bind,Result.andThen_ok,Sem.run_pure]
 simp only [K.run] at hr;split at hr
 ·rename_i b l hy;injection hr with hr; injection hr with e1 e2; subst e1; subst e2;rw [hy,q2F] at hX;simp only [Rep] at hX;obtain ⟨A,c,hv,hc,hu,hn,hs⟩:=hX;refine ⟨rfl,_,ia _ _ _ hv,?_,⟨A,0,rfl⟩⟩;simp only [q2F,Rep,List.length_nil];exact ⟨A,0,rfl,ym _,(fun x hx=>by cases hx),fun hb=>⟨(hn hb).1,trivial,rfl⟩,fun hb=>⟨fun _=>rfl,fun h0=>absurd h0 (Nat.lt_irrefl 0)⟩⟩
 ·rename_i l hy;injection hr with hr; injection hr with e1 e2; subst e1; subst e2;rw [hy] at hX;obtain ⟨a',c,hv,hc,hu,hs⟩:=hX;refine ⟨rfl,_,ia _ _ _ hv,?_,⟨_,0,rfl⟩⟩;simp only [q2F,Rep,List.length_nil];exact ⟨_,0,rfl,ym _,(fun x hx=>by cases hx),(fun hb=>by cases hb),fun hb=>⟨fun _=>rfl,fun h0=>absurd h0 (Nat.lt_irrefl 0)⟩⟩
 ·rename_i t' n sz off ln cap hy;injection hr with hr; injection hr with e1 e2; subst e1; subst e2;rw [hy,q4Y] at hX;obtain ⟨b,hb,wb,cc,xf,nL,hv⟩:=hX;refine ⟨rfl,_,ia _ _ _ hv,?_,⟨_,0,rfl⟩⟩;simp only [q2F,Rep,List.length_nil];exact ⟨_,0,rfl,ym _,(fun x hx=>by cases hx),(fun hb=>by cases hb),fun hb=>⟨fun _=>rfl,fun h0=>absurd h0 (Nat.lt_irrefl 0)⟩⟩
 ·cases hr
end
end
section
open Go Go.RowKit
section
variable {P:Program} {O:Objs} {nt B:Nat} {F0:Own} {da:Av} {w0:World} {D:Nat->Prop} {s:MSt} {a:Act} {w w':World} {ι:Ix} {Θ:Fam} {o:Oper}
theorem eql_slice (d:Nat) {t e:TypeId} (ht:P.underlying t=some (.slice e)) (A:Option Addr) (n c:Nat):(Op.equalIn (d + 1) t (.slice A n c) (.slice none 0 0)).run P w=.ok A.isNone w:=by
 unfold Op.equalIn;simp only [Sem.run_bind,run_underlying ht,Result.andThen_ok];cases A <;> rfl
theorem eql_ptr (d:Nat) {t e:TypeId} (ht:P.underlying t=some (.pointer e)) (A:Option Addr):(Op.equalIn (d + 1) t (.pointer A) (.pointer none)).run P w=.ok A.isNone w:=by
 unfold Op.equalIn;simp only [Sem.run_bind,run_underlying ht,Result.andThen_ok];cases A <;> rfl
theorem val_eqn (R:Rel P O nt B F0 da w0 D s a w ι Θ) {t t':TypeId} {neg ptr:Bool} (ht:if ptr then ∃ e,P.underlying t=some (.pointer e) else ∃ e,P.underlying t=some (.slice e)) {X Y:Operand} {x y:Opd} (hx:opd X=some x) (hy:opd Y=some y)
  (ho:o.op=.binOp (if neg then .neq else .eql) t X Y t') {call} {z:Slot} {e:Eff} (hr:(K.eqn neg ptr x y).run call s=some (z,e)):e=.none/\Val P da a w ι Θ o z:=by
 have hX:=(R.opd hx).1;have hY:=(R.opd hy).1;have key:∀ (u v:Value) (r:Bool),a.eval X=u->a.eval Y=v->u.oneCell'=true->u≠.nilIface->(∀ op,(Go.binOp op t u v).run P w=(match op with | .eql=>(do pure (.bool (<- Op.equal t u v)):Sem Value) | .neq=>(do pure (.bool (!(<- Op.equal t u v))):Sem Value) | _=>Go.binOp op t u v).run P w)->(Op.equal t u v).run P w=.ok r w →
   (execOp a.eval o).run P w=.ok (.value (.bool (r != neg))) w:=fun u v r hu hv h1 hn hb he=>by
  cases neg with
  | false =>
   simp only [yn,if_false] at ho;have:=hb .eql;simp only [Sem.run_bind,he,Result.andThen_ok,Sem.run_pure] at this;rw [q11 ho hu hv h1 hn this];simp
  | true =>
   simp only [if_true] at ho;have:=hb .neq;simp only [Sem.run_bind,he,Result.andThen_ok,Sem.run_pure] at this;rw [q11 ho hu hv h1 hn this];simp
 have le:∀ A n c,ptr=false->a.eval X=.slice A n c->a.eval Y=.slice none 0 0->(execOp a.eval o).run P w=.ok (.value (.bool (A.isNone != neg))) w:=fun A n c hp hu hv=>by
  subst hp;simp only [yn,if_false] at ht;obtain ⟨e,ht⟩:=ht;exact key _ _ _ hu hv rfl (by simp) (fun op=>by cases op <;> simp [Go.binOp]) (eql_slice 9999 ht A n c)
 have mF:∀ A,ptr=true->a.eval X=.pointer A->a.eval Y=.pointer none->(execOp a.eval o).run P w=.ok (.value (.bool (A.isNone != neg))) w:=fun A hp hu hv=>by
  subst hp;simp only [if_true] at ht;obtain ⟨e,ht⟩:=ht;exact key _ _ _ hu hv rfl (by simp) (fun op=>by cases op <;> simp [Go.binOp]) (eql_ptr 9999 ht A)
 have fin:∀ {b:Bool},(execOp a.eval o).run P w=.ok (.value (.bool (b != neg))) w->Val P da a w ι Θ o ⟨.bool (b != neg),.no⟩:=fun h=>⟨_,h,by rw [q0W],trivial⟩
 simp only [K.run] at hr;split at hr
 ·rename_i l pp;rw [pp,q2F] at hY;simp only [Rep] at hY;obtain ⟨A,c,hv,_,_,hn,_⟩:=hY;obtain ⟨rfl,h0,rfl⟩:=hn trivial;rw [h0] at hv;cases hi:isNil false (x.get s) with
  | none=>rw [hi] at hr; cases hr
  | some b =>
   rw [hi] at hr;injection hr with hr; injection hr with e1 e2; subst e1; subst e2;refine ⟨rfl,fin ?_⟩;unfold isNil at hi;split at hi <;> first | (exact absurd ‹false=true› (by decide)) | skip
   ·rename_i l' _ kc;injection hi with hi; subst hi;rw [kc,q2F] at hX;simp only [Rep] at hX;obtain ⟨A,c,hu,_,_,ak,fi⟩:=hX;have:=le _ _ _ rfl hu hv;rw [(ak trivial).1] at this; exact this
   ·rename_i l' _ kc;split at hi
    ·cases hi
    ·rename_i oa;injection hi with hi; subst hi;rw [kc,q2F] at hX;simp only [Rep] at hX;obtain ⟨A,c,hu,_,_,ak,fi⟩:=hX;have:=le _ _ _ rfl hu hv;obtain ⟨_,_,rfl,_⟩:=(fi trivial).2 (by cases l' with | nil=>simp at oa | cons=>simp);exact this
   ·rename_i l' _ kc;injection hi with hi; subst hi;rw [kc] at hX;obtain ⟨a',c,hu,_⟩:=hX;exact le _ _ _ rfl hu hv
   ·rename_i kc;injection hi with hi; subst hi;rw [kc] at hX;obtain ⟨b,_,_,_,_,_,hu⟩:=q4Y.1 hX;exact le _ _ _ rfl hu hv
   ·cases hi
 ·rename_i pp;rw [pp,repS_nilP] at hY;cases hi:isNil true (x.get s) with
  | none=>rw [hi] at hr; cases hr
  | some b =>
   rw [hi] at hr;injection hr with hr; injection hr with e1 e2; subst e1; subst e2;refine ⟨rfl,fin ?_⟩;unfold isNil at hi;split at hi <;> first | (exact absurd ‹true=false› (by decide)) | skip
   ·rename_i kc;injection hi with hi; subst hi;rw [kc,repS_nilP] at hX;exact mF _ rfl hX hY
   ·rename_i kc;injection hi with hi; subst hi;rw [kc] at hX;obtain ⟨b,_,hu⟩:=q48.1 hX;exact mF _ rfl hu hY
   ·rename_i kc;injection hi with hi; subst hi;rw [kc] at hX;obtain ⟨b,off,hu,_⟩:=q7V.1 hX;exact mF _ rfl hu hY
   ·rename_i kc;injection hi with hi; subst hi;rw [kc] at hX;obtain ⟨b,off,hu,_⟩:=hX;exact mF _ rfl hu hY
   ·cases hi
 ·cases hr
def KindEq (P:Program) (d:Nat) (t:TypeId) (w:World):Nat->Value->Value->Prop
 | 0,.int j a,.int j' b=>j=j'->(Op.equalIn (d + 1) t (.int j a) (.int j' b)).run P w=.ok (decide (a=b)) w
 | 1,.string a,.string b=>(Op.equalIn (d + 1) t (.string a) (.string b)).run P w=.ok (decide (a=b)) w
 | 2,.bool a,.bool b=>(Op.equalIn (d + 1) t (.bool a) (.bool b)).run P w=.ok (decide (a=b)) w
 | _,_,_=>True
theorem tKind_eq (d:Nat) {t:TypeId} {k:Nat} (hk:tKind P t=some k) {xs ys:Array Value} {i:Nat} {u v:Value} (hu:xs[i]?=some u) (hv:ys[i]?=some v) :
  (part t xs i).run P w=.ok u w/\(part t ys i).run P w=.ok v w/\KindEq P d t w k u v:=by
 unfold tKind at hk;split at hk
 ·rename_i j ht _;injection hk with hk;subst hk;refine ⟨by simp [part,isAgg,run_underlying ht,hu],by simp [part,isAgg,run_underlying ht,hv],?_⟩;cases u <;> cases v <;> first | trivial | skip
  rename_i j1 a j2 b;rintro rfl;rw [run_equalIn_int w d t j1 j a b ht];rfl
 ·rename_i ht _;injection hk with hk;subst hk;refine ⟨by simp [part,isAgg,run_underlying ht,hu],by simp [part,isAgg,run_underlying ht,hv],?_⟩;cases u <;> cases v <;> first | trivial | skip
  rename_i a b;show (Op.equalIn (d + 1) t (.string a) (.string b)).run P w=_;rw [run_equalIn_string w d t a b ht,q8J]
 ·rename_i ht _;injection hk with hk;subst hk;refine ⟨by simp [part,isAgg,run_underlying ht,hu],by simp [part,isAgg,run_underlying ht,hv],?_⟩;cases u <;> cases v <;> first | trivial | skip
  rename_i a b;show (Op.equalIn (d + 1) t (.bool a) (.bool b)).run P w=_;rw [run_equalIn_bool' w d t a b ht];cases a <;> cases b <;> rfl
 ·cases hk
theorem eqC_step {k:Nat} {ks:List Nat} {x y:AV} {xs ys:List AV} {r:Bool} (h:eqC (k :: ks) (x :: xs) (y :: ys)=some r) {av:Av} {u v:Value} (hu:RepC ι av w x u) (hv:RepC ι av w y v) (d:Nat) {t:TypeId} (hk:tKind P t=some k) {us vs:Array Value} {i:Nat} (hi:us[i]?=some u) (hj:vs[i]?=some v) :
  ∃ b,(part t us i).run P w=.ok u w/\(part t vs i).run P w=.ok v w/\(Op.equalIn (d + 1) t u v).run P w=.ok b w/\(if b then eqC ks xs ys=some r else r=false):=by
 obtain ⟨h1,h2,h3⟩:=tKind_eq (w:=w) d hk hi hj;unfold eqC at h;split at h
 ·rename_i e _ _; cases e
 ·rename_i j a r1 j' b r2 e1 e2 e3;injection e1 with e1 e1'; injection e2 with e2 rm; injection e3 with e3 e3';subst e1; subst e1'; subst e2; subst rm; subst e3; subst e3';simp only [RepC,Rep] at hu hv;subst hu; subst hv;split at h
  ·rename_i nz;refine ⟨_,h1,h2,h3 nz,?_⟩;by_cases uf:a=b
   ·rw [if_pos uf] at h; rw [if_pos (by simpa using uf)]; exact h
   ·rw [if_neg uf] at h; injection h with h; rw [if_neg (by simpa using uf)]; exact h.symm
  ·cases h
 ·rename_i a r1 b r2 e1 e2 e3;injection e1 with e1 e1'; injection e2 with e2 rm; injection e3 with e3 e3';subst e1; subst e1'; subst e2; subst rm; subst e3; subst e3';simp only [RepC,Rep] at hu hv;subst hu; subst hv;refine ⟨_,h1,h2,h3,?_⟩;by_cases uf:a=b
  ·rw [if_pos uf] at h; rw [if_pos (by simpa using uf)]; exact h
  ·rw [if_neg uf] at h; injection h with h; rw [if_neg (by simpa using uf)]; exact h.symm
 ·rename_i a r1 b r2 e1 e2 e3;injection e1 with e1 e1'; injection e2 with e2 rm; injection e3 with e3 e3';subst e1; subst e1'; subst e2; subst rm; subst e3; subst e3';simp only [RepC,Rep] at hu hv;subst hu; subst hv;refine ⟨_,h1,h2,h3,?_⟩;by_cases uf:a=b
  ·rw [if_pos uf] at h; rw [if_pos (by simpa using uf)]; exact h
  ·rw [if_neg uf] at h; injection h with h; rw [if_neg (by simpa using uf)]; exact h.symm
 ·cases h
theorem eqC_len:∀ {ks:List Nat} {xs ys:List AV} {r:Bool},eqC ks xs ys=some r->ks≠[]->∃ x cj y zF,xs=x :: cj/\ys=y :: zF
 | [],_,_,_,h,h'=>absurd rfl h'
 | k :: ks,xs,ys,r,h,_=>by
  cases xs with
  | nil=>simp [eqC] at h
  | cons x xs =>
   cases ys with
   | nil=>unfold eqC at h; split at h <;> simp_all
   | cons y ys=>exact ⟨x,xs,y,ys,rfl,rfl⟩
theorem qao:∀ {k1 k2:List Nat} {xs ys:List AV} {r:Bool},eqC (k1++k2) xs ys=some r->∃ r1,eqC k1 (xs.take k1.length) (ys.take k1.length)=some r1/\(if r1 then eqC k2 (xs.drop k1.length) (ys.drop k1.length)=some r else r=false)
 | [],k2,xs,ys,r,h=>⟨true,by simp [eqC],by simpa using h⟩
 | k :: k1,k2,xs,ys,r,h=>by
  obtain ⟨x,cj,y,zF,rfl,rfl⟩:=eqC_len h (by simp);simp only [List.cons_append] at h;simp only [yH,List.take_succ_cons,List.drop_succ_cons];unfold eqC at h;split at h
  ·rename_i e _ _; cases e
  ·rename_i j a r1 j' b r2 e1 e2 e3;injection e1 with e1 e1'; injection e2 with e2 rm; injection e3 with e3 e3';subst e1; subst e1'; subst e2; subst rm; subst e3; subst e3';split at h
   ·rename_i nz;subst nz;split at h
    ·rename_i uf;simp only [eqC,if_true,if_pos uf];exact qao h
    ·rename_i uf;injection h with h;exact ⟨false,by simp [eqC,uf],by simpa using h.symm⟩
   ·cases h
  ·rename_i a r1 b r2 e1 e2 e3;injection e1 with e1 e1'; injection e2 with e2 rm; injection e3 with e3 e3';subst e1; subst e1'; subst e2; subst rm; subst e3; subst e3';split at h
   ·rename_i uf;simp only [eqC,if_pos uf];exact qao h
   ·rename_i uf;injection h with h;exact ⟨false,by simp [eqC,uf],by simpa using h.symm⟩
  ·rename_i a r1 b r2 e1 e2 e3;injection e1 with e1 e1'; injection e2 with e2 rm; injection e3 with e3 e3';subst e1; subst e1'; subst e2; subst rm; subst e3; subst e3';split at h
   ·rename_i uf;simp only [eqC,if_pos uf];exact qao h
   ·rename_i uf;injection h with h;exact ⟨false,by simp [eqC,uf],by simpa using h.symm⟩
  ·cases h
def EqPart (P:Program) (ι:Ix) (av:Av) (w:World) (n:Nat) (t:TypeId) (ks:List Nat):Prop :=
 ∀ (d:Nat) (us vs:Array Value) (off:Nat) (xs ys:List AV) (r:Bool),q0w ι av w xs ((us.toList.drop off).take ks.length)->q0w ι av w ys ((vs.toList.drop off).take ks.length)->eqC ks xs ys=some r →
  ∃ a b,(part t us off).run P w=.ok a w/\(part t vs off).run P w=.ok b w/\(Op.equalIn (d + n) t a b).run P w=.ok r w
theorem q7E {av:Av} {xs:List AV} {us:List Value} {off k m:Nat} (h:q0w ι av w xs ((us.drop off).take (k + m))):q0w ι av w (xs.take k) ((us.drop off).take k)/\q0w ι av w (xs.drop k) ((us.drop (off + k)).take m):=by
 constructor
 ·have:=q3F k h
  rwa [List.take_take,Nat.min_eq_left (Nat.le_add_right ..)] at this
 ·have:=q3a k h
  rwa [List.drop_take,Nat.add_sub_cancel_left,List.drop_drop] at this
theorem fieldsT_run {av:Av} {n:Nat} (ih:∀ t ks,q5x P n t=some ks->EqPart P ι av w n t ks) (d:Nat) {us vs:Array Value}:∀ {fs:List Field} {i:Nat} {ks:List Nat} {xs ys:List AV} {r:Bool},qaq (q5x P n) i fs=some ks->eqC ks xs ys=some r->q0w ι av w xs ((us.toList.drop i).take ks.length)->q0w ι av w ys ((vs.toList.drop i).take ks.length) →
  (Op.eqFields (d + n) us vs fs).run P w=.ok r w
 | [],i,ks,xs,ys,r,hk,h,_,_=>by
  injection hk with hk;subst hk;cases xs <;> cases ys <;> simp [eqC] at h
  subst h;simp [Op.eqFields]
 | f :: fs,i,ks,xs,ys,r,hk,h,hx,hy=>by
  unfold qaq at hk;obtain ⟨l,hl,hk⟩:=y8.1 hk;split at hk
  ·rename_i hn;obtain ⟨l',rq,rfl⟩:=yg.1 hk;obtain ⟨r1,h1,h2⟩:=qao h;rw [yp] at hx hy;obtain ⟨x1,x2⟩:=q7E hx;obtain ⟨y1,y2⟩:=q7E hy;obtain ⟨a,b,p1,p2,p3⟩:=ih _ _ hl d us vs i _ _ _ x1 y1 h1;unfold Op.eqFields;rw [if_pos hn.1,hn.2];simp only [Sem.run_bind,p1,p2,p3,Result.andThen_ok,Sem.run_ite];cases r1 with
   | true =>
    simp only [if_true] at h2;simp only [Bool.not_true,yn,if_false];exact fieldsT_run ih d rq h2 x2 y2
   | false =>
    simp only [yn,if_false] at h2;simp [h2]
  ·cases hk
theorem itemsT_run {av:Av} {n:Nat} {e:TypeId} {l:List Nat} (ih:EqPart P ι av w n e l) (hc:P.cellsOf e=l.length) (d:Nat) {us vs:Array Value}:∀ {m i:Nat} {xs ys:List AV} {r:Bool},eqC (yA m l).flatten xs ys=some r->q0w ι av w xs ((us.toList.drop (i * l.length)).take (yA m l).flatten.length)->q0w ι av w ys ((vs.toList.drop (i * l.length)).take (yA m l).flatten.length) →
  (Op.eqItems (d + n) e (P.cellsOf e) us vs (List.range' i m)).run P w=.ok r w
 | 0,i,xs,ys,r,h,_,_=>by
  cases xs <;> cases ys <;> simp [eqC] at h
  subst h;simp [Op.eqItems]
 | m + 1,i,xs,ys,r,h,hx,hy=>by
  rw [List.replicate_succ,yB] at h hx hy;obtain ⟨r1,h1,h2⟩:=qao h;rw [yp] at hx hy;obtain ⟨x1,x2⟩:=q7E hx;obtain ⟨y1,y2⟩:=q7E hy;rw [<- yt] at x2 y2;obtain ⟨a,b,p1,p2,p3⟩:=ih d us vs (i * l.length) _ _ _ x1 y1 h1;rw [List.range'_succ];unfold Op.eqItems;rw [hc];simp only [Sem.run_bind,p1,p2,p3,Result.andThen_ok,Sem.run_ite];cases r1 with
  | true =>
   simp only [if_true] at h2;simp only [Bool.not_true,yn,if_false];have:=itemsT_run ih hc d (m:=m) (i:=i + 1) h2 x2 y2;rw [hc] at this;exact this
  | false =>
   simp only [yn,if_false] at h2;simp [h2]
theorem qaL {t:TypeId} {z:Nat} (hA:tAgg P t=some true) (hz:q1Z P t=some z) (us:Array Value) (off:Nat):(part t us off).run P w=.ok (.agg (us.extract off (off + z))) w/\(us.extract off (off + z)).toList=(us.toList.drop off).take z :=
 ⟨by simp [part,qag hA,q1q hz],by rw [Array.toList_extract,List.extract_eq_take_drop,Nat.add_sub_cancel_left]⟩
theorem qaY {t:TypeId} {z:Nat} (h:q1Z P t=some z):∃ i,P.info? t=some i:=by
 unfold q1Z at h;cases hh:P.info? t with
 | none=>rw [hh] at h; cases h
 | some i=>exact ⟨i,rfl⟩
theorem whole_run {av:Av} {n:Nat} (ih:∀ t ks,q5x P n t=some ks->EqPart P ι av w n t ks) (d:Nat) {t:TypeId} {ks:List Nat} (hk:q5x P (n + 1) t=some ks) (hA:tAgg P t=some true) {us vs:Array Value} {xs ys:List AV} {r:Bool}
  (hx:q0w ι av w xs (us.toList.take ks.length)) (hy:q0w ι av w ys (vs.toList.take ks.length)) (h:eqC ks xs ys=some r):q1Z P t=some ks.length/\(Op.equalIn (d + n + 1) t (.agg us) (.agg vs)).run P w=.ok r w:=by
 unfold q5x at hk;split at hk
 ·rename_i k dd;unfold tAgg at hA;unfold tKind at dd;split at dd <;> first | (cases dd; done) | (rename_i ht _; rw [ht] at hA; injection hA with hA; cases hA) | (rename_i ht; rw [ht] at hA; injection hA with hA; cases hA)
 ·split at hk
  ·rename_i m e ht;obtain ⟨l,hl,hk⟩:=y8.1 hk;split at hk
   ·rename_i hc;injection hk with hk;subst hk;obtain ⟨i,hi⟩:=qaY hc.2.1;refine ⟨hc.2.2,?_⟩;have:=run_equalIn_array (P:=P) w (d + n) us vs ht hi;rw [List.range_eq_range'] at this;exact this.trans (itemsT_run (ih _ _ hl) hc.1 d h (by simpa using hx) (by simpa using hy))
   ·cases hk
  ·rename_i fs ht;split at hk
   ·cases hk
   ·rename_i za;obtain ⟨l,hl,hk⟩:=y8.1 hk;split at hk
    ·rename_i hc;injection hk with hk;subst hk;refine ⟨hc,?_⟩;have hf:P.fieldsOf t=fs:=by simp [Program.fieldsOf,ht]
     have:=run_equalIn_struct (P:=P) w (d + n) t us vs (by rw [hf]; exact ht) (by simpa using za);rw [hf] at this;exact this.trans (fieldsT_run ih d hl h (by simpa using hx) (by simpa using hy))
    ·cases hk
  ·cases hk
theorem kindsT_eq {av:Av}:∀ (n:Nat) (t:TypeId) (ks:List Nat),q5x P n t=some ks->EqPart P ι av w n t ks
 | 0,_,_,h=>by cases h
 | n + 1,t,ks,hk=>by
  intro d us vs off xs ys r hx hy h;have zc:=hk;unfold q5x at hk;split at hk
  ·rename_i k dd;injection hk with hk;subst hk;obtain ⟨x,cj,y,zF,rfl,rfl⟩:=eqC_len h (by simp);obtain ⟨u,sa,e1,hu,_,tl⟩:=hx;obtain ⟨v,dv,e2,hv,_,lu⟩:=hy;have l1:sa=[]:=by
    have:=congrArg List.length e1;simp at this;exact yN (by omega)
   have l2:dv=[]:=by
    have:=congrArg List.length e2;simp at this;exact yN (by omega)
   have g1:us[off]?=some u:=by
    have:=congrArg (fun l=>l[0]?) e1;simpa [yR,yQ] using this
   have g2:vs[off]?=some v:=by
    have:=congrArg (fun l=>l[0]?) e2;simpa [yR,yQ] using this
   obtain ⟨b,p1,p2,p3,p4⟩:=eqC_step (P:=P) h hu hv (d + n) dd g1 g2;refine ⟨u,v,p1,p2,?_⟩;have:b=r:=by
    cases b with
    | true =>
     simp only [if_true] at p4;subst l1;subst l2;cases cj with
     | nil=>cases zF with
      | nil=>simp [eqC] at p4; exact p4.symm
      | cons=>simp [eqC] at p4
     | cons=>simp [eqC] at p4
    | false=>simpa using p4.symm
   rw [<- this];exact p3
  ·rename_i hnk;have hA:tAgg P t=some true:=by
    split at hk
    ·rename_i ht; simp [tAgg,ht]
    ·rename_i ht; simp [tAgg,ht]
    ·cases hk
   have:=whole_run (fun t ks h=>kindsT_eq n t ks h) d zc hA (us:=us.extract off (off + ks.length)) (vs:=vs.extract off (off + ks.length)) (xs:=xs) (ys:=ys) (r:=r)
    (by rw [Array.toList_extract,List.extract_eq_take_drop,Nat.add_sub_cancel_left,List.take_take,Nat.min_self]; exact hx)
    (by rw [Array.toList_extract,List.extract_eq_take_drop,Nat.add_sub_cancel_left,List.take_take,Nat.min_self]; exact hy) h
   exact ⟨_,_,(qaL hA this.1 us off).1,(qaL hA this.1 vs off).1,this.2⟩
theorem val_eqa (R:Rel P O nt B F0 da w0 D s a w ι Θ) {t t':TypeId} {neg:Bool} {ks:List Nat} (ht:tFlat P t=some ks) {X Y:Operand} {x y:Opd} (hx:opd X=some x) (hy:opd Y=some y)
  (ho:o.op=.binOp (if neg then .neq else .eql) t X Y t') {call} {z:Slot} {e:Eff} (hr:(K.eqa neg ks x y).run call s=some (z,e)):e=.none/\Val P da a w ι Θ o z:=by
 have hX:=(R.opd hx).1;have hY:=(R.opd hy).1;simp only [K.run] at hr;split at hr
 ·rename_i xa ya kc pp;rw [kc,repS_agg] at hX;rw [pp,repS_agg] at hY;obtain ⟨us,hu,tl⟩:=hX;obtain ⟨vs,hv,lu⟩:=hY;cases hq:eqC ks xa ya with
  | none=>rw [hq] at hr; cases hr
  | some r =>
   rw [hq] at hr;injection hr with hr; injection hr with e1 e2; subst e1; subst e2;unfold tFlat at ht;split at ht
   ·cases ht
   ·rename_i hg;have he:(Op.equal t (.agg us) (.agg vs)).run P w=.ok r w:=by
     have main:q5x P 8 t=some ks->tAgg P t=some true->(Op.equal t (.agg us) (.agg vs)).run P w=.ok r w:=fun hk hA =>
      by
       obtain ⟨r1,h1,h2⟩:=qao (k1:=ks) (k2:=[]) (by simpa using hq);have e:r1=r:=by
        cases r1 with
        | true =>
         simp only [if_true] at h2;unfold eqC at h2;split at h2 <;> first | (injection h2) | (rename_i e _ _; cases e) | cases h2
        | false=>simpa using h2.symm
       subst e;exact (whole_run (fun t ks h=>kindsT_eq 7 t ks h) 9992 hk hA (us:=us) (vs:=vs) (q3F _ tl) (q3F _ lu) h1).2
     split at ht
     ·rename_i jo; exact main ht (by simp [tAgg,jo])
     ·rename_i jo; exact main ht (by simp [tAgg,jo])
     ·cases ht
    have rK:∀ op,(eqGuard op t X Y (.agg us) (.agg vs)).run P w=.ok () w:=fun op=>by
     have:P.eqGuardType P.depth t=false:=by simpa using hg
     unfold eqGuard;cases op <;> simp [this]
    refine ⟨rfl,.bool (r != neg),?_,by rw [q0W],trivial⟩;cases neg with
    | false =>
     simp only [yn,if_false] at ho;simp [execOp,ho,hu,hv,rK,Go.binOp,he]
    | true =>
     simp only [if_true] at ho;simp [execOp,ho,hu,hv,rK,Go.binOp,he]
 ·cases hr
end
end
section
open Go Go.RowKit
section
variable {P:Program} {O:Objs} {nt B:Nat} {F0:Own} {da:Av} {w0:World} {D:Nat->Prop} {s:MSt} {a:Act} {w w':World} {ι:Ix} {Θ:Fam} {o:Oper}
theorem leaf_rep {av avb:Av} {x:AV} {v:Value} (h:RepS ι av avb w x v) (hx:x.leaf=true):RepC ι av w x v/\v.oneCell'=true:=by
 cases x <;> first
  | (simp [AV.leaf] at hx; done)
  | (refine ⟨h,?_⟩; simp only [RepS,RepC,Rep] at h; subst h; rfl)
  | (refine ⟨h,?_⟩; obtain ⟨b,_,rfl⟩:=h; rfl)
  | (refine ⟨h,?_⟩; obtain ⟨b,_,_,_,_,_,rfl⟩:=h; rfl)
  | (refine ⟨h,?_⟩; simp only [RepS,RepC,Rep] at h; obtain ⟨b,off,rfl,_⟩:=h; rfl)
theorem cells_rep {av avb:Av} {x:AV} {v:Value} (h:RepS ι av avb w x v) (hx:x.whole=true):q0w ι av w x.cells v.cells.toList:=by
 cases x with
 | agg cs=>obtain ⟨us,rfl,hc⟩:=h; exact hc
 | _ =>
  obtain ⟨h1,h2⟩:=leaf_rep h hx;cases v <;> first | exact ⟨_,[],rfl,h1,h2,rfl⟩ | (simp [Value.oneCell'] at h2; done)
theorem zip_fold (off:Nat):∀ (l:List Value) (k:Nat) (cells:Array Value),off + k + l.length<=cells.size →
  ((l.zipIdx k).foldl (fun cs (p:Value × Nat)=>cs.setIfInBounds (off + p.2) p.1) cells).toList=cells.toList.take (off + k)++l++cells.toList.drop (off + k + l.length)
 | [],k,cells,_=>by simp
 | v :: l,k,cells,h=>by
  simp only [yH] at h;rw [List.zipIdx_cons,List.foldl_cons,zip_fold off l (k + 1) _ (by simp; omega)];simp only [Array.toList_setIfInBounds,yH];have hk:off + k<cells.toList.length:=by simp; omega
  rw [show off + (k + 1)=off + k + 1 from by omega,List.take_succ_eq_append_getElem (by simpa using hk)];rw [List.take_set_of_le (ym _),List.getElem_set_self,List.drop_set_of_lt (by omega)];simp [yV,show off + k + 1 + l.length=off + k + (l.length + 1) from by omega]
theorem qbH {pl:Nat->Option (Nat × Nat)} {av avb:Av} (td:avb=avb):∀ {ps:List (Nat × Operand)} {ys:List (Nat × Opd)} {zs:List (Nat × Nat × Opd)} {cs ds:List AV} {us:Array Value},
  (∀ (X:Operand) (y:Opd),opd X=some y->RepS ι av avb w (y.get s) (a.eval X))->opds ps=some ys->qb4 pl ys=some zs->(∀ p∈zs,(p.2.2.get s).whole=true) →
  fillC cs (zs.map fun p=>(p.1,p.2.1,(p.2.2.get s).cells))=some ds->q0w ι av w cs us.toList->∃ sa,Instr.fill pl us (ps.map fun p=>(p.1,a.eval p.2))=some sa/\q0w ι av w ds sa.toList
 | [],ys,zs,cs,ds,us,_,hy,hz,_,hf,hc=>by
  injection hy with hy; subst hy;injection hz with hz; subst hz;injection hf with hf; subst hf;exact ⟨us,rfl,hc⟩
 | (i,X) :: ps,ys,zs,cs,ds,us,db,hy,hz,hl,hf,hc=>by
  unfold opds at hy;split at hy
  ·rename_i x l hx hr;injection hy with hy; subst hy;unfold qb4 at hz;split at hz
   ·rename_i off z l' hp ff;injection hz with hz; subst hz;simp only [yh,fillC] at hf;split at hf
    ·rename_i aa;have pb:=cells_rep (db X x hx) (hl _ (yk));have ja:=q1B pb;have eP:=q1B hc;simp only [yS] at ja eP;have ic:(a.eval X).cells.size=z:=by rw [ja]; exact aa.1
     have pC:((a.eval X).cells.zipIdx.foldl (fun cs (p:Value × Nat)=>cs.setIfInBounds (off + p.2) p.1) us).toList=us.toList.take off++(a.eval X).cells.toList++us.toList.drop (off + z):=by
      rw [<- Array.foldl_toList,Array.toList_zipIdx,zip_fold off _ 0 us (by simp [ic]; omega)];simp [ic]
     have tb:q0w ι av w (cs.take off++(x.get s).cells++cs.drop (off + z)) (((a.eval X).cells.zipIdx.foldl (fun cs (p:Value × Nat)=>cs.setIfInBounds (off + p.2) p.1) us)).toList:=by
      rw [pC];exact q4k (q4k (q3F off hc) pb) (q3a (off + z) hc)
     obtain ⟨sa,h1,h2⟩:=qbH td db hr ff (fun p hp=>hl p (yq _ hp)) hf tb;refine ⟨sa,?_,h2⟩;simp only [yh,Instr.fill,hp];rw [if_neg (by simp [ic]; omega)];exact h1
    ·cases hf
   ·cases hz
  ·cases hy
theorem val_build (R:Rel P O nt B F0 da w0 D s a w ι Θ) {t:TypeId} {ps:Array (Nat × Operand)} {ys:List (Nat × Opd)} {zs:List (Nat × Nat × Opd)} {zero:List AV} {pl:Nat->Option (Nat × Nat)} {z:Value} (jk:q8j z.cells.toList=some zero)
  (hb:P.built t (ps.map fun (i,x)=>(i,a.eval x)).toList=Instr.fill pl z.cells (ps.map fun (i,x)=>(i,a.eval x)).toList) (hy:opds ps.toList=some ys) (hp:qb4 pl ys=some zs) (ho:o.op=.build t ps)
  {call} {x:Slot} {e:Eff} (hr:(K.build zero zs).run call s=some (x,e)):e=.none/\Val P da a w ι Θ o x:=by
 simp only [K.run] at hr;split at hr
 ·rename_i ta;cases hf:fillC zero (zs.map fun p=>(p.1,p.2.1,(p.2.2.get s).cells)) with
  | none=>rw [hf] at hr; cases hr
  | some ds =>
   rw [hf] at hr;injection hr with hr; injection hr with e1 e2; subst e1; subst e2;obtain ⟨sa,h1,h2⟩:=qbH (pl:=pl) (ι:=ι) (av:=avA da ι Θ) (avb:=avB ι Θ) (w:=w) (s:=s) (a:=a) rfl (fun X y h=>(R.opd h).1) hy hp (fun p hp=>by
    have:=y4.1 ta p hp;exact this) hf (q6x jk _ _)
   have h3:P.built t (ps.map fun (i,x)=>(i,a.eval x)).toList=some sa:=by
    rw [hb,Array.toList_map];exact h1
   exact ⟨rfl,.agg sa,by simp only [execOp,ho,Sem.run_bind,run_build w t _ sa h3,Result.andThen_ok,Sem.run_pure],⟨sa,rfl,h2⟩,trivial⟩
 ·cases hr
def Ix.add (ι:Ix) (d n b z:Nat):Ix:=⟨fun t' n'=>if t'=d/\n'=n then some b else ι t' n',ι.ob,fun b'=>if b'=b then z else ι.z b'⟩
section
variable (R:Rel P O nt B F0 da w0 D s a w ι Θ)
include R
theorem Rel.low {b o:Nat} (h:avA da ι Θ b o):b<w.heap.size:=by
 have h1:=R.kept.size;have h2:=R.base;rcases h with h | (⟨t,n,h⟩ | ⟨t,n,H,h,hb⟩) | ⟨k,ow,h,rfl,_⟩
 ·have:=R.out _ _ h; omega
 ·exact (R.mine _ _ _ h).2.1
 ·exact ((R.obs _ _ _ h).1 _ hb).2.1
 ·obtain ⟨_,_,_,_,cur,h5,_⟩:=R.tok _ _ h;exact q0h h5
theorem Rel.lowB:B<=w.heap.size:=by
 have h1:=R.kept.size;have h2:=R.base;omega
theorem Rel.new {d:Nat} (hd:d<nt) (hD:¬ D d) {r:List Slot} {cur:Array Value} (ty:TypeId) (ka:q3p ι Θ (avA da ι Θ) w r cur) {x:AV} {v:Value}
  (hx:∀ ι':Ix,ι' d s.next=some w.heap.size->ι'.z w.heap.size=cur.size->RepS ι' (avA da ι' Θ) (avB ι' Θ) (w.alloc (.cells cur ty)) x v) :
  ∃ ι',Rel P O nt B F0 da w0 (fun t=>D t\/t=d) ((s.setRow d s.next r).put (some d) ⟨x,.no⟩) (a.put (some d) v) (w.alloc (.cells cur ty)) ι' Θ:=by
 have ge:ι d s.next=none:=by
  cases h:ι d s.next with
  | none=>rfl
  | some b =>
   rcases (R.mine _ _ _ h).2.2 with h1 | h1
   ·omega
   ·exact absurd h1.2 hD
 have ee:ι.ob d s.next=none:=by
  cases h:ι.ob d s.next with
  | none=>rfl
  | some b =>
   rcases (R.obs _ _ _ h).2 with h1 | h1
   ·omega
   ·exact absurd h1.2 hD
 have nc:∀ t n b,ι t n=some b->(ι.add d s.next w.heap.size cur.size) t n=some b:=fun t n b h=>by
  show (if t=d/\n=s.next then some w.heap.size else ι t n)=some b;split
  ·rename_i e; rw [e.1,e.2,ge] at h; cases h
  ·exact h
 have wh:∀ t n b,(ι.add d s.next w.heap.size cur.size) t n=some b->b<w.heap.size->ι t n=some b:=fun t n b h hb=>by
  have h':(if t=d/\n=s.next then some w.heap.size else ι t n)=some b:=h;split at h'
  ·injection h' with h'; omega
  ·exact h'
 have tb:(ι.add d s.next w.heap.size cur.size) d s.next=some w.heap.size:=by
  show (if d=d/\s.next=s.next then some w.heap.size else ι d s.next)=_;rw [if_pos ⟨rfl,rfl⟩]
 have ri:∀ b o,b<w.heap.size->avB (ι.add d s.next w.heap.size cur.size) Θ b o->avB ι Θ b o:=fun b o hb h=>h.imp (fun h=>h.imp (fun ⟨t,n,h⟩=>⟨t,n,wh t n b h hb⟩) id) id
 have dN:∀ b o,b<w.heap.size->avA da (ι.add d s.next w.heap.size cur.size) Θ b o->avA da ι Θ b o:=fun b o hb h=>h.imp id (ri b o hb)
 have bg:∀ b,b<w.heap.size->(w.alloc (.cells cur ty)).heap[b]?=w.heap[b]?:=fun b hb=>Below.heap_alloc w _ b hb
 have hA:Held (avA da ι Θ) (avA da (ι.add d s.next w.heap.size cur.size) Θ) w (w.alloc (.cells cur ty)):=Held.grown bg dN;have hB:Held (avB ι Θ) (avB (ι.add d s.next w.heap.size cur.size) Θ) w (w.alloc (.cells cur ty)):=Held.grown bg ri;have ar:=R.lowB;have wb:Ix.Le ι (ι.add d s.next w.heap.size cur.size):=⟨nc,fun t n b h=>by
  have:=(R.mine t n b h).2.1;show (if b=w.heap.size then cur.size else ι.z b)=ι.z b;rw [if_neg (by omega)]⟩
 have sL:(ι.add d s.next w.heap.size cur.size).z w.heap.size=cur.size:=if_pos rfl;refine ⟨ι.add d s.next w.heap.size cur.size,Rel.put (s:=s.setRow d s.next r) ⟨R.defers,R.size,fun t=>RepS.held wb hA hB _ _ (R.env t),R.ann,fun t n r' hr=>?_,fun t n b h=>?_,fun t n t' n' b h h'=>?_,fun k o h=>?_,R.tinj,fun k o t n h h'=>?_,R.out,fun p h=>⟨nc _ _ _ (R.pin p h).1,(R.pin p h).2.imp (fun g=>⟨g.1,(wb.z _ _ _ (R.pin p h).1).trans g.2⟩) id⟩,R.kept.alloc _,R.base,fun t n S h=>?_,fun t n H h=>?_,fun t=>RepS.held wb hA hB _ _ (R.gen t),R.gann⟩ hd (hx _ tb sL) trivial⟩
 ·simp only [MSt.setRow] at hr;split at hr
  ·rename_i e;injection hr with hr;subst hr;refine ⟨by show ι.ob t n=none; rw [e.1,e.2]; exact ee,w.heap.size,cur,ty,by rw [e.1,e.2]; exact tb,new_at rfl,ka.held wb hA (fun _ _ h=>h),.inl ar,sL.symm⟩
  ·obtain ⟨h0,b,lb,up,h1,h2,h3,h4,h5⟩:=R.rows t n r' hr;exact ⟨h0,b,lb,up,nc _ _ _ h1,(bg b (q0h h2)).trans h2,h3.held wb hA (fun _ _ h=>h),h4,h5.trans (wb.z _ _ _ h1).symm⟩
 ·have h':(if t=d/\n=s.next then some w.heap.size else ι t n)=some b:=h;split at h'
  ·rename_i e;injection h' with h';subst h';exact ⟨.inl ar,by simp,.inr ⟨e.2,.inr e.1⟩⟩
  ·obtain ⟨h2,h3,h4⟩:=R.mine t n b h';exact ⟨h2,by simp; omega,h4.imp id fun ⟨e,d⟩=>⟨e,.inl d⟩⟩
 ·have g:(if t=d/\n=s.next then some w.heap.size else ι t n)=some b:=h;have g':(if t'=d/\n'=s.next then some w.heap.size else ι t' n')=some b:=h';split at g <;> split at g'
  ·rename_i e e'; exact ⟨e.1.trans e'.1.symm,e.2.trans e'.2.symm⟩
  ·injection g with g; have:=(R.mine _ _ _ g').2.1; omega
  ·injection g' with g'; have:=(R.mine _ _ _ g).2.1; omega
  ·exact R.inj t n t' n' b g g'
 ·obtain ⟨h1,h2,h3,h4,lb,h5,h6⟩:=R.tok k o h;exact ⟨h1,h2,h3,h4,lb,(bg _ (q0h h5)).trans h5,h6⟩
 ·obtain ⟨_,_,_,_,lb,h5,_⟩:=R.tok k o h;exact R.apart k o t n h (wh t n _ h' (q0h h5))
 ·obtain ⟨p,H,h1,h2,h3,h4⟩:=R.objs t n S h;exact ⟨p,H,nc _ _ _ h1,h2,O.keep h3 (fun b hH=>bg b (O.lt h3 hH)) (by simp),h4.keep (fun t n b H h g=>⟨nc _ _ _ h,H,g⟩) fun x hx=>(bg _ (q0h hx)).trans hx⟩
 ·obtain ⟨h1,h2⟩:=R.obs t n H h;refine ⟨fun b hb=>?_,h2.imp id fun ⟨e,d⟩=>⟨e,.inl d⟩⟩;obtain ⟨g1,g2,g3,g4⟩:=h1 b hb;exact ⟨g1,by simp; omega,fun t' n' h'=>g3 t' n' (wh t' n' b h' g2),g4⟩
end
end
end
section
open Go Go.RowKit
section
variable {P:Program} {O:Objs} {nt B:Nat} {F0:Own} {da:Av} {w0:World} {D:Nat->Prop} {s:MSt} {a:Act} {w w':World} {ι:Ix} {Θ:Fam} {o:Oper}
def RelE (P:Program) (O:Objs) (nt B:Nat) (F0:Own) (da:Av) (w0:World) (D:Nat->Prop) (s:MSt) (a:Act) (w:World):Prop:=∃ ι Θ,Rel P O nt B F0 da w0 D s a w ι Θ
theorem q3p.of {av:Av}:∀ {r:List Slot} {cur:List Value},q0w ι av w (r.map (·.v)) cur->(∀ (j:Nat) (x:Slot) (u:Value),r[j]?=some x->cur[j]?=some u->AnOk Θ x.a u)->q3p ι Θ av w r cur.toArray:=by
 intro r cur h ha;refine ⟨by have:=q1B h; simp at this; simp [this],fun j x hx=>?_⟩;obtain ⟨u,hu,h1,hr⟩:=q6t h (j:=j) (x:=x.v) (by simp [hx]);exact ⟨u,by simpa using hu,h1,hr,ha j x u hx hu⟩
theorem op_alloc (R:Rel P O nt B F0 da w0 D s a w ι Θ) {t:TypeId} {zero:List AV} (hz:q8E P t=some zero) (ho:o.op=.alloc t) {d:Nat} (ca:o.dst=some d) (hd:d<nt) (hD:¬ D d) {call} {xe:Slot × Eff} (hr:(K.alloc zero).run call s=some xe) {g} {s':MSt} (he:OpC.eff ⟨o.dst,.alloc zero,g⟩ s xe=some s') :
  ∃ v w',(execOp a.eval o).run P w=.ok (.value v) w'/\RelE P O nt B F0 da w0 (fun t=>D t\/t=d) s' (a.put o.dst v) w':=by
 obtain ⟨z,i,hi,so,ia,hl⟩:=q52 hz w;simp only [K.run] at hr;injection hr with hr;subst hr;simp only [OpC.eff,ca] at he;injection he with he;subst he;refine ⟨.pointer (some ⟨w.heap.size,0,none⟩),w.alloc (.cells z.cells t),by simp [execOp,ho,Instr.alloc,ia,newVar,newRow],?_⟩;rw [ca];have ec:=q6x (ι:=ι) hl (avA da ι Θ) w;have ka:q3p ι Θ (avA da ι Θ) w (zero.map fun v=>⟨v,q1C v⟩) z.cells.toList.toArray:=q3p.of (by
  rw [y0,show ((fun x:Slot=>x.v) ∘ fun v=>(⟨v,q1C v⟩:Slot))=id from rfl,List.map_id];exact ec) (fun j x u hx hu=>by
  rw [yc] at hx;cases uq:zero[j]? with
  | none=>rw [uq] at hx; cases hx
  | some v =>
   rw [uq] at hx;injection hx with hx;subst hx;obtain ⟨u',kq,_,hr⟩:=q6t ec uq;rw [hu] at kq;injection kq with kq;subst kq;show AnOk Θ (q1C v) u;unfold q1C;split
   ·simp only [RepC,Rep] at hr;obtain ⟨A,c,rfl,_,_,hn,_⟩:=hr;obtain ⟨rfl,h0,rfl⟩:=hn trivial;exact ⟨none,0,by rw [h0]⟩
   ·trivial)
 rw [yT] at ka;exact let ⟨ι',h⟩:=R.new hd hD t ka (x:=.ptr d s.next 0) (v:=.pointer (some ⟨w.heap.size,0,none⟩)) (fun ι' h _=>⟨_,h,rfl⟩); ⟨ι',Θ,h⟩
theorem op_boxE (R:Rel P O nt B F0 da w0 D s a w ι Θ) {t:TypeId} {z:Nat} {X:Operand} {x:Opd} (hx:opd X=some x) (ho:o.op=.box t X) {d:Nat} (ca:o.dst=some d) (hd:d<nt) (hD:¬ D d) {call} {xe:Slot × Eff} (hr:(K.box z x).run call s=some xe) {g} {s':MSt} (he:OpC.eff ⟨o.dst,.box z x,g⟩ s xe=some s') :
  ∃ v w',(execOp a.eval o).run P w=.ok (.value v) w'/\RelE P O nt B F0 da w0 (fun t=>D t\/t=d) s' (a.put o.dst v) w':=by
 have hX:=R.opd hx;have ia:(execOp a.eval o).run P w=.ok (.value (.pointer (some ⟨w.heap.size,0,none⟩))) (w.alloc (.cells (a.eval X).cells t)):=by simp [execOp,ho,Instr.box,newVar,newRow]
 have key:∀ (r:List Slot),q3p ι Θ (avA da ι Θ) w r (a.eval X).cells->RelE P O nt B F0 da w0 (fun t=>D t\/t=d) ((s.setRow d s.next r).put (some d) ⟨.ptr d s.next 0,.no⟩) (a.put (some d) (.pointer (some ⟨w.heap.size,0,none⟩))) (w.alloc (.cells (a.eval X).cells t)):=fun r h =>
  let ⟨ι',h⟩:=R.new hd hD t h (x:=.ptr d s.next 0) (v:=.pointer (some ⟨w.heap.size,0,none⟩)) (fun ι' h _=>⟨_,h,rfl⟩); ⟨ι',Θ,h⟩
 simp only [K.run] at hr;split at hr
 ·rename_i cs hv;split at hr
  ·injection hr with hr;subst hr;simp only [OpC.eff,ca] at he;injection he with he;subst he;refine ⟨_,_,ia,?_⟩;rw [ca];refine key _ ?_;rw [hv] at hX;obtain ⟨us,hu,hc⟩:=hX.1;rw [hu];have:=q3p.of (Θ:=Θ) (r:=cs.map fun v=>(⟨v,.no⟩:Slot)) (cur:=us.toList) (ι:=ι) (w:=w) (av:=avA da ι Θ) (by rw [y0,show ((fun x:Slot=>x.v) ∘ fun v=>(⟨v,.no⟩:Slot))=id from rfl,List.map_id]; exact hc) (fun j x u hx _=>by
    rw [yc] at hx;cases uq:cs[j]? with
    | none=>rw [uq] at hx; cases hx
    | some v=>rw [uq] at hx; injection hx with hx; subst hx; trivial)
   simpa [Value.cells] using this
  ·cases hr
 ·rename_i hv;split at hr
  ·rename_i js;injection hr with hr;subst hr;simp only [OpC.eff,ca] at he;injection he with he;subst he;refine ⟨_,_,ia,?_⟩;rw [ca];refine key _ ?_;obtain ⟨h1,h2⟩:=leaf_rep hX.1 js;have hc:(a.eval X).cells=#[a.eval X]:=by
    generalize a.eval X=u at *
    cases u <;> first | rfl | (simp [Value.oneCell'] at h2; done)
   rw [hc];refine ⟨ym _,fun j y hy=>?_⟩;cases j with
   | zero =>
    simp only [List.getElem?_cons_zero] at hy;injection hy with hy;subst hy;exact ⟨a.eval X,rfl,h2,h1,hX.2⟩
   | succ j=>simp at hy
  ·cases hr
theorem range_rep (zero:List Value) (av:Av) {zs:List AV} (hz:q0w ι av w zs zero) (c:Nat):q0w ι av w (yA c zs).flatten (yA c zero).flatten:=by
 induction c with
 | zero=>simp [q0w]
 | succ c ih=>rw [List.replicate_succ,List.replicate_succ,yB,yB]; exact q4k hz ih
theorem range_mod (zero:Array Value) (c:Nat):((Array.range (c * zero.size)).map (zero[· % zero.size]!)).toList=(yA c zero.toList).flatten:=by
 apply List.ext_getElem?;intro j;have ja:(yA c zero.toList).flatten.length=c * zero.size:=by simp
 rcases Nat.lt_or_ge j (c * zero.size) with h | h
 ·have ab:0<zero.size:=by
   rcases yI zero.size with h0 | h0
   ·rw [h0] at h; simp at h
   ·exact h0
  have hm:=Nat.mod_lt j ab;have e1:((Array.range (c * zero.size)).map (zero[· % zero.size]!)).toList[j]?=some zero[j % zero.size]:=by
   simp [h,hm]
  rw [e1];clear e1 ja
  induction c generalizing j with
  | zero=>simp at h
  | succ c ih =>
   rw [List.replicate_succ,yB];rcases Nat.lt_or_ge j zero.size with h1 | h1
   ·rw [yE (by simpa using h1)];have:j % zero.size=j:=Nat.mod_eq_of_lt h1;simp [this,h1]
   ·rw [yP (by simpa using h1)];have h2:j - zero.size<c * zero.size:=by rw [yt] at h; omega
    have h3:(j - zero.size) % zero.size=j % zero.size:=by
     conv=>rhs; rw [show j=(j - zero.size) + zero.size from by omega,Nat.add_mod_right]
    have:=ih (j - zero.size) h2 (Nat.mod_lt _ ab);simp only [yS] at this ⊢;rw [<- this];simp [h3]
 ·rw [yL (by simpa using h),yL (by omega)]
theorem op_mks (R:Rel P O nt B F0 da w0 D s a w ι Θ) {t e:TypeId} {i:TypeInfo} {zero:List AV} (ht:P.underlying t=some (.slice e)) (hi:P.info? e=some i) (hz:q8E P e=some zero) (ic:zero.length=i.size) {X Y:Operand} {x y:Opd} (hx:opd X=some x) (hy:opd Y=some y) (ho:o.op=.makeSlice t X Y) {d:Nat} (ca:o.dst=some d) (hd:d<nt) (hD:¬ D d)
  {call} {xe:Slot × Eff} (hr:(K.mks i.size i.bytes zero x y).run call s=some xe) {g} {s':MSt} (he:OpC.eff ⟨o.dst,.mks i.size i.bytes zero x y,g⟩ s xe=some s') :
  ∃ v w',(execOp a.eval o).run P w=.ok (.value v) w'/\RelE P O nt B F0 da w0 (fun t=>D t\/t=d) s' (a.put o.dst v) w':=by
 obtain ⟨z,i',ac,so,bj,hl⟩:=q52 hz w;rw [hi] at ac;injection ac with ac;subst ac;have hX:=(R.opd hx).1;have hY:=(R.opd hy).1;simp only [K.run] at hr;split at hr
 ·rename_i l c tz fO;obtain ⟨k1,n1,h1,er,um⟩:=q7x tz;obtain ⟨k2,n2,h2,h20,lM⟩:=q7x fO;rw [h1,q0E] at hX;rw [h2,q0E] at hY;split at hr
  ·rename_i aa;obtain ⟨wu,ze,ig,_⟩:=aa;injection hr with hr;subst hr;simp only [OpC.eff,ca] at he;injection he with he;subst he;have pm:z.cells.size=i.size:=by
    have:=q4m hl;simp only [yS] at this;omega
   have xA:n2=(c:Int):=by omega
   have xy:(i.bytes:Int) * n2<=281474976710656:=by
    rw [xA,<- Int.natCast_mul,Nat.mul_comm];omega
   have fj:madeCells z.cells (c * i.size)=(yA c z.cells.toList).flatten.toArray:=by
    have h:=range_mod z.cells c;rw [pm] at h;unfold madeCells;rw [<- pm] at h;rw [<- pm];have h':=congrArg List.toArray h;rw [yT] at h';exact h'
   have ia:(execOp a.eval o).run P w=.ok (.value (.slice (some ⟨w.heap.size,0,none⟩) l c)) (w.alloc (.cells (yA c z.cells.toList).flatten.toArray e)):=by
    have:=run_make (P:=P) w t e i z ht hi so k1 k2 n1 n2 er (by omega) xy (by omega);rw [um,lM,fj] at this;simp [execOp,ho,hX,hY,this]
   refine ⟨_,_,ia,?_⟩;rw [ca];have ka:q3p ι Θ (avA da ι Θ) w ((yA c zero).flatten.map fun v=>(⟨v,.no⟩:Slot)) (yA c z.cells.toList).flatten.toArray:=q3p.of (by
    rw [y0,show ((fun x:Slot=>x.v) ∘ fun v=>(⟨v,.no⟩:Slot))=id from rfl,List.map_id];exact range_rep _ _ (q6x hl _ _) c) (fun j x u hx _=>by
    rw [yc] at hx;cases uq:(yA c zero).flatten[j]? with
    | none=>rw [uq] at hx; cases hx
    | some v=>rw [uq] at hx; injection hx with hx; subst hx; trivial)
   exact let ⟨ι',h⟩:=R.new hd hD e ka (x:=.ref d s.next i.size 0 l c) (v:=.slice (some ⟨w.heap.size,0,none⟩) l c) (fun ι' h hz=>⟨_,h,wu,c,ym _,by rw [hz,yF]; simp [List.length_flatten,pm],rfl⟩); ⟨ι',Θ,h⟩
  ·cases hr
 ·cases hr
end
end
section
open Go Go.RowKit
section
variable {P:Program} {O:Objs} {nt B:Nat} {F0:Own} {da:Av} {w0:World} {D:Nat->Prop} {s:MSt} {a:Act} {w w':World} {ι:Ix} {Θ:Fam} {o:Oper}
theorem Rel.alloc (R:Rel P O nt B F0 da w0 D s a w ι Θ) (ob:Obj):Rel P O nt B F0 da w0 D s a (w.alloc ob) ι Θ :=
 R.grow (fun b hb=>Below.heap_alloc w _ b hb) (by simp) (R.kept.alloc _)
theorem q4r {av:Av}:∀ {xs:List AV} {us:List Value},q0w ι av w xs us->(∀ x∈xs,x.free0=true)->RepL av w xs us
 | [],_,h,_=>by simpa [RepL,q0w] using h
 | x :: r,_,h,hf=>by
  simp only [q0w] at h;obtain ⟨u,sa,rfl,h0,h1,h⟩:=h;refine ⟨u,sa,rfl,?_,h1,q4r h fun y hy=>hf y (yq _ hy)⟩;have hx:=hf x (yk);cases x <;> first | exact h0 | (simp [AV.free0] at hx; done)
theorem fill_flat (sz:Nat):∀ (ps:List (Nat × Opd)) (k:Nat) (A Z:List AV),ps.map (·.1)=List.range' k ps.length->A.length=k * sz->Z.length=ps.length * sz->(∀ p∈ps,(p.2.get s).cells.length=sz) →
  fillC (A++Z) (ps.map fun p=>(p.1 * sz,sz,(p.2.get s).cells))=some (A++(ps.map fun p=>(p.2.get s).cells).flatten)
 | [],k,A,Z,_,_,hz,_=>by
  have:Z=[]:=yN (by simpa using hz);subst this;simp [fillC]
 | (i,y) :: ps,k,A,Z,hp,hA,hZ,hl=>by
  simp only [yh,yH,List.range'_succ] at hp;injection hp with h1 h2;subst h1;have hy:(y.get s).cells.length=sz:=hl (_,y) (yk);simp only [yH] at hZ;have hZ2:sz<=Z.length:=by rw [hZ,yt]; omega
  simp only [yh,fillC];rw [if_pos ⟨hy,by simp [hA]; omega⟩];have e1:(A++Z).take (i * sz)=A:=by rw [<- hA]; exact List.take_left
  have e2:(A++Z).drop (i * sz + sz)=Z.drop sz:=by rw [List.drop_append,<- hA,ye (by omega),List.nil_append]; congr 1; omega
  rw [e1,e2];have:=fill_flat sz ps (i + 1) (A++(y.get s).cells) (Z.drop sz) h2 (by rw [yp,hA,hy,yt]) (by rw [List.length_drop,hZ,yt]; omega) (fun p hp=>hl p (yq _ hp));rw [this];simp
theorem qaN (sz:Nat):∀ (ps:List (Nat × Opd)),qb4 (fun i=>some (i * sz,sz)) ps=some (ps.map fun p=>(p.1 * sz,sz,p.2))
 | []=>rfl
 | (i,x) :: r=>by simp [qb4,qaN sz r]
theorem op_bsl (R:Rel P O nt B F0 da w0 D s a w ι Θ) {t e:TypeId} {n z:Nat} {zero:List AV} (ht:P.underlying t=some (.slice e)) (hz:q8E P e=some zero) (hs:q1Z P e=some z) (ic:zero.length=z) (ab:0<z) (ad:n * z<=16777216) {ps:Array (Nat × Operand)} {ys:List (Nat × Opd)} (hy:opds ps.toList=some ys) (ho:o.op=.buildSlice t n ps)
  {call} {x:Slot} {ef:Eff} (hr:(K.bsl zero n ys).run call s=some (x,ef)):ef=.none/\∃ v w',(execOp a.eval o).run P w=.ok (.value v) w'/\Rel P O nt B F0 da w0 D s a w' ι Θ/\RepS ι (avA da ι Θ) (avB ι Θ) w' x.v v/\AnOk Θ x.a v:=by
 obtain ⟨zv,i',ac,so,bj,hl⟩:=q52 hz w;have gI:i'.size=z:=by simp [q1Z,ac] at hs; exact hs
 have pm:zv.cells.size=z:=by
  have:=q4m hl;simp only [yS] at this;omega
 simp only [K.run] at hr;split at hr
 ·rename_i aa;obtain ⟨kg,ta⟩:=aa;injection hr with hr; injection hr with e1 e2; subst e1; subst e2;have dc:∀ p∈ys,(p.2.get s).free=true/\(p.2.get s).cells.length=zero.length:=fun p hp=>by
   have:=y4.1 ta p hp;simpa using this
  have hn:ys.length=n:=by
   have:=congrArg List.length kg;simpa using this
  have wi:=fill_flat (s:=s) z ys 0 [] (yA n zero).flatten (by rw [kg,List.range_eq_range',hn]) (by simp) (by simp [hn,ic]) (fun p hp=>by rw [(dc p hp).2,ic]);rw [List.nil_append,List.nil_append] at wi;have nA:∀ p∈ys,(p.2.get s).whole=true:=fun p hp=>by
   have:=(dc p hp).1;generalize p.2.get s=v at this;cases v <;> first | rfl | (simp [AV.free,AV.free0] at this; done)
  have hp:=qaN z ys;have fj:((Array.range (n * z)).map (((if n * z=0 then (#[]:Array Value) else zv.cells)[· % (if n * z=0 then (#[]:Array Value) else zv.cells).size]!))).toList=(yA n zv.cells.toList).flatten:=by
   rcases yI n with h0 | h0
   ·subst h0; simp
   ·have:¬ n * z=0:=by have:=Nat.mul_pos h0 ab; omega
    simp only [if_neg this];rw [<- pm];exact range_mod zv.cells n
  obtain ⟨sa,h1,h2⟩:=qbH (pl:=fun i=>some (i * z,z)) (ι:=ι) (av:=avA da ι Θ) (avb:=avB ι Θ) (w:=w) (s:=s) (a:=a) rfl (fun X y h=>(R.opd h).1) hy hp (fun p hp=>by
   obtain ⟨q,hq,rfl⟩:=yw.1 hp;exact nA q hq) (by rw [y0]; exact wi) (us:=(Array.range (n * z)).map (((if n * z=0 then (#[]:Array Value) else zv.cells)[· % (if n * z=0 then (#[]:Array Value) else zv.cells).size]!))) (by
    rw [fj];exact range_rep _ _ (q6x hl _ _) n)
  have ia:(execOp a.eval o).run P w=.ok (.value (.slice (some ⟨w.heap.size,0,none⟩) n n)) (w.alloc (.cells sa e)):=by
   have h3:Instr.fill (fun i=>some (i * z,z)) ((Array.range (n * z)).map (((if n * z=0 then (#[]:Array Value) else zv.cells)[· % (if n * z=0 then (#[]:Array Value) else zv.cells).size]!))) (ps.map fun (i,x)=>(i,a.eval x)).toList=some sa:=by
    rw [Array.toList_map];exact h1
   have wb:¬ (n * z > 2 ^ 24):=by omega
   by_cases h0:n * z=0
   ·simp only [if_pos h0] at h3;simp only [execOp,ho,Instr.buildSlice,Sem.run_bind,run_underlying ht,Result.andThen_ok,q1q hs,if_neg wb,if_pos h0,Sem.run_pure,h3,newRow,run_newObj_alloc]
   ·simp only [if_neg h0] at h3;simp only [execOp,ho,Instr.buildSlice,Sem.run_bind,run_underlying ht,Result.andThen_ok,q1q hs,if_neg wb,if_neg h0,Sem.run_pure,bj,h3,newRow,run_newObj_alloc]
  refine ⟨rfl,_,_,ia,R.alloc _,?_,⟨_,_,rfl⟩⟩;have R':=R.alloc (.cells sa e);have hA:Held (avA da ι Θ) (avA da ι Θ) w (w.alloc (.cells sa e)):=Held.grown (fun b hb=>Below.heap_alloc w _ b hb) fun _ _ _ h=>h
  rw [q2F];simp only [Rep];have ja:(ys.map fun p=>(p.2.get s).cells).length=n:=by simp [hn]
  refine ⟨_,n,by rw [ja],by rw [ja]; exact ym _,fun x hx y hy=>?_,(fun h=>by cases h),fun _=>⟨fun h=>(by cases h),fun _=>⟨w.heap.size,0,rfl,?_⟩⟩⟩
  ·obtain ⟨p,hp,rfl⟩:=yw.1 hx;obtain ⟨q,hq,rfl⟩:=yw.1 hy;rw [(dc p hp).2,(dc q hq).2]
  ·rw [q3q];have ne:∀ x∈(ys.map fun p=>(p.2.get s).cells).flatten,x.free0=true:=fun x hx=>by
    obtain ⟨l,hl,hx⟩:=List.mem_flatten.1 hx;obtain ⟨p,hp,rfl⟩:=yw.1 hl;have:=(dc p hp).1;generalize p.2.get s=v at this hx;cases v <;> first | (simp [AV.cells] at hx; subst hx; exact this) | exact y4.1 this x hx
   refine q6T (RepL.held hA _ _ (q4r h2 ne)) fun j u hu=>⟨?_,fun h=>?_⟩
   ·rw [yF,cell_of_row _ w.heap.size j sa e (0,0) (new_at rfl)];simpa using hu
   ·have:=R.low h;omega
 ·cases hr
theorem set_run {t:TypeId} {z:Nat} (hz:q1Z P t=some z) {b off:Nat} {cur:Array Value} {ty:TypeId} (hb:w.heap[b]?=some (.cells cur ty (0,0))) {v:Value} (hv:v.cells.size=z) (wb:off + z<=cur.size) (h1:∀ u∈v.cells.toList,u.oneCell'=true) :
  (Instr.storeAt t (.pointer (some ⟨b,off,none⟩)) v).run P w=.ok () (w.setRow b (cur.toList.take off++v.cells.toList++cur.toList.drop (off + z)).toArray):=by
 have za:=run_storeCells_at P b off ty v.cells.toList 0 cur w hb (by simp [hv]; omega) h1;simp only [Nat.add_zero,yS,hv] at za;simp [Instr.storeAt,Instr.sureAddr,storeVar,q1q hz,hv,za]
theorem Rel.set (R:Rel P O nt B F0 da w0 D s a w ι Θ) {t n b:Nat} {cur:Array Value} {ty:TypeId} (hb:ι t n=some b) (tc:ι.ob t n=none) (ra:w.heap[b]?=some (.cells cur ty (0,0))) {r:List Slot} {new:Array Value} (ka:q3p ι Θ (avA da ι Θ) w r new) (jj:B<=b\/F0.r b) (eL:new.size=ι.z b) :
  Rel P O nt B F0 da w0 D (s.setRow t n r) a (w.setRow b new) ι Θ:=by
 have oa:∀ b',b'≠b->(w.setRow b new).heap[b']?=w.heap[b']?:=fun b' h=>setRow_other w b b' new h
 have wc:(w.setRow b new).heap[b]?=some (.cells new ty (0,0)):=setRow_heap w b cur new ty (0,0) ra;have hB:Held (avB ι Θ) (avB ι Θ) w (w.setRow b new):=⟨fun b' o u hc hn=>by
  have:b'≠b:=fun e=>hn (.inl (.inl ⟨t,n,e ▸ hb⟩))
  exact ⟨(World.cell?_of_block (w:=w) (a:=⟨b',o,none⟩) (oa b' this)).trans hc,hn⟩⟩
 have hA:Held (avA da ι Θ) (avA da ι Θ) w (w.setRow b new):=⟨fun b' o u hc hn=>by
  have:b'≠b:=fun e=>hn (.inr (.inl (.inl ⟨t,n,e ▸ hb⟩)))
  exact ⟨(World.cell?_of_block (w:=w) (a:=⟨b',o,none⟩) (oa b' this)).trans hc,hn⟩⟩
 have ft:=R.mine t n b hb;refine ⟨R.defers,R.size,fun t=>RepS.held (Ix.Le.refl _) hA hB _ _ (R.env t),R.ann,fun t' n' r' hr=>?_,fun t n b h=>?_,R.inj,fun k o h=>?_,R.tinj,R.apart,R.out,R.pin,?_,R.base,fun t' n' S h=>?_,fun t n H h=>(R.obs t n H h).grow (by simp),fun t=>RepS.held (Ix.Le.refl _) hA hB _ _ (R.gen t),R.gann⟩
 ·simp only [MSt.setRow] at hr;split at hr
  ·rename_i e;injection hr with hr;subst hr;exact ⟨by rw [e.1,e.2]; exact tc,b,new,ty,by rw [e.1,e.2]; exact hb,wc,ka.held (Ix.Le.refl _) hA (fun _ _ h=>h),jj,eL⟩
  ·rename_i e;obtain ⟨h0,b',lb,up,h1,h2,h3,h4⟩:=R.rows t' n' r' hr;have:b'≠b:=fun e'=>e (R.inj _ _ _ _ _ (e' ▸ h1) hb)
   exact ⟨h0,b',lb,up,h1,(oa b' this).trans h2,h3.held (Ix.Le.refl _) hA (fun _ _ h=>h),h4⟩
 ·obtain ⟨h1,h2,h3⟩:=R.mine t n b h;exact ⟨h1,by simpa using h2,h3⟩
 ·obtain ⟨h1,h2,h3,h4,lb,h5,h6⟩:=R.tok k o h;have:o.g≠b:=fun e=>R.apart k o t n h (e ▸ hb)
  exact ⟨h1,h2,h3,h4,lb,(oa _ this).trans h5,h6⟩
 ·refine R.kept.setRow (fun fa=>?_) _;rcases ft.1 with h | h
  ·have:=R.base; omega
  ·exact h
 ·obtain ⟨p,H,h1,h2,h3,h4⟩:=R.objs t' n' S h;have zo:∀ b',H b'->b'≠b:=fun b' hH e=>by
   subst e;have:=((R.obs _ _ _ h2).1 _ hH).2.2.1 t n hb;rw [this.1,this.2,h2] at tc;cases tc
  exact ⟨p,H,h1,h2,O.keep h3 (fun b' hH=>oa b' (zo b' hH)) (by simp),h4.keep (fun t n b H h g=>⟨h,H,g⟩) fun x hx=>(oa p (zo p (O.main h3))).trans hx⟩
theorem q3p.splice {av:Av} {r:List Slot} {cur:Array Value} (h:q3p ι Θ av w r cur) {off z:Nat} {m:List Slot} {us:Array Value} (hm:q3p ι Θ av w m us) (rd:us.size=m.length) (hz:m.length=z) (wb:off + z<=r.length):q3p ι Θ av w (r.take off++m++r.drop (off + z)) (cur.toList.take off++us.toList++cur.toList.drop (off + z)).toArray:=by
 obtain ⟨h1,h2⟩:=h;obtain ⟨m1,m2⟩:=hm;have hl:r.length<=cur.toList.length:=by simpa using h1
 refine ⟨by simp only [yp,yC,List.length_drop,List.size_toArray,yS,rd] at *; omega,fun j x hx=>?_⟩;have ht:(r.take off).length=off:=by rw [yC]; omega
 have mB:(cur.toList.take off).length=off:=by rw [yC]; omega
 simp only [List.getElem?_toArray];rcases Nat.lt_or_ge j off with hj | hj
 ·rw [yV,yE (by omega),yR] at hx;rw [yV,yE (by omega),yR];rw [if_pos hj] at hx ⊢;obtain ⟨u,hu,h⟩:=h2 j x hx;exact ⟨u,by simpa using hu,h⟩
 ·rcases Nat.lt_or_ge j (off + z) with tK | tK
  ·rw [yV,yP (by omega),yE (by omega),ht] at hx;rw [yV,yP (by omega),yE (by simp [rd]; omega),mB];obtain ⟨u,hu,h⟩:=m2 _ x hx;exact ⟨u,by simpa using hu,h⟩
  ·rw [yV,yP (by omega),yP (by omega),ht,yQ] at hx;rw [yV,yP (by omega),yP (by simp [rd]; omega),mB,yQ];obtain ⟨u,hu,h⟩:=h2 _ x hx;refine ⟨u,?_,h⟩;have:us.toList.length=m.length:=by simpa using rd
   rw [this];simpa using hu
theorem op_store (R:Rel P O nt B F0 da w0 D s a w ι Θ) {t:TypeId} {agg:Bool} {z:Nat} (hz:q1Z P t=some z) (py:agg=true\/z=1) {X Y:Operand} {x y:Opd} (hx:opd X=some x) (hy:opd Y=some y) (ho:o.op=.store t X Y) (hd:∀ d,o.dst=some d->d<nt) {cl:Cl} {call} {xe:Slot × Eff} (hr:(K.store cl agg z x y).run call s=some xe) {g} {s':MSt} (he:OpC.eff ⟨o.dst,.store cl agg z x y,g⟩ s xe=some s') :
  ∃ w',(execOp a.eval o).run P w=.ok .skip w'/\RelE P O nt B F0 da w0 D s' (a.put o.dst undef) w':=by
 have hX:=(R.opd hx).1;have hY:=R.opd hy;simp only [K.run] at hr;split at hr
 ·rename_i t' n off kc;rw [kc,q48] at hX;obtain ⟨b,hb,hv⟩:=hX;split at hr
  ·cases hm:s.mem t' n with
   | none=>rw [hm] at hr; cases hr
   | some r =>
    rw [hm,V] at hr;cases hs:q0f agg z off r (y.get s) (y.an s) with
    | none=>rw [hs] at hr; cases hr
    | some r' =>
     rw [hs] at hr;injection hr with hr;subst hr;simp only [OpC.eff] at he;injection he with he;subst he;obtain ⟨il,b',cur,ty,ua,ra,ka,jj,kr⟩:=R.rows t' n r hm;rw [hb] at ua;injection ua with ua;subst ua;have fin:∀ (m:List Slot) (us:Array Value),r'=r.take off++m++r.drop (off + z)->m.length=z->off + z<=r.length->(a.eval Y).cells=us->us.size=m.length->q3p ι Θ (avA da ι Θ) w m us->∃ w',(execOp a.eval o).run P w=.ok .skip w'/\RelE P O nt B F0 da w0 D ((s.setRow t' n r').put o.dst ⟨.undef,.no⟩) (a.put o.dst undef) w':=fun m us h1 h2 h3 h4 uA h5=>by
      have ic:(a.eval Y).cells.size=z:=by rw [h4,uA,h2]
      have eo:∀ u∈(a.eval Y).cells.toList,u.oneCell'=true:=fun u hu=>by
       rw [h4] at hu;obtain ⟨j,hj,rfl⟩:=yx hu;have dB:j<m.length:=by simp at hj; omega
       obtain ⟨u',kq,h6,_⟩:=h5.2 j m[j] (y5 dB);have:us[j]?=some (us.toList[j]):=by simp at hj ⊢
       rw [this] at kq;injection kq with kq;rw [kq];exact h6
      have ia:=set_run (P:=P) hz ra ic (Nat.le_trans h3 ka.1) eo;refine ⟨w.setRow b (cur.toList.take off++(a.eval Y).cells.toList++cur.toList.drop (off + z)).toArray,by simp only [execOp,ho,hv,Sem.run_bind,ia,Result.andThen_ok,Sem.run_pure],ι,Θ,Rel.putN ?_ hd trivial trivial⟩;rw [h4];subst h1;exact R.set hb il ra (ka.splice h5 uA h2 h3) jj (by
       rw [<- kr];have h6:=ka.1;simp only [List.size_toArray,yp,yC,List.length_drop,yS];omega)
     cases agg with
     | true =>
      simp only [q0f,if_true] at hs;split at hs
      ·rename_i cs pp;split at hs
       ·rename_i aa;injection hs with hs;rw [pp] at hY;obtain ⟨us,hu,hc⟩:=hY.1;refine fin (cs.map (⟨·,.no⟩)) us hs.symm (by simpa using aa.1) aa.2 (by rw [hu]; rfl) (by have:=q1B hc; simpa using this) ?_;have:=q3p.of (Θ:=Θ) (r:=cs.map fun v=>(⟨v,.no⟩:Slot)) (cur:=us.toList) (ι:=ι) (w:=w) (av:=avA da ι Θ) (by rw [y0,show ((fun x:Slot=>x.v) ∘ fun v=>(⟨v,.no⟩:Slot))=id from rfl,List.map_id]; exact hc) (fun j x u hx _=>by
         rw [yc] at hx;cases uq:cs[j]? with
         | none=>rw [uq] at hx; cases hx
         | some v=>rw [uq] at hx; injection hx with hx; subst hx; trivial)
        simpa using this
       ·cases hs
      ·cases hs
     | false =>
      have mo:z=1:=by rcases py with h | h; cases h; exact h
      subst mo;simp only [q0f,yn,if_false] at hs;split at hs
      ·rename_i aa;injection hs with hs;obtain ⟨h1,h2⟩:=leaf_rep hY.1 aa.1;have hc:(a.eval Y).cells=#[a.eval Y]:=by
        generalize a.eval Y=u at *
        cases u <;> first | rfl | (simp [Value.oneCell'] at h2; done)
       refine fin [⟨y.get s,y.an s⟩] #[a.eval Y] ?_ rfl (by have:=aa.2; omega) hc rfl ⟨ym _,fun j x hx=>?_⟩
       ·rw [<- hs,List.set_eq_take_append_cons_drop,if_pos aa.2];simp
       ·cases j with
        | zero=>simp at hx; subst hx; exact ⟨a.eval Y,rfl,h2,h1,hY.2⟩
        | succ j=>simp at hx
      ·cases hs
  ·cases hr
 ·cases hr
end
end
section
section
variable {call:q18} {s s':MSt}
def Alike (s s':MSt) (l:List Opd):Prop:=∀ o∈l,o.get s=o.get s'/\o.an s=o.an s'
def K.reads (k:K) (t:Nat):Prop:=match k.cl with
 | none=>False
 | some .imm=>False
 | some (.root r)=>t=r
 | some (.out L)=>L.contains t=false
 | some .any=>True
theorem lendP_congr {cl:Cl} (hm:cl.okMem=true->∀ t n,s.mem t n=s'.mem t n) (v:AV):lendP s cl v=lendP s' cl v:=by
 cases v <;> simp only [lendP]
 split
 ·rename_i la; rw [hm la]
 ·rfl
theorem q8t {cl:Cl} (hm:cl.okMem=true->∀ t n,s.mem t n=s'.mem t n):∀ (l:List AV),q2G s cl l=q2G s' cl l
 | []=>rfl
 | x :: r=>by simp only [q2G,lendP_congr hm x,q8t hm r]
section
variable {cl:Cl} (hm:cl.okMem=true->∀ t n,s.mem t n=s'.mem t n) (mb:s.obj=s'.obj) (v:AV)
include cl hm mb v
theorem qas:lend s cl v=lend s' cl v:=by
 unfold lend;split
 ·split
  ·rename_i la; rw [hm la]
  ·rfl
 ·rfl
 ·rfl
 ·rw [mb]
 ·rfl
theorem lendF_congr:q5y s cl v=q5y s' cl v:=by
 have:=qas hm mb v;cases v <;> simp only [q5y,q8t hm] <;> exact this
end
theorem q6j {cl:Cl} (hm:cl.okMem=true->∀ t n,s.mem t n=s'.mem t n) (mb:s.obj=s'.obj):∀ {xs:List Opd},Alike s s' xs->q30 s cl xs=q30 s' cl xs
 | [],_=>rfl
 | x :: r,h=>by
  have h1:=h x (yk);have h2:=q6j hm mb (xs:=r) fun o ho=>h o (yq _ ho)
  unfold q30;rw [h2,h1.1];rw [lendF_congr hm mb]
theorem qaZ {cl:Cl} {t n:Nat} (hm:cl.okMem=true->∀ t n,s.mem t n=s'.mem t n) (mb:s.obj=s'.obj):∀ {xs:List Opd},Alike s s' xs->q2z s cl t n xs=q2z s' cl t n xs
 | [],_=>rfl
 | x :: r,h=>by
  have h1:=h x (yk);have h2:=qaZ (t:=t) (n:=n) hm mb (xs:=r) fun o ho=>h o (yq _ ho)
  unfold q2z;rw [h2,h1.1];have:q6l s cl t n (x.get s')=q6l s' cl t n (x.get s'):=by
   unfold q6l;split
   ·rfl
   ·rw [qas hm mb]
   ·rfl
   ·rw [qas hm mb]
  rw [this]
theorem q8z {xs:List Opd} (h:Alike s s' xs):q79 s xs=q79 s' xs:=by
 induction xs with
 | nil=>rfl
 | cons x r ih =>
  have h1:=h x (yk);unfold q79 at ih ⊢;rw [List.filterMap_cons,List.filterMap_cons,h1.1,ih fun o ho=>h o (yq _ ho)]
section
variable {cl:Cl} (hm:cl.okMem=true->∀ t n,s.mem t n=s'.mem t n) (v:AV)
include cl hm v
theorem q7O:v.elems s cl=v.elems s' cl:=by
 cases v <;> simp only [AV.elems]
 split
 ·rename_i la; rw [hm la]
 ·rfl
theorem raws_congr:v.raws s cl=v.raws s' cl:=by
 cases v <;> simp only [AV.raws]
 case ref t n sz off len c =>
  split
  ·rename_i h; rw [hm h t n]
  ·rfl
end
theorem q8N {d:Nat} {o:Option Opd} (h:Alike s s' o.toList):endC s d o=endC s' d o:=by
 cases o with
 | none=>rfl
 | some o=>simp only [endC]; rw [(h o (by simp)).1]
theorem qad (k:K) (h:Alike s s' k.opds) (hm:∀ t n,k.reads t->s.mem t n=s'.mem t n) (mb:isO k=true->s.obj=s'.obj):k.run call s=k.run call s':=by
 cases k with
 | mv x=>have h1:=h x (by simp [K.opds]); simp only [K.run,h1.1,h1.2]
 | pick c a b =>
  have h1:=h c (by simp [K.opds]); have h2:=h a (by simp [K.opds]); have h3:=h b (by simp [K.opds]);simp only [K.run,h1.1,h2.1,h2.2,h3.1,h3.2]
 | alloc z=>rfl
 | box z x=>have h1:=h x (by simp [K.opds]); simp only [K.run,h1.1,h1.2]
 | build z ps =>
  have h1:∀ p∈ps,p.2.2.get s=p.2.2.get s':=fun p hp=>(h p.2.2 (yw.2 ⟨p,hp,rfl⟩)).1
  have e1:ps.all (fun p=>(p.2.2.get s).whole)=ps.all (fun p=>(p.2.2.get s').whole):=by
   rw [Bool.eq_iff_iff,y4,y4];exact ⟨fun h p hp=>by rw [<- h1 p hp]; exact h p hp,fun h p hp=>by rw [h1 p hp]; exact h p hp⟩
  have e2:(ps.map fun p=>(p.1,p.2.1,(p.2.2.get s).cells))=ps.map fun p=>(p.1,p.2.1,(p.2.2.get s').cells):=yl fun p hp=>by rw [h1 p hp]
  simp only [K.run,e1,e2]
 | bsl z n ps =>
  have h1:∀ p∈ps,p.2.get s=p.2.get s':=fun p hp=>(h p.2 (yw.2 ⟨p,hp,rfl⟩)).1
  have e1:ps.all (fun p=>(p.2.get s).free&&decide ((p.2.get s).cells.length=z.length))=ps.all (fun p=>(p.2.get s').free&&decide ((p.2.get s').cells.length=z.length)):=by
   rw [Bool.eq_iff_iff,y4,y4];exact ⟨fun h p hp=>by rw [<- h1 p hp]; exact h p hp,fun h p hp=>by rw [h1 p hp]; exact h p hp⟩
  have e2:(ps.map fun p=>(p.2.get s).cells)=ps.map fun p=>(p.2.get s').cells:=yl fun p hp=>by rw [h1 p hp]
  simp only [K.run,e1,e2]
 | load cl g z x =>
  have h1:=h x (by simp [K.opds]);simp only [K.run,h1.1];split
  ·rename_i t n off _;split
   ·rename_i la;rw [hm t n];cases cl with
    | any=>trivial
    | imm=>simp [Cl.okPtr] at la
    | root r=>simp [Cl.okPtr] at la; exact la.symm
    | out L=>show L.contains t=false; simpa [Cl.okPtr] using la
   ·rfl
  ·rfl
  ·rfl
  ·rfl
 | store cl g z x y =>
  have h1:=h x (by simp [K.opds]); have h2:=h y (by simp [K.opds]);simp only [K.run,h1.1,h2.1,h2.2];split
  ·rename_i t n off _;split
   ·rename_i la;rw [hm t n];cases cl with
    | any=>trivial
    | imm=>simp [Cl.okPtr] at la
    | root r=>simp [Cl.okPtr] at la; exact la.symm
    | out L=>show L.contains t=false; simpa [Cl.okPtr] using la
   ·rfl
  ·rfl
 | mm b x y=>have h1:=h x (by simp [K.opds]); have h2:=h y (by simp [K.opds]); simp only [K.run,h1.1,h2.1]
 | bin op b x y=>have h1:=h x (by simp [K.opds]); have h2:=h y (by simp [K.opds]); simp only [K.run,h1.1,h2.1]
 | eqa n ks x y=>have h1:=h x (by simp [K.opds]); have h2:=h y (by simp [K.opds]); simp only [K.run,h1.1,h2.1]
 | eqn n p x y=>have h1:=h x (by simp [K.opds]); have h2:=h y (by simp [K.opds]); simp only [K.run,h1.1,h2.1]
 | un op x=>have h1:=h x (by simp [K.opds]); simp only [K.run,h1.1]
 | conv o x=>have h1:=h x (by simp [K.opds]); simp only [K.run,h1.1]
 | rstr x=>have h1:=h x (by simp [K.opds]); simp only [K.run,h1.1]
 | bstr cl x =>
  have h1:=h x (by simp [K.opds]);have h3:=q7O (cl:=cl) (s:=s) (s':=s') (fun la t n=>hm t n (by cases cl <;> simp [Cl.okMem] at la; trivial)) (x.get s');simp only [K.run,h1.1,h3]
 | aslc cl l z x lo hi =>
  have h1:=h x (by simp [K.opds]);have h2:∀ d,endC s d lo=endC s' d lo:=fun d=>q8N fun o ho=>h o (by simp only [K.opds,yf,yu]; exact .inr (.inl ho))
  have h3:∀ d,endC s d hi=endC s' d hi:=fun d=>q8N fun o ho=>h o (by simp only [K.opds,yf,yu]; exact .inr (.inr ho))
  simp only [K.run,h1.1,h2,h3];split
  ·rename_i t n o _;cases hc:cl.okMem with
   | true=>rw [hm t n (by cases cl <;> simp [Cl.okMem] at hc; trivial)]
   | false =>
    simp only [yn,and_false,if_false];cases endC s' 0 lo <;> try rfl
    cases endC s' l hi <;> try rfl
    cases s.mem t n <;> cases s'.mem t n <;> rfl
  ·rfl
 | mkf f xs =>
  have h1:∀ x∈xs,x.get s=x.get s':=fun x hx=>(h x hx).1
  have e1:xs.all (fun x=>(x.get s).capOk)=xs.all (fun x=>(x.get s').capOk):=by
   rw [Bool.eq_iff_iff,y4,y4];exact ⟨fun h p hp=>by rw [<- h1 p hp]; exact h p hp,fun h p hp=>by rw [h1 p hp]; exact h p hp⟩
  have e2:xs.map (·.get s)=xs.map (·.get s'):=yl h1;simp only [K.run,e1,e2]
 | callv cl x xs =>
  have h0:=h x (by simp [K.opds]);have hx:Alike s s' xs:=fun o ho=>h o (by simp [K.opds,ho])
  have dt:cl.okMem=true->∀ t n,s.mem t n=s'.mem t n:=fun la t n=>hm t n (by cases cl <;> simp [Cl.okMem] at la; trivial)
  have h1:=q6j (cl:=cl) (s:=s) (s':=s') dt (mb rfl) (xs:=xs) hx;have h2:=q8z (xs:=xs) hx;have h3:∀ l,q2G s cl l=q2G s' cl l:=q8t dt;simp only [K.run,h0.1,h1,h2,h3]
 | callr cl f xs =>
  have dt:cl.okMem=true->∀ t n,s.mem t n=s'.mem t n:=fun la t n=>hm t n (by cases cl <;> simp [Cl.okMem] at la; trivial)
  have h1:∀ t n,q2z s cl t n xs=q2z s' cl t n xs:=fun t n=>qaZ dt (mb rfl) (xs:=xs) h
  have h2:q1w s xs=q1w s' xs:=by
   cases xs with
   | nil=>rfl
   | cons x r=>simp only [q1w,(h x (by simp [K.opds])).1]
  simp only [K.run,h1,h2];split
  ·rename_i t n _;split
   ·rename_i la;rw [hm t n (by cases cl with
     | any=>trivial
     | imm=>simp [Cl.okPtr] at la
     | root r=>simp [Cl.okPtr] at la; exact la.symm
     | out L=>show L.contains t=false; simpa [Cl.okPtr] using la)]
   ·rfl
  ·rfl
 | callh nt x xs=>rfl
 | nxt x=>rfl
 | slz x=>have h1:=h x (by simp [K.opds]); simp only [K.run,h1.1]
 | ent x=>have h1:=h x (by simp [K.opds]); simp only [K.run,h1.1,mb rfl]
 | rng x=>have h1:=h x (by simp [K.opds]); simp only [K.run,h1.1,mb rfl]
 | mks z b zs x y=>have h1:=h x (by simp [K.opds]); have h2:=h y (by simp [K.opds]); simp only [K.run,h1.1,h2.1]
 | slc st z x lo hi mx =>
  have h1:=h x (by simp [K.opds]);have h2:∀ d,endC s d lo=endC s' d lo:=fun d=>q8N fun o ho=>h o (by simp only [K.opds,yf,yu]; exact .inr (.inl ho))
  have h3:∀ d,endC s d hi=endC s' d hi:=fun d=>q8N fun o ho=>h o (by simp only [K.opds,yf,yu]; exact .inr (.inr (.inl ho)))
  simp only [K.run,h1.1,h2,h3]
 | faddr f x=>have h1:=h x (by simp [K.opds]); simp only [K.run,h1.1]
 | field g f z x=>have h1:=h x (by simp [K.opds]); simp only [K.run,h1.1]
 | aaddr l z x i=>have h1:=h x (by simp [K.opds]); have h2:=h i (by simp [K.opds]); simp only [K.run,h1.1,h2.1]
 | iaddr z x i=>have h1:=h x (by simp [K.opds]); have h2:=h i (by simp [K.opds]); simp only [K.run,h1.1,h2.1]
 | index x i=>have h1:=h x (by simp [K.opds]); have h2:=h i (by simp [K.opds]); simp only [K.run,h1.1,h2.1]
 | ext x i=>have h1:=h x (by simp [K.opds]); simp only [K.run,h1.1]
 | call cl f xs =>
  have h1:=q6j (cl:=cl) (s:=s) (s':=s') (fun la t n=>hm t n (by cases cl <;> simp [Cl.okMem] at la; trivial)) (mb rfl) (xs:=xs) h;have h2:=q8z (xs:=xs) h;simp only [K.run,h1,h2,mb rfl]
 | callf cl f z xs =>
  have h1:=q6j (cl:=cl) (s:=s) (s':=s') (fun la t n=>hm t n (by cases cl <;> simp [Cl.okMem] at la; trivial)) (mb rfl) (xs:=xs) h;have h2:=q8z (xs:=xs) h;simp only [K.run,h1,h2,mb rfl]
 | len st x=>have h1:=h x (by simp [K.opds]); simp only [K.run,h1.1]
 | app cl e z b x y =>
  have h1:=h x (by simp [K.opds]); have h2:=h y (by simp [K.opds]);have h3:=q7O (cl:=cl) (s:=s) (s':=s') (fun la t n=>hm t n (by cases cl <;> simp [Cl.okMem] at la; trivial)) (y.get s');simp only [K.run,h1.1,h1.2,h2.1,h3]
 | mkm=>rfl
 | bad=>rfl
 | mkb T e=>rfl
 | mget ok ty z x k=>have h1:=h x (by simp [K.opds]); have h2:=h k (by simp [K.opds]); simp only [K.run,h1.1,h2.1,mb rfl]
 | mset ty x k v=>have h1:=h x (by simp [K.opds]); have h2:=h k (by simp [K.opds]); have h3:=h v (by simp [K.opds]); simp only [K.run,h1.1,h2.1,h3.1,mb rfl]
 | mlen x=>have h1:=h x (by simp [K.opds]); simp only [K.run,h1.1,mb rfl]
 | appf cl e z b x y =>
  have h1:=h x (by simp [K.opds]); have h2:=h y (by simp [K.opds]);have h3:∀ v:AV,v.elems s cl=v.elems s' cl:=fun v=>q7O (cl:=cl) (s:=s) (s':=s') (fun la t n=>hm t n (by cases cl <;> simp [Cl.okMem] at la; trivial)) v
  simp only [K.run,h1.1,h1.2,h2.1,h3]
 | appm cl e z b x y =>
  have h1:=h x (by simp [K.opds]); have h2:=h y (by simp [K.opds]);have h3:∀ v:AV,v.elems s cl=v.elems s' cl:=fun v=>q7O (cl:=cl) (s:=s) (s':=s') (fun la t n=>hm t n (by cases cl <;> simp [Cl.okMem] at la; trivial)) v
  simp only [K.run,h1.1,h1.2,h2.1,h3]
 | appn cl e z b x y =>
  have h1:=h x (by simp [K.opds]); have h2:=h y (by simp [K.opds]);have h3:∀ v:AV,v.raws s cl=v.raws s' cl:=fun v=>raws_congr (cl:=cl) (s:=s) (s':=s') (fun la t n=>hm t n (by cases cl <;> simp [Cl.okMem] at la; trivial)) v
  simp only [K.run,h1.1,h1.2,h2.1,h3]
 | bslr sz z n ps =>
  have h1:∀ p∈ps,p.2.get s=p.2.get s':=fun p hp=>(h p.2 (yw.2 ⟨p,hp,rfl⟩)).1
  have e1:ps.all (fun p=>(p.2.get s).whole&&decide ((p.2.get s).cells.length=z.length))=ps.all (fun p=>(p.2.get s').whole&&decide ((p.2.get s').cells.length=z.length)):=by
   rw [Bool.eq_iff_iff,y4,y4];exact ⟨fun h p hp=>by rw [<- h1 p hp]; exact h p hp,fun h p hp=>by rw [h1 p hp]; exact h p hp⟩
  have e2:(ps.map fun p=>(p.2.get s).cells)=ps.map fun p=>(p.2.get s').cells:=yl fun p hp=>by rw [h1 p hp]
  simp only [K.run,e1,e2]
 | nilchk x=>have h1:=h x (by simp [K.opds]); simp only [K.run,h1.1]
structure Ends (f:An->An):Prop where
 no:f .no=.no
 ex:f .ex=.ex
 own:∀ k e,f (.own k e)≠.ex
def MSt.mapAn (s:MSt) (f:An->An):MSt:=⟨fun t=>⟨(s.env t).v,f (s.env t).a⟩,fun t n=>(s.mem t n).map (·.map fun x=>⟨x.v,f x.a⟩),s.next,s.obj,fun t=>⟨(s.gh t).v,f (s.gh t).a⟩⟩
def Slot.mapAn (f:An->An) (x:Slot):Slot:=⟨x.v,f x.a⟩
def Eff.mapAn (f:An->An):Eff->Eff
 | .new r=>.new (r.map (Slot.mapAn f))
 | .set t n r=>.set t n (r.map (Slot.mapAn f))
 | .ob2 t n S r=>.ob2 t n S (r.map (Slot.mapAn f))
 | e=>e
theorem q0l (f:An->An) (o:Opd):o.get (s.mapAn f)=o.get s:=by cases o <;> rfl
theorem anN_map {f:An->An} (hf:Ends f) (b:Bool) (a:An):anN b (f a)=f (anN b a):=by
 cases b with
 | true=>exact hf.ex.symm
 | false=>rfl
theorem q9D {f:An->An} (hf:Ends f) (o:Opd):o.an (s.mapAn f)=f (o.an s):=by
 cases o with
 | t n=>rfl
 | c v=>cases v <;> first | exact hf.no.symm | (rename_i b l; cases b; exact hf.no.symm; exact hf.ex.symm)
theorem rowEls_map (f:An->An) (r:List Slot) (sz off len:Nat):q2R (r.map (Slot.mapAn f)) sz off len=q2R r sz off len:=by
 unfold q2R;have h1:(r.map (Slot.mapAn f)).all (fun x=>x.v.free0)=r.all (fun x=>x.v.free0):=by rw [List.all_map]; rfl
 simp only [yo,h1];congr 1;congr 1;apply yl;intro i _;rw [<- List.map_drop,<- List.map_take,y0];rfl
theorem elems_mapAn (f:An->An) (cl:Cl) (v:AV):v.elems (s.mapAn f) cl=v.elems s cl:=by
 cases v <;> simp only [AV.elems]
 rename_i t n sz off len cap;split
 ·simp only [MSt.mapAn];cases s.mem t n with
  | none=>rfl
  | some r=>exact rowEls_map f r sz off len
 ·rfl
theorem lendP_mapAn (f:An->An) (cl:Cl) (v:AV):lendP (s.mapAn f) cl v=lendP s cl v:=by
 cases v <;> simp only [lendP]
 rename_i t n off;split
 ·simp only [MSt.mapAn];cases s.mem t n with
  | none=>rfl
  | some r =>
   simp only [yz,<- List.map_drop,List.all_map,y0];rfl
 ·rfl
theorem q8u (f:An->An) (cl:Cl):∀ (l:List AV),q2G (s.mapAn f) cl l=q2G s cl l
 | []=>rfl
 | x :: r=>by simp only [q2G,lendP_mapAn f cl x,q8u f cl r]
theorem qat (f:An->An) (cl:Cl) (v:AV):lend (s.mapAn f) cl v=lend s cl v:=by
 unfold lend;split
 ·rename_i t n sz off len cap;split
  ·simp only [MSt.mapAn];cases s.mem t n with
   | none=>rfl
   | some r=>simp only [yz,V]; rw [show (fun x:Slot=>(⟨x.v,f x.a⟩:Slot))=Slot.mapAn f from rfl,rowEls_map]
  ·rfl
 ·rfl
 ·rfl
 ·rfl
 ·rfl
theorem lendF_mapAn (f:An->An) (cl:Cl) (v:AV):q5y (s.mapAn f) cl v=q5y s cl v:=by
 have:=qat (s:=s) f cl v;cases v <;> simp only [q5y,q8u] <;> exact this
theorem q6k (f:An->An) (cl:Cl):∀ (xs:List Opd),q30 (s.mapAn f) cl xs=q30 s cl xs
 | []=>rfl
 | x :: r=>by
  unfold q30;rw [q6k f cl r,q0l];rw [lendF_mapAn]
theorem qb0 (f:An->An) (cl:Cl) (t n:Nat):∀ (xs:List Opd),q2z (s.mapAn f) cl t n xs=q2z s cl t n xs
 | []=>rfl
 | x :: r=>by
  unfold q2z;rw [qb0 f cl t n r,q0l];have:q6l (s.mapAn f) cl t n (x.get s)=q6l s cl t n (x.get s):=by
   unfold q6l;split
   ·rfl
   ·rw [qat]
   ·rfl
   ·rw [qat]
  rw [this]
theorem rowPlace_mapAn (f:An->An) (xs:List Opd):q1w (s.mapAn f) xs=q1w s xs:=by
 cases xs with
 | nil=>rfl
 | cons x r=>simp only [q1w,q0l]
theorem zeroAn_ends {f:An->An} (hf:Ends f) (v:AV):f (q1C v)=q1C v:=by
 unfold q1C;split
 ·exact hf.ex
 ·exact hf.no
theorem q8A (f:An->An) (xs:List Opd):q79 (s.mapAn f) xs=q79 s xs:=by
 unfold q79;simp only [q0l]
theorem endC_mapAn (f:An->An) (d:Nat) (o:Option Opd):endC (s.mapAn f) d o=endC s d o:=by
 cases o with
 | none=>rfl
 | some o=>simp only [endC,q0l]
theorem loadC_map (f:An->An) (hf:Ends f) (g:Bool) (z off:Nat) (r:List Slot):q0Y g z off (r.map (Slot.mapAn f))=(q0Y g z off r).map (Slot.mapAn f):=by
 unfold q0Y;cases g with
 | true =>
  simp only [if_true,yo];split
  ·simp only [yz,Slot.mapAn,hf.no,<- List.map_drop,<- List.map_take,y0];rfl
  ·rfl
 | false=>simp
theorem setRowC_map (f:An->An) (hf:Ends f) (g:Bool) (z off:Nat) (r:List Slot) (v:AV) (a:An):q0f g z off (r.map (Slot.mapAn f)) v (f a)=(q0f g z off r v a).map (·.map (Slot.mapAn f)):=by
 unfold q0f;cases g with
 | true =>
  simp only [if_true,yo];cases v <;> try rfl
  simp only;split
  ·simp only [yz,List.map_append,List.map_take,List.map_drop,y0];congr 3;apply yl;intro x _;simp [Slot.mapAn,hf.no]
  ·rfl
 | false =>
  simp only [yn,if_false,yo];split
  ·simp [Slot.mapAn,List.map_set]
  ·rfl
theorem run_mapAn {f:An->An} (hf:Ends f) (k:K) (hk:isT k=false):k.run call (s.mapAn f)=(k.run call s).map fun p=>(p.1.mapAn f,p.2.mapAn f):=by
  cases k with
  | mv x=>simp [K.run,q0l,q9D hf,Slot.mapAn,Eff.mapAn]
  | callh nt x xs=>rfl
  | nxt x=>rfl
  | slz x =>
    simp only [K.run,q0l];split <;> simp [Slot.mapAn,Eff.mapAn,hf.ex]
  | ent x =>
    simp only [K.run,q0l,show (s.mapAn f).obj=s.obj from rfl];split
    · split
      · split
        · split
          · split
            · split <;> simp [Slot.mapAn,Eff.mapAn,hf.no]
            · rfl
          · rfl
        · rfl
      · rfl
    · rfl
  | rng x =>
    simp only [K.run,q0l,show (s.mapAn f).obj=s.obj from rfl];split
    · split <;> simp [Slot.mapAn,Eff.mapAn,hf.no]
    · rfl
  | pick c a b =>
    simp only [K.run,q0l,q9D hf];split
    · rename_i t _
      cases t <;> simp [Slot.mapAn,Eff.mapAn]
    · rfl
  | alloc z =>
    simp only [K.run,yz,Slot.mapAn,Eff.mapAn,hf.no,y0];congr 3;apply yl;intro v _;simp only [Function.comp,Slot.mapAn,q1C];split <;> simp [hf.no,hf.ex]
  | box z x =>
    simp only [K.run,q0l,q9D hf];split
    · split
      · simp [Slot.mapAn,Eff.mapAn,hf.no,Function.comp_def]
      · rfl
    · split
      · simp [Slot.mapAn,Eff.mapAn,hf.no]
      · rfl
  | build z ps =>
    simp only [K.run,q0l];split
    · rw [Option.map_map]
      congr 1;funext cs;simp [Slot.mapAn,Eff.mapAn,hf.no]
    · rfl
  | bsl z n ps =>
    simp only [K.run,q0l];split
    · simp [Slot.mapAn,Eff.mapAn,hf.ex]
    · rfl
  | load cl g z x =>
    simp only [K.run,q0l];split
    · rename_i t n off _
      split
      · simp only [MSt.mapAn]
        cases s.mem t n with
        | none=>rfl
        | some r =>
          simp only [yz,V];rw [show (fun x:Slot=>(⟨x.v,f x.a⟩:Slot))=Slot.mapAn f from rfl,loadC_map f hf];cases q0Y g z off r <;> rfl
      · rfl
    · split
      · rfl
      · rename_i cs _ _ _
        cases q5T g z cs <;> simp [Slot.mapAn,Eff.mapAn,hf.no]
    · split
      · rfl
      · rename_i cs _ _ _
        cases q5T g z cs <;> simp [Slot.mapAn,Eff.mapAn,hf.no]
    · rfl
  | store cl g z x y =>
    simp only [K.run,q0l,q9D hf];split
    · rename_i t n off _
      split
      · simp only [MSt.mapAn]
        cases s.mem t n with
        | none=>rfl
        | some r =>
          simp only [yz,V];rw [show (fun x:Slot=>(⟨x.v,f x.a⟩:Slot))=Slot.mapAn f from rfl,setRowC_map f hf];cases q0f g z off r (y.get s) (y.an s) <;> simp [Slot.mapAn,Eff.mapAn,hf.no]
      · rfl
    · rfl
  | mm b x y=>simp only [K.run,q0l]; cases mmC b (x.get s) (y.get s) <;> simp [Slot.mapAn,Eff.mapAn,hf.no]
  | bin op b x y=>simp only [K.run,q0l]; cases binC op b (x.get s) (y.get s) <;> simp [Slot.mapAn,Eff.mapAn,hf.no]
  | eqa n ks x y =>
    simp only [K.run,q0l];split
    · rename_i a b _ _
      cases eqC ks a b <;> simp [Slot.mapAn,Eff.mapAn,hf.no]
    · rfl
  | eqn n p x y =>
    simp only [K.run,q0l];split
    · cases isNil false (x.get s) <;> simp [Slot.mapAn,Eff.mapAn,hf.no]
    · cases isNil true (x.get s) <;> simp [Slot.mapAn,Eff.mapAn,hf.no]
    · rfl
  | un op x=>simp only [K.run,q0l]; split <;> simp [Slot.mapAn,Eff.mapAn,hf.no]
  | conv o x=>simp only [K.run,q0l]; split <;> simp [Slot.mapAn,Eff.mapAn,hf.no]
  | rstr x=>simp only [K.run,q0l]; split <;> simp [Slot.mapAn,Eff.mapAn,hf.no]
  | bstr cl x =>
    simp only [K.run,q0l,elems_mapAn];split
    · rename_i l _
      cases bytesOf l <;> simp [Slot.mapAn,Eff.mapAn,hf.no]
    · rfl
  | aslc cl l z x lo hi =>
    simp only [K.run,q0l,endC_mapAn];split
    · rename_i t n o _
      simp only [MSt.mapAn];cases endC s 0 lo <;> try rfl
      cases endC s l hi <;> try rfl
      cases s.mem t n with
      | none=>rfl
      | some r =>
        simp only [yz,yo];split
        · split <;> simp [Slot.mapAn,Eff.mapAn,hf.no]
        · rfl
    · rfl
  | mkf g xs =>
    simp only [K.run,q0l];split <;> simp [Slot.mapAn,Eff.mapAn,hf.no]
  | callv cl x xs =>
    simp only [K.run,q0l,q6k,q8A,q8u];split
    · split
      · rename_i vs ws _ _ _
        rename_i g cs _ _ _ _ _ _;cases call _ _ none with
        | none=>rfl
        | some r =>
          simp only [V];split
          · split <;> simp [Slot.mapAn,Eff.mapAn,hf.no]
          · rfl
      · rfl
    · rfl
  | callr cl g xs =>
    simp only [K.run,qb0,rowPlace_mapAn];split
    · rename_i t n _
      split
      · simp only [MSt.mapAn]
        cases s.mem t n with
        | none=>rfl
        | some r =>
          simp only [yz];cases q2z s cl t n xs with
          | none=>rfl
          | some vs =>
            simp only [List.all_map,y0,yo];have e1:r.all ((fun x:Slot=>x.v.free0) ∘ fun x=>(⟨x.v,f x.a⟩:Slot))=r.all (fun x=>x.v.free0):=rfl;have e2:r.map ((fun x:Slot=>x.v) ∘ fun x=>(⟨x.v,f x.a⟩:Slot))=r.map (·.v):=rfl;rw [e1,e2];split
            · cases call g (.undef :: .undef :: vs) (some (.agg (r.map (·.v)))) with
              | none=>rfl
              | some q =>
                simp only [V];split
                · split <;> simp [Slot.mapAn,Eff.mapAn,hf.no,Function.comp_def,zeroAn_ends hf]
                · rfl
            · rfl
      · rfl
    · rfl
  | mks z b zs x y =>
    simp only [K.run,q0l];split
    · split
      · simp only [yz,Slot.mapAn,Eff.mapAn,hf.no,y0]
        congr 3;apply yl;intro v _;simp [Slot.mapAn,hf.no]
      · rfl
    · rfl
  | slc st z x lo hi mx =>
    simp only [K.run,q0l,endC_mapAn];split
    · rfl
    · split
      · rfl
      · split <;> first
          | rfl
          | (split
             · split <;> (try split) <;> simp [Slot.mapAn,Eff.mapAn,hf.no]
             · rfl)
  | faddr o x=>simp only [K.run,q0l]; split <;> simp [Slot.mapAn,Eff.mapAn,hf.no]
  | field g o z x =>
    simp only [K.run,q0l];split
    · rename_i cs _
      cases q5T g z (cs.drop o) <;> simp [Slot.mapAn,Eff.mapAn,hf.no]
    · rfl
  | aaddr l z x i =>
    simp only [K.run,q0l];split
    · split
      · split <;> simp [Slot.mapAn,Eff.mapAn,hf.no]
      · rfl
    · rfl
  | iaddr z x i =>
    simp only [K.run,q0l];split
    · split
      · rename_i k _ _ _ l _
        cases l[k]? with
        | none=>rfl
        | some cs=>simp only [V]; split <;> simp [Slot.mapAn,Eff.mapAn,hf.no]
      · rename_i k _ _ l _
        cases l[k]? with
        | none=>rfl
        | some cs=>simp only [V]; split <;> simp [Slot.mapAn,Eff.mapAn,hf.no]
      · split <;> simp [Slot.mapAn,Eff.mapAn,hf.no]
      · rfl
    · rfl
  | index x i =>
    simp only [K.run,q0l];split
    · rename_i k b _ _
      cases b[k]? <;> simp [Slot.mapAn,Eff.mapAn,hf.no]
    · rfl
  | ext x i =>
    simp only [K.run,q0l];split
    · rename_i vs _
      cases vs[i]? <;> simp [Slot.mapAn,Eff.mapAn,hf.no]
    · rfl
  | call cl g xs =>
    simp only [K.run,q6k,q8A];cases q30 s cl xs with
    | none=>rfl
    | some vs =>
      simp only [V];split
      · cases call g vs none with
        | none=>rfl
        | some r =>
          simp only [V];split
          · split <;> simp [Slot.mapAn,Eff.mapAn,hf.no]
          · split <;> simp [Slot.mapAn,Eff.mapAn,hf.no]
      · rename_i t n _
        simp only [show (s.mapAn f).obj=s.obj from rfl];cases call g vs (s.obj t n) with
        | none=>rfl
        | some r =>
          simp only [V];split
          · rfl
          · split <;> simp [Slot.mapAn,Eff.mapAn,hf.no]
      · rfl
  | callf cl g z xs =>
    simp only [K.run,q6k,q8A];cases q30 s cl xs with
    | none=>rfl
    | some vs =>
      simp only [V];split
      · rename_i t n _
        simp only [show (s.mapAn f).obj=s.obj from rfl];cases call g (.undef :: vs) (s.obj t n) with
        | none=>rfl
        | some r =>
          simp only [V];split
          · split
            · split
              · simp [Slot.mapAn,Eff.mapAn,hf.no]
              · simp [Slot.mapAn,Eff.mapAn,hf.no,q0c,Function.comp_def]
            · rfl
          · rfl
      · rfl
  | len st x=>simp only [K.run,q0l]; split <;> (try split) <;> simp [Slot.mapAn,Eff.mapAn,hf.no]
  | app cl e z b x y=>simp [isT] at hk
  | mkm=>simp [K.run,Slot.mapAn,Eff.mapAn,hf.no]
  | bad=>simp [K.run]
  | mkb T e=>simp [K.run,Slot.mapAn,Eff.mapAn,hf.no]
  | mget ok ty z x k =>
    simp only [K.run,q0l,show (s.mapAn f).obj=s.obj from rfl];split
    · split
      · split <;> simp [Slot.mapAn,Eff.mapAn,hf.no]
      · rfl
    · rfl
  | mset ty x k v =>
    simp only [K.run,q0l,show (s.mapAn f).obj=s.obj from rfl];split
    · split
      · split <;> simp [Slot.mapAn,Eff.mapAn,hf.no]
      · rfl
    · rfl
  | mlen x =>
    simp only [K.run,q0l,show (s.mapAn f).obj=s.obj from rfl];split
    · split <;> simp [Slot.mapAn,Eff.mapAn,hf.no]
    · rfl
  | appf cl e z b x y =>
    simp only [K.run,q0l,q9D hf,elems_mapAn];split
    · split
      · rename_i bb _ _ _ _ _
        rw [anN_map hf];cases hx:anN bb (x.an s) with
        | no=>simp [hf.no]
        | ex =>
          simp only [hf.ex];split
          · simp [Slot.mapAn,Eff.mapAn,hf.ex]
          · simp [Slot.mapAn,Eff.mapAn,hf.no,Function.comp_def,q0c]
        | own k e =>
          simp only;have:=hf.own k e;split
          · contradiction
          · rfl
      · rfl
    · rfl
  | appm cl e z b x y=>simp [isT] at hk
  | appn cl e z b x y=>simp [isT] at hk
  | bslr sz z n ps =>
    simp only [K.run,q0l];split
    · simp [Slot.mapAn,Eff.mapAn,hf.no,Function.comp_def,q0c]
    · rfl
  | nilchk x=>simp only [K.run,q0l]; split <;> simp [Slot.mapAn,Eff.mapAn,hf.no]
end
end
section
open Go Go.RowKit
section
variable {P:Program} {O:Objs} {nt B:Nat} {F0:Own} {da:Av} {w0:World} {D:Nat->Prop} {s:MSt} {a:Act} {w w':World} {ι:Ix} {Θ:Fam} {o:Oper}
theorem chunks {α:Type} (sz:Nat):∀ (len:Nat) (L:List α),len * sz<=L.length->((List.range len).map fun i=>(L.drop (i * sz)).take sz).flatten=L.take (len * sz)
 | 0,L,_=>by simp
 | len + 1,L,h=>by
  have h1:len * sz<=L.length:=by rw [yt] at h; omega
  rw [J,List.map_append,List.flatten_append,chunks sz len L h1];simp only [yh,yr,yB,List.flatten_nil,yO];rw [yt,List.take_add]
theorem q6N {av:Av} {r:List Slot} {cur:Array Value} (ka:q3p ι Θ av w r cur) {b:Nat} {ty:TypeId} (hb:w.heap[b]?=some (.cells cur ty (0,0))) {sz off len:Nat} {m:List (List AV)} (h:q2R r sz off len=some m) :
  m.length=len/\(∀ c∈m,c.length=sz)/\∃ us,RepL av w m.flatten us/\∀ (j:Nat) (u:Value),us[j]?=some u->w.cell? ⟨b,off + j,none⟩=some u:=by
 unfold q2R at h;split at h
 ·rename_i hc;injection h with h;subst h;have ne:∀ x∈r.map (·.v),x.free0=true:=fun x hx=>by
   obtain ⟨y,hy,rfl⟩:=yw.1 hx;exact y4.1 hc.2 y hy
  have zi:((List.range len).map fun i=>((r.drop (off + i * sz)).take sz).map (·.v)).flatten=((r.map (·.v)).drop off).take (len * sz):=by
   rw [<- chunks sz len _ (by simp; omega)];congr 1;apply yl;intro i _;rw [List.drop_drop,List.map_take,List.map_drop]
  have ec:=q3F (len * sz) (q3a off ka.rep);refine ⟨by simp,fun c ir=>?_,((cur.toList.take r.length).drop off).take (len * sz),?_,fun j u hu=>?_⟩
  ·obtain ⟨i,hi,rfl⟩:=yw.1 ir;have ac:i<len:=by simpa using hi
   have:(i + 1) * sz<=len * sz:=yW _ ac;rw [yt] at this;simp;omega
  ·rw [zi];exact q4r ec fun x hx=>ne x (List.mem_of_mem_drop (List.mem_of_mem_take hx))
  ·rw [cell_of_row w b (off + j) cur ty (0,0) hb];rw [yR] at hu;split at hu
   ·rw [yQ,yR] at hu;split at hu
    ·simpa using hu
    ·cases hu
   ·cases hu
 ·cases h
theorem q7P (R:Rel P O nt B F0 da w0 D s a w ι Θ) {v:Value} {y:AV} (hY:RepS ι (avA da ι Θ) (avB ι Θ) w y v) {cl:Cl} {m:List (List AV)} (h:y.elems s cl=some m) {sz:Nat} (ab:0<sz) (ic:∀ c∈m,c.length=sz) :
  ∃ us,RepL (avA da ι Θ) w m.flatten us/\Sl (fun _=>False) w sz v m.length us:=by
 have nr:m.flatten.length=m.length * sz:=by
  clear h hY
  induction m with
  | nil=>simp
  | cons c r ih=>rw [yB,yp,ic c (by simp),ih (fun c hc=>ic c (by simp [hc])),yH,yt]; omega
 have ja:∀ {av:Av} {us:List Value},RepL av w m.flatten us->us.length=m.length * sz:=fun h=>by
  have:=q1B (q27 (ι:=ι) h);omega
 cases y with
 | sl nil l =>
  injection h with h;subst h;rw [q2F] at hY;simp only [Rep] at hY;obtain ⟨A,c,hv,hc,_,hn,hs⟩:=hY;rcases yI l.length with h0 | h0
  ·have:l=[]:=yN h0;subst this;exact ⟨[],rfl,by simp,A,c,hv,hc,fun h=>by simp at h⟩
  ·cases nil with
   | true=>have:=(hn rfl).2.1; omega
   | false =>
    obtain ⟨b,off,rfl,ka⟩:=(hs rfl).2 h0;obtain ⟨us,hl,rd⟩:=qaj (q3q.1 ka);refine ⟨us,hl,ja hl,_,c,hv,hc,fun _=>⟨b,off,rfl,?_,fun h=>h,fun j u hu=>(rd j u hu).1⟩⟩;have hp:0<us.length:=by rw [ja hl]; exact Nat.mul_pos h0 ab
    exact q5R (rd 0 us[0] (y5 hp)).1
 | bl l =>
  injection h with h;subst h;obtain ⟨a',c,hv,hc,_,hs⟩:=hY;rcases yI l.length with h0 | h0
  ·have:l=[]:=yN h0;subst this;exact ⟨[],rfl,by simp,some a',c,hv,hc,fun h=>by simp at h⟩
  ·obtain ⟨b,off,rfl,ka⟩:=hs h0;obtain ⟨us,hl,rd⟩:=q93 (q6q.1 ka);refine ⟨us,hl,ja hl,_,c,hv,hc,fun _=>⟨b,off,rfl,?_,fun h=>h,fun j u hu=>(rd j u hu).1⟩⟩;have hp:0<us.length:=by rw [ja hl]; exact Nat.mul_pos h0 ab
   exact q5R (rd 0 us[0] (y5 hp)).1
 | ref t n sz' off len cap =>
  simp only [AV.elems] at h;split at h
  ·cases hm:s.mem t n with
   | none=>rw [hm] at h; cases h
   | some r =>
    rw [hm,V] at h;obtain ⟨b,hb,wb,cc,xf,_,hv⟩:=q4Y.1 hY;obtain ⟨il,b',cur,ty,ua,ra,ka,_⟩:=R.rows t n r hm;rw [hb] at ua;injection ua with ua;subst ua;obtain ⟨h1,h2,us,hl,rd⟩:=q6N ka ra h;subst h1;exact ⟨us,hl,ja hl,_,cc,hv,Nat.le_trans wb xf,fun _=>⟨b,off,rfl,q0h ra,fun h=>h,rd⟩⟩
  ·cases h
 | _=>simp [AV.elems] at h
theorem q9w {av:Av} {r:List Slot} {cur:Array Value} (ka:q3p ι Θ av w r cur) {b:Nat} {ty:TypeId} (hb:w.heap[b]?=some (.cells cur ty (0,0))) {sz off len:Nat} {m:List (List AV)} (h:q5G r sz off len=some m) :
  m.length=len/\(∀ c∈m,c.length=sz)/\∃ us,q0w ι av w m.flatten us/\∀ (j:Nat) (u:Value),us[j]?=some u->w.cell? ⟨b,off + j,none⟩=some u:=by
 unfold q5G at h;split at h
 ·rename_i hc;injection h with h;subst h;have zi:((List.range len).map fun i=>((r.drop (off + i * sz)).take sz).map (·.v)).flatten=((r.map (·.v)).drop off).take (len * sz):=by
   rw [<- chunks sz len _ (by simp; omega)];congr 1;apply yl;intro i _;rw [List.drop_drop,List.map_take,List.map_drop]
  have ec:=q3F (len * sz) (q3a off ka.rep);refine ⟨by simp,fun c ir=>?_,((cur.toList.take r.length).drop off).take (len * sz),?_,fun j u hu=>?_⟩
  ·obtain ⟨i,hi,rfl⟩:=yw.1 ir;have ac:i<len:=by simpa using hi
   have:(i + 1) * sz<=len * sz:=yW _ ac;rw [yt] at this;simp;omega
  ·rw [zi];exact ec
  ·rw [cell_of_row w b (off + j) cur ty (0,0) hb];rw [yR] at hu;split at hu
   ·rw [yQ,yR] at hu;split at hu
    ·simpa using hu
    ·cases hu
   ·cases hu
 ·cases h
theorem raws_sl (R:Rel P O nt B F0 da w0 D s a w ι Θ) {v:Value} {y:AV} (hY:RepS ι (avA da ι Θ) (avB ι Θ) w y v) {cl:Cl} {m:List (List AV)} (h:y.raws s cl=some m) {sz:Nat} (ab:0<sz) (ic:∀ c∈m,c.length=sz) :
  ∃ us,q0w ι (avA da ι Θ) w m.flatten us/\Sl (fun _=>False) w sz v m.length us:=by
 have nr:m.flatten.length=m.length * sz:=by
  clear h hY
  induction m with
  | nil=>simp
  | cons c r ih=>rw [yB,yp,ic c (by simp),ih (fun c hc=>ic c (by simp [hc])),yH,yt]; omega
 have ja:∀ {av:Av} {us:List Value},q0w ι av w m.flatten us->us.length=m.length * sz:=fun h=>by
  have:=q1B h;omega
 have old:∀ (hm:y.elems s cl=some m),∃ us,q0w ι (avA da ι Θ) w m.flatten us/\Sl (fun _=>False) w sz v m.length us:=fun hm=>by
  obtain ⟨us,h1,h2⟩:=q7P R hY hm ab ic;exact ⟨us,q27 h1,h2⟩
 cases y with
 | sl nil l=>exact old h
 | bl l=>exact old h
 | ref t n sz' off len cap =>
  simp only [AV.raws] at h;split at h
  ·cases hm:s.mem t n with
   | none=>rw [hm] at h; cases h
   | some r =>
    rw [hm,V] at h;obtain ⟨b,hb,wb,cc,xf,_,hv⟩:=q4Y.1 hY;obtain ⟨il,b',cur,ty,ua,ra,ka,_⟩:=R.rows t n r hm;rw [hb] at ua;injection ua with ua;subst ua;obtain ⟨h1,h2,us,hl,rd⟩:=q9w ka ra h;subst h1;exact ⟨us,hl,ja hl,_,cc,hv,Nat.le_trans wb xf,fun _=>⟨b,off,rfl,q0h ra,fun h=>h,rd⟩⟩
  ·cases h
 | _=>simp [AV.raws] at h
theorem append_room {t e:TypeId} {i:TypeInfo} {z:Value} (ht:P.underlying t=some (.slice e)) (hi:P.info? e=some i) (ty:TypeId) {g n c:Nat} {cur:Array Value} (hg:w.heap[g]?=some (.cells cur e (0,0))) (je:cur.size=c * i.size) (_hz:i.zero=some z)
  {src:Value} {m:Nat} {news:List Value} (hs:Sl (fun _=>False) w i.size src m news) (h1:∀ u∈news,u.oneCell'=true) (wb:n + m<=c) :
  (Builtin.append_ #[t,t] ty #[.slice (some ⟨g,0,none⟩) n c,src]).run P w=.ok (.slice (some ⟨g,0,none⟩) (n + m) c) (w.setRow g (cur.toList.take (n * i.size)++news++cur.toList.drop (n * i.size + news.length)).toArray):=by
 obtain ⟨hl,A,c',rfl,hc,pb⟩:=hs;have gn:n * i.size + news.length<=cur.size:=by rw [hl,je,<- Nat.add_mul]; exact yW _ wb
 cases A with
 | none =>
  have hm:m=0:=by
   rcases yI m with h | h
   ·exact h
   ·obtain ⟨b,off,hA,_⟩:=pb h; cases hA
  subst hm;have ox:news=[]:=yN (by simpa using hl);subst ox;simp only [Nat.add_zero] at wb;have wt:w.setRow g (cur.toList.take (n * i.size)++[]++cur.toList.drop (n * i.size + ([]:List Value).length)).toArray=w:=by
   simp only [yO,List.length_nil,Nat.add_zero,List.take_append_drop,yT];exact setRow_self w g cur e (0,0) hg
  rw [wt];simp [Builtin.append_,run_underlying ht,sizeOf,typeInfo,hi,Builtin.lenOf,Builtin.firstCells,wb,storeCells]
 | some a =>
  refine run_append_room (P:=P) w t ty e i ht hi g n c cur hg a m c' news hl (fun j u hu=>?_) h1 wb gn;have hm:0<m:=by
   rcases yI m with h | h
   ·subst h; have:=(yb.1 hu).1; omega
   ·exact h
  obtain ⟨b,off,hA,_,_,jd⟩:=pb hm;injection hA with hA;subst hA;rw [Addr.add_lit];exact jd j u hu
theorem append_zero {t e:TypeId} {i:TypeInfo} (ht:P.underlying t=some (.slice e)) (hi:P.info? e=some i) (ty:TypeId) {A:Option Addr} {n c:Nat} (wb:n<=c) {src:Value} {news:List Value} (hs:Sl (fun _=>False) w i.size src 0 news) :
  (Builtin.append_ #[t,t] ty #[.slice A n c,src]).run P w=.ok (.slice A n c) w:=by
 obtain ⟨hl,A',c',rfl,hc,pb⟩:=hs;cases A' <;> cases A <;> simp [Builtin.append_,run_underlying ht,sizeOf,typeInfo,hi,Builtin.lenOf,Builtin.firstCells,wb,storeCells,loadCells,loadCellsFrom]
def grewW (w:World) (xs news:List Value) (z:Value) (e:TypeId) (need c:Nat):World:=w.drew.alloc (.cells (xs.toArray++news.toArray++Builtin.zeroCells z.cells (grownCap w need c e - need)) e)
theorem append_grow {t e:TypeId} {i:TypeInfo} {z:Value} (ht:P.underlying t=some (.slice e)) (hi:P.info? e=some i) (hz:i.zero=some z) (ty:TypeId) {A:Option Addr} {n c:Nat} {xs:List Value} (fe:xs.length=n * i.size) (hA:A=none->n=0/\c=0) (hx:∀ a,A=some a->∀ j u,xs[j]?=some u->w.cell? (a.add j)=some u)
  {src:Value} {m:Nat} {news:List Value} (hs:Sl (fun _=>False) w i.size src m news) (fa:c<n + m) (hnc:n<=c) (h63:n + m<=140737488355328) (ze:(n + m) * i.bytes<=140737488355328) :
  (Builtin.append_ #[t,t] ty #[.slice A n c,src]).run P w=.ok (.slice (some ⟨w.heap.size,0,none⟩) (n + m) (grownCap w (n + m) c e)) (grewW w xs news z e (n + m) c):=by
 obtain ⟨hl,A',c',rfl,hc,pb⟩:=hs;have hm:0<m:=by omega
 obtain ⟨b,off,rfl,_,_,jd⟩:=pb hm;have ud:∀ j u,news[j]?=some u->w.cell? ((⟨b,off,none⟩:Addr).add j)=some u:=fun j u hu=>by rw [Addr.add_lit]; exact jd j u hu
 cases A with
 | none =>
  obtain ⟨rfl,rfl⟩:=hA rfl;have hx0:xs=[]:=yN (by simpa using fe);subst hx0;have:=run_append_nil (P:=P) w t ty e i z ht hi hz ⟨b,off,none⟩ m c' news hl ud hm (by omega) (by rw [yF] at ze; omega);simpa [grewW] using this
 | some a =>
  exact run_append_grow (P:=P) w t ty e i z ht hi hz a n c xs fe (hx a rfl) ⟨b,off,none⟩ m c' news hl ud fa (by omega) (growslice_fits (by omega) ze)
section
variable (R:Rel P O nt B F0 da w0 D s a w ι Θ)
include R
theorem Rel.fam (Θ':Fam) (f:An->An) (td:∀ b o,avB ι Θ' b o->avB ι Θ b o) (xp:∀ A v,AnOk Θ A v->AnOk Θ' (f A) v)
  (tok:∀ k o,Θ' k=some o->B<=o.g/\0<o.sz/\o.n<=o.c/\o.c<=maxLen/\∃ cur,w.heap[o.g]?=some (.cells cur o.e (0,0))/\(cur.size=o.c * o.sz/\q1Z P o.e=some o.sz)) (tinj:∀ k k' o o',Θ' k=some o->Θ' k'=some o'->o.g=o'.g->k=k') (apart:∀ k o t n,Θ' k=some o->ι t n≠some o.g)
  (apob:∀ k o t n H,Θ' k=some o->ι.ob t n=some H->¬ H o.g) :
  Rel P O nt B F0 da w0 D (s.mapAn f) a w ι Θ':=by
 have hB:Held (avB ι Θ) (avB ι Θ') w w:=Held.less td;have hA:Held (avA da ι Θ) (avA da ι Θ') w w:=Held.less fun b o h=>h.imp id (td b o)
 refine ⟨R.defers,R.size,fun t=>RepS.held (Ix.Le.refl _) hA hB _ _ (R.env t),fun t=>xp _ _ (R.ann t),fun t n r hr=>?_,R.mine,R.inj,tok,tinj,apart,R.out,R.pin,R.kept,R.base,R.objs,fun t n H h=>?_,fun t=>RepS.held (Ix.Le.refl _) hA hB _ _ (R.gen t),fun t=>xp _ _ (R.gann t)⟩
 ·simp only [MSt.mapAn] at hr;cases hm:s.mem t n with
  | none=>rw [hm] at hr; cases hr
  | some r0 =>
   rw [hm] at hr;injection hr with hr;subst hr;obtain ⟨h0,b,cur,ty,h1,h2,⟨h3,h4⟩,h8⟩:=R.rows t n r0 hm;refine ⟨h0,b,cur,ty,h1,h2,⟨by simpa using h3,fun j x hx=>?_⟩,h8⟩;rw [yc] at hx;cases hj:r0[j]? with
   | none=>rw [hj] at hx; cases hx
   | some y =>
    rw [hj] at hx;injection hx with hx;subst hx;obtain ⟨u,hu,h5,h6,h7⟩:=h4 j y hj;exact ⟨u,hu,h5,RepC.held (Ix.Le.refl _) hA _ _ h6,xp _ _ h7⟩
 ·obtain ⟨h1,h2⟩:=R.obs t n H h;exact ⟨fun b hb=>let ⟨g1,g2,g3,_,g5⟩:=h1 b hb; ⟨g1,g2,g3,fun k o hk e=>apob k o t n H hk h (e ▸ hb),g5⟩,h2⟩
theorem Rel.spare {k:Nat} {ow:Ow} (hk:Θ k=some ow) {cur new:Array Value} (je:w.heap[ow.g]?=some (.cells cur ow.e (0,0))) (ic:new.size=cur.size) (aj:∀ j,j<ow.n * ow.sz->new[j]?=cur[j]?) :
  Rel P O nt B F0 da w0 D s a (w.setRow ow.g new) ι Θ:=by
 have oa:∀ b',b'≠ow.g->(w.setRow ow.g new).heap[b']?=w.heap[b']?:=fun b' h=>setRow_other w ow.g b' new h
 have wc:(w.setRow ow.g new).heap[ow.g]?=some (.cells new ow.e (0,0)):=setRow_heap w ow.g cur new ow.e (0,0) je;have ej:∀ b o u,w.cell? ⟨b,o,none⟩=some u->(b=ow.g->o<ow.n * ow.sz)->(w.setRow ow.g new).cell? ⟨b,o,none⟩=some u:=fun b o u hc fa=>by
  by_cases hb:b=ow.g
  ·subst hb;rw [cell_of_row _ ow.g o new ow.e (0,0) wc,aj o (fa rfl),<- cell_of_row w ow.g o cur ow.e (0,0) je];exact hc
  ·exact (World.cell?_of_block (w:=w) (a:=⟨b,o,none⟩) (oa b hb)).trans hc
 have hB:Held (avB ι Θ) (avB ι Θ) w (w.setRow ow.g new):=⟨fun b o u hc hn=>⟨ej b o u hc fun e=>by
  rcases Nat.lt_or_ge o (ow.n * ow.sz) with h | h
  ·exact h
  ·exact absurd (.inr ⟨k,ow,hk,e.symm,h⟩) hn,hn⟩⟩
 have hA:Held (avA da ι Θ) (avA da ι Θ) w (w.setRow ow.g new):=⟨fun b o u hc hn=>⟨ej b o u hc fun e=>by
  rcases Nat.lt_or_ge o (ow.n * ow.sz) with h | h
  ·exact h
  ·exact absurd (.inr (.inr ⟨k,ow,hk,e.symm,h⟩)) hn,hn⟩⟩
 refine ⟨R.defers,R.size,fun t=>RepS.held (Ix.Le.refl _) hA hB _ _ (R.env t),R.ann,fun t n r hr=>?_,fun t n b h=>?_,R.inj,fun j o h=>?_,R.tinj,R.apart,R.out,R.pin,?_,R.base,fun t n S h=>?_,fun t n H h=>(R.obs t n H h).grow (by simp),fun t=>RepS.held (Ix.Le.refl _) hA hB _ _ (R.gen t),R.gann⟩
 ·obtain ⟨h0,b,lb,ty,h1,h2,h3,h8⟩:=R.rows t n r hr;have:b≠ow.g:=fun e=>R.apart k ow t n hk (e ▸ h1)
  exact ⟨h0,b,lb,ty,h1,(oa b this).trans h2,h3.held (Ix.Le.refl _) hA (fun _ _ h=>h),h8⟩
 ·obtain ⟨h1,h2,h3⟩:=R.mine t n b h;exact ⟨h1,by simpa using h2,h3⟩
 ·obtain ⟨h1,h2,h3,h4,lb,h5,h6⟩:=R.tok j o h;by_cases hg:o.g=ow.g
  ·have:=R.tinj _ _ _ _ h hk hg;subst this;rw [hk] at h;injection h with h;subst h;rw [je] at h5;injection h5 with h5;injection h5 with h5;subst h5;exact ⟨h1,h2,h3,h4,new,wc,ic.trans h6.1,h6.2⟩
  ·exact ⟨h1,h2,h3,h4,lb,(oa _ hg).trans h5,h6⟩
 ·have:=(R.tok k ow hk).1;have hb:=R.base;exact R.kept.setRow (fun fa=>by omega) _
 ·obtain ⟨p,H,h1,h2,h3,h4⟩:=R.objs t n S h;have zo:∀ b',H b'->b'≠ow.g:=fun b' hH e=>(((R.obs _ _ _ h2).1 _ hH).2.2.2.1 k ow hk) e.symm
  exact ⟨p,H,h1,h2,O.keep h3 (fun b' hH=>oa b' (zo b' hH)) (by simp),h4.keep (fun t n b H h g=>⟨h,H,g⟩) fun x hx=>(oa p (zo p (O.main h3))).trans hx⟩
theorem Rel.fresh {d:Nat} (hd:Θ d=none) {cur:Array Value} {e:TypeId} {n c sz:Nat} (je:cur.size=c * sz) (ic:0<sz) (hn:n<=c) (hc:c<=maxLen) (uP:q1Z P e=some sz) :
  Rel P O nt B F0 da w0 D s a (w.drew.alloc (.cells cur e)) ι (fun j=>if j=d then some ⟨w.heap.size,n,c,sz,e⟩ else Θ j):=by
 have bg:∀ b,b<w.heap.size->(w.drew.alloc (.cells cur e)).heap[b]?=w.heap[b]?:=fun b hb=>Below.heap_alloc w.drew _ b hb
 have ri:∀ b o,b<w.heap.size->avB ι (fun j=>if j=d then some ⟨w.heap.size,n,c,sz,e⟩ else Θ j) b o->avB ι Θ b o:=fun b o hb h=>h.imp id fun ⟨k,ow,h,h1,h2⟩=>by
  by_cases e:k=d
  ·simp only [if_pos e] at h; injection h with h; subst h; simp only at h1; omega
  ·simp only [if_neg e] at h; exact ⟨k,ow,h,h1,h2⟩
 have hB:Held (avB ι Θ) (avB ι (fun j=>if j=d then some ⟨w.heap.size,n,c,sz,e⟩ else Θ j)) w (w.drew.alloc (.cells cur e)):=Held.grown bg ri;have hA:Held (avA da ι Θ) (avA da ι (fun j=>if j=d then some ⟨w.heap.size,n,c,sz,e⟩ else Θ j)) w (w.drew.alloc (.cells cur e)):=Held.grown bg fun b o hb h=>h.imp id (ri b o hb)
 have hΘ:∀ k o,Θ k=some o->(fun j=>if j=d then some ⟨w.heap.size,n,c,sz,e⟩ else Θ j) k=some o:=fun k o h=>by
  by_cases e:k=d
  ·subst e; rw [hd] at h; cases h
  ·simp only [if_neg e]; exact h
 have xp:∀ A v,AnOk Θ A v->AnOk (fun j=>if j=d then some ⟨w.heap.size,n,c,sz,e⟩ else Θ j) A v:=fun A v h=>by
  cases A with
  | no=>trivial
  | ex=>exact h
  | own k e'=>exact h.imp id fun ⟨ow,h1,h2⟩=>⟨ow,hΘ _ _ h1,h2⟩
 have zt:w.heap.size<=(w.drew.alloc (.cells cur e)).heap.size:=by
  have:(w.drew.alloc (.cells cur e)).heap.size=w.drew.heap.size + 1:=World.size_alloc _ _;have h4:w.drew.heap.size=w.heap.size:=rfl;omega
 refine ⟨R.defers,R.size,fun t=>RepS.held (Ix.Le.refl _) hA hB _ _ (R.env t),fun t=>xp _ _ (R.ann t),fun t n r hr=>?_,fun t n b h=>?_,R.inj,fun j o h=>?_,fun k k' o o' h h' hg=>?_,fun k o t n h h'=>?_,R.out,R.pin,R.kept.drew.alloc _,R.base,fun t n S h=>?_,fun t n H h=>?_,fun t=>RepS.held (Ix.Le.refl _) hA hB _ _ (R.gen t),fun t=>xp _ _ (R.gann t)⟩
 ·obtain ⟨h0,b,lb,ty,h1,h2,h3,h8⟩:=R.rows t n r hr;exact ⟨h0,b,lb,ty,h1,(bg b (q0h h2)).trans h2,h3.held (Ix.Le.refl _) hA hΘ,h8⟩
 ·obtain ⟨h1,h2,h3⟩:=R.mine t n b h;exact ⟨h1,by omega,h3⟩
 ·by_cases e':j=d
  ·simp only [if_pos e'] at h;injection h with h;subst h;exact ⟨R.lowB,ic,hn,hc,cur,new_at rfl,je,uP⟩
  ·simp only [if_neg e'] at h;obtain ⟨h1,h2,h3,h4,lb,h5,h6⟩:=R.tok j o h;exact ⟨h1,h2,h3,h4,lb,(bg _ (q0h h5)).trans h5,h6⟩
 ·by_cases e1:k=d <;> by_cases e2:k'=d
  ·rw [e1,e2]
  ·simp only [if_pos e1] at h; simp only [if_neg e2] at h';injection h with h; subst h;obtain ⟨_,_,_,_,lb,h5,_⟩:=R.tok _ _ h';have:=q0h h5;simp only at hg; omega
  ·simp only [if_neg e1] at h; simp only [if_pos e2] at h';injection h' with h'; subst h';obtain ⟨_,_,_,_,lb,h5,_⟩:=R.tok _ _ h;have:=q0h h5;simp only at hg; omega
  ·simp only [if_neg e1] at h; simp only [if_neg e2] at h';exact R.tinj _ _ _ _ h h' hg
 ·by_cases e':k=d
  ·simp only [if_pos e'] at h;injection h with h;subst h;have:=(R.mine _ _ _ h').2.1;simp only at this; omega
  ·simp only [if_neg e'] at h;exact R.apart k o t n h h'
 ·obtain ⟨p,H,h1,h2,h3,h4⟩:=R.objs t n S h;exact ⟨p,H,h1,h2,O.keep h3 (fun b' hH=>bg b' (O.lt h3 hH)) zt,h4.keep (fun t n b H h g=>⟨h,H,g⟩) fun x hx=>(bg _ (q0h hx)).trans hx⟩
 ·obtain ⟨h1,h2⟩:=R.obs t n H h;refine ⟨fun b hb=>?_,h2⟩;obtain ⟨g1,g2,g3,g4,g5⟩:=h1 b hb;refine ⟨g1,by omega,g3,fun k o hk=>?_,g5⟩;by_cases e':k=d
  ·simp only [if_pos e'] at hk;injection hk with hk;subst hk;simp only;omega
  ·simp only [if_neg e'] at hk;exact g4 k o hk
end
end
end
end Go.Proofs.YtbnlmgncbgaepaaGreat
