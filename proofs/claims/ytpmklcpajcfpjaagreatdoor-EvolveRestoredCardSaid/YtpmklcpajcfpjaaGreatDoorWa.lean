/- A part of the proof. -/
import Derived.Calls
import Derived.Orders
import Derived.Below
import Derived.Scope
import Derived.Test.YtpmklcpajcfpjaaGreatDoorRows
import Derived.WalkKit
import Derived.WalkSpells
import Derived.WalkLawsBesides
import Derived.Handy
import Derived.Maps.AppendAt
import Derived.Lib.FrozenHead
import Derived.Laws.Cells
import Derived.ChangeKeysEq
import Derived.Laws.Tables
set_option linter.all false
set_option maxRecDepth 100000
set_option maxHeartbeats 8000000
open Option renaming bind_some → J, bind_eq_some_iff → yh, map_eq_some_iff → yq, map_some → yB
open List renaming range_succ → y0, map_map → y9, length_map → yc, all_eq_true → ye, getElem?_eq_getElem → yf, length_append → yj, getElem?_map → yk, map_cons → ym, getElem?_eq_some_iff → yn, mem_cons_self → yo, mem_cons_of_mem → yp, mem_of_getElem? → yr, mem_cons → yt, mem_append → yu, drop_eq_getElem_cons → yv, drop_eq_nil_of_le → yw, append_assoc → yx, length_take → yz, flatten_cons → yA, mem_map → yD, map_congr_left → yE, append_nil → yF, length_cons → yG, getElem?_drop → yI, length_drop → yJ, getElem?_take → yK, getElem?_append_right → yP, map_nil → yQ, getElem?_append_left → yT, map_take → yW, replicate → yX, size_toArray → yY, nil_append → Y00, map_drop → Y01, map_append → Y03, eq_nil_of_length_eq_zero → Y04, getElem?_eq_none → Y08, take_of_length_le → Y0b, take_append_drop → Y0c, getElem?_cons_zero → Y0d, mem_of_mem_take → Y0i, getElem_of_mem → Y0k, flatten_append → Y0l
open Nat renaming le_refl → yl, zero_add → yy, le_trans → yH, add_mul → yL, succ_mul → yN, add_zero → yV, eq_zero_or_pos → yZ, lt_of_lt_of_le → Y06, mul_le_mul_right → Y0e, add_sub_cancel_left → Y0g
open Bool renaming false_eq_true → yM
open Array renaming length_toList → Y02, toArray_toList → Y07, getD_eq_getD_getElem? → Y0j
namespace Go.Proofs.YtpmklcpajcfpjaaGreatDoor
open Go
inductive AV where
 |int (k:IntKind) (n:Int)
 |bool (b:Bool)
 |str (s:ByteArray)
 |EA
 |ptr (t n off:Nat)
 |ip (cs:List AV)
 |bp (cs:List AV)
 |sl (nil:Bool) (l:List (List AV))
 |bl (l:List (List AV))
 |ref (t n sz off len cap:Nat)
 |mp (t n:Nat)
 |fn (f:Nat) (caps:List AV)
 |agg (cs:List AV)
 |fA (vs:List AV)
 |undef
 deriving Inhabited
inductive An where
 |no
 |ex
 |own (k:Nat) (e:TypeId)
structure SC where
 v:AV
 a:An
inductive EE where
 |t (n:Nat)
 |c (v:AV)
 deriving Inhabited
inductive Cl where
 |any
 |KB
 |root (t:Nat)
 /-- in no box of these slots -/
 |out (L:List Nat)
inductive Mf where
 |none
 |some (k:IntKind)
 |agg (l:List (Option IntKind))
instance:Inhabited Mf:=⟨.none⟩
inductive K where
 |mv (x:EE)
 |pick (c a b:EE)
 |alloc (zero:List AV)
 |box (size:Nat) (x:EE)
 |build (zero:List AV) (parts:List (Nat×Nat×EE))
 |IA (zero:List AV) (n:Nat) (parts:List (Nat×EE))
 |load (cl:Cl) (agg:Bool) (size:Nat) (x:EE)
 |store (cl:Cl) (agg:Bool) (size:Nat) (x y:EE)
 |clr (cl:Cl) (zero:List AV) (x:EE)
 |bin (op:BinOp) (bl:Bool) (x y:EE)
 |mm (mx:Bool) (x y:EE)
 |QC (neg:Bool) (ks:List Nat) (x y:EE)
 |jC (neg ptr:Bool) (x y:EE)
 |un (op:UnOp) (x:EE)
 |conv (k:Option IntKind) (x:EE)
 |GB (x:EE)
 |eC (cl:Cl) (x:EE)
 |PC (size bytes:Nat) (zero:List AV) (len cap:EE)
 |nC (str:Bool) (size:Nat) (x:EE) (lo hi mx:Option EE)
 |tC (cl:Cl) (len size:Nat) (x:EE) (lo hi:Option EE)
 |PA (off:Nat) (x:EE)
 |field (agg:Bool) (off size:Nat) (x:EE)
 |aB (size:Nat) (x i:EE)
 |PB (len size:Nat) (x i:EE)
 |index (x i:EE)
 |ext (x:EE) (i:Nat)
 |call (cl:Cl) (f:Nat) (xs:List EE)
 |sB (cl:Cl) (f:Nat) (sz:Nat) (xs:List EE)
 /-- a call whose result is a slice of the caller's own;one that takes a row (in none of the boxes L) and gives one;one that gives numbers and letters only,by what the memory of its arguments iw -/
 |LA (cl:Cl) (f:Nat) (sz:Nat) (xs:List EE)
 |nA (cl:Cl) (f:Nat) (sz:Nat) (L:List Nat) (x:EE) (xs:List EE)
 |bA (cl:Cl) (f:Nat) (xs:List EE)
 |zC (f:Nat) (xs:List EE)
 |JA (cl:Cl) (x:EE) (xs:List EE)
 |uB (cl:Cl) (f:Nat) (xs:List EE)
 |mA (nt:Nat) (x:EE) (xs:List EE)
 |len (str:Bool) (x:EE)
 |app (cl:Cl) (e:TypeId) (size bytes:Nat) (x y:EE)
 |dB (cl:Cl) (e:TypeId) (size bytes:Nat) (x y:EE)
 |RA (cl:Cl) (e:TypeId) (size bytes:Nat) (x y:EE)
 |jB (cl:Cl) (e:TypeId) (size bytes:Nat) (x y:EE)
 |SB (size:Nat) (zero:List AV) (n:Nat) (parts:List (Nat×EE))
 |OC
 |mkb (T e:TypeId)
 |LB (ok:Bool) (ty:Mf) (zero:AV) (x k:EE)
 |HB (ty:Mf) (x k v:EE)
 |rC (x:EE)
 |fC (x:EE)
 |slz (x:EE)
 |ent (x:EE)
 |XA (x:EE)
 |WA (x:EE)
 |bad
 deriving Inhabited
instance:Inhabited Cl:=⟨.any⟩
structure aD where
 dst:Option Nat
 op:K
 guard:Option (Nat×Bool)
inductive C where
 |skip
 |seq (a b:C)
 |reg (ops:List aD)
 |cond (c:EE) (t e:C)
 |block (id:Nat) (b:C)
 |loop (b:C)
 |exit (id:Nat)
 |ret
inductive Ex where
 |nrm
 |exit (id:Nat)
 |ret
structure LC where
 env:Nat->SC
 mem:Nat->Nat->Option (List SC)
 next:Nat
 obj:Nat->Nat->Option AV
 /-- the slots of the calls that wait -/
 gh:Nat->SC
def An.strip (k:Nat):An->An
 |.own j e=>if j=k then .no else .own j e
 |a=>a
def SC.strip (k:Nat)(x:SC):SC:=⟨x.v,x.a.strip k⟩
def LC.strip (s:LC)(k:Nat):LC:=⟨fun t=>(s.env t).strip k,fun t n=>(s.mem t n).map (·.map (SC.strip k)),s.next,s.obj,fun t=>(s.gh t).strip k⟩
def LC.zB (s:LC):An->LC
 |.own k _=>s.strip k
 |_=>s
def LC.put (s:LC)(d:Option Nat)(x:SC):LC:=match d with
 |some d=>{ s with env:=fun t=>if t=d then x else s.env t }
 |none=>s
def LC.setRow (s:LC)(t n:Nat)(r:List SC):LC:={ s with mem:=fun t' n'=>if t'=t/\n'=n then some r else s.mem t' n' }
def LC.setObj (s:LC)(t n:Nat)(S:AV):LC:={ s with obj:=fun t' n'=>if t'=t/\n'=n then some S else s.obj t' n' }
def qD (l:List (List AV)):List SC:=l.flatten.map (⟨·,.no⟩)
def AV.rA (t n:Nat):AV->AV
 |.ptr t' n' o=>if t'=t/\n'=n then .undef else .ptr t' n' o
 |.ref t' n' z o l c=>if t'=t/\n'=n then .undef else .ref t' n' z o l c
 |.mp t' n'=>if t'=t/\n'=n then .undef else .mp t' n'
 |v=>v
def AV.OA (t n:Nat):AV->AV
 |.agg cs=>.agg (cs.map (AV.rA t n))
 |v=>v.rA t n
def AV.kill (t n:Nat):AV->AV
 |.agg cs=>.agg (cs.map (AV.rA t n))
 |.fA vs=>.fA (vs.map (AV.OA t n))
 |.fn f vs=>.fn f (vs.map (AV.rA t n))
 |v=>v.rA t n
def SC.kill (t n:Nat)(x:SC):SC:=⟨x.v.kill t n,x.a⟩
def LC.kill (s:LC)(t n:Nat):LC:=⟨fun j=>(s.env j).kill t n,fun t' n'=>if t'=t/\n'=n then none else(s.mem t' n').map (·.map (SC.kill t n)),s.next,s.obj,fun j=>(s.gh j).kill t n⟩
def LC.zA (s:LC):Option (Nat×Nat)->LC
 |none=>s
 |some p=>s.kill p.1 p.2
def EE.get (s:LC):EE->AV
 |.t n=>(s.env n).v
 |.c v=>v
def EE.an (s:LC):EE->An
 |.t n=>(s.env n).a
 |.c (.sl true _)=>.ex
 |.c _=>.no
def AV.cells:AV->List AV
 |.agg cs=>cs
 |v=>[v]
def AV.leaf:AV->Bool
 |.agg _|.fA _|.bp _|.bl _|.fn ..|.undef=>false
 |_=>true
def AV.whole:AV->Bool
 |.agg _=>true
 |v=>v.leaf
def AV.tA:AV->Bool
 |.ptr ..|.bp _|.bl _|.ref ..|.mp ..|.fn ..|.undef|.agg _|.fA _=>false
 |_=>true
def AV.free:AV->Bool
 |.agg cs=>cs.all AV.tA
 |v=>v.tA
def KG (row:List SC)(sz off len:Nat):Option (List (List AV)) :=
 if off+len*sz<=row.length/\row.all (fun x=>x.v.tA)then some ((List.range len).map fun i=>((row.drop (off+i*sz)).take sz).map (·.v))else none
def Cl.gA:Cl->Bool
 |.any=>true
 |_=>false
def AV.elems (s:LC)(cl:Cl):AV->Option (List (List AV))
 |.sl _ l=>some l
 |.bl l=>some l
 |.ref t n sz off len _=>if cl.gA then(s.mem t n).bind fun r=>KG r sz off len else none
 |_=>none
def PH (row:List SC)(sz off len:Nat):Option (List (List AV)) :=
 if off+len*sz<=row.length then some ((List.range len).map fun i=>((row.drop (off+i*sz)).take sz).map (·.v))else none
def AV.QB (s:LC)(cl:Cl):AV->Option (List (List AV))
 |.sl _ l=>some l
 |.bl l=>some l
 |.ref t n sz off len _=>if cl.gA then(s.mem t n).bind fun r=>PH r sz off len else none
 |_=>none
def AV.eB (t n:Nat):AV->Bool
 |.ptr t' n' _|.ref t' n' _ _ _ _|.mp t' n'=>!(decide (t'=t)&&decide (n'=n))
 |.agg _|.fA _|.fn ..=>false
 |_=>true
def XV:AV->Option Nat
 |.int _ n=>if 0<=n then some n.toNat else none
 |_=>none
def kL (s:LC)(d:Nat):Option EE->Option Nat
 |none=>some d
 |some o=>XV (o.get s)
def nV (cells:List AV):List (Nat×Nat×List AV)->Option (List AV)
 | []=>some cells
 |(off,size,v)::r=>if v.length=size/\off+size<=cells.length then nV (cells.take off++v++cells.drop (off+size)) r else none
def ZU (k:IntKind)(r:BitVec k.bits):AV:=.int k (k.wrap r.toNat)
def shN (k:IntKind)(b:Int):Nat:=min b.toNat k.bits
def Rh (op:BinOp)(bl:Bool):AV->AV->Option AV
 |.int k a,.int k' b=>match op with
  |.shl=>if 0<=b then some (.int k (k.wrap (a*2 ^ shN k b)))else none
  |.shr=>if 0<=b then some (.int k (a.fdiv (2 ^ shN k b)))else none
  |_=>if k=k' then(match op with
  |.and=>some (ZU k (BitVec.ofInt k.bits a &&& BitVec.ofInt k.bits b))
  | .or=>some (ZU k (BitVec.ofInt k.bits a ||| BitVec.ofInt k.bits b))
  |.xor=>some (ZU k (BitVec.ofInt k.bits a ^^^ BitVec.ofInt k.bits b))
  |.andNot=>some (ZU k (BitVec.ofInt k.bits a &&& ~~~ BitVec.ofInt k.bits b))
  |.add=>some (.int k (k.wrap (a+b)))
  |.sub=>some (.int k (k.wrap (a-b)))
  |.mul=>some (.int k (k.wrap (a*b)))
  |.quo=>if b=0 then none else some (.int k (k.wrap (a.tdiv b)))
  |.rem=>if b=0 then none else some (.int k (a.tmod b))
  |.eql=>some (.bool (decide (a=b)))
  |.neq=>some (.bool (!decide (a=b)))
  |.lss=>some (.bool (decide (a<b)))
  |.leq=>some (.bool (decide (a<=b)))
  |.gtr=>some (.bool (decide (b<a)))
  |.geq=>some (.bool (decide (b<=a)))
  |_=>none)else none
 |.str a,.str b=>match op with
  |.add=>if a.size+b.size<=9223372036854775807 then some (.str (a++b))else none
  |.eql=>some (.bool (decide (a=b)))
  |.neq=>some (.bool (!decide (a=b)))
  |.lss=>some (.bool (Op.bytesLess a.toList b.toList))
  | .gtr=>some (.bool (!(Op.bytesLess a.toList b.toList||decide (a=b))))
  | .leq=>some (.bool (Op.bytesLess a.toList b.toList||decide (a=b)))
  |.geq=>some (.bool (!Op.bytesLess a.toList b.toList))
  |_=>none
 |.bool a,.bool b=>if bl then(match op with
  |.eql=>some (.bool (a == b))
  |.neq=>some (.bool (!(a == b)))
  |_=>none)else none
 |_,_=>none
def mmC (mx:Bool):AV->AV->Option AV
 |.int k a,.int k' b=>if k=k' then some (.int k (if mx then max a b else min a b))else none
 |_,_=>none
def BM:List Nat->List AV->List AV->Option Bool
 | [],[],[]=>some true
 |0::ks,.int k a::r,.int k' b::r'=>if k=k' then(if a=b then BM ks r r' else some false)else none
 |1::ks,.str a::r,.str b::r'=>if a=b then BM ks r r' else some false
 |2::ks,.bool a::r,.bool b::r'=>if a=b then BM ks r r' else some false
 |_,_,_=>none
def bJ:Bool->AV->Option Bool
 |false,.sl true _=>some true
 |false,.sl false l=>if l.isEmpty then none else some false
 |false,.bl _=>some false
 |false,.ref ..=>some false
 |true,.EA=>some true
 |true,.ptr ..=>some false
 |true,.ip _=>some false
 |true,.bp _=>some false
 |_,_=>none
inductive uG where
 |none
 |new (r:List SC)
 |set (t n:Nat) (r:List SC)
 |app (a:An) (k:Nat)
 |obj (t n:Nat) (S:AV)
 |mk (S:AV)
 |rn (k:Option (Nat×Nat)) (r:List SC)
 |bB (t n:Nat) (S:AV) (r:List SC)
def Cl.TA:Cl->Nat->Bool
 |.any,_=>true
 |.KB,_=>false
 |.root r,t=>r == t
 |.out L,t=>!L.contains t
def eD (agg:Bool)(size off:Nat)(row:List SC):Option SC :=
 if agg then(if off+size<=row.length then some ⟨.agg (((row.drop off).take size).map (·.v)),.no⟩else none)
 else row[off]?
def XI (agg:Bool)(size:Nat)(cs:List AV):Option AV :=
 if agg then(if size<=cs.length then some (.agg (cs.take size))else none)else cs[0]?
def GV (s:LC)(cl:Cl):AV->Option AV
 |.ref t n sz off len _=>if cl.gA then((s.mem t n).bind fun r=>KG r sz off len).map .bl else none
 |.bl l=>some (.bl l)
 |.bp l=>some (.bp l)
 |.ptr t n off=>if off=0/\cl.gA/\(s.obj t n).isSome then some (.ptr 0 0 0)else none
 |v=>if v.free then some v else none
def zS (s:LC)(cl:Cl):AV->Option AV
 |.ptr t n off=>if cl.gA then match s.mem t n with
  |some r=>if(r.drop off).all (fun x=>x.v.tA)then some (.bp ((r.drop off).map (·.v)))else none
  |none=>none else none
 |.bp l=>some (.bp l)
 |.EA=>some .EA
 |_=>none
def gG (s:LC)(cl:Cl):List AV->Option (List AV)
 | []=>some []
 |x::r=>match zS s cl x,gG s cl r with
  |some v,some vs=>some (v::vs)
  |_,_=>none
def tI (s:LC)(cl:Cl):AV->Option AV
 |.fn f cs=>(gG s cl cs).map (.fn f)
 |v=>GV s cl v
def placeOf:AV->Option (Nat×Nat)
 |.ptr t n _=>some (t,n)
 |.ref t n _ _ _ _=>some (t,n)
 |_=>none
def gY (s:LC)(cl:Cl)(t n:Nat):AV->Option AV
 |.ptr t' n' off=>if t'=t/\n'=n then some (.ptr 0 0 off)else none
 |.ref t' n' sz off len cap=>if t'=t/\n'=n then some (.ref 0 0 sz off len cap)else GV s cl (.ref t' n' sz off len cap)
 |.fn f cs=>if cs.isEmpty then some (.fn f [])else none
 |v=>GV s cl v
def uM (s:LC)(cl:Cl)(t n:Nat):List EE->Option (List AV)
 | []=>some []
 |x::r=>match gY s cl t n (x.get s),uM s cl t n r with
  |some v,some vs=>some (v::vs)
  |_,_=>none
def WO (s:LC):List EE->Option (Nat×Nat)
 | []=>none
 |x::_=>placeOf (x.get s)
def AV.mB:AV->Bool
 |.ptr ..|.bp _|.EA=>true
 |_=>false
def bytesOf:List (List AV)->Option (List UInt8)
 | []=>some []
 |c::r=>match c,bytesOf r with
  | [.int .u8 n],some l=>some (UInt8.ofNat n.toNat::l)
  |_,_=>none
def rK (s:LC)(xs:List EE):List (Nat×Nat):=xs.filterMap fun x=>match x.get s with
 |.ptr t n _=>some (t,n)
 |_=>none
def DH (s:LC)(cl:Cl):List EE->Option (List AV)
 | []=>some []
 |x::r=>match tI s cl (x.get s),DH s cl r with
  |some v,some vs=>some (v::vs)
  |_,_=>none
def AV.isUn:AV->Bool
 |.undef=>true
 |_=>false
def AV.back:AV->Bool
 | .fA vs=>vs.all fun v=>v.free||v.isUn
 |v=>v.free
def AV.NA:AV->Bool
 |.ptr 0 0 0=>true
 |_=>false
def AV.mC:AV->Bool
 | .fA vs=>vs.all fun v=>v.free||v.NA
 |v=>v.NA
def AV.named (d n:Nat):AV->AV
 |.fA vs=>.fA (vs.map fun v=>if v.NA then .ptr d n 0 else v)
 |.mp _ _=>.mp d n
 |v=>if v.NA then .ptr d n 0 else v
def kD (size:Nat)(l:List (List AV)):Bool:=l.all (·.length == size)
def pD (bytes n:Nat):Bool:=decide (n*bytes<=140737488355328)&&decide (n<=140737488355328)
theorem XC {b n:Nat}:pD b n=true↔n*b<=140737488355328/\n<=140737488355328:=by simp[pD]
theorem Ra (z:Nat):kD z []=true:=rfl
theorem wH (z:Nat)(c:List AV)(l:List (List AV)):kD z (c::l)=(decide (c.length=z)&&kD z l):=rfl
theorem jL (z:Nat)(l m:List (List AV)):kD z (l++m)=(kD z l&&kD z m):=by simp[kD]
theorem nF {α:Type}(z:Nat)(f:α->List AV)(l:List α)(h:∀x,(f x).length=z):kD z (l.map f)=true:=by simp[kD,h]
theorem qM {z:Nat}{l:List (List AV)}(h:kD z l=true)(n:Nat):kD z (l.take n)=true:=by
 simp only[kD,ye]at h ⊢;exact fun x hx=>h x (Y0i hx)
theorem sO {z:Nat}{l:List (List AV)}(h:kD z l=true)(n:Nat):kD z (l.drop n)=true:=by
 simp only[kD,ye]at h ⊢;exact fun x hx=>h x (List.mem_of_mem_drop hx)
def AV.cA:AV->Bool
 |.int ..|.bool _|.str _=>true
 |_=>false
def AV.flat:AV->Bool
 |.agg cs=>cs.all AV.cA
 |v=>v.cA
def xL (L:List (List AV)):AV:=.fA [.undef,.sl false L]
def LV:AV->Option (List (List AV))
 |.fA [.undef,.sl false L]=>some L
 |_=>none
theorem cL (L:List (List AV)):LV (xL L)=some L:=rfl
def Eu (T e:TypeId)(s:ByteArray):AV:=.fA [.undef,.undef,.int .i64 (T:Nat),.int .i64 (e:Nat),.str s]
def bldOf:AV->Option (TypeId×TypeId×ByteArray)
 |.fA [.undef,.undef,.int _ T,.int _ e,.str s]=>some (T.toNat,e.toNat,s)
 |_=>none
def Gl:List (List AV)->List Nat
 | [.int _ i]::r=>i.toNat::Gl r
 |_=>[]
def Qs:AV->Option (Nat×Nat×Nat×List Nat)
 |.fA [.undef,.undef,.undef,.mp tm nm,.int _ N,.sl false l]=>some (tm,nm,N.toNat,Gl l)
 |_=>none
def Ew (S:AV):Bool:=(Qs S).isNone
def Ki:Option AV->Bool
 |none=>true
 |some S=>Ew S
def kS:List (Option IntKind)->List AV->Bool
 | [],[]=>true
 |.some k::r,.int k' _::cs=>decide (k=k')&&kS r cs
 |.none::r,.str _::cs=>kS r cs
 |_,_=>false
def LK:Mf->AV->Bool
 |.some k,.int k' _=>decide (k=k')
 |.none,.str _=>true
 |.agg l,.agg cs=>kS l cs
 |_,_=>false
def nP (ty:Mf)(L:List (List AV)):Bool:=L.all fun e=>match e with
 | [k,v]=>LK ty k&&v.flat
 |_=>false
def KZ:List AV->List AV->Bool
 | [],[]=>true
 |.int k a::r,.int k' b::r'=>(decide (k=k')&&decide (a=b))&&KZ r r'
 |.str a::r,.str b::r'=>decide (a=b)&&KZ r r'
 |_,_=>false
def rU:AV->AV->Bool
 |.int k a,.int k' b=>decide (k=k')&&decide (a=b)
 |.str a,.str b=>decide (a=b)
 |.agg a,.agg b=>KZ a b
 |_,_=>false
def iM:List (List AV)->AV->Option AV
 | [],_=>none
 |e::r,k=>match e with
  | [k',v]=>if rU k' k then some v else iM r k
  |_=>iM r k
def DK:List (List AV)->AV->AV->List (List AV)
 | [],k,v=>[[k,v]]
 |e::r,k,v=>match e with
  | [k',_]=>if rU k' k then [k,v]::r else e::DK r k v
  |_=>e::DK r k v
abbrev RV:=AV×Option AV
abbrev sE:=Nat->List AV->Option AV->Option RV
abbrev LpT:=C->LC->(Ex->LC->Option RV)->Option RV
abbrev HpT:=Nat->List SC->LC->(SC->LC->Option RV)->Option RV
structure LH where
 l:LpT
 h:HpT
instance:CoeFun LH (fun _=>LpT):=⟨LH.l⟩
def KC (agg:Bool)(size off:Nat)(row:List SC)(x:AV)(a:An):Option (List SC) :=
 if agg then match x with
  |.agg cs=>if cs.length=size/\off+size<=row.length then some (row.take off++cs.map (⟨·,.no⟩)++row.drop (off+size))else none
  |_=>none
 else if x.leaf/\off<row.length then some (row.set off ⟨x,a⟩)else none
def tE:Bool->An->An
 |true,_=>.ex
 |false,a=>a
def LY (b:Bool)(a:An):Bool:=match tE b a with
 |.ex=>true
 |_=>false
def EJ:AV->An
 |.sl true _=>.ex
 |_=>.no
def AV.xA (s:LC):AV->AV
 |.ref t n sz off len c=>match(s.mem t n).bind fun r=>KG r sz off len with
  |some l=>.sl false l
  |none=>.ref t n sz off len c
 |v=>v
def fT (s:LC)(row:List SC)(sz off len:Nat):Option (List (List AV)):=(PH row sz off len).bind fun l =>
 if(l.map fun c=>c.map (AV.xA s)).flatten.all AV.tA=true then some (l.map fun c=>c.map (AV.xA s))else none
def AV.lA (s:LC):AV->AV
 |.ref t n sz off len c=>match(s.mem t n).bind fun r=>KG r sz off len with
  |some l=>.sl false l
  |none=>match(s.mem t n).bind fun r=>fT s r sz off len with
   |some l=>.sl false l
   |none=>.ref t n sz off len c
 |v=>v
def AV.FA (s:LC):AV->AV
 |.agg cs=>.agg (cs.map (AV.lA s))
 |v=>v.lA s
def AV.plain:AV->Bool
 |.fA vs=>vs.all AV.cA
 |v=>v.cA
def K.run (call:sE)(s:LC):K->Option (SC×uG)
 |.mv x=>some (⟨x.get s,x.an s⟩,.none)
 |.pick c a b=>match c.get s with
  |.bool t=>some (if t then⟨a.get s,a.an s⟩else⟨b.get s,b.an s⟩,.none)
  |_=>none
 |.alloc zero=>some (⟨.ptr 0 0 0,.no⟩,.new (zero.map fun v=>⟨v,EJ v⟩))
 |.box size x=>match x.get s with
  |.agg cs=>if cs.length=size then some (⟨.ptr 0 0 0,.no⟩,.new (cs.map (⟨·,.no⟩)))else none
  |v=>if v.leaf then some (⟨.ptr 0 0 0,.no⟩,.new [⟨v,x.an s⟩])else none
 | .build zero parts=>if parts.all (fun p=>(p.2.2.get s).whole) then
   (nV zero (parts.map fun p=>(p.1,p.2.1,(p.2.2.get s).cells))).map fun cs=>(⟨.agg cs,.no⟩,.none)else none
 | .IA zero n parts=>if parts.map (·.1)=List.range n/\parts.all (fun p=>(p.2.get s).free&&decide ((p.2.get s).cells.length=zero.length)) then
   some (⟨.sl false (parts.map fun p=>(p.2.get s).cells),.ex⟩,.none)else none
 |.load cl agg size x=>match x.get s with
  |.ptr t n off=>if cl.TA t then((s.mem t n).bind (eD agg size off)).map fun x=>(x,.none)else none
  |.ip cs=>match cl with
   |.root _=>none
   |_=>(XI agg size cs).map fun v=>(⟨v,.no⟩,.none)
  |.bp cs=>match cl with
   |.root _=>none
   |_=>(XI agg size cs).map fun v=>(⟨v,.no⟩,.none)
  |_=>none
 |.store cl agg size x y=>match x.get s with
  |.ptr t n off=>if cl.TA t then((s.mem t n).bind fun r=>KC agg size off r (y.get s) (y.an s)).map fun r=>(⟨.undef,.no⟩,.set t n r)else none
  |_=>none
 |.clr cl zero x=>none
 |.bin op t x y=>(Rh op t (x.get s) (y.get s)).map fun v=>(⟨v,.no⟩,.none)
 |.mm mx x y=>(mmC mx (x.get s) (y.get s)).map fun v=>(⟨v,.no⟩,.none)
 |.QC neg ks x y=>match x.get s,y.get s with
  |.agg a,.agg b=>(BM ks a b).map fun t=>(⟨.bool (t != neg),.no⟩,.none)
  |_,_=>none
 |.jC neg ptr x y=>match ptr,y.get s with
  |false,.sl true _=>(bJ false (x.get s)).map fun t=>(⟨.bool (t != neg),.no⟩,.none)
  |true,.EA=>(bJ true (x.get s)).map fun t=>(⟨.bool (t != neg),.no⟩,.none)
  |_,_=>none
 |.un op x=>match op,x.get s with
  |.not,.bool b=>some (⟨.bool (!b),.no⟩,.none)
  |.neg,.int k n=>some (⟨.int k (k.wrap (0-n)),.no⟩,.none)
  |_,_=>none
 |.conv k x=>match k,x.get s with
  |some k,.int _ n=>some (⟨.int k (k.wrap n),.no⟩,.none)
  |none,.str b=>some (⟨.str b,.no⟩,.none)
  |_,_=>none
 |.GB x=>match x.get s with
  |.int _ n=>some (⟨.str (Utf8.encode n),.no⟩,.none)
  |_=>none
 |.eC cl x=>match(x.get s).elems s cl with
  |some l=>(bytesOf l).map fun bs=>(⟨.str ⟨bs.toArray⟩,.no⟩,.none)
  |none=>none
 |.tC cl ln size x lo hi=>match x.get s with
  |.ptr t n o=>match kL s 0 lo,kL s ln hi,s.mem t n with
   | some l,some h,some r=>if l<=h/\h<=ln/\0<size/\o + ln * size<=r.length/\cl.gA=true then
     (if h=l then some (⟨.sl false [],.no⟩,.none)else some (⟨.ref t n size (o+l*size) (h-l) (ln-l),.no⟩,.none))else none
   |_,_,_=>none
  |_=>none
 |.zC f xs=>if xs.all (fun x=>(x.get s).mB)then some (⟨.fn f (xs.map (·.get s)),.no⟩,.none)else none
 |.JA cl x xs=>match x.get s with
  |.fn f cs=>match DH s cl xs,gG s cl cs,rK s xs with
   |some vs,some ws,[]=>(call f (vs++ws) none).bind fun r=>match r.2 with
    |none=>if r.1.back then some (⟨r.1,.no⟩,.none)else none
    |some _=>none
   |_,_,_=>none
  |_=>none
 |.uB cl f xs=>match WO s xs with
  |some (t,n)=>if cl.TA t then(match s.mem t n,uM s cl t n xs with
   | some r,some vs=>if r.all (fun x=>x.v.tA) then (call f (.undef :: .undef :: vs) (some (.agg (r.map (·.v))))).bind fun q=>match q.2 with
     |some (.agg cs)=>if q.1.back/\cs.length=r.length/\cs.all AV.tA=true then some (⟨q.1,.no⟩,.set t n (cs.map fun v=>⟨v,EJ v⟩))else none
     |_=>none else none
   |_,_=>none)else none
  |none=>none
 |.mA ..=>none
 |.bad=>none
 |.PC size bytes zero ln cap=>match XV (ln.get s),XV (cap.get s)with
  |some l,some c=>if l<=c/\c*bytes<=140737488355328/\c<=140737488355328/\zero.length=size then some (⟨.ref 0 0 size 0 l c,.no⟩,.new ((List.replicate c zero).flatten.map (⟨·,.no⟩)))else none
  |_,_=>none
 |.nC str size x lo hi mx=>match mx with
  |some _=>none
  |none =>
   match kL s 0 lo with
   |none=>none
   |some l=>match x.get s with
    |.sl b e=>match kL s e.length hi with
     |some h=>if l<=h/\h<=e.length/\kD size e=true/\str=false then some (⟨.sl b ((e.take h).drop l),.no⟩,.none)else none
     |_=>none
    |.bl e=>match kL s e.length hi with
     |some h=>if l<=h/\h<=e.length/\kD size e=true/\str=false then some (⟨.bl ((e.take h).drop l),.no⟩,.none)else none
     |_=>none
    |.ref t n sz off ln cap=>match kL s ln hi with
     |some h=>if l<=h/\h<=cap/\sz=size/\str=false then(if h=l/\¬(l=0/\0<cap)then some (⟨.sl false [],.no⟩,.none)else some (⟨.ref t n sz (off+l*sz) (h-l) (cap-l),.no⟩,.none))else none
     |_=>none
    |.str b=>match kL s b.size hi with
     |some h=>if l<=h/\h<=b.size/\str=true then some (⟨.str (b.extract l h),.no⟩,.none)else none
     |_=>none
    |_=>none
 |.PA off x=>match x.get s with
  |.ptr t n o=>some (⟨.ptr t n (o+off),.no⟩,.none)
  |.ip cs=>some (⟨.ip (cs.drop off),.no⟩,.none)
  |.bp cs=>some (⟨.bp (cs.drop off),.no⟩,.none)
  |_=>none
 |.field agg off size x=>match x.get s with
  |.agg cs=>(XI agg size (cs.drop off)).map fun v=>(⟨v,.no⟩,.none)
  |_=>none
 |.PB ln size x i=>match XV (i.get s)with
  |some k=>if k<ln then(match x.get s with
   |.ptr t n o=>some (⟨.ptr t n (o+k*size),.no⟩,.none)
   |.ip cs=>some (⟨.ip (cs.drop (k*size)),.no⟩,.none)
   |.bp cs=>some (⟨.bp (cs.drop (k*size)),.no⟩,.none)
   |_=>none)else none
  |none=>none
 |.aB size x i=>match XV (i.get s)with
  |some k=>match x.get s with
   |.sl _ l=>l[k]?.bind fun cs=>if cs.length=size then some (⟨.ip cs,.no⟩,.none)else none
   |.bl l=>l[k]?.bind fun cs=>if cs.length=size then some (⟨.bp cs,.no⟩,.none)else none
   |.ref t n sz off ln _=>if k<ln/\sz=size then some (⟨.ptr t n (off+k*sz),.no⟩,.none)else none
   |_=>none
  |none=>none
 |.index x i=>match XV (i.get s),x.get s with
  |some k,.str b=>b[k]?.map fun u=>(⟨.int .u8 u.toNat,.no⟩,.none)
  |_,_=>none
 |.ext x i=>match x.get s with
  |.fA vs=>vs[i]?.map fun v=>(⟨v,.no⟩,.none)
  |_=>none
 |.call cl f xs=>(DH s cl xs).bind fun vs=>match rK s xs with
  | []=>(call f vs none).bind fun r=>match r.2 with
   |none=>if r.1.back then some (⟨r.1,.no⟩,.none)else none
   |some S=>if r.1.mC/\cl.gA/\Ew S=true then some (⟨r.1,.no⟩,.mk S)else none
  | [(t,n)]=>(call f vs (s.obj t n)).bind fun r=>match r.2 with
   |none=>none
   |some S=>if r.1.back/\(s.obj t n).isSome/\Ew S=true then some (⟨r.1,.no⟩,.obj t n S)else none
  |_=>none
 |.sB cl f sz xs=>none
 |.LA cl f sz xs=>match DH s cl xs,rK s xs with
  |some vs,[]=>(call f (.undef::vs) none).bind fun r=>match r with
   | (.sl b l,none)=>if kD sz l=true/\l.flatten.all AV.tA=true/\0<sz then
     (if l.isEmpty then some (⟨.sl b [],.ex⟩,.none)else if b then none else some (⟨.ref 0 0 sz 0 l.length l.length,.no⟩,.new (qD l)))else none
   |_=>none
  |_,_=>none
 |.nA cl f sz L x xs=>match DH s cl xs,rK s xs with
  |some vs,[]=>if vs.all AV.free=true then(match x.get s with
   |.ref t n z off ln _=>(match(AV.ref t n z off ln 0).elems s cl with
    | some l=>if off=0/\z=sz/\t≠0/\L.contains t=false then (call f (.undef :: .sl false l :: vs) (some (.int .i64 sz))).bind fun r=>match r with
      |(.sl false l',none)=>if kD sz l'=true/\l'.flatten.all AV.tA=true/\0<sz then some (⟨.ref 0 0 sz 0 l'.length l'.length,.no⟩,.rn (some (t,n)) (qD l'))else none
      |_=>none else none
    |none=>none)
   |.sl b []=>if LY b (x.an s)=true then(call f (.undef :: .sl b []::vs) (some (.int .i64 sz))).bind fun r=>match r with
      |(.sl false l',none)=>if kD sz l'=true/\l'.flatten.all AV.tA=true/\0<sz then some (⟨.ref 0 0 sz 0 l'.length l'.length,.no⟩,.new (qD l'))else none
      |_=>none else none
   |_=>none)else none
  |_,_=>none
 | .bA cl f xs=>if cl.gA=true/\(xs.map fun x=>(x.get s).FA s).all AV.free=true then
   (call f (xs.map fun x=>(x.get s).FA s) none).bind fun r=>match r with
    |(v,none)=>if v.plain then some (⟨v,.no⟩,.none)else none
    |_=>none else none
 |.len str x=>match x.get s with
  |.sl _ l=>if str then none else some (⟨.int .i64 l.length,.no⟩,.none)
  |.bl l=>if str then none else some (⟨.int .i64 l.length,.no⟩,.none)
  |.ref _ _ _ _ ln _=>if str then none else some (⟨.int .i64 ln,.no⟩,.none)
  |.str b=>if str then some (⟨.int .i64 b.size,.no⟩,.none)else none
  |_=>none
 |.app cl e size bytes x y=>match x.get s,(y.get s).elems s cl with
  | .sl b l,some m=>if pD bytes (l.length + m.length)=true/\kD size (l++m)=true then
    (match tE b (x.an s)with
    |.no=>none
    |.own k e'=>if e'=e then some (⟨.sl (b&&m.isEmpty) (l++m),.own 0 e⟩,.app (.own k e') 0)else none
    |.ex=>some (⟨.sl (b&&m.isEmpty) (l++m),.own 0 e⟩,.app .ex 0))else none
  |_,_=>none
 |.dB cl e size bytes x y=>match x.get s,(y.get s).elems s cl with
  | .sl b l,some m=>if pD bytes (l.length + m.length)=true/\kD size (l++m)=true then
    (match tE b (x.an s)with
    |.ex=>if m.isEmpty then some (⟨.sl b l,.ex⟩,.none)else some (⟨.ref 0 0 size 0 (l.length+m.length) (l.length+m.length),.no⟩,.new (qD (l++m)))
    |_=>none)else none
  |_,_=>none
 |.RA cl e size bytes x y=>match x.get s,(y.get s).elems s cl with
  | .sl b l,some m=>if pD bytes (l.length + m.length)=true/\kD size (l++m)=true then
    (match tE b (x.an s)with
    |.ex=>if m.isEmpty then some (⟨.sl b l,.ex⟩,.none)else some (⟨.ref 0 0 size 0 (l.length+m.length) (l.length+m.length),.no⟩,.new (qD (l++m)))
    |_=>none)else none
  |.ref t n sz off ln _,some m=>match(AV.ref t n sz off ln 0).elems s cl with
   | some l=>if off=0/\sz=size/\pD bytes (ln + m.length)=true/\kD size m=true/\t≠0 then
     some (⟨.ref 0 0 size 0 (ln+m.length) (ln+m.length),.no⟩,.rn (some (t,n)) (qD (l++m)))else none
   |none=>none
  |_,_=>none
 |.jB cl e size bytes x y=>match x.get s,(y.get s).QB s cl with
  | .sl b l,some m=>if pD bytes (l.length + m.length)=true/\kD size (l++m)=true/\0<m.length then
    (match tE b (x.an s)with
    |.ex=>some (⟨.ref 0 0 size 0 (l.length+m.length) (l.length+m.length),.no⟩,.new (qD (l++m)))
    |_=>none)else none
  |.ref t n sz off ln _,some m=>match(AV.ref t n sz off ln 0).QB s cl with
   | some l=>if off=0/\sz=size/\pD bytes (ln + m.length)=true/\kD size m=true/\t≠0/\(l++m).flatten.all (AV.eB t n)=true then
     some (⟨.ref 0 0 size 0 (ln+m.length) (ln+m.length),.no⟩,.rn (some (t,n)) (qD (l++m)))else none
   |none=>none
  |_,_=>none
 | .SB size zero n parts=>if parts.map (·.1)=List.range n/\parts.all (fun p=>(p.2.get s).whole&&decide ((p.2.get s).cells.length=zero.length))/\0<n/\zero.length=size then
   some (⟨.ref 0 0 size 0 n n,.no⟩,.new (qD (parts.map fun p=>(p.2.get s).cells)))else none
 |.OC=>some (⟨.mp 0 0,.no⟩,.mk (xL []))
 |.mkb T e=>some (⟨.ptr 0 0 0,.no⟩,.mk (Eu T e ⟨#[]⟩))
 |.LB ok ty zero x k=>match x.get s with
  |.mp t n=>match(s.obj t n).bind LV with
   | some L=>if nP ty L=true/\LK ty (k.get s)=true/\zero.flat=true then
     some (⟨if ok then .fA [(iM L (k.get s)).getD zero,.bool (iM L (k.get s)).isSome]else(iM L (k.get s)).getD zero,.no⟩,.none)else none
   |none=>none
  |_=>none
 |.HB ty x k v=>match x.get s with
  |.mp t n=>match(s.obj t n).bind LV with
   | some L=>if nP ty L=true/\LK ty (k.get s)=true/\(v.get s).flat=true then
     some (⟨.undef,.no⟩,.obj t n (xL (DK L (k.get s) (v.get s))))else none
   |none=>none
  |_=>none
 |.rC x=>none
 |.fC x=>none
 |.XA _=>none
 |.ent x=>none
 |.slz x=>none
 |.WA x=>match x.get s with
  |.ptr t n o=>some (⟨.ptr t n o,.no⟩,.none)
  |.ip cs=>some (⟨.ip cs,.no⟩,.none)
  |.bp cs=>some (⟨.bp cs,.no⟩,.none)
  |_=>none
def aD.eff (o:aD)(s:LC):SC×uG->Option LC
 |(x,.none)=>some (s.put o.dst x)
 |(x,.new r)=>match o.dst with
  |none=>none
  |some d=>some ((s.setRow d s.next r).put (some d) ⟨match x.v with|.ref _ _ sz off l c=>.ref d s.next sz off l c|_=>.ptr d s.next 0,.no⟩)
 |(x,.set t n r)=>some ((s.setRow t n r).put o.dst x)
 |(x,.app a _)=>match o.dst with
  |none=>none
  |some d=>some (((s.zB a).strip d).put (some d) ⟨x.v,match x.a with|.own _ e=>.own d e|a=>a⟩)
 |(x,.obj t n S)=>some ((s.setObj t n S).put o.dst x)
 |(x,.mk S)=>match o.dst with
  |none=>none
  |some d=>some ((s.setObj d s.next S).put (some d) ⟨x.v.named d s.next,.no⟩)
 |(x,.bB t n S r)=>match o.dst with
  |none=>none
  |some d=>some (((s.setObj t n S).setRow d s.next r).put (some d) ⟨match x.v with|.ref _ _ sz off l c=>.ref d s.next sz off l c|_=>.ptr d s.next 0,.no⟩)
 |(x,.rn k r)=>match o.dst with
  |none=>none
  |some d=>some (((s.zA k).setRow d s.next r).put (some d) ⟨match x.v with|.ref _ _ sz off l c=>.ref d s.next sz off l c|_=>.ptr d s.next 0,.no⟩)
def aD.step (call:sE)(o:aD)(s:LC):Option LC :=
 match o.guard with
 |none=>(o.op.run call s).bind (o.eff s)
 |some (t,want)=>match(s.env t).v with
  |.bool b=>if b=want then(o.op.run call s).bind (o.eff s)else some (s.put o.dst ⟨.fA [],.no⟩)
  |.fA []=>some (s.put o.dst ⟨.fA [],.no⟩)
  |_=>none
def LC.enter (s:LC)(nt:Nat):LC:={ s with next:=s.next+1,gh:=fun t=>if t<nt then s.env t else s.gh (t-nt) }
def LC.leave (s:LC)(nt:Nat):LC:={ s with env:=fun t=>if t<nt then s.gh t else⟨.undef,.no⟩,gh:=fun t=>s.gh (t+nt) }
def NN (s:LC)(xs:List EE):List SC:=xs.map fun x=>⟨x.get s,x.an s⟩
def AG (lh:LH)(d:Option Nat)(nt:Nat)(x:EE)(xs:List EE)(s:LC)(k:LC->Option RV):Option RV:=match x.get s with
 |.fn f cs=>lh.h f (NN s xs++cs.map (⟨·,.no⟩)) (s.enter nt) fun y s'=>k ((s'.leave nt).put d y)
 |_=>none
noncomputable def k0 (d:Option Nat)(x:EE)(s:LC)(k:LC->Option RV):Option RV:=none
def eM (s:LC)(d:Option Nat)(g:Option (Nat×Bool))(a:Option RV)(k:LC->Option RV):Option RV:=match g with
 |none=>a
 |some (t,want)=>match(s.env t).v with
  |.bool b=>if b=want then a else k (s.put d ⟨.fA [],.no⟩)
  |.fA []=>k (s.put d ⟨.fA [],.no⟩)
  |_=>none
noncomputable def aD.uA (call:sE)(lh:LH)(o:aD)(s:LC)(k:LC->Option RV):Option RV:=match o.op with
 |.mA nt x xs=>eM s o.dst o.guard (AG lh o.dst nt x xs s k) k
 |.XA x=>eM s o.dst o.guard (k0 o.dst x s k) k
 |_=>(o.step call s).bind k
noncomputable def eJ (call:sE)(lh:LH):List aD->LC->(LC->Option RV)->Option RV
 | [],s,k=>k s
 |o::r,s,k=>o.uA call lh s fun s=>eJ call lh r s k
noncomputable def C.run (call:sE)(lp:LH):C->LC->(Ex->LC->Option RV)->Option RV
 |.skip,s,k=>k .nrm s
 |.seq a b,s,k=>a.run call lp s fun e s=>match e with
  |.nrm=>b.run call lp s k
  |e=>k e s
 |.reg ops,s,k=>eJ call lp ops s fun s=>k .nrm { s with next:=s.next+1 }
 |.cond c t e,s,k=>match c.get s with
  |.bool b=>if b then t.run call lp s k else e.run call lp s k
  |_=>none
 |.block id b,s,k=>b.run call lp s fun e s=>match e with
  |.exit j=>if j=id then k .nrm s else k (.exit j) s
  |e=>k e s
 |.loop b,s,k=>lp b s k
 |.exit id,s,k=>k (.exit id) s
 |.ret,s,k=>k .ret s
inductive Wp where
 |tmp (t:Nat)
 |cell (t:Nat) (agg:Bool) (size:Nat)
structure FD where
 code:C
 res:List Wp
 np:Nat
 mu:List Nat:=[]
def zW (s:LC):List Wp->Option (List AV)
 | []=>some []
 |.tmp t::r=>(zW s r).map ((s.env t).v :: ·)
 |.cell t agg size::r=>match(s.env t).v with
  |.ptr t n off=>((s.mem t n).bind (eD agg size off)).bind fun x=>(zW s r).map (x.v :: ·)
  |_=>none
def KY:List AV->AV
 | [v]=>v
 |vs=>.fA vs
def Ax:List AV->Option (Nat×Nat)
 | []=>none
 |.ptr t n 0::_=>some (t,n)
 |_::r=>Ax r
def WL (t n:Nat):AV->AV
 |.ptr t' n' o=>if t'=t/\n'=n/\o=0 then .ptr 0 0 0 else .undef
 |v=>v
def TZ (S0:Option AV)(s:LC)(vs:List AV):Option RV :=
 match S0 with
 |some _=>if vs.all AV.free then(s.obj 0 0).map fun S=>(KY vs,some S)else none
 |none=>if vs.all AV.free then some (KY vs,none)else match Ax vs with
  |some (t,n)=>match s.obj t n with
   | some S=>if(vs.map (WL t n)).all (fun v=>v.free||v.NA)then some (KY (vs.map (WL t n)),some S)else none
   |none=>none
  |none=>none
def JJ (f:FD)(S0:Option AV):Ex->LC->Option RV
 |.exit _,_=>none
 |_,s=>(zW s f.res).bind fun vs=>TZ S0 s (vs.map (AV.FA s))
def LC.init (args:List AV)(S0:Option AV):LC:=⟨fun t=>⟨args.getD t .undef,.no⟩,fun _ _=>none,1,fun t n=>if t=0/\n=0 then S0 else none,fun _=>⟨.undef,.no⟩⟩
def LC.NB (args:List AV)(cs:List AV):LC:=⟨fun t=>⟨args.getD t .undef,.no⟩,fun t n=>if t=0/\n=0 then some (cs.map fun v=>⟨v,EJ v⟩)else none,1,fun _ _=>none,fun _=>⟨.undef,.no⟩⟩
def LC.tB (s:LC):LC:={ s with mem:=fun t n=>if t=0/\n=0 then none else s.mem t n }
def Ok (n:Nat)(s:LC)(vs:List AV):Option RV :=
 if vs.all AV.free then(s.mem 0 0).bind fun r =>
  if(r.map fun x=>AV.lA s.tB x.v).all AV.tA=true/\r.length=n then some (KY vs,some (.agg (r.map fun x=>AV.lA s.tB x.v)))else none
 else none
def Ik (f:FD)(n:Nat):Ex->LC->Option RV
 |.exit _,_=>none
 |_,s=>(zW s f.res).bind fun vs=>Ok n s (vs.map (AV.FA s.tB))
def tU:List AV->Option (List AV)
 |.undef :: .undef::r=>some r
 |_=>none
def aN (lp:LpT)(b:C)(k:Ex->LC->Option RV):Ex->LC->Option RV
 |.nrm,s=>lp b s k
 |e,s=>k e s
def zI:List AV->Bool
 |.undef::_=>true
 |_=>false
def NH (s:LC):List Wp->Option (List SC)
 | []=>some []
 |.tmp t::r=>(NH s r).map (s.env t :: ·)
 |.cell t agg size::r=>match(s.env t).v with
  |.ptr t n off=>((s.mem t n).bind (eD agg size off)).bind fun x=>(NH s r).map (⟨x.v,.no⟩ :: ·)
  |_=>none
def AV.UC:AV->Bool
 |.bp _|.bl _|.fn ..|.fA _=>false
 |_=>true
def qK:List SC->Option SC
 | [x]=>some x
 |l=>if l.all (fun x=>x.v.UC)then some ⟨.fA (l.map (·.v)),.no⟩else none
def SK (f:FD)(k:SC->LC->Option RV):Ex->LC->Option RV
 |.exit _,_=>none
 |_,s=>((NH s f.res).bind qK).bind fun x=>k x s
def LC.lB (s:LC)(args:List SC):LC:={ s with env:=fun t=>args.getD t ⟨.undef,.no⟩ }
def FM (f:FD):Ex->LC->Option RV
 |.exit _,_=>none
 |_,s=>match NH s f.res with
  |some [⟨.sl b [],a⟩]=>if LY b a=true then some (.sl b [],none)else none
  |some [⟨.ref t n sz 0 (len+1) _,_⟩]=>((s.mem t n).bind fun r=>KG r sz 0 (len+1)).map fun l=>(.sl false l,none)
  |_=>none
mutual
noncomputable def xG (T:Nat->Option FD)(ext:sE):Nat->sE
 |0,f,args,S0=>match T f with
  |none=>ext f args S0
  |some _=>none
 |n+1,f,args,S0=>match T f with
  |none=>ext f args S0
  |some c=>match tU args,S0 with
   |some rest,some (.agg cs)=>if rest.length=c.np/\zI rest=false then c.code.run (xG T ext n) ⟨RL T ext n,MM T ext n⟩ (LC.NB rest cs) (Ik c cs.length)else none
   |some _,_=>none
   |none,_=>if args.length=c.np/\zI args=false/\Ki S0=true then c.code.run (xG T ext n) ⟨RL T ext n,MM T ext n⟩ (LC.init args S0) (JJ c S0)
    else if args.length=c.np+1/\zI args=true/\zI args.tail=false/\S0.isNone=true then c.code.run (xG T ext n) ⟨RL T ext n,MM T ext n⟩ (LC.init args.tail none) (FM c)else none
noncomputable def RL (T:Nat->Option FD)(ext:sE):Nat->LpT
 |0,_,_,_=>none
 |n+1,b,s,k=>b.run (xG T ext n) ⟨RL T ext n,MM T ext n⟩ s (aN (RL T ext n) b k)
noncomputable def MM (T:Nat->Option FD)(ext:sE):Nat->HpT
 |0,_,_,_,_=>none
 |n+1,f,args,s,k=>match T f with
  |none=>none
  |some c=>if args.length=c.np then c.code.run (xG T ext n) ⟨RL T ext n,MM T ext n⟩ (s.lB args) (SK c k)else none
end
section
def K2:Value->Option AV
 |.int k n=>some (.int k n)
 |.bool b=>some (.bool b)
 |.string s=>some (.str s)
 |.pointer none=>some .EA
 |.slice none 0 0=>some (.sl true [])
 |.map none=>some .undef
 |_=>none
def TM:List Value->Option (List AV)
 | []=>some []
 |v::r=>match K2 v,TM r with
  |some x,some l=>some (x::l)
  |_,_=>none
def Gg:Value->Option AV
 |.agg cs=>(TM cs.toList).map .agg
 |v=>K2 v
def pA:Operand->Option EE
 |.tmp t=>some (.t t)
 |.const v=>(Gg v).map .c
 |.func f=>some (.c (.fn f []))
 |_=>none
section
variable (P:Program)
def QL (t:TypeId):Option Bool:=(P.underlying t).map fun|.struct _=>true|.array ..=>true|_=>false
def CE (t:TypeId):Option Nat:=(P.info? t).map (·.size)
def JL (t:TypeId):Option (List AV):=((P.info? t).bind (·.zero)).bind fun z=>TM z.cells.toList
def tScal (t:TypeId):Bool:=match P.underlying t with|some (.int _)=>true|some .string=>true|some .bool=>true|_=>false
def aA:List (Nat×Operand)->Option (List (Nat×EE))
 | []=>some []
 |(i,x)::r=>match pA x,aA r with
  |some x,some l=>some ((i,x)::l)
  |_,_=>none
def FI:List Operand->Option (List EE)
 | []=>some []
 |x::r=>match pA x,FI r with
  |some x,some l=>some (x::l)
  |_,_=>none
def JY:Option Operand->Option (Option EE)
 |none=>some none
 |some x=>(pA x).map some
def TS (pl:Nat->Option (Nat×Nat)):List (Nat×EE)->Option (List (Nat×Nat×EE))
 | []=>some []
 |(i,x)::r=>match pl i,TS pl r with
  |some (off,z),some l=>some ((off,z,x)::l)
  |_,_=>none
def U2 (t:TypeId):Option Nat:=match P.underlying t,CE P t with
 |some (.int _),some 1=>some 0
 |some .string,some 1=>some 1
 |some .bool,some 1=>some 2
 |_,_=>none
def MS (r:TypeId->Option (List Nat))(i:Nat):List Field->Option (List Nat)
 | []=>some []
 | f :: fs=>(r f.type).bind fun l=>if f.name≠"_"/\f.offset=i then (MS r (i + l.length) fs).map (l++·) else none
def nJ:Nat->TypeId->Option (List Nat)
 |0,_=>none
 |n+1,t=>match U2 P t with
  |some k=>some [k]
  |none=>match P.underlying t with
   |some (.array m e)=>(nJ n e).bind fun l=>if P.cellsOf e=l.length/\CE P e=some l.length/\CE P t=some (List.replicate m l).flatten.length then some (List.replicate m l).flatten else none
   |some (.struct fs)=>if P.stoodInHeld t then none else(MS (nJ n) 0 fs.toList).bind fun l=>if CE P t=some l.length then some l else none
   |_=>none
def pU (t:TypeId):Option (List Nat):=if P.eqGuardType P.depth t then none else match P.underlying t with
 |some (.array ..)=>nJ P 8 t
 |some (.struct _)=>nJ P 8 t
 |_=>none
def scalK (t:TypeId):Option (Option IntKind):=match P.underlying t with
 |some (.int k)=>some (some k)
 |some .string=>some none
 |_=>none
def keysT (t:TypeId):Option (List (Option IntKind)):=match P.underlying t with
 |some (.array n e)=>(scalK P e).map (List.replicate n)
 |some (.struct fs)=>fs.toList.mapM fun f=>scalK P f.type
 |_=>none
def nM:Option IntKind->Nat
 |some _=>0
 |none=>1
def LZ (t:TypeId):Option Mf:=match P.underlying t with
 |some (.int k)=>some (.some k)
 |some .string=>some .none
 |_=>(keysT P t).bind fun l=>if pU P t=some (l.map nM)/\l≠[]then some (.agg l)else none
def Qi:List AV->Bool
 | [.EA,.sl true []]=>true
 |_=>false
def Uh (e:TypeId):Option TypeId:=if(JL P e).map Qi=some true then(match P.underlying e with
  |some (.struct fs)=>(fs[1]?).bind fun f=>match P.underlying f.type with
   |some (.slice el)=>some el
   |_=>none
  |_=>none)else none
def isZ:Option Operand->Bool
 |some (.const (.int .i64 n))=>decide (n=0)
 |_=>false
def C9 (cl:Cl)(mu:Option Bool)(o:Go.Op)(nest:Bool:=false):Option K :=
 match o with
 |.move x|.assign x=>(pA x).map .mv
 |.pick c a b=>match pA c,pA a,pA b with
  |some c,some a,some b=>some (.pick c a b)
  |_,_,_=>none
 |.alloc e=>match mu with
  |none=>(JL P e).map .alloc
  |some _=>(Uh P e).map (.mkb e)
 |.box e x=>match CE P e,pA x with
  |some z,some x=>some (.box z x)
  |_,_=>none
 |.build t ps=>match P.underlying t,JL P t,aA ps.toList with
  |some (.struct fs),some z,some ps=>(match fs.toList.mapM (fun f=>(P.info? f.type).map fun i=>(f.offset,i.size))with
   |some pl=>(TS (pl.toArray[·]?) ps).map (.build z)
   |none=>none)
  |some (.array _ e),some z,some ps=>(match P.info? e with
   |some ie=>(TS (fun i=>some (i*ie.size,ie.size)) ps).map (.build z)
   |none=>none)
  |_,_,_=>none
 |.buildSlice t n ps=>match P.underlying t,aA ps.toList with
  |some (.slice e),some ps=>match JL P e,CE P e with
   |some z,some k=>if z.length=k/\0<k/\n*k<=16777216 then(match mu with|none=>some (.IA z n ps)|some _=>some (.SB k z n ps))else none
   |_,_=>none
  |_,_=>none
 |.load t x=>match QL P t,CE P t,pA x with
  |some a,some z,some x=>some (.load cl a z x)
  |_,_,_=>none
 |.store t x y=>match QL P t,CE P t,pA x,pA y with
  | some a,some z,some x,some y=>if a||z == 1 then some (.store cl a z x y)else none
  |_,_,_,_=>none
 |.binOp op t x y _=>match pA x,pA y with
  |some x,some y=>if tScal P t then some (.bin op (match P.underlying t with|some .bool=>true|_=>false) x y)else
   match op with
   |.eql=>(match P.underlying t with
    |some (.slice _)=>some (.jC false false x y)
    |some (.pointer _)=>some (.jC false true x y)
    |_=>(pU P t).map fun ks=>.QC false ks x y)
   |.neq=>(match P.underlying t with
    |some (.slice _)=>some (.jC true false x y)
    |some (.pointer _)=>some (.jC true true x y)
    |_=>(pU P t).map fun ks=>.QC true ks x y)
   |_=>none
  |_,_=>none
 |.unOp op t x=>if tScal P t then(pA x).map (.un op)else none
 |.convert s d x=>match P.underlying s,P.underlying d,pA x with
  |some (.int _),some (.int k),some x=>some (.conv (some k) x)
  |some .string,some .string,some x=>some (.conv none x)
  |some (.int _),some .string,some x=>some (.GB x)
  |some (.slice e),some .string,some x=>(match P.underlying e with
   |some (.int .u8)=>if CE P e=some 1 then some (.eC cl x)else none
   |_=>none)
  |_,_,_=>none
 |.makeSlice t l c=>match P.underlying t,pA l,pA c with
  |some (.slice e),some l,some c=>match JL P e,P.info? e with
   |some z,some i=>if z.length=i.size/\0<i.size then some (.PC i.size i.bytes z l c)else none
   |_,_=>none
  |_,_,_=>none
 |.entry x=>(pA x).map .ent
 |.slice t x lo hi mx0=>match pA x,JY lo,JY hi,JY mx0 with
  |some x,some l,some h,some m=>match P.underlying t with
   |some .string=>some (.nC true 1 x l h m)
   |some (.slice e)=>(match lo,isZ hi&&isZ mx0 with
    |none,true=>(CE P e).map fun _=>.slz x
    |_,_=>(CE P e).map fun k=>.nC false k x l h m)
   |some (.array n e)=>(match m with
    |none=>(CE P e).map fun k=>.tC cl n k x l h
    |some _=>none)
   |_=>none
  |_,_,_,_=>none
 |.fieldAddr t x i=>match P.underlying t,pA x with
  |some (.struct fs),some x=>match fs[i]? with
   |some f=>match CE P f.type with
    |some (_+1)=>some (.PA f.offset x)
    |_=>none
   |none=>none
  |_,_=>none
 |.field t x i=>match P.underlying t,pA x with
  |some (.struct fs),some x=>match fs[i]? with
   |some f=>match QL P f.type,CE P f.type with
    |some a,some z=>some (.field a f.offset z x)
    |_,_=>none
   |none=>none
  |_,_=>none
 |.indexAddr t x i=>match P.underlying t,pA x,pA i with
  |some (.slice e),some x,some i=>(CE P e).map fun k=>.aB k x i
  |some (.array n e),some x,some i=>(CE P e).map fun k=>.PB n k x i
  |_,_,_=>none
 |.index t x i=>match P.underlying t,pA x,pA i with
  |some .string,some x,some i=>some (.index x i)
  |_,_,_=>none
 |.range t x=>match P.underlying t with
  |some (.map _ _)=>(pA x).map .fC
  |_=>none
 |.makeMap t r=>match r,P.underlying t with
  |none,some (.map kT _)=>(LZ P kT).map fun _=>.OC
  |_,_=>none
 |.lookup t x i ok=>match P.underlying t,pA x,pA i with
  |some (.map kT eT),some x,some i=>match LZ P kT,((P.info? eT).bind (·.zero)).bind Gg with
   |some ty,some z=>some (.LB ok ty z x i)
   |_,_=>none
  |_,_,_=>none
 |.mapUpdate t m k v=>match P.underlying t,pA m,pA k,pA v with
  |some (.map kT _),some m,some k,some v=>(LZ P kT).map fun ty=>.HB ty m k v
  |_,_,_,_=>none
 |.insert t m k v=>match P.underlying t,pA m,pA k,pA v with
  |some (.map kT _),some m,some k,some v=>(LZ P kT).map fun ty=>.HB ty m k v
  |_,_,_,_=>none
 |.extract x i=>(pA x).map fun x=>.ext x i
 |.nilCheck x=>(pA x).map .WA
 |.call { callee:=.value (.func f),args:=xs,.. }=>match mu with
  |some false=>(match P.funcs[f]? with
   |some fn=>(match fn.resultTypes.toList with
    | [t]=>(match P.underlying t with
     |some (.slice e)=>(match CE P e,FI xs.toList with
      |some z,some xs=>if 0<z then some (.sB cl f z xs)else none
      |_,_=>none)
     |_=>none)
    |_=>none)
   |none=>none)
  |some true=>(FI xs.toList).map (.uB cl f)
  |none=>(FI xs.toList).map (.call cl f)
 |.makeFunc (.func f) fs xs=>if fs.size=0 then(FI xs.toList).map (.zC f)else none
 |.call { callee:=.value (.tmp t),args:=xs,.. }=>(FI xs.toList).map (.JA cl (.t t))
 |.call { callee:=.builtin .len,args:=xs,argTypes:=ts }=>match FI xs.toList,ts.toList with
  |some [x],[t]=>(match P.underlying t with
   |some .string=>some (.len true x)
   |some (.slice _)=>some (.len false x)
   |some (.map _ _)=>some (.rC x)
   |_=>none)
  |_,_=>none
 |.call { callee:=.builtin .clear,args:=xs,argTypes:=ts }=>match FI xs.toList,ts.toList with
  |some [x],[t]=>(match P.underlying t with
   |some (.slice e)=>(JL P e).map fun z=>.clr cl z x
   |_=>none)
  |_,_=>none
 |.call { callee:=.builtin .max,args:=xs,.. }=>match xs.toList with
  | [X,Y]=>(match pA X,pA Y with
   |some x,some y=>some (.mm true x y)
   |_,_=>none)
  |_=>none
 |.call { callee:=.builtin .min,args:=xs,.. }=>match xs.toList with
  | [X,Y]=>(match pA X,pA Y with
   |some x,some y=>some (.mm false x y)
   |_,_=>none)
  |_=>none
 |.call { callee:=.builtin .append,args:=xs,argTypes:=ts }=>match FI xs.toList,ts.toList with
  |some [x,y],[t,t']=>if t=t' then match P.underlying t with
   |some (.slice e)=>match P.info? e,JL P e with
    |some i,some z=>if z.length=i.size/\0<i.size then some (match mu with|some true=>(if nest then .jB cl e i.size i.bytes x y else .RA cl e i.size i.bytes x y)|some false=>.dB cl e i.size i.bytes x y|none=>.app cl e i.size i.bytes x y)else none
    |_,_=>none
   |_=>none else none
  |_,_=>none
 |_=>none
def T7 (cl:Cl)(mu:Option Bool)(bad nest:Bool)(o:Go.Op):Option K:=match C9 P cl mu o nest with
 |some k=>some k
 |none=>if bad then some .bad else none
def wY (cl:Cl)(hs:Nat->Bool)(L:List Nat)(o:Go.Op):Option K:=match o with
 |.call { callee:=.value (.func f),args:=xs,.. } =>
  if hs (30000000+f)then(FI xs.toList).map (.bA cl f)else
  if hs (10000000+f)||hs (20000000+f)then(match P.funcs[f]? with
   |some fn=>(match fn.resultTypes.toList with
    | [t]=>(match P.underlying t with
     |some (.slice e)=>(match CE P e,FI xs.toList with
      |some z,some ys=>if 0<z then(if hs (10000000+f)then some (.LA cl f z ys)else match ys with
       |y::r=>some (.nA cl f z L y r)
       | []=>none)else none
      |_,_=>none)
     |_=>none)
    |_=>none)
   |none=>none)else none
 |_=>none
def w4 (nt:Nat)(hs:Nat->Bool)(o:Go.Op):Option K:=match o with
 |.call { callee:=.value (.func f),args:=xs,.. }=>if hs (1000000+f)then(FI xs.toList).map (.mA nt (.c (.fn f [])))else none
 |.call { callee:=.value (.tmp t),args:=xs,.. }=>if hs (2000000+t)then(FI xs.toList).map (.mA nt (.t t))else none
 |.next x false=>(pA x).map .XA
 |_=>none
def US (boxes:List Nat)(ops:List Oper):Nat->Operand->Option Nat
 |0,_=>none
 |n+1,.tmp t=>if boxes.contains t then some t else
  match ops.find? (fun o=>o.dst == some t)with
  |some o=>match o.op with
   |.fieldAddr _ x _=>US boxes ops n x
   |.move x=>US boxes ops n x
   |.nilCheck x=>US boxes ops n x
   |_=>none
  |none=>none
 |_+1,_=>none
def isS:K->Bool
 |.store ..|.uB ..|.clr ..=>true
 |_=>false
def Ba:K->Bool
 |.mA ..=>true
 |.XA _=>true
 |_=>false
def O9:K->Bool
 |.alloc _|.box ..|.PC ..|.dB ..|.RA ..|.jB ..|.SB ..|.sB ..|.LA ..|.nA ..=>true
 |_=>false
def Pl:K->Bool
 |.RA ..=>true
 |.jB ..=>true
 |.nA ..=>true
 |.mA ..=>true
 |.XA _=>true
 |_=>false
def RW:K->Bool
 |.call ..|.sB ..|.LA ..|.nA ..|.bA ..|.JA ..|.uB ..|.OC|.mkb ..|.LB ..|.HB ..|.rC _|.fC _|.ent _=>true
 |_=>false
def Fl:K->Bool
 |.LB ..|.rC _|.ent _=>true
 |_=>false
def Kf:K->Bool
 |.app ..|.RA ..|.jB ..=>true
 |_=>false
def K.cl:K->Option Cl
 |.load cl ..=>some cl
 |.store cl ..=>some cl
 |.clr cl ..=>some cl
 |.call cl ..=>some cl
 |.sB cl ..=>some cl
 |.JA cl ..=>some cl
 |.LA cl ..=>some cl
 |.nA cl ..=>some cl
 |.bA cl ..=>some cl
 |.uB cl ..=>some cl
 |.eC cl _=>some cl
 |.tC cl ..=>some cl
 |.app cl ..=>some cl
 |.dB cl ..=>some cl
 |.RA cl ..=>some cl
 |.jB cl ..=>some cl
 |_=>none
def PK (a b:aD):Bool :=
 !Pl a.op&&!Pl b.op&&(!Kf a.op||!Kf b.op)&&(!RW a.op||!RW b.op||(Fl a.op&&Fl b.op)) &&
 (match a.op.cl,b.op.cl with
  | some c,some d=>!(isS a.op||isS b.op)||(match c,d with
   |.KB,_=>true
   |_,.KB=>true
   |.root r,.root r'=>r != r'
   |.root r,.out L=>L.contains r
   |.out L,.root r=>L.contains r
   |_,_=>false)
  |_,_=>true) &&
 (!O9 a.op||(match b.op.cl with | none=>true | some .KB=>true | some (.root r)=>a.dst != some r | some (.out L)=>(match a.dst with | some d=>L.contains d | none=>false) | some .any=>false)) &&
 (!O9 b.op||(match a.op.cl with | none=>true | some .KB=>true | some (.root r)=>b.dst != some r | some (.out L)=>(match b.dst with | some d=>L.contains d | none=>false) | some .any=>false)) &&
 (!O9 a.op||!O9 b.op||a.dst != b.dst)
def Na (o:aD):Bool:=match o.op,o.guard with
 |.mv (.t _),none=>true
 |_,_=>false
def Al:K->Bool
 |.RA ..=>true
 |.nA ..=>true
 |.jB ..=>true
 |_=>false
def Ol (o b:aD):Bool:=match o.op,o.guard,b.op with
 |.load (.root r) .false _ (.t _),none,.nA _ _ _ L _ _=>L.contains r&&b.dst != some r
 |_,_,_=>false
def Dl (o:aD):Bool:=match o.op,o.guard with
 |.WA (.t _),none=>true
 |.PA _ (.t _),none=>true
 |_,_=>false
def LQ (a b:aD):Bool:=PK a b||((Na a&&Al b.op)||(Na b&&Al a.op)||(Ol a b&&Al b.op)||(Al a.op&&Dl b))
def ZS (ops:List Oper):List Nat :=
 (ops.foldl (fun acc o=>acc.push (o.after.foldl (fun s e=>if Region.binds .any e then s ||| 2 ^ e.on ||| acc.getD e.on 0 else s) 0)) (#[]:Array Nat)).toList
def K.aA:K->List EE
 |.mv x|.box _ x|.load _ _ _ x|.un _ x|.conv _ x|.GB x|.eC _ x|.PA _ x|.field _ _ _ x|.ext x _|.len _ x|.WA x|.fC x|.XA x|.slz x|.ent x|.clr _ _ x=>[x]
 |.pick c a b=>[c,a,b]
 |.alloc _|.OC|.mkb ..|.bad=>[]
 |.LB _ _ _ x k=>[x,k]
 |.HB _ x k v=>[x,k,v]
 |.rC x=>[x]
 |.build _ ps=>ps.map (·.2.2)
 |.IA _ _ ps=>ps.map (·.2)
 |.SB _ _ _ ps=>ps.map (·.2)
 |.store _ _ _ x y|.bin _ _ x y|.mm _ x y|.QC _ _ x y|.jC _ _ x y|.PC _ _ _ x y|.aB _ x y|.PB _ _ x y|.index x y|.app _ _ _ _ x y|.dB _ _ _ _ x y|.RA _ _ _ _ x y|.jB _ _ _ _ x y=>[x,y]
 |.nC _ _ x lo hi mx=>x ::(lo.toList++(hi.toList++mx.toList))
 |.tC _ _ _ x lo hi=>x ::(lo.toList++hi.toList)
 |.zC _ xs=>xs
 |.JA _ x xs=>x::xs
 |.uB _ _ xs=>xs
 |.mA _ x xs=>x::xs
 |.call _ _ xs=>xs
 |.sB _ _ _ xs=>xs
 |.LA _ _ _ xs=>xs
 |.nA _ _ _ _ x xs=>x::xs
 |.bA _ _ xs=>xs
def aD.looks (o:aD):List Nat:=o.op.aA.filterMap (fun|.t n=>some n|_=>none)++(match o.guard with|some (t,_)=>[t]|none=>[])
def aD.clear (a b:aD):Bool:=match a.dst with
 |some d=>!b.looks.contains d&&b.dst != some d
 |none=>true
def dI (a b:aD):Bool:=a.clear b&&b.clear a
def bM (o:Oper):List Nat:=o.after.toList.filterMap fun e=>if Region.binds .any e then some e.on else none
def bfOk (ops:List Oper)(bf:List Nat):Bool:=(List.range ops.length).all fun i=>match ops[i]? with
 | some o=>(bM o).all (fun e=>decide (e<i))&&(List.range i).all fun r=>!(bf.getD i 0).testBit r||(bM o).any fun e=>e == r||(decide (r<e)&&(bf.getD e 0).testBit r)
 |none=>false
def SW (ops:List Oper)(cs:List aD):Bool :=
 let bf:=ZS ops
 bfOk ops bf&&(List.range ops.length).all fun j=>(List.range j).all fun i =>
  (bf.getD j 0).testBit i||(match cs[i]?,cs[j]? with
   |some x,some y=>dI x y&&LQ x y
   |_,_=>false)
def WV (cs:List aD):Bool:=(List.range cs.length).all fun j=>match cs[j]? with
 | some y=>!((O9 y.op||RW y.op)&&y.dst.isSome)||(List.range cs.length).all fun i=>i == j||(match cs[i]? with | some x=>x.dst != y.dst | none=>false)
 |none=>false
def n9 (o:Oper):Bool:=match o.op with|.store ..=>true|.alloc _=>true|.box ..=>true|.makeSlice ..=>true|.call { callee:=.builtin .append,.. }=>true|.call { callee:=.builtin .clear,.. }=>true|_=>false
def Pk (ops:List Oper)(o:Oper):Bool:=match o.dst with
 |none=>false
 |some d=>match ops.findIdx? (fun p=>p.dst == some d)with
  |none=>false
  |some i=>let bf:=ZS ops
   (List.range ops.length).all fun j=>i == j||!(match ops[j]? with | some p=>n9 p | none=>false)||(bf.getD j 0).testBit i||(bf.getD i 0).testBit j
def claim (boxes:List Nat)(adv lo:Bool)(out:Option (List Nat))(ops:List Oper)(draw:Bool)(o:Oper):Cl :=
 if !draw then .any else
 if adv then(match o.op with
  |.load _ x=>(match US boxes ops 10 x with|some t=>.root t|none=>if Pk ops o then .any else if lo then .out (out.getD []++ops.filterMap fun p=>if n9 p then p.dst else none)else .KB)
  |.store _ x _=>(match US boxes ops 10 x,out with|some t,_=>.root t|none,some L=>.out (L++ops.filterMap fun p=>if n9 p then p.dst else none)|none,none=>.any)
  | .call { callee:=.value (.func _),args:=xs,.. }=>(match(xs[0]?).bind (US (boxes.filter (· == 0)) ops 10)with | some t=>.root t | none=>if Pk ops o||!(ops.any n9)then .any else .KB)
  | _=>if Pk ops o||!(ops.any n9)then .any else .KB)else
 if ops.any (fun o=>match o.op with|.store ..=>true|.call { callee:=.builtin .clear,.. }=>true|.alloc _=>true|.box ..=>true|.makeSlice ..=>true|_=>false)then
  match o.op with
  |.load _ x=>(match US boxes ops 10 x with|some t=>.root t|none=>.KB)
  |.store _ x _=>(match US boxes ops 10 x with|some t=>.root t|none=>.any)
  |_=>.KB
 else .any
def dstOk (nt:Nat):Option Nat->Bool
 |some d=>decide (d<nt)
 |none=>true
def iV (boxes:List Nat)(nt:Nat)(all:List Oper)(draw:Bool):List Oper->Option (List aD)
 | []=>some []
 |o::r=>match(match w4 nt (fun c=>boxes.contains (nt+1+c)) o.op with|some k=>some k|none=>match wY P (claim boxes (boxes.any (nt<·)) (boxes.contains (nt+1+7000000)) (if boxes.contains (nt+1+6000000)then some (boxes.filter (·<nt))else none) all draw o) (fun c=>boxes.contains (nt+1+c)) (boxes.filter (·<nt)) o.op with|some k=>some k|none=>(T7 P (claim boxes (boxes.any (nt<·)) (boxes.contains (nt+1+7000000)) (if boxes.contains (nt+1+6000000)then some (boxes.filter (·<nt))else none) all draw o) (match o.dst with|some d=>if boxes.contains (nt+1+(2*d+1))then some true else if boxes.contains (nt+1+2*d)then some false else none|none=>none) (boxes.contains (nt+1+4000000)) (boxes.contains (nt+1+5000000)) o.op).filter (fun k=>!Ba k)),iV boxes nt all draw r with
  |some k,some l =>
   if dstOk nt o.dst then
    match o.guard with
    |none=>some (⟨o.dst,k,none⟩::l)
    |some (g,want)=>match(all[g]?).bind (·.dst)with
     |some t=>some (⟨o.dst,k,some (t,want)⟩::l)
     |none=>none
   else none
  |_,_=>none
def comp (boxes:List Nat)(nt:Nat):Code->Option C
 |.skip=>some .skip
 |.seq a b=>match comp boxes nt a,comp boxes nt b with
  |some a,some b=>some (.seq a b)
  |_,_=>none
 |.region _ ops draw=>match iV P boxes nt ops.toList draw ops.toList with
  | some cs=>if WV cs&&(!draw||SW ops.toList cs)then some (.reg cs)else none
  |none=>none
 |.cond c t e=>match pA c,comp boxes nt t,comp boxes nt e with
  |some c,some t,some e=>some (.cond c t e)
  |_,_,_=>none
 |.block id b=>(comp boxes nt b).map (.block id)
 |.loop b=>(comp boxes nt b).map .loop
 |.exit id=>some (.exit id)
 |.scope b=>comp boxes nt b
 |.ret=>some .ret
 |_=>none
def CO:Code->List Nat
 |.seq a b=>CO a++CO b
 |.region _ ops _=>ops.toList.filterMap fun o=>match o.op with|.alloc _=>o.dst|.box ..=>o.dst|_=>none
 |.cond _ t e=>CO t++CO e
 |.block _ b=>CO b
 |.loop b=>CO b
 |.scope b=>CO b
 |_=>[]
def EN:List ResultVar->Option (List Wp)
 | []=>some []
 |.tmp t::r=>(EN r).map (.tmp t :: ·)
 |.cell t ty::r=>match QL P ty,CE P ty,EN r with
  |some a,some z,some l=>some (.cell t a z::l)
  |_,_,_=>none
def wU (mu:List Nat)(fn:Func):Option FD:=match fn.body with
 |none=>none
 |some b=>match comp P (CO b++(if mu.contains 3000000 then [0]else [])++mu.map (fn.ntmps+1 + ·)) fn.ntmps b,EN P fn.results.toList with
  |some c,some r=>if fn.params.size+fn.nfree<=fn.ntmps then some ⟨c,r,fn.params.size+fn.nfree,mu⟩else none
  |_,_=>none
end
end
section
open Go.RowKit
structure SD (F:Nat->Prop)(w w':World):Prop where
 os:w'.os=w.os
 tape:w'.tape=w.tape
 output:w'.output=w.output
 size:w.heap.size<=w'.heap.size
 block:∀k,k<w.heap.size->¬F k->w'.heap[k]?=w.heap[k]?
section
variable {F G:Nat->Prop} {w w1 w2:World}
theorem SD.refl (F:Nat->Prop)(w:World):SD F w w:=⟨rfl,rfl,rfl,yl _,fun _ _ _=>rfl⟩
theorem SD.trans (h:SD F w w1)(k:SD G w1 w2)(hG:∀i,i<w.heap.size->G i->F i):SD F w w2 :=
 ⟨k.os.trans h.os,k.tape.trans h.tape,k.output.trans h.output,yH h.size k.size,fun i hi hF =>
  (k.block i (Y06 hi h.size) (fun g=>hF (hG i hi g))).trans (h.block i hi hF)⟩
theorem SD.mono (h:SD F w w1)(hG:∀i,i<w.heap.size->F i->G i):SD G w w1 :=
 ⟨h.os,h.tape,h.output,h.size,fun i hi hg=>h.block i hi fun hf=>hg (hG i hi hf)⟩
theorem SD.of_below (h:Below w.heap.size w w1)(F:Nat->Prop):SD F w w1:=⟨h.os,h.tape,h.output,h.size,fun k hk _=>h.block k hk⟩
theorem SD.below (h:SD (fun _=>False) w w1):Below w.heap.size w w1:=⟨h.os,h.tape,h.output,h.size,fun k hk=>h.block k hk id⟩
theorem SD.alloc (h:SD F w w1)(o:Obj):SD F w (w1.alloc o) :=
 ⟨h.os,h.tape,h.output,by have:=h.size;simp;omega,fun k hk hF=>(Below.heap_alloc w1 o k (Y06 hk h.size)).trans (h.block k hk hF)⟩
theorem SD.drew (h:SD F w w1):SD F w w1.drew:=⟨h.os,h.tape,h.output,h.size,h.block⟩
theorem SD.BA (h:SD F w w1)(k:Below w1.heap.size w1 w2):SD F w w2:=h.trans (SD.of_below k (fun _=>False)) (fun _ _ h=>h.elim)
theorem SD.grown (h:SD F w w1){row:Option Nat}(hg:w1.grownBy w2 row)(hr:∀k,k<w.heap.size->row=some k->F k):SD F w w2 :=
 ⟨hg.os.trans h.os,hg.tape.trans h.tape,hg.output.trans h.output,yH h.size hg.size,fun k hk hF =>
  (hg.block k (Y06 hk h.size) (fun e=>hF (hr k hk e.symm))).trans (h.block k hk hF)⟩
theorem SD.cell (h:SD F w w1){a:Addr}(ha:a.block<w.heap.size)(hF:¬F a.block):w1.cell? a=w.cell? a:=World.cell?_of_block (w:=w) (h.block _ ha hF)
theorem SD.frozen (h:SD F w w1){a:Addr}(ha:a.block<w.heap.size)(hF:¬F a.block):w1.frozen? a=w.frozen? a:=World.frozen?_of_block (w:=w) (h.block _ ha hF)
end
theorem KN {p:Prop}(h:p):Hid p:=h
theorem sD {w:World}{k:Nat}{o:Obj}(h:w.heap[k]?=some o):k<w.heap.size:=by
 rcases Nat.lt_or_ge k w.heap.size with h'|h'
 ·exact h'
 ·rw[Array.getElem?_eq_none h']at h;cases h
theorem SD.at_ {F:Nat->Prop}{w w1:World}(h:SD F w w1){a:Addr}{v:Value}(hc:w.cell? a=some v)(hF:¬F a.block):w1.cell? a=some v:=(h.cell (World.block_lt_of_cell? w a hc) hF).trans hc
theorem SD.fz {F:Nat->Prop}{w w1:World}(h:SD F w w1){a:Addr}(hc:w.frozen? a=false)(hl:a.block<w.heap.size)(hF:¬F a.block):w1.frozen? a=false:=(h.frozen hl hF).trans hc
theorem HS {w w1:World}(h:Below w.drew.heap.size w.drew w1):Below w.heap.size w w1:=⟨h.os,h.tape,h.output,h.size,h.block⟩
theorem qX {w:World}{o:Obj}{n:Nat}(h:n=w.heap.size):(w.alloc o).heap[n]?=some o:=by rw[h];exact heap_alloc_new w o
def Sl (av:Nat->Prop)(w:World)(sz:Nat)(v:Value)(n:Nat)(cs:List Value):Prop :=
 cs.length=n*sz/\∃A c,v=.slice A n c/\n<=c ∧
  (0<n->∃b off,A=some ⟨b,off,none⟩/\b<w.heap.size/\¬av b/\∀j u,cs[j]?=some u->w.cell? ⟨b,off+j,none⟩=some u)
section
variable {av pb:Nat->Prop} {w w':World} {sz n:Nat} {v:Value} {cs:List Value}
theorem Sl.nil (av:Nat->Prop)(w:World)(sz:Nat):Sl av w sz (.slice none 0 0) 0 []:=⟨by simp,none,0,rfl,yl _,fun h=>absurd h (by omega)⟩
theorem Sl.keep {F:Nat->Prop}(h:Sl av w sz v n cs)(hk:SD F w w')(hF:∀b,b<w.heap.size->F b->av b):Sl av w' sz v n cs:=by
 obtain⟨hl,A,c,rfl,hc,hn⟩:=h;refine⟨hl,A,c,rfl,hc,fun h0=>?_⟩;obtain⟨b,off,rfl,hb,ld,jc⟩:=hn h0;exact⟨b,off,rfl,Y06 hb hk.size,ld,fun j u hu=>(hk.cell (a:=⟨b,off+j,none⟩) hb (fun f=>ld (hF b hb f))).trans (jc j u hu)⟩
theorem Sl.below (h:Sl av w sz v n cs)(hk:Below w.heap.size w w'):Sl av w' sz v n cs:=h.keep (SD.of_below hk (fun _=>False)) (fun _ _ h=>h.elim)
theorem Sl.len (h:Sl av w sz v n cs):cs.length=n*sz:=h.1
theorem Sl.zero (av:Nat->Prop)(w:World)(sz:Nat)(A:Option Addr)(c:Nat):Sl av w sz (.slice A 0 c) 0 []:=⟨by simp,A,c,rfl,Nat.zero_le _,fun h=>absurd h (by omega)⟩
end
theorem Qj {P:Program}(w:World)(t e:TypeId)(i:TypeInfo)(ht:P.underlying t=some (.slice e))(hi:P.info? e=some i)(A:Option Addr)(n c k:Nat)(hk:k<=c):
  (Instr.slice t (.slice A n c) none (some (.int .i64 k)) none).run P w=.ok (.slice A k c) w:=by
 have h0:(0:Int)<=(k:Int):=by omega
 have h1:(k:Int)<=(c:Int):=by omega
 cases A<;>simp[Instr.slice,run_underlying ht,Instr.sliceBounds,run_sliceBound,sizeOf,typeInfo,hi,h0,h1,Addr.add]
theorem Ej {P:Program}(w:World)(t e:TypeId)(i:TypeInfo)(size:Nat)(ht:P.underlying t=some (.slice e))(hi:P.info? e=some i)(hs:i.size=size)(A:Option Addr)(n c k:Nat)(hk:k<=n):
  (Instr.slice t (.slice A n c) (some (.int .i64 k)) none none).run P w=.ok (.slice (if c=k then A else A.map (·.add (k*size))) (n-k) (c-k)) w:=by
 have h0:(0:Int)<=(k:Int):=by omega
 have h1:(k:Int)<=(n:Int):=by omega
 simp[Instr.slice,run_underlying ht,Instr.sliceBounds,run_sliceBound,sizeOf,typeInfo,hi,hs,h0,h1]
theorem Wj {P:Program}(w:World)(t e:TypeId)(i:TypeInfo)(size:Nat)(ht:P.underlying t=some (.slice e))(hi:P.info? e=some i)(hs:i.size=size)(A:Option Addr)(n c k h:Nat)(hk:k<=h)(hh:h<=c):
  (Instr.slice t (.slice A n c) (some (.int .i64 k)) (some (.int .i64 h)) none).run P w=.ok (.slice (if c=k then A else A.map (·.add (k*size))) (h-k) (c-k)) w:=by
 have h0:(0:Int)<=(k:Int):=by omega
 have h1:(k:Int)<=(h:Int):=by omega
 have h2:(0:Int)<=(h:Int):=by omega
 have h3:(h:Int)<=(c:Int):=by omega
 simp[Instr.slice,run_underlying ht,Instr.sliceBounds,run_sliceBound,sizeOf,typeInfo,hi,hs,h0,h1,h2,h3]
theorem SD.setRow {F:Nat->Prop}{w w1:World}(h:SD F w w1){B:Nat}(hF:B<w.heap.size->F B)(cs:Array Value):SD F w (w1.setRow B cs) :=
 ⟨h.os,h.tape,h.output,by have:=h.size;simpa using this,fun k hk hn=>(setRow_other w1 B k cs (fun e=>hn (e▸hF (e▸hk)))).trans (h.block k hk hn)⟩
/-! maps -/
def NM {κ β:Type}[DecidableEq κ]:List (κ×β)->κ->Option β
 | [],_=>none
 |p::l,k=>if k=p.1 then some p.2 else NM l k
def S3 {κ β:Type}[DecidableEq κ]:List (κ×β)->κ->β->List (κ×β)
 | [],k,v=>[(k,v)]
 |p::l,k,v=>if k=p.1 then(k,v)::l else p::S3 l k v
section
variable {κ β:Type} [DecidableEq κ]
end
structure NR (P:Program)(T:TypeId){κ:Type}[DecidableEq κ](ke:κ->Value):Prop where
 check:∀(empty:Bool)(k:κ)(w:World),(Instr.checkKey empty 10000 T (ke k)).run P w=.ok () w
 find:∀(k:κ)(es:List MapEntry)(L:List (κ×Value))(w:World),es.map (fun e=>(e.key,e.val))=L.map (fun p=>(ke p.1,p.2)) →
  (Instr.findKey T (ke k) es).run P w=.ok (((L.map (·.1)).idxOf? k).bind fun i=>(L[i]?).map fun p=>(i,p.2)) w
 same:∀(k:κ),Instr.sameBits 10000 (ke k) (ke k)=true
def iR {κ:Type}(ke:κ->Value)(w:World)(m:Nat)(L:List (κ×Value)):Prop :=
 ∃es clock,w.heap[m]?=some (.map es clock)/\es.toList.map (fun e=>(e.key,e.val))=L.map (fun p=>(ke p.1,p.2))
theorem Mu {κ β:Type}[DecidableEq κ](L:List (κ×β))(k:κ):(((L.map (·.1)).idxOf? k).bind fun i=>(L[i]?).map fun p=>(i,p.2)).map (·.2)=NM L k:=by
 induction L with
 |nil=>simp[NM]
 |cons p l ih =>
  unfold NM;simp only[ym,List.idxOf?_cons];by_cases h:p.1=k
  ·subst h;simp
  ·have h':(p.1 == k)=false:=by simpa using h
   have h2:¬k=p.1:=fun e=>h e.symm
   rw[h',if_neg h2,<- ih];cases hi:List.idxOf? k (List.map (fun x=>x.1) l)with
   |none=>simp
   |some i=>simp[Function.comp_def]
section
theorem iR.keep {κ:Type}{ke:κ->Value}{w:World}{m:Nat}{L:List (κ×Value)}{F:Nat->Prop}{w':World}(h:iR ke w m L)(hk:SD F w w')(hF:¬F m):iR ke w' m L:=by
 obtain⟨es,clock,h1,h2⟩:=h;exact⟨es,clock,(hk.block m (sD h1) hF).trans h1,h2⟩
theorem iR.lt {κ:Type}{ke:κ->Value}{w:World}{m:Nat}{L:List (κ×Value)}(h:iR ke w m L):m<w.heap.size:=by
 obtain⟨es,clock,h1,h2⟩:=h;exact sD h1
theorem idx_set {κ β:Type}[DecidableEq κ](L:List (κ×β))(k:κ)(v:β):S3 L k v=match(L.map (·.1)).idxOf? k with|some i=>L.set i (k,v)|none=>L++[(k,v)]:=by
 induction L with
 |nil=>simp[S3]
 |cons p l ih =>
  unfold S3;simp only[ym,List.idxOf?_cons];by_cases h:p.1=k
  ·subst h;simp
  ·have h':(p.1 == k)=false:=by simpa using h
   have h2:¬k=p.1:=fun e=>h e.symm
   rw[h',if_neg h2,ih];cases hi:List.idxOf? k (List.map (fun x=>x.1) l)<;>simp
variable {κ:Type} [DecidableEq κ] {P:Program} {T kT eT:TypeId} {ke:κ->Value} {w:World} {m:Nat} {L:List (κ × Value)}
theorem iR.lookup (h:iR ke w m L)(K:NR P kT ke)(hT:P.underlying T=some (.map kT eT)){z:Value}(hz:(zeroValue eT).run P w=.ok z w)(k:κ):
  (Instr.lookup T (.map (some m)) (ke k) false).run P w=.ok ((NM L k).getD z) w:=by
 obtain⟨es,clock,h1,h2⟩:=h;have hg:(getObj m).run P w=.ok (.map es clock) w:=by simp[getObj,Sem.run,h1]
 have hf:=K.find k es.toList L w h2;have hi:=Mu L k;simp only[Instr.lookup,Sem.run_bind,run_underlying hT,Result.andThen_ok,hg,Sem.run_pure,K.check,hf];rw[<- hi];cases hq:((L.map (·.1)).idxOf? k).bind fun i=>(L[i]?).map fun p=>(i,p.2)with
 |none=>simp[hz]
 |some x=>obtain⟨i,v⟩:=x;simp
theorem iR.RC (h:iR ke w m L)(K:NR P kT ke)(hT:P.underlying T=some (.map kT eT)){z:Value}(hz:(zeroValue eT).run P w=.ok z w)(k:κ):
  (Instr.lookup T (.map (some m)) (ke k) true).run P w=.ok (.tuple #[(NM L k).getD z,.bool (NM L k).isSome]) w:=by
 obtain⟨es,clock,h1,h2⟩:=h;have hg:(getObj m).run P w=.ok (.map es clock) w:=by simp[getObj,Sem.run,h1]
 have hf:=K.find k es.toList L w h2;have hi:=Mu L k;simp only[Instr.lookup,Sem.run_bind,run_underlying hT,Result.andThen_ok,hg,Sem.run_pure,K.check,hf];rw[<- hi];cases hq:((L.map (·.1)).idxOf? k).bind fun i=>(L[i]?).map fun p=>(i,p.2)with
 |none=>simp[hz]
 |some x=>obtain⟨i,v⟩:=x;simp
theorem SD.setObj {F:Nat->Prop}{w w1:World}(h:SD F w w1){m:Nat}(hF:F m)(o:Obj):SD F w { w1 with heap:=w1.heap.setIfInBounds m o } :=
 ⟨h.os,h.tape,h.output,by have:=h.size;simpa using this,fun k hk hn=>by
  have:m≠k:=fun e=>hn (e▸hF)
  show(w1.heap.setIfInBounds m o)[k]?=_;rw[Array.getElem?_setIfInBounds_ne this];exact h.block k hk hn⟩
end
end
section
open Go Go.RowKit
abbrev Av:=Nat->Nat->Prop
structure Ix where
 f:Nat->Nat->Option Nat
 ob:Nat->Nat->Option (Nat->Prop)
 z:Nat->Nat
instance:CoeFun Ix (fun _=>Nat->Nat->Option Nat):=⟨Ix.f⟩
def Ix.none:Ix:=⟨fun _ _=>.none,fun _ _=>.none,fun _=>0⟩
structure Ix.Le (ι ι':Ix):Prop where
 f:∀t n b,ι t n=some b->ι' t n=some b
 z:∀t n b,ι t n=some b->ι'.z b=ι.z b
theorem Ix.Le.refl (ι:Ix):Ix.Le ι ι:=⟨fun _ _ _ h=>h,fun _ _ _ _=>rfl⟩
def AV.HA:AV->Value
 |.int k n=>.int k n
 |.bool b=>.bool b
 |.str s=>.string s
 |_=>Go.undef
def AV.rB:AV->Value
 |.agg cs=>.agg (cs.map AV.HA).toArray
 |v=>v.HA
def entV:List AV->Value×Value
 | [k,v]=>(k.rB,v.rB)
 |_=>(Go.undef,Go.undef)
def P5 (es:Array MapEntry)(clock:Nat):Prop:=clock=es.size/\∀i (h:i<es.size),es[i].born=i
theorem Ri {S:AV}(h:(Qs S).isSome=true):LV S=none/\bldOf S=none:=by
 unfold Qs at h;split at h
 ·exact⟨rfl,rfl⟩
 ·cases h
def MapO (L:List (List AV))(H:Nat->Prop)(p:Nat)(w:World):Prop:=(∀b,H b↔b=p)/\∃es clock,w.heap[p]?=some (.map es clock)/\es.toList.map (fun e=>(e.key,e.val))=L.map entV/\P5 es clock
def P9 (T e:TypeId)(s:ByteArray)(H:Nat->Prop)(p:Nat)(w:World):Prop :=
 ∃v q,w.heap[p]?=some (.cells #[q,v] T (0,0))/\(q=.pointer none\/q=.pointer (some ⟨p,0,none⟩))/\w.ownsRowF 0 e 1 v s.size (Go.Lib.strCells s)/\v.ownBlock≠some p/\∀b,H b↔b=p\/v.ownBlock=some b
theorem P9.keep {T e:TypeId}{s:ByteArray}{H:Nat->Prop}{p:Nat}{w w':World}(h:P9 T e s H p w)(hb:∀b,H b->w'.heap[b]?=w.heap[b]?):P9 T e s H p w':=by
 obtain⟨v,q,h1,h2,h3,h4,h5⟩:=h;refine⟨v,q,(hb p ((h5 p).2 (.inl rfl))).trans h1,h2,⟨h3.1,?_⟩,h4,h5⟩;rcases h3.2 with hn|⟨g,cap,cur,fz,rfl,hbg,hg,rest⟩
 ·exact .inl hn
 ·exact .inr ⟨g,cap,cur,fz,rfl,hbg,(hb g ((h5 g).2 (.inr rfl))).trans hg,rest⟩
theorem P9.lt {T e:TypeId}{s:ByteArray}{H:Nat->Prop}{p b:Nat}{w:World}(h:P9 T e s H p w)(hb:H b):b<w.heap.size:=by
 obtain⟨v,q,h1,h2,h3,h4,h5⟩:=h;rcases(h5 b).1 hb with rfl|hv
 ·exact sD h1
 ·exact(h3.lt b hv).2
structure ZT where
 at_:AV->(Nat->Prop)->Nat->World->Prop
 keep:∀{S H p w w'},at_ S H p w->(∀b,H b->w'.heap[b]?=w.heap[b]?)->w.heap.size<=w'.heap.size->at_ S H p w'
 main:∀{S H p w},at_ S H p w->H p
 lt:∀{S H p w b},at_ S H p w->H b->b<w.heap.size
 /-- a fact of the world's eldest blocks -/
 lo:Nat:=0
 wd:World->Prop:=fun _=>True
 wdl:∀{w},wd w->lo<=w.heap.size:=by intros;exact Nat.zero_le _
 wdk:∀{H w w'},wd w->SD H w w'->(∀b,H b->lo<=b)->wd w':=by intros;trivial
structure XH extends ZT where
 maps:∀L H p w,at_ (xL L) H p w↔MapO L H p w
 blds:∀T e s H p w,at_ (Eu T e s) H p w↔P9 T e s H p w
 iters:∀S H p w,(Qs S).isSome=true->(at_ S H p w↔((∀b,H b↔b=p)/\p<w.heap.size))
def XH.low (O:XH)(H:Nat->Prop)(av:Av)(w:World):Prop:=(O.wd w/\∀b,H b->O.lo<=b)/\∀b o,av b o->b<w.heap.size
def ZT.AC (O:ZT)(A:AV)(H:Nat->Prop)(p:Nat)(w:World):Prop:=match LV A with
 |some L=>MapO L H p w
 |none=>match bldOf A with
  |some (T,e,s)=>P9 T e s H p w
  |none=>if(Qs A).isSome=true then(∀b,H b↔b=p)/\p<w.heap.size else O.at_ A H p w
def ZT.of (O:ZT):XH where
 at_:=O.AC
 keep:=fun{A H p w w'} h hb hs=>by
  unfold ZT.AC at h ⊢
  split at h
  ·obtain ⟨h1,es,clock,h2,h3⟩:=h
   exact⟨h1,es,clock,(hb p ((h1 p).2 rfl)).trans h2,h3⟩
  ·split at h
   ·exact h.keep hb
   ·split at h
    ·rename_i hi
     simp only[hi,if_true]
     exact⟨h.1,Nat.lt_of_lt_of_le h.2 hs⟩
    ·rename_i hi
     simp only[hi,if_false]
     exact O.keep h hb hs
 main:=fun{A H p w} h=>by
  unfold ZT.AC at h
  split at h
  ·exact(h.1 p).2 rfl
  ·split at h
   ·obtain ⟨v,q,h1,h2,h3,h4,h5⟩:=h
    exact(h5 p).2 (.inl rfl)
   ·split at h
    ·exact(h.1 p).2 rfl
    ·exact O.main h
 lt:=fun{A H p w b} h hb=>by
  unfold ZT.AC at h
  split at h
  ·obtain ⟨h1,es,clock,h2,h3⟩:=h
   rw[(h1 b).1 hb]
   exact sD h2
  ·split at h
   ·exact h.lt hb
   ·split at h
    ·rw[(h.1 b).1 hb];exact h.2
    ·exact O.lt h hb
 lo:=O.lo
 wd:=O.wd
 wdl:=O.wdl
 wdk:=O.wdk
 maps:=fun L H p w=>Iff.rfl
 blds:=fun T e s H p w=>Iff.rfl
 iters:=fun S H p w h=>by
  unfold ZT.AC
  rw[(Ri h).1,(Ri h).2]
  simp only[h,if_true]
def noObjs:ZT where
 at_:=fun _ _ _ _=>False
 keep:=fun h _ _=>h.elim
 main:=fun h=>h.elim
 lt:=fun h _=>h.elim
mutual
/-- v reads as x in w,and nothing that it reads lies in av -/
def ZG (av:Av)(w:World):AV->Value->Prop
 |.int k n,v=>v=.int k n
 |.bool b,v=>v=.bool b
 |.str s,v=>v=.string s
 |.EA,v=>v=.pointer none
 |.ip cs,v=>∃b off,v=.pointer (some ⟨b,off,none⟩)/\dH av w cs b off
 |.sl nil l,v=>∃A c,v=.slice A l.length c/\l.length<=c/\(∀x∈l,∀y∈l,x.length=y.length)/\(nil=true->A=none/\l.length=0/\c=0)/\(nil=false->(A=none->c=0)/\(0<l.length->∃b off,A=some ⟨b,off,none⟩/\Rows av w l b off))
 |.agg cs,v=>∃us,v=.agg us/\eE av w cs us.toList
 |.fA xs,v=>∃us,v=.tuple us/\PO av w xs us.toList
 |.ptr ..,_=>False
 |.bp ..,_=>False
 |.bl ..,_=>False
 |.ref ..,_=>False
 |.mp ..,_=>False
 |.fn ..,_=>False
 |.undef,_=>True
def eE (av:Av)(w:World):List AV->List Value->Prop
 | [],us=>us=[]
 |x::r,us=>∃u gb,us=u::gb/\ZG av w x u/\u.oneCell'=true/\eE av w r gb
def PO (av:Av)(w:World):List AV->List Value->Prop
 | [],us=>us=[]
 |x::r,us=>∃u gb,us=u::gb/\ZG av w x u/\PO av w r gb
def dH (av:Av)(w:World):List AV->Nat->Nat->Prop
 | [],_,_=>True
 |x::r,b,off=>(∃u,w.cell? ⟨b,off,none⟩=some u/\ZG av w x u/\u.oneCell'=true)/\¬av b off/\dH av w r b (off+1)
def Rows (av:Av)(w:World):List (List AV)->Nat->Nat->Prop
 | [],_,_=>True
 |cs::r,b,off=>dH av w cs b off/\Rows av w r b (off+cs.length)
end
structure QD (av pb:Av)(w w':World):Prop where
 cell:∀b o u,w.cell? ⟨b,o,none⟩=some u->¬av b o->w'.cell? ⟨b,o,none⟩=some u/\¬pb b o
mutual
theorem ZG.held {av pb:Av}{w w':World}(h:QD av pb w w'):∀(x:AV)(v:Value),ZG av w x v->ZG pb w' x v
 |.int _ _,_,hr=>by simpa [ZG]using hr
 |.bool _,_,hr=>by simpa [ZG]using hr
 |.str _,_,hr=>by simpa [ZG]using hr
 |.EA,_,hr=>by simpa [ZG]using hr
 |.ip cs,_,hr=>by
  simp only[ZG]at hr ⊢
  obtain⟨b,off,rfl,hc⟩:=hr
  exact⟨b,off,rfl,dH.held h cs b off hc⟩
 |.sl nil l,_,hr=>by
  simp only[ZG]at hr ⊢
  obtain⟨A,c,rfl,hc,hu,hn,hs⟩:=hr
  refine⟨A,c,rfl,hc,hu,hn,fun hf=>⟨(hs hf).1,fun h0=>?_⟩⟩
  obtain⟨b,off,rfl,ja⟩:=(hs hf).2 h0
  exact⟨b,off,rfl,Rows.held h l b off ja⟩
 |.agg cs,_,hr=>by
  simp only[ZG]at hr ⊢
  obtain⟨us,rfl,hc⟩:=hr
  exact⟨us,rfl,eE.held h cs _ hc⟩
 |.fA xs,_,hr=>by
  simp only[ZG]at hr ⊢
  obtain⟨us,rfl,hc⟩:=hr
  exact⟨us,rfl,PO.held h xs _ hc⟩
 |.ptr ..,_,hr=>by simp[ZG]at hr
 |.bp ..,_,hr=>by simp[ZG]at hr
 |.bl ..,_,hr=>by simp[ZG]at hr
 |.ref ..,_,hr=>by simp[ZG]at hr
 |.mp ..,_,hr=>by simp[ZG]at hr
 |.fn ..,_,hr=>by simp[ZG]at hr
 |.undef,_,hr=>trivial
theorem eE.held {av pb:Av}{w w':World}(h:QD av pb w w'):∀(xs:List AV)(us:List Value),eE av w xs us->eE pb w' xs us
 | [],_,hr=>by simpa [eE]using hr
 |x::r,_,hr=>by
  simp only[eE]at hr ⊢
  obtain⟨u,gb,rfl,hx,h1,hr⟩:=hr
  exact⟨u,gb,rfl,ZG.held h x u hx,h1,eE.held h r gb hr⟩
theorem PO.held {av pb:Av}{w w':World}(h:QD av pb w w'):∀(xs:List AV)(us:List Value),PO av w xs us->PO pb w' xs us
 | [],_,hr=>by simpa [PO]using hr
 |x::r,_,hr=>by
  simp only[PO]at hr ⊢
  obtain⟨u,gb,rfl,hx,hr⟩:=hr
  exact⟨u,gb,rfl,ZG.held h x u hx,PO.held h r gb hr⟩
theorem dH.held {av pb:Av}{w w':World}(h:QD av pb w w'):∀(cs:List AV)(b off:Nat),dH av w cs b off->dH pb w' cs b off
 | [],_,_,_=>by simp[dH]
 |x::r,b,off,hr=>by
  simp only[dH]at hr ⊢
  obtain⟨⟨u,hc,hx,h1⟩,ha,hr⟩:=hr
  obtain⟨nc,px⟩:=h.cell b off u hc ha
  exact⟨⟨u,nc,ZG.held h x u hx,h1⟩,px,dH.held h r b (off+1) hr⟩
theorem Rows.held {av pb:Av}{w w':World}(h:QD av pb w w'):∀(l:List (List AV))(b off:Nat),Rows av w l b off->Rows pb w' l b off
 | [],_,_,_=>by simp[Rows]
 |cs::r,b,off,hr=>by
  simp only[Rows]at hr ⊢
  exact⟨dH.held h cs b off hr.1,Rows.held h r b (off+cs.length) hr.2⟩
end
theorem QD.refl (av:Av)(w:World):QD av av w w:=⟨fun _ _ _ hc ha=>⟨hc,ha⟩⟩
theorem QD.less {av pb:Av}{w:World}(h:∀b o,pb b o->av b o):QD av pb w w:=⟨fun _ _ _ hc ha=>⟨hc,fun hx=>ha (h _ _ hx)⟩⟩
def iF (av uF:Av)(w:World):List AV->Nat->Nat->Prop
 | [],_,_=>True
 |x::r,b,off=>(∃u,w.cell? ⟨b,off,none⟩=some u/\ZG av w x u/\u.oneCell'=true)/\¬uF b off/\iF av uF w r b (off+1)
def BN (av uF:Av)(w:World):List (List AV)->Nat->Nat->Prop
 | [],_,_=>True
 |cs::r,b,off=>iF av uF w cs b off/\BN av uF w r b (off+cs.length)
theorem iF.held {av pb uF avB':Av}{w w':World}(h:QD av pb w w')(hB:QD uF avB' w w'):∀(cs:List AV)(b off:Nat),iF av uF w cs b off->iF pb avB' w' cs b off
 | [],_,_,_=>by simp[iF]
 |x::r,b,off,hr=>by
  simp only[iF]at hr ⊢;obtain⟨⟨u,hc,hx,h1⟩,ha,hr⟩:=hr;obtain⟨nc,px⟩:=hB.cell b off u hc ha;exact⟨⟨u,nc,ZG.held h x u hx,h1⟩,px,iF.held h hB r b (off+1) hr⟩
theorem BN.held {av pb uF avB':Av}{w w':World}(h:QD av pb w w')(hB:QD uF avB' w w'):∀(l:List (List AV))(b off:Nat),BN av uF w l b off->BN pb avB' w' l b off
 | [],_,_,_=>by simp[BN]
 |cs::r,b,off,hr=>by
  simp only[BN]at hr ⊢;exact⟨iF.held h hB cs b off hr.1,BN.held h hB r b (off+cs.length) hr.2⟩
def RD (ι:Ix)(av:Av)(w:World):AV->Value->Prop
 |.ptr t n off,v=>∃b,ι t n=some b/\v=.pointer (some ⟨b,off,none⟩)
 |.ref t n sz off len cap,v=>∃b,ι t n=some b/\len<=cap/\∃c,cap<=c/\off+c*sz<=ι.z b/\v=.slice (some ⟨b,off,none⟩) len c
 |.mp t n,v=>∃b,ι t n=some b/\v=.map (some b)
 |.undef,_=>True
 |x,v=>ZG av w x v
def cD (ι:Ix)(av:Av)(w:World):List AV->List Value->Prop
 | [],us=>us=[]
 |x::r,us=>∃u gb,us=u::gb/\RD ι av w x u/\u.oneCell'=true/\cD ι av w r gb
def qS (ι:Ix)(av:Av)(w:World):AV->Value->Prop
 |.agg cs,v=>∃us,v=.agg us/\cD ι av w cs us.toList
 |x,v=>RD ι av w x v
def rJ (ι:Ix)(av:Av)(w:World):List AV->List Value->Prop
 | [],us=>us=[]
 |x::r,us=>∃u gb,us=u::gb/\qS ι av w x u/\rJ ι av w r gb
def QY (ι:Ix)(av uF:Av)(w:World):AV->Value->Prop
 |.bp cs,v=>∃b off,v=.pointer (some ⟨b,off,none⟩)/\iF av uF w cs b off
 |x,v=>RD ι av w x v
def kJ (ι:Ix)(av uF:Av)(w:World):List AV->List Value->Prop
 | [],us=>us=[]
 |x::r,us=>∃u gb,us=u::gb/\QY ι av uF w x u/\kJ ι av uF w r gb
def WD (ι:Ix)(av uF:Av)(w:World):AV->Value->Prop
 |.bp cs,v=>∃b off,v=.pointer (some ⟨b,off,none⟩)/\iF av uF w cs b off
 |.bl l,v=>∃a c,v=.slice (some a) l.length c/\l.length<=c/\(∀x∈l,∀y∈l,x.length=y.length)/\(0<l.length->∃b off,a=⟨b,off,none⟩/\BN av uF w l b off)
 |.agg cs,v=>∃us,v=.agg us/\cD ι av w cs us.toList
 |.fA xs,v=>∃us,v=.tuple us/\rJ ι av w xs us.toList
 |.fn f cs,v=>∃us,v=.func (.func f) #[] us/\kJ ι av uF w cs us.toList
 |.undef,_=>True
 |x,v=>RD ι av w x v
theorem RD.held {ι ι':Ix}{av pb:Av}{w w':World}(hι:Ix.Le ι ι')(h:QD av pb w w')(x:AV)(v:Value)(hr:RD ι av w x v):RD ι' pb w' x v:=by
 cases x<;>first
  |exact ZG.held h _ v hr
  |(obtain⟨b,hb,h1,c,h2,h3,hv⟩:=hr;exact⟨b,hι.f _ _ _ hb,h1,c,h2,by rw[hι.z _ _ _ hb];exact h3,hv⟩)
  |(obtain⟨b,hb,hv⟩:=hr;exact⟨b,hι.f _ _ _ hb,hv⟩)
  |trivial
theorem cD.held {ι ι':Ix}{av pb:Av}{w w':World}(hι:Ix.Le ι ι')(h:QD av pb w w'):∀(xs:List AV)(us:List Value),cD ι av w xs us->cD ι' pb w' xs us
 | [],_,hr=>by simpa [cD]using hr
 |x::r,_,hr=>by
  simp only[cD]at hr ⊢;obtain⟨u,gb,rfl,hx,h1,hr⟩:=hr;exact⟨u,gb,rfl,RD.held hι h x u hx,h1,cD.held hι h r gb hr⟩
theorem qS.held {ι ι':Ix}{av pb:Av}{w w':World}(hι:Ix.Le ι ι')(h:QD av pb w w')(x:AV)(v:Value)(hr:qS ι av w x v):qS ι' pb w' x v:=by
 cases x with
 |agg cs=>obtain⟨us,hv,hc⟩:=hr;exact⟨us,hv,cD.held hι h _ _ hc⟩
 |int=>exact RD.held hι h (.int _ _) v hr
 |bool=>exact RD.held hι h (.bool _) v hr
 |str=>exact RD.held hι h (.str _) v hr
 |EA=>exact RD.held hι h .EA v hr
 |ptr t n o=>exact RD.held hι h (.ptr t n o) v hr
 |ip cs=>exact RD.held hι h (.ip cs) v hr
 |bp cs=>exact RD.held hι h (.bp cs) v hr
 |sl n l=>exact RD.held hι h (.sl n l) v hr
 |bl l=>exact RD.held hι h (.bl l) v hr
 |ref a b c d e f=>exact RD.held hι h (.ref a b c d e f) v hr
 |mp t n=>exact RD.held hι h (.mp t n) v hr
 |fn f cs=>exact RD.held hι h (.fn f cs) v hr
 |fA cs=>exact RD.held hι h (.fA cs) v hr
 |undef=>trivial
theorem rJ.held {ι ι':Ix}{av pb:Av}{w w':World}(hι:Ix.Le ι ι')(h:QD av pb w w'):∀(xs:List AV)(us:List Value),rJ ι av w xs us->rJ ι' pb w' xs us
 | [],_,hr=>by simpa [rJ]using hr
 |x::r,_,hr=>by
  simp only[rJ]at hr ⊢;obtain⟨u,gb,rfl,hx,hr⟩:=hr;exact⟨u,gb,rfl,qS.held hι h x u hx,rJ.held hι h r gb hr⟩
theorem QY.held {ι ι':Ix}{av pb uF avB':Av}{w w':World}(hι:Ix.Le ι ι')(h:QD av pb w w')(hB:QD uF avB' w w')(x:AV)(v:Value)(hr:QY ι av uF w x v):QY ι' pb avB' w' x v:=by
 match x,hr with
 |.bp cs,⟨b,off,hv,hc⟩=>exact⟨b,off,hv,iF.held h hB _ b off hc⟩
 |.int k n,hr=>exact RD.held hι h (.int k n) v hr
 |.bool b,hr=>exact RD.held hι h (.bool b) v hr
 |.str s,hr=>exact RD.held hι h (.str s) v hr
 |.EA,hr=>exact RD.held hι h .EA v hr
 |.ptr t n off,hr=>exact RD.held hι h (.ptr t n off) v hr
 |.ip cs,hr=>exact RD.held hι h (.ip cs) v hr
 |.sl n l,hr=>exact RD.held hι h (.sl n l) v hr
 |.mp t n,hr=>exact RD.held hι h (.mp t n) v hr
 |.ref t n sz off len cap,hr=>exact RD.held hι h (.ref t n sz off len cap) v hr
 |.undef,hr=>trivial
 |.agg cs,hr=>exact RD.held hι h (.agg cs) v hr
 |.fA cs,hr=>exact RD.held hι h (.fA cs) v hr
theorem kJ.held {ι ι':Ix}{av pb uF avB':Av}{w w':World}(hι:Ix.Le ι ι')(h:QD av pb w w')(hB:QD uF avB' w w'):∀(xs:List AV)(us:List Value),kJ ι av uF w xs us->kJ ι' pb avB' w' xs us
 | [],_,hr=>by simpa [kJ]using hr
 |x::r,_,hr=>by
  simp only[kJ]at hr ⊢;obtain⟨u,gb,rfl,hx,hr⟩:=hr;exact⟨u,gb,rfl,QY.held hι h hB x u hx,kJ.held hι h hB r gb hr⟩
theorem WD.held {ι ι':Ix}{av pb uF avB':Av}{w w':World}(hι:Ix.Le ι ι')(h:QD av pb w w')(hB:QD uF avB' w w')(x:AV)(v:Value)(hr:WD ι av uF w x v):WD ι' pb avB' w' x v:=by
 match x,hr with
 |.bp cs,⟨b,off,hv,hc⟩=>exact⟨b,off,hv,iF.held h hB _ b off hc⟩
 |.bl l,⟨a,c,hv,hl,hu,hc⟩ =>
  refine⟨a,c,hv,hl,hu,fun h0=>?_⟩;obtain⟨b,off,ha,hr⟩:=hc h0;exact⟨b,off,ha,BN.held h hB _ b off hr⟩
 |.agg cs,⟨us,hv,hc⟩=>exact⟨us,hv,cD.held hι h _ _ hc⟩
 |.undef,_=>trivial
 |.int k n,hr=>exact RD.held hι h (.int k n) v hr
 |.bool b,hr=>exact RD.held hι h (.bool b) v hr
 |.str s,hr=>exact RD.held hι h (.str s) v hr
 |.EA,hr=>exact RD.held hι h .EA v hr
 |.ptr t n off,hr=>exact RD.held hι h (.ptr t n off) v hr
 |.ip cs,hr=>exact RD.held hι h (.ip cs) v hr
 |.sl n l,hr=>exact RD.held hι h (.sl n l) v hr
 |.mp t n,hr=>exact RD.held hι h (.mp t n) v hr
 |.ref t n sz off len cap,hr=>exact RD.held hι h (.ref t n sz off len cap) v hr
 |.fA vs,⟨us,hv,hc⟩=>exact⟨us,hv,rJ.held hι h _ _ hc⟩
 |.fn f cs,⟨us,hv,hc⟩=>exact⟨us,hv,kJ.held hι h hB _ _ hc⟩
end
section
open Go Go.RowKit
structure pR where
 b:Nat->Prop
 p:Option Nat
 r:Nat->Prop
 z:Nat
 /-- what the slots of the calls that wait rd -/
 g:Nat->Value
instance:CoeFun pR (fun _=>Nat->Prop):=⟨pR.b⟩
structure Ow where
 g:Nat
 n:Nat
 c:Nat
 sz:Nat
 e:TypeId
abbrev kM:=Nat->Option Ow
def Ix.has (ι:Ix)(b:Nat):Prop:=(∃t n,ι t n=some b)\/∃t n H,ι.ob t n=some H/\H b
def uF (ι:Ix)(Θ:kM):Av:=fun b o=>ι.has b\/(∃k ow,Θ k=some ow/\ow.g=b/\ow.n*ow.sz<=o)
def BE (aa:Av)(ι:Ix)(Θ:kM):Av:=fun b o=>aa b o\/uF ι Θ b o
def exV (v:Value):Prop:=∃A n,v=.slice A n n
def QM (Θ:kM):An->Value->Prop
 |.no,_=>True
 |.ex,v=>exV v
 |.own k e,v=>exV v\/∃ow,Θ k=some ow/\ow.e=e/\v=.slice (some ⟨ow.g,0,none⟩) ow.n ow.c
def zG (ι:Ix)(Θ:kM)(av:Av)(w:World)(r:List SC)(cur:Array Value):Prop :=
 r.length<=cur.size/\∀(j:Nat)(x:SC),r[j]?=some x->∃u,cur[j]?=some u/\u.oneCell'=true/\RD ι av w x.v u/\QM Θ x.a u
def Mv (B:Nat)(F0:pR)(D:Nat->Prop)(next:Nat)(w:World)(ι:Ix)(Θ:kM)(t n:Nat)(H:Nat->Prop):Prop :=
 (∀b,H b->(B<=b\/F0 b)/\b<w.heap.size/\(∀t' n',ι t' n'=some b->t'=t/\n'=n)/\(∀k o,Θ k=some o->o.g≠b)/\∀t' n' H',ι.ob t' n'=some H'->H' b->t'=t/\n'=n)/\(n<next\/n=next/\D t)
def Ue (ι:Ix)(S:AV)(p:Nat)(w:World):Prop:=∀tm nm N seen,Qs S=some (tm,nm,N,seen)->∃m H,ι tm nm=some m/\ι.ob tm nm=some H/\w.heap[p]?=some (.mapIter (some m) N seen.toArray N)
theorem Ue.no {ι:Ix}{S:AV}{p:Nat}{w:World}(h:Ew S=true):Ue ι S p w:=fun tm nm N seen e=>by
 unfold Ew at h;rw[e]at h;cases h
theorem Ue.keep {ι ι':Ix}{S:AV}{p:Nat}{w w':World}(h:Ue ι S p w)(hι:∀t n b H,ι t n=some b->ι.ob t n=some H->ι' t n=some b/\∃H',ι'.ob t n=some H')(hp:∀x,w.heap[p]?=some x->w'.heap[p]?=some x):Ue ι' S p w':=fun tm nm N seen e=>by
 obtain⟨m,H,h1,h2,h3⟩:=h tm nm N seen e;obtain⟨g1,H',g2⟩:=hι _ _ _ _ h1 h2;exact⟨m,H',g1,g2,hp _ h3⟩
structure DE (P:Program)(O:XH)(nt B:Nat)(F0:pR)(aa:Av)(w0:World)(D:Nat->Prop)(s:LC)(a:Act)(w:World)(ι:Ix)(Θ:kM):Prop where
 defers:a.defers=[]
 size:a.tmps.size=nt
 env:∀t,WD ι (BE aa ι Θ) (uF ι Θ) w (s.env t).v (a.tmps.getD t undef)
 aC:∀t,QM Θ (s.env t).a (a.tmps.getD t undef)
 rows:∀t n r,s.mem t n=some r->ι.ob t n=none/\∃b cur ty,ι t n=some b/\w.heap[b]?=some (.cells cur ty (0,0))/\zG ι Θ (BE aa ι Θ) w r cur/\(B<=b\/F0.r b)/\cur.size=ι.z b
 mine:∀t n b,ι t n=some b->(B<=b\/F0 b)/\b<w.heap.size/\(n<s.next\/n=s.next/\D t)
 inj:∀t n t' n' b,ι t n=some b->ι t' n'=some b->t=t'/\n=n'
 tok:∀k o,Θ k=some o->B<=o.g/\0<o.sz/\o.n<=o.c/\o.c<=maxLen/\∃cur,w.heap[o.g]?=some (.cells cur o.e (0,0))/\(cur.size=o.c*o.sz/\CE P o.e=some o.sz)
 ZA:∀k k' o o',Θ k=some o->Θ k'=some o'->o.g=o'.g->k=k'
 apart:∀k o t n,Θ k=some o->ι t n≠some o.g
 out:∀b o,aa b o->b<B
 pin:∀p,F0.p=some p->ι 0 0=some p/\((F0.r p/\ι.z p=F0.z)\/∃H,ι.ob 0 0=some H)
 kept:SD F0.b w0 w
 base:B=w0.heap.size/\O.wd w0/\∀b,F0.b b->O.lo<=b
 qB:∀t n S,s.obj t n=some S->∃p H,ι t n=some p/\ι.ob t n=some H/\O.at_ S H p w/\Ue ι S p w
 obs:∀t n H,ι.ob t n=some H->Mv B F0 D s.next w ι Θ t n H
 gen:∀t,WD ι (BE aa ι Θ) (uF ι Θ) w (s.gh t).v (F0.g t)
 pB:∀t,QM Θ (s.gh t).a (F0.g t)
section
variable {P:Program} {O:XH} {nt B:Nat} {F0:pR} {aa:Av} {w0:World} {D:Nat->Prop} {s:LC} {a:Act} {w w':World} {ι:Ix} {Θ:kM}
theorem SI {w:World}{b o:Nat}{u:Value}(h:w.cell? ⟨b,o,none⟩=some u):b<w.heap.size:=World.block_lt_of_cell? w ⟨b,o,none⟩ (by exact h)
theorem QD.grown {av pb:Av}(hb:∀b,b<w.heap.size->w'.heap[b]?=w.heap[b]?)(ha:∀b o,b<w.heap.size->pb b o->av b o):QD av pb w w' :=
 ⟨fun b o _ hc hn=>⟨(World.cell?_of_block (w:=w) (a:=⟨b,o,none⟩) (hb b (SI hc))).trans hc,fun h=>hn (ha b o (SI hc) h)⟩⟩
theorem zG.held {ι ι':Ix}{Θ Θ':kM}{av pb:Av}{r:List SC}{cur:Array Value}(h:zG ι Θ av w r cur)(hι:Ix.Le ι ι')(hh:QD av pb w w')(hΘ:∀k o,Θ k=some o->Θ' k=some o):zG ι' Θ' pb w' r cur:=by
 refine⟨h.1,fun j x hx=>?_⟩;obtain⟨u,hu,h1,hr,ha⟩:=h.2 j x hx;refine⟨u,hu,h1,RD.held hι hh _ _ hr,?_⟩;cases hxa:x.a with
 |no=>trivial
 |ex=>rw[hxa]at ha;exact ha
 |own k e =>
  rw[hxa]at ha;rcases ha with ha|⟨ow,h1,h2⟩
  ·exact .inl ha
  ·exact .inr ⟨ow,hΘ _ _ h1,h2⟩
theorem Mv.grow {t n:Nat}{H:Nat->Prop}{next:Nat}(h:Mv B F0 D next w ι Θ t n H)(hs:w.heap.size<=w'.heap.size):Mv B F0 D next w' ι Θ t n H :=
 ⟨fun b hb=>let⟨h1,h2,h3⟩:=h.1 b hb;⟨h1,Y06 h2 hs,h3⟩,h.2⟩
theorem DE.grow (R:DE P O nt B F0 aa w0 D s a w ι Θ)(hb:∀b,b<w.heap.size->w'.heap[b]?=w.heap[b]?)(hs:w.heap.size<=w'.heap.size)(hw:SD F0.b w0 w'):DE P O nt B F0 aa w0 D s a w' ι Θ:=by
 have hA:QD (BE aa ι Θ) (BE aa ι Θ) w w':=QD.grown hb fun _ _ _ h=>h
 have hB:QD (uF ι Θ) (uF ι Θ) w w':=QD.grown hb fun _ _ _ h=>h
 refine⟨R.defers,R.size,fun t=>WD.held (Ix.Le.refl _) hA hB _ _ (R.env t),R.aC,fun t n r hr=>?_,fun t n b h=>?_,R.inj,fun k o h=>?_,R.ZA,R.apart,R.out,R.pin,hw,R.base,fun t n S h=>?_,fun t n H h=>(R.obs t n H h).grow hs,fun t=>WD.held (Ix.Le.refl _) hA hB _ _ (R.gen t),R.pB⟩
 ·obtain⟨h0,b,cur,ty,h1,h2,h3,h4⟩:=R.rows t n r hr;exact⟨h0,b,cur,ty,h1,(hb b (sD h2)).trans h2,h3.held (Ix.Le.refl _) hA (fun _ _ h=>h),h4⟩
 ·obtain⟨h1,h2,h3⟩:=R.mine t n b h;exact⟨h1,by omega,h3⟩
 ·obtain⟨h1,h2,h3,h4,cur,h5,h6⟩:=R.tok k o h;exact⟨h1,h2,h3,h4,cur,(hb _ (sD h5)).trans h5,h6⟩
 ·obtain⟨p,H,h1,h2,h3,h4⟩:=R.qB t n S h;exact⟨p,H,h1,h2,O.keep h3 (fun b hH=>hb b (O.lt h3 hH)) hs,h4.keep (fun t n b H h g=>⟨h,H,g⟩) fun x hx=>(hb _ (sD hx)).trans hx⟩
theorem Z7 {a:Act}{d t:Nat}{v:Value}(hd:d<a.tmps.size):(a.put (some d) v).tmps.getD t undef=if t=d then v else a.tmps.getD t undef:=by
 simp only[Act.put,Y0j,Array.getElem?_setIfInBounds];by_cases h:d=t
 ·subst h;simp[hd]
 ·have h':¬ t=d:=fun e=>h e.symm
  simp[h,h']
theorem DE.put (R:DE P O nt B F0 aa w0 D s a w ι Θ){d:Nat}(hd:d<nt){x:SC}{v:Value}(hx:WD ι (BE aa ι Θ) (uF ι Θ) w x.v v)(ha:QM Θ x.a v):DE P O nt B F0 aa w0 D (s.put (some d) x) (a.put (some d) v) w ι Θ:=by
 have xq:d<a.tmps.size:=by rw[R.size];exact hd
 refine⟨R.defers,by simpa [Act.put]using R.size,fun t=>?_,fun t=>?_,R.rows,R.mine,R.inj,R.tok,R.ZA,R.apart,R.out,R.pin,R.kept,R.base,R.qB,R.obs,R.gen,R.pB⟩
 ·rw [Z7 xq];simp only [LC.put];by_cases h:t=d
  ·simp only[if_pos h];exact hx
  ·simp only[if_neg h];exact R.env t
 ·rw [Z7 xq];simp only [LC.put];by_cases h:t=d
  ·simp only[if_pos h];exact ha
  ·simp only[if_neg h];exact R.aC t
theorem DE.cB (R:DE P O nt B F0 aa w0 D s a w ι Θ){d:Option Nat}(hd:∀t,d=some t->t<nt){x:SC}{v:Value}(hx:WD ι (BE aa ι Θ) (uF ι Θ) w x.v v)(ha:QM Θ x.a v):DE P O nt B F0 aa w0 D (s.put d x) (a.put d v) w ι Θ:=by
 cases d with
 |none=>exact R
 |some d=>exact R.put (hd d rfl) hx ha
theorem DE.more (R:DE P O nt B F0 aa w0 D s a w ι Θ){D':Nat->Prop}(h:∀t,D t->D' t):DE P O nt B F0 aa w0 D' s a w ι Θ :=
 ⟨R.defers,R.size,R.env,R.aC,R.rows,fun t n b hb=>let⟨h1,h2,h3⟩:=R.mine t n b hb;⟨h1,h2,h3.imp id fun⟨e,d⟩=>⟨e,h t d⟩⟩,R.inj,R.tok,R.ZA,R.apart,R.out,R.pin,R.kept,R.base,R.qB,fun t n H hb=>⟨(R.obs t n H hb).1,(R.obs t n H hb).2.imp id fun⟨e,d⟩=>⟨e,h t d⟩⟩,R.gen,R.pB⟩
structure Ix.Lk (t n:Nat)(ι ι':Ix):Prop where
 f:∀t' n' b,¬(t'=t/\n'=n)->ι t' n'=some b->ι' t' n'=some b
 z:∀t n b,ι t n=some b->ι'.z b=ι.z b
theorem RD.kill {t n:Nat}{ι ι':Ix}{av pb:Av}(hι:Ix.Lk t n ι ι')(h:QD av pb w w')(x:AV)(v:Value)(hr:RD ι av w x v):RD ι' pb w' (x.rA t n) v:=by
 cases x with
 |ptr t' n' o =>
  obtain⟨b,hb,hv⟩:=hr;simp only[AV.rA];split
  ·trivial
  ·rename_i ua;exact⟨b,hι.f _ _ _ ua hb,hv⟩
 |ref t' n' sz o l c =>
  obtain⟨b,hb,h1,c',h2,h3,hv⟩:=hr;simp only[AV.rA];split
  ·trivial
  ·rename_i ua;exact⟨b,hι.f _ _ _ ua hb,h1,c',h2,by rw[hι.z _ _ _ hb];exact h3,hv⟩
 |mp t' n' =>
  obtain⟨b,hb,hv⟩:=hr;simp only[AV.rA];split
  ·trivial
  ·rename_i ua;exact⟨b,hι.f _ _ _ ua hb,hv⟩
 |undef=>trivial
 |_=>exact ZG.held h _ v hr
theorem cD.kill {t n:Nat}{ι ι':Ix}{av pb:Av}(hι:Ix.Lk t n ι ι')(h:QD av pb w w'):∀(xs:List AV)(us:List Value),cD ι av w xs us->cD ι' pb w' (xs.map (AV.rA t n)) us
 | [],_,hr=>by simpa [cD]using hr
 |x::r,_,hr=>by
  simp only[cD]at hr;obtain⟨u,gb,rfl,hx,h1,hr⟩:=hr;exact⟨u,gb,rfl,RD.kill hι h x u hx,h1,cD.kill hι h r gb hr⟩
theorem qS.kill {t n:Nat}{ι ι':Ix}{av pb:Av}(hι:Ix.Lk t n ι ι')(h:QD av pb w w')(x:AV)(v:Value)(hr:qS ι av w x v):qS ι' pb w' (x.OA t n) v:=by
 cases x with
 |agg cs=>obtain⟨us,hv,hc⟩:=hr;exact⟨us,hv,cD.kill hι h _ _ hc⟩
 |ptr t' n' o =>
  have:=RD.kill hι h (.ptr t' n' o) v hr;show qS ι' pb w' (AV.rA t n (.ptr t' n' o)) v;simp only[AV.rA]at this ⊢;split
  ·trivial
  ·rename_i ua;rw[if_neg ua]at this;exact this
 |ref t' n' sz o l c =>
  have:=RD.kill hι h (.ref t' n' sz o l c) v hr;show qS ι' pb w' (AV.rA t n (.ref t' n' sz o l c)) v;simp only[AV.rA]at this ⊢;split
  ·trivial
  ·rename_i ua;rw[if_neg ua]at this;exact this
 |mp t' n' =>
  have:=RD.kill hι h (.mp t' n') v hr;show qS ι' pb w' (AV.rA t n (.mp t' n')) v;simp only[AV.rA]at this ⊢;split
  ·trivial
  ·rename_i ua;rw[if_neg ua]at this;exact this
 |undef=>trivial
 |int=>exact RD.kill hι h (.int _ _) v hr
 |bool=>exact RD.kill hι h (.bool _) v hr
 |str=>exact RD.kill hι h (.str _) v hr
 |EA=>exact RD.kill hι h .EA v hr
 |ip=>exact RD.kill hι h (.ip _) v hr
 |sl n' l=>exact RD.kill hι h (.sl n' l) v hr
 |fA cs=>exact RD.kill hι h (.fA cs) v hr
 |bl cs=>exact RD.kill hι h (.bl cs) v hr
 |bp cs=>exact RD.kill hι h (.bp cs) v hr
 |fn f cs=>exact RD.kill hι h (.fn f cs) v hr
theorem rJ.kill {t n:Nat}{ι ι':Ix}{av pb:Av}(hι:Ix.Lk t n ι ι')(h:QD av pb w w'):∀(xs:List AV)(us:List Value),rJ ι av w xs us->rJ ι' pb w' (xs.map (AV.OA t n)) us
 | [],_,hr=>by simpa [rJ]using hr
 |x::r,_,hr=>by
  simp only[rJ]at hr;obtain⟨u,gb,rfl,hx,hr⟩:=hr;exact⟨u,gb,rfl,qS.kill hι h x u hx,rJ.kill hι h r gb hr⟩
theorem QY.kill {t n:Nat}{ι ι':Ix}{av pb uF avB':Av}(hι:Ix.Lk t n ι ι')(h:QD av pb w w')(hB:QD uF avB' w w')(x:AV)(v:Value)(hr:QY ι av uF w x v):QY ι' pb avB' w' (x.rA t n) v:=by
 cases x with
 |bp cs=>obtain⟨b,off,hv,hc⟩:=hr;exact⟨b,off,hv,iF.held h hB _ b off hc⟩
 |ptr t' n' o =>
  have:=RD.kill hι h (.ptr t' n' o) v hr;simp only[AV.rA]at this ⊢;split
  ·trivial
  ·rename_i ua;rw[if_neg ua]at this;exact this
 |ref t' n' sz o l c =>
  have:=RD.kill hι h (.ref t' n' sz o l c) v hr;simp only[AV.rA]at this ⊢;split
  ·trivial
  ·rename_i ua;rw[if_neg ua]at this;exact this
 |mp t' n' =>
  have:=RD.kill hι h (.mp t' n') v hr;simp only[AV.rA]at this ⊢;split
  ·trivial
  ·rename_i ua;rw[if_neg ua]at this;exact this
 |undef=>trivial
 |int=>exact RD.kill hι h (.int _ _) v hr
 |bool=>exact RD.kill hι h (.bool _) v hr
 |str=>exact RD.kill hι h (.str _) v hr
 |EA=>exact RD.kill hι h .EA v hr
 |ip=>exact RD.kill hι h (.ip _) v hr
 |sl=>exact RD.kill hι h (.sl _ _) v hr
 |agg cs=>exact RD.kill hι h (.agg cs) v hr
 |fA cs=>exact RD.kill hι h (.fA cs) v hr
 |bl cs=>exact RD.kill hι h (.bl cs) v hr
 |fn f cs=>exact RD.kill hι h (.fn f cs) v hr
theorem kJ.kill {t n:Nat}{ι ι':Ix}{av pb uF avB':Av}(hι:Ix.Lk t n ι ι')(h:QD av pb w w')(hB:QD uF avB' w w'):∀(xs:List AV)(us:List Value),kJ ι av uF w xs us->kJ ι' pb avB' w' (xs.map (AV.rA t n)) us
 | [],_,hr=>by simpa [kJ]using hr
 |x::r,_,hr=>by
  simp only[kJ]at hr;obtain⟨u,gb,rfl,hx,hr⟩:=hr;exact⟨u,gb,rfl,QY.kill hι h hB x u hx,kJ.kill hι h hB r gb hr⟩
theorem WD.kill {t n:Nat}{ι ι':Ix}{av pb uF avB':Av}(hι:Ix.Lk t n ι ι')(h:QD av pb w w')(hB:QD uF avB' w w')(x:AV)(v:Value)(hr:WD ι av uF w x v):WD ι' pb avB' w' (x.kill t n) v:=by
 cases x with
 |bp cs=>obtain⟨b,off,hv,hc⟩:=hr;exact⟨b,off,hv,iF.held h hB _ b off hc⟩
 |bl l =>
  obtain⟨a,c,hv,hl,hu,hc⟩:=hr;refine⟨a,c,hv,hl,hu,fun h0=>?_⟩;obtain⟨b,off,ha,hr⟩:=hc h0;exact⟨b,off,ha,BN.held h hB _ b off hr⟩
 |agg cs=>obtain⟨us,hv,hc⟩:=hr;exact⟨us,hv,cD.kill hι h _ _ hc⟩
 |fA cs=>obtain⟨us,hv,hc⟩:=hr;exact⟨us,hv,rJ.kill hι h _ _ hc⟩
 |fn f cs=>obtain⟨us,hv,hc⟩:=hr;exact⟨us,hv,kJ.kill hι h hB _ _ hc⟩
 |undef=>trivial
 |ptr t' n' o =>
  have:=RD.kill hι h (.ptr t' n' o) v hr;show WD ι' pb avB' w' (AV.rA t n (.ptr t' n' o)) v;simp only[AV.rA]at this ⊢;split
  ·trivial
  ·rename_i ua;rw[if_neg ua]at this;exact this
 |ref t' n' sz o l c =>
  have:=RD.kill hι h (.ref t' n' sz o l c) v hr;show WD ι' pb avB' w' (AV.rA t n (.ref t' n' sz o l c)) v;simp only[AV.rA]at this ⊢;split
  ·trivial
  ·rename_i ua;rw[if_neg ua]at this;exact this
 |mp t' n' =>
  have:=RD.kill hι h (.mp t' n') v hr;show WD ι' pb avB' w' (AV.rA t n (.mp t' n')) v;simp only[AV.rA]at this ⊢;split
  ·trivial
  ·rename_i ua;rw[if_neg ua]at this;exact this
 |int=>exact RD.kill hι h (.int _ _) v hr
 |bool=>exact RD.kill hι h (.bool _) v hr
 |str=>exact RD.kill hι h (.str _) v hr
 |EA=>exact RD.kill hι h .EA v hr
 |ip=>exact RD.kill hι h (.ip _) v hr
 |sl=>exact RD.kill hι h (.sl _ _) v hr
theorem fZ {v:Value}{x:AV}(h:K2 v=some x)(av:Av)(w:World):ZG av w x v/\v.oneCell'=true/\(x.leaf=true\/x=.undef)/\(∀n l,x=.sl n l->n=true/\v=.slice none 0 0):=by
 unfold K2 at h;split at h<;>first
  |(injection h with h;subst h;simp[ZG,Value.oneCell',AV.leaf];done)
  |(cases h;done)
theorem XX {ι:Ix}{av uF:Av}{w:World}{x:AV}{v:Value}(h:ZG av w x v)(hx:x.leaf=true):WD ι av uF w x v:=by
 cases x<;>first|exact h|(simp[AV.leaf]at hx;done)|(simp[ZG]at h;done)
theorem ZO {ι:Ix}{av:Av}{w:World}{x:AV}{v:Value}(h:ZG av w x v):RD ι av w x v:=by
 cases x<;>first|exact h|simp[ZG]at h
theorem BL {ι:Ix}:∀{vs:List Value}{xs:List AV}(_:TM vs=some xs)(av:Av)(w:World),cD ι av w xs vs
 | [],_,h,_,_=>by injection h with h;subst h;rfl
 |v::r,_,h,av,w=>by
  unfold TM at h;cases hv:K2 v with
  |none=>rw[hv]at h;cases h
  |some x =>
   rw[hv]at h;cases hr:TM r with
   |none=>rw[hr]at h;cases h
   |some l =>
    rw[hr]at h;injection h with h;subst h;have h1:=fZ hv av w;exact⟨v,r,rfl,ZO h1.1,h1.2.1,BL hr av w⟩
theorem Pe {v:Value}{x:AV}(h:Gg v=some x)(ι:Ix)(av uF:Av)(w:World):WD ι av uF w x v:=by
 unfold Gg at h;split at h
 ·rename_i cs;cases hc:TM cs.toList with
  |none=>rw[hc]at h;cases h
  |some l =>
   rw[hc]at h;injection h with h;subst h;exact⟨cs,rfl,BL hc av w⟩
 ·have:=fZ h av w;rcases this.2.2.1 with h1 | h1
  ·exact XX this.1 h1
  ·subst h1;trivial
theorem Ob {v:Value}{b:Bool}{l:List (List AV)}(h:Gg v=some (.sl b l)):b=true/\v=.slice none 0 0:=by
 unfold Gg at h;split at h
 ·rename_i cs;cases hc:TM cs.toList with
  |none=>rw[hc]at h;cases h
  |some l=>rw[hc]at h;injection h with h;cases h
 ·exact(fZ h (fun _ _=>False) default).2.2.2 _ _ rfl
theorem DE.pA (R:DE P O nt B F0 aa w0 D s a w ι Θ){x:Operand}{y:EE}(h:pA x=some y):WD ι (BE aa ι Θ) (uF ι Θ) w (y.get s) (a.eval x)/\QM Θ (y.an s) (a.eval x):=by
 unfold YtpmklcpajcfpjaaGreatDoor.pA at h;split at h
 ·injection h with h;subst h;exact⟨R.env _,R.aC _⟩
 ·rename_i v;cases hc:Gg v with
  |none=>rw[hc]at h;cases h
  |some x =>
   rw[hc]at h;injection h with h;subst h;refine⟨Pe hc _ _ _ _,?_⟩;cases x with
   |sl b l =>
    obtain⟨rfl,hv⟩:=Ob hc;exact⟨none,0,hv⟩
   |_=>trivial
 ·injection h with h;subst h;exact⟨⟨#[],rfl,rfl⟩,trivial⟩
 ·cases h
end
end
section
open Go Go.RowKit
section
variable {P:Program} {O:XH} {nt B:Nat} {F0:pR} {aa:Av} {w0:World} {D:Nat->Prop} {s:LC} {a:Act} {w w':World} {ι:Ix} {Θ:kM}
theorem FS {t:TypeId}{b:Bool}(h:QL P t=some b)(w:World):(isAgg t).run P w=.ok b w:=by
 unfold QL at h;cases hu:P.underlying t with
 |none=>rw[hu]at h;cases h
 |some d =>
  rw[hu]at h;injection h with h;subst h;cases d<;>simp[isAgg,run_underlying hu]
theorem mF {t:TypeId}{z:Nat}(h:CE P t=some z)(w:World):(sizeOf t).run P w=.ok z w:=by
 unfold CE at h;cases hu:P.info? t with
 |none=>rw[hu]at h;cases h
 |some d =>
  rw[hu]at h;injection h with h;subst h;simp[sizeOf,typeInfo,hu]
theorem NJ {t:TypeId}{l:List AV}(h:JL P t=some l)(w:World):∃z i,P.info? t=some i/\i.zero=some z/\(zeroValue t).run P w=.ok z w/\TM z.cells.toList=some l:=by
 unfold JL at h;cases hu:P.info? t with
 |none=>rw[hu]at h;cases h
 |some d =>
  rw[hu]at h;cases hz:d.zero with
  |none=>simp[hz]at h
  |some z =>
   simp only[J,hz]at h;exact⟨z,d,rfl,hz,by simp[zeroValue,typeInfo,hu,hz],h⟩
theorem OJ:∀{vs:List Value}{xs:List AV},TM vs=some xs->xs.length=vs.length
 | [],_,h=>by injection h with h;subst h;rfl
 |v::r,_,h=>by
  unfold TM at h;cases hv:K2 v with
  |none=>rw[hv]at h;cases h
  |some x =>
   rw[hv]at h;cases hr:TM r with
   |none=>rw[hr]at h;cases h
   |some l=>rw[hr]at h;injection h with h;subst h;simp[OJ hr]
def BX (P:Program)(aa:Av)(a:Act)(w:World)(ι:Ix)(Θ:kM)(o:Oper)(x:SC):Prop :=
 ∃v,(execOp a.eval o).run P w=.ok (.value v) w/\WD ι (BE aa ι Θ) (uF ι Θ) w x.v v/\QM Θ x.a v
section
variable {av avb:Av}
include av avb
theorem OD {k:IntKind}{n:Int}{v:Value}:WD ι av avb w (.int k n) v↔v=.int k n:=by simp[WD,RD,ZG]
theorem cE {b:Bool}{v:Value}:WD ι av avb w (.bool b) v↔v=.bool b:=by simp[WD,RD,ZG]
theorem NI {b:ByteArray}{v:Value}:WD ι av avb w (.str b) v↔v=.string b:=by simp[WD,RD,ZG]
theorem K4 {v:Value}:WD ι av avb w .EA v↔v=.pointer none:=by simp[WD,RD,ZG]
theorem BI {t n off:Nat}{v:Value}:WD ι av avb w (.ptr t n off) v ↔ ∃b,ι t n=some b/\v=.pointer (some ⟨b,off,none⟩):=Iff.rfl
theorem lK {t n sz off len cap:Nat}{v:Value}:WD ι av avb w (.ref t n sz off len cap) v ↔ ∃b,ι t n=some b/\len<=cap/\∃c,cap<=c/\off+c*sz<=ι.z b/\v=.slice (some ⟨b,off,none⟩) len c:=Iff.rfl
theorem PN {cs:List AV}{v:Value}:WD ι av avb w (.ip cs) v ↔ ∃b off,v=.pointer (some ⟨b,off,none⟩)/\dH av w cs b off:=by simp[WD,RD,ZG]
theorem FG {nil:Bool}{l:List (List AV)}{v:Value}:WD ι av avb w (.sl nil l) v↔ZG av w (.sl nil l) v:=Iff.rfl
theorem E1 {cs:List AV}{v:Value}:WD ι av avb w (.agg cs) v ↔ ∃us,v=.agg us/\cD ι av w cs us.toList:=Iff.rfl
theorem Wc {cs:List AV}{v:Value}:WD ι av avb w (.fA cs) v ↔ ∃us,v=.tuple us/\rJ ι av w cs us.toList:=Iff.rfl
end
theorem xF {av:Av}:∀{xs:List AV}{us:List Value},cD ι av w xs us->us.length=xs.length
 | [],_,h=>by simp only[cD]at h;subst h;rfl
 |x::r,_,h=>by
  simp only[cD]at h;obtain⟨u,gb,rfl,_,_,h⟩:=h;simp[xF h]
theorem qI {av:Av}:∀{xs:List AV}{us:List Value}(n:Nat),cD ι av w xs us->cD ι av w (xs.drop n) (us.drop n)
 | [],_,n,h=>by simp only[cD]at h;subst h;simp[cD]
 |x::r,_,n,h=>by
  cases n with
  |zero=>exact h
  |succ n =>
   simp only[cD]at h;obtain⟨u,gb,rfl,_,_,h⟩:=h;exact qI n h
theorem RI {av:Av}:∀{xs:List AV}{us:List Value}(n:Nat),cD ι av w xs us->cD ι av w (xs.take n) (us.take n)
 | [],_,n,h=>by simp only[cD]at h;subst h;simp[cD]
 |x::r,_,n,h=>by
  cases n with
  |zero=>simp[cD]
  |succ n =>
   simp only[cD]at h;obtain⟨u,gb,rfl,h0,h1,h⟩:=h;exact⟨u,gb.take n,rfl,h0,h1,RI n h⟩
theorem ZL {av:Av}:∀{xs:List AV}{us:List Value}(_:cD ι av w xs us){j:Nat}{x:AV},xs[j]?=some x->∃u,us[j]?=some u/\u.oneCell'=true/\RD ι av w x u
 | [],_,_,_,_,hx=>by simp at hx
 |y::r,_,h,j,x,hx=>by
  simp only[cD]at h;obtain⟨u,gb,rfl,h0,h1,h⟩:=h;cases j with
  |zero=>simp at hx;subst hx;exact⟨u,rfl,h1,h0⟩
  |succ j=>exact ZL h (j:=j) (by simpa using hx)
theorem UJ {av:Av}:∀{xs ys:List AV}{us vs:List Value},cD ι av w xs us->cD ι av w ys vs->cD ι av w (xs++ys) (us++vs)
 | [],_,_,_,h,h'=>by simp only[cD]at h;subst h;exact h'
 |x::r,_,_,_,h,h'=>by
  simp only[cD]at h;obtain⟨u,gb,rfl,h0,h1,h⟩:=h;exact⟨u,gb++_,rfl,h0,h1,UJ h h'⟩
theorem jG {av:Av}:∀{xs:List AV}{us:List Value},eE av w xs us->cD ι av w xs us
 | [],_,h=>by simpa [eE,cD]using h
 |x::r,_,h=>by
  simp only[eE]at h;obtain⟨u,gb,rfl,h0,h1,h⟩:=h;exact⟨u,gb,rfl,ZO h0,h1,jG h⟩
theorem LL {av:Av}:∀{cs:List AV}{b off:Nat},dH av w cs b off->∃us,eE av w cs us/\∀(j:Nat)(u:Value),us[j]?=some u->w.cell? ⟨b,off+j,none⟩=some u/\¬av b (off+j)
 | [],_,_,_=>⟨[],rfl,fun j u h=>by simp at h⟩
 |x::r,b,off,h=>by
  simp only[dH]at h;obtain⟨⟨u,hc,hx,h1⟩,ha,hr⟩:=h;obtain⟨us,hl,hj⟩:=LL hr;refine⟨u::us,⟨u,us,rfl,hx,h1,hl⟩,fun j v hv=>?_⟩;cases j with
  |zero=>simp at hv;subst hv;exact⟨hc,ha⟩
  |succ j =>
   have:=hj j v (by simpa using hv);rw[show off+(j+1)=off+1+j from by omega];exact this
theorem BR {av avb:Av}:∀{cs:List AV}{b off:Nat},iF av avb w cs b off->∃us,eE av w cs us/\∀(j:Nat)(u:Value),us[j]?=some u->w.cell? ⟨b,off+j,none⟩=some u/\¬avb b (off+j)
 | [],_,_,_=>⟨[],rfl,fun j u h=>by simp at h⟩
 |x::r,b,off,h=>by
  simp only[iF]at h;obtain⟨⟨u,hc,hx,h1⟩,ha,hr⟩:=h;obtain⟨us,hl,hj⟩:=BR hr;refine⟨u::us,⟨u,us,rfl,hx,h1,hl⟩,fun j v hv=>?_⟩;cases j with
  |zero=>simp at hv;subst hv;exact⟨hc,ha⟩
  |succ j =>
   have:=hj j v (by simpa using hv);rw[show off+(j+1)=off+1+j from by omega];exact this
theorem EM {av:Av}:∀{cs:List AV}{us:List Value}{b off:Nat},eE av w cs us->(∀(j:Nat)(u:Value),us[j]?=some u->w.cell? ⟨b,off+j,none⟩=some u/\¬av b (off+j))->dH av w cs b off
 | [],_,_,_,_,_=>by simp[dH]
 |x::r,_,b,off,h,hj=>by
  simp only[eE]at h;obtain⟨u,gb,rfl,h0,h1,h⟩:=h;simp only[dH];have h2:=hj 0 u rfl;refine⟨⟨u,h2.1,h0,h1⟩,h2.2,EM h fun j v hv=>?_⟩;have:=hj (j+1) v (by simpa using hv);rw[show off+1+j=off+(j+1)from by omega];exact this
theorem cN {av:Av}:∀{cs ds:List AV}{b off:Nat},dH av w (cs++ds) b off↔dH av w cs b off/\dH av w ds b (off+cs.length)
 | [],ds,b,off=>by simp[dH]
 |x::r,ds,b,off=>by
  simp only[List.cons_append,dH,cN (cs:=r),yG];rw[show off+(r.length+1)=off+1+r.length from by omega];exact⟨fun⟨h1,h2,h3,h4⟩=>⟨⟨h1,h2,h3⟩,h4⟩,fun⟨⟨h1,h2,h3⟩,h4⟩=>⟨h1,h2,h3,h4⟩⟩
theorem XG {av:Av}:∀{l:List (List AV)}{b off:Nat},Rows av w l b off↔dH av w l.flatten b off
 | [],b,off=>by simp[Rows,dH]
 |cs::r,b,off=>by
  simp only[Rows,yA,cN,XG (l:=r)]
theorem jM {av avb:Av}:∀{cs ds:List AV}{b off:Nat},iF av avb w (cs++ds) b off↔iF av avb w cs b off/\iF av avb w ds b (off+cs.length)
 | [],ds,b,off=>by simp[iF]
 |x::r,ds,b,off=>by
  simp only[List.cons_append,iF,jM (cs:=r),yG];rw[show off+(r.length+1)=off+1+r.length from by omega];exact⟨fun⟨h1,h2,h3,h4⟩=>⟨⟨h1,h2,h3⟩,h4⟩,fun⟨⟨h1,h2,h3⟩,h4⟩=>⟨h1,h2,h3,h4⟩⟩
theorem XL {av avb:Av}:∀{l:List (List AV)}{b off:Nat},BN av avb w l b off↔iF av avb w l.flatten b off
 | [],b,off=>by simp[BN,iF]
 |cs::r,b,off=>by
  simp only[BN,yA,jM,XL (l:=r)]
theorem qT {sz:Nat}:∀{l:List (List AV)}(_:∀c∈l,c.length=sz)(k:Nat),l.flatten.drop (k*sz)=(l.drop k).flatten
 | [],_,k=>by simp
 |c::r,h,k=>by
  cases k with
  |zero=>simp
  |succ k =>
   have hc:c.length=sz:=h c (by simp);rw[yA,List.drop_succ_cons,List.drop_append,hc,show(k+1)*sz-sz=k*sz from by rw[yN];omega,
    yw (by rw[hc,yN];omega),Y00]
   exact qT (fun c hc=>h c (by simp[hc])) k
theorem Xx {t:TypeId}{agg:Bool}{z:Nat}(hA:QL P t=some agg)(hz:CE P t=some z){av:Av}{cs:List AV}{us:Array Value}(h:cD ι av w cs us.toList){off:Nat}{x:AV}{avb:Av}
  (hx:XI agg z (cs.drop off)=some x):∃v,(part t us off).run P w=.ok v w/\WD ι av avb w x v:=by
 cases agg with
 |true =>
  simp only[XI,if_true]at hx;split at hx
  ·rename_i bc;injection hx with hx;subst hx;refine⟨.agg (us.extract off (off+z)),by simp[part,FS hA,mF hz],_,rfl,?_⟩;have:=RI z (qI off h);have he:(us.extract off (off+z)).toList=(us.toList.drop off).take z:=by
    rw[Array.toList_extract,List.extract_eq_take_drop,Y0g]
   rw[he];exact this
  ·cases hx
 |false =>
  simp only[XI,yM,if_false,yI,yV]at hx;obtain⟨u,hu,h1,hr⟩:=ZL h hx;have zt:us[off]?=some u:=by simpa using hu
  refine⟨u,by simp[part,FS hA,zt],?_⟩;cases x<;>first|exact hr|(simp[RD,ZG]at hr;obtain⟨gb,rfl,_⟩:=hr;simp[Value.oneCell']at h1)|(simp[RD,ZG]at hr)
end
end
section
open Go Go.RowKit
section
variable {P:Program} {O:XH} {nt B:Nat} {F0:pR} {aa:Av} {w0:World} {D:Nat->Prop} {s:LC} {a:Act} {w w':World} {ι:Ix} {Θ:kM} {o:Oper}
theorem Mo {av avb:Av}{x:AV}{u:Value}(h:RD ι av w x u)(h1:u.oneCell'=true):WD ι av avb w x u:=by
 cases x<;>first|exact h|(simp[RD,ZG]at h;obtain⟨gb,rfl,_⟩:=h;simp[Value.oneCell']at h1;done)|(simp[RD,ZG]at h;done)
theorem Zv (R:DE P O nt B F0 aa w0 D s a w ι Θ){X:Operand}{y:EE}(h:pA X=some y)(ho:o.op=.move X\/o.op=.assign X):BX P aa a w ι Θ o ⟨y.get s,y.an s⟩ :=
 ⟨a.eval X,by rcases ho with ho|ho<;>simp[execOp,ho],(R.pA h).1,(R.pA h).2⟩
theorem Xv (R:DE P O nt B F0 aa w0 D s a w ι Θ){C X Y:Operand}{c x y:EE}(hc:pA C=some c)(hx:pA X=some x)(hy:pA Y=some y)(ho:o.op=.pick C X Y){t:Bool}(ht:c.get s=.bool t):
  BX P aa a w ι Θ o (if t then⟨x.get s,x.an s⟩else⟨y.get s,y.an s⟩):=by
 have h:=(R.pA hc).1;rw[ht,cE]at h;cases t with
 |true=>exact⟨a.eval X,by simp[execOp,ho,h,asBool],(R.pA hx).1,(R.pA hx).2⟩
 |false=>exact⟨a.eval Y,by simp[execOp,ho,h,asBool],(R.pA hy).1,(R.pA hy).2⟩
theorem zG.rep {av:Av}{r:List SC}{cur:Array Value}(h:zG ι Θ av w r cur):cD ι av w (r.map (·.v)) (cur.toList.take r.length):=by
 obtain⟨hl,hj⟩:=h;obtain⟨l⟩:=cur;simp only[yY]at hl;simp only[List.getElem?_toArray]at hj;simp only
 induction r generalizing l with
 |nil=>rfl
 |cons x r ih =>
  cases l with
  |nil=>simp at hl
  |cons u us =>
   obtain⟨u',hu,h1,hr,_⟩:=hj 0 x rfl;simp at hu;subst hu;exact⟨_,us.take r.length,rfl,hr,h1,ih us (by simpa using hl) fun j y hy=>hj (j+1) y hy⟩
theorem xS {t:TypeId}{agg:Bool}{z:Nat}(hA:QL P t=some agg)(hz:CE P t=some z){av avb:Av}{cs:List AV}{us:List Value}(h:cD ι av w cs us){b off:Nat}(ne:∀(j:Nat) (u:Value),us[j]?=some u->w.cell? ⟨b,off+j,none⟩=some u)
  {x:AV} (hx:XI agg z cs=some x):∃v,(loadVar t ⟨b,off,none⟩).run P w=.ok v w/\WD ι av avb w x v/\(agg=false->w.cell? ⟨b,off,none⟩=some v):=by
 cases agg with
 |true =>
  simp only[XI,if_true]at hx;split at hx
  ·rename_i bc;injection hx with hx;subst hx;have da:=xF h;have hl:(us.take z).length=z:=by rw [yz,da]; omega
   have hr:=run_loadCells_list (P:=P) w ⟨b,off,none⟩ (us.take z) (fun j v hv=>by
    rw[Addr.add_lit];refine ne j v ?_;rw[yK]at hv;split at hv
    ·exact hv
    ·cases hv)
   rw[hl]at hr;exact⟨.agg (us.take z).toArray,by simp[loadVar,FS hA,mF hz,hr],⟨_,rfl,RI z h⟩,fun h=>by cases h⟩
  ·cases hx
 |false =>
  simp only[XI,yM,if_false]at hx;obtain⟨u,hu,h1,hr⟩:=ZL h hx;have hc:=ne 0 u hu;rw[yV]at hc;refine⟨u,by simp[loadVar,FS hA,hc],Mo hr h1,fun _=>hc⟩
theorem Kv (R:DE P O nt B F0 aa w0 D s a w ι Θ){t:TypeId}{agg:Bool}{z:Nat}(hA:QL P t=some agg)(hz:CE P t=some z){X:Operand}{y:EE}(h:pA X=some y)(ho:o.op=.load t X){cl:Cl} {call} {x:SC} {e:uG}
  (hr:(K.load cl agg z y).run call s=some (x,e)):e=.none/\BX P aa a w ι Θ o x:=by
 have hX:=(R.pA h).1;simp only[K.run]at hr;split at hr
 ·rename_i t' n off hy;rw [hy,BI] at hX;obtain ⟨b,hb,hv⟩:=hX;split at hr
  ·cases hm:s.mem t' n with
   |none=>rw[hm]at hr;cases hr
   |some r =>
    rw[hm,J]at hr;obtain⟨cj,b',cur,ty,db,ra,ja,_⟩:=R.rows t' n r hm;rw[hb]at db;injection db with db;subst db;have jc:∀(j:Nat)(u:Value),((cur.toList.take r.length).drop off)[j]?=some u->w.cell? ⟨b,off+j,none⟩=some u:=fun j u hu=>by
     rw[cell_of_row w b (off+j) cur ty (0,0) ra];rw[yI,yK]at hu;split at hu
     ·simpa using hu
     ·cases hu
    cases hl:eD agg z off r with
    |none=>rw[hl]at hr;cases hr
    |some y' =>
     rw[hl]at hr;injection hr with hr;injection hr with h1 h2;subst h1;subst h2;refine⟨rfl,?_⟩;have kc:=qI off ja.rep;have hi:XI agg z ((r.map (·.v)).drop off)=some y'.v:=by
      cases agg with
      |true =>
       simp only[eD,if_true]at hl;split at hl
       ·rename_i bc;injection hl with hl;subst hl;simp only[XI,if_true,yJ,yc];rw[if_pos (by omega)];simp[yW,Y01]
       ·cases hl
      |false =>
       simp only[eD,yM,if_false]at hl;simp[XI,yI,hl]
     obtain⟨v,oa,hS,hc⟩:=xS (avb:=uF ι Θ) hA hz kc jc hi;refine⟨v,by simp[execOp,ho,Instr.loadAt,Instr.sureAddr,hv,oa],hS,?_⟩;cases agg with
     |true =>
      simp only[eD,if_true]at hl;split at hl
      ·injection hl with hl;subst hl;trivial
      ·cases hl
     |false =>
      simp only[eD,yM,if_false]at hl;obtain⟨u,hu,_,_,ha⟩:=ja.2 off y' hl;have h3:=hc rfl;rw[cell_of_row w b off cur ty (0,0) ra,hu]at h3;injection h3 with h3;subst h3;exact ha
  ·cases hr
 ·rename_i cs hy;rw [hy,PN] at hX;obtain ⟨b,off,hv,ol⟩:=hX;obtain ⟨us,hl,ne⟩:=LL ol;split at hr
  ·cases hr
  ·cases hi:XI agg z cs with
   |none=>rw[hi]at hr;cases hr
   |some x' =>
    rw[hi]at hr;injection hr with hr;injection hr with h1 h2;subst h1;subst h2;obtain⟨v,oa,hS,_⟩:=xS (avb:=uF ι Θ) hA hz (jG (ι:=ι) hl) (fun j u hu=>(ne j u hu).1) hi;exact⟨rfl,v,by simp[execOp,ho,Instr.loadAt,Instr.sureAddr,hv,oa],hS,trivial⟩
 ·rename_i cs hy;rw [hy] at hX;obtain ⟨b,off,hv,ol⟩:=hX;obtain ⟨us,hl,ne⟩:=BR ol;split at hr
  ·cases hr
  ·cases hi:XI agg z cs with
   |none=>rw[hi]at hr;cases hr
   |some x' =>
    rw[hi]at hr;injection hr with hr;injection hr with h1 h2;subst h1;subst h2;obtain⟨v,oa,hS,_⟩:=xS (avb:=uF ι Θ) hA hz (jG (ι:=ι) hl) (fun j u hu=>(ne j u hu).1) hi;exact⟨rfl,v,by simp[execOp,ho,Instr.loadAt,Instr.sureAddr,hv,oa],hS,trivial⟩
 ·cases hr
theorem HP (a b:ByteArray):(a.toList == b.toList)=decide (a=b):=by
 rw[ByteArray.toList_eq,ByteArray.toList_eq];obtain⟨⟨x⟩⟩:=a;obtain⟨⟨y⟩⟩:=b;rw[Bool.eq_iff_iff];simp
theorem mE {op:BinOp}{t t':TypeId}{X Y:Operand}{u v r:Value}(ho:o.op=.binOp op t X Y t')(hX:a.eval X=u)(hY:a.eval Y=v)(hu:u.oneCell'=true)(hn:u≠.nilIface)(hv:(Go.binOp op t u v).run P w=.ok r w):(execOp a.eval o).run P w=.ok (.value r) w:=by
 have hg:(eqGuard op t X Y u v).run P w=.ok () w:=by
  unfold eqGuard;cases u<;>first|exact absurd rfl hn|(simp[Value.oneCell']at hu;done)|(simp;done)|(split<;>simp;done)
 simp[execOp,ho,hX,hY,hg,hv]
theorem Lv (R:DE P O nt B F0 aa w0 D s a w ι Θ){mx:Bool}{ts:Array TypeId}{X Y:Operand}{x y:EE}(hx:pA X=some x)(hy:pA Y=some y)(ho:o.op=.call { callee:=.builtin (if mx then .max else .min),args:=#[X,Y],argTypes:=ts }){v:AV}(hr:mmC mx (x.get s) (y.get s)=some v):
  BX P aa a w ι Θ o ⟨v,.no⟩:=by
 have hX:=(R.pA hx).1;have hY:=(R.pA hy).1;unfold mmC at hr;split at hr
 ·rename_i k n k' n' e1 e2;rw [e1,OD] at hX;rw [e2,OD] at hY;split at hr
  ·rename_i hk;subst hk;injection hr with hr;subst hr;cases mx with
   |true =>
    have e:(if n' > n then n' else n)=max n n':=by rw[Int.max_def];split<;>split<;>omega
    exact⟨.int k (max n n'),by simp[execOp,ho,resolve,invoke,builtin,Builtin.max_,Builtin.max2,hX,hY,e],by simp[OD],trivial⟩
   |false =>
    have e:(if n'<n then n' else n)=min n n':=by rw[Int.min_def];split<;>split<;>omega
    exact⟨.int k (min n n'),by simp[execOp,ho,resolve,invoke,builtin,Builtin.min_,Builtin.min2,hX,hY,e],by simp[OD],trivial⟩
  ·cases hr
 ·cases hr
theorem val_bin (R:DE P O nt B F0 aa w0 D s a w ι Θ){op:BinOp}{t t':TypeId}{bl:Bool}(ht:bl=true->P.underlying t=some .bool){X Y:Operand}{x y:EE}(hx:pA X=some x)(hy:pA Y=some y)(ho:o.op=.binOp op t X Y t'){v:AV}(hr:Rh op bl (x.get s) (y.get s)=some v):
  BX P aa a w ι Θ o ⟨v,.no⟩:=by
 have hX:=(R.pA hx).1;have hY:=(R.pA hy).1;unfold Rh at hr;split at hr
 ·rename_i k n k' n' e1 e2;rw [e1,OD] at hX;rw [e2,OD] at hY;by_cases kg:op=.shl
  ·subst kg;simp only at hr;split at hr
   ·rename_i h0;injection hr with hr;subst hr;exact⟨.int k (k.wrap (n*2 ^ shN k n')),mE ho hX hY rfl (by simp) (by simp[Go.binOp,Op.shift,shN,Int.not_lt.2 h0]),by rw[OD],trivial⟩
   ·cases hr
  by_cases hsr:op=.shr
  ·subst hsr;simp only at hr;split at hr
   ·rename_i h0;injection hr with hr;subst hr;exact⟨.int k (n.fdiv (2 ^ shN k n')),mE ho hX hY rfl (by simp) (by simp[Go.binOp,Op.shift,shN,Int.not_lt.2 h0]),by rw[OD],trivial⟩
   ·cases hr
  split at hr
  ·exact absurd rfl kg
  ·exact absurd rfl hsr
  split at hr
  ·rename_i hk;subst hk;cases op <;> simp only at hr
   case and=>injection hr with hr;subst hr;exact⟨_,mE ho hX hY rfl (by simp) (by simp only[Go.binOp,ne_eq,not_true_eq_false,if_false];rfl),by rw[ZU,OD],trivial⟩
   case or=>injection hr with hr;subst hr;exact⟨_,mE ho hX hY rfl (by simp) (by simp only[Go.binOp,ne_eq,not_true_eq_false,if_false];rfl),by rw[ZU,OD],trivial⟩
   case xor=>injection hr with hr;subst hr;exact⟨_,mE ho hX hY rfl (by simp) (by simp only[Go.binOp,ne_eq,not_true_eq_false,if_false];rfl),by rw[ZU,OD],trivial⟩
   case andNot=>injection hr with hr;subst hr;exact⟨_,mE ho hX hY rfl (by simp) (by simp only[Go.binOp,ne_eq,not_true_eq_false,if_false];rfl),by rw[ZU,OD],trivial⟩
   case add=>injection hr with hr;subst hr;exact⟨.int k (k.wrap (n+n')),mE ho hX hY rfl (by simp) (by simp[Go.binOp,Op.intArith]),by rw[OD],trivial⟩
   case sub=>injection hr with hr;subst hr;exact⟨.int k (k.wrap (n-n')),mE ho hX hY rfl (by simp) (by simp[Go.binOp,Op.intArith]),by rw[OD],trivial⟩
   case mul=>injection hr with hr;subst hr;exact⟨.int k (k.wrap (n*n')),mE ho hX hY rfl (by simp) (by simp[Go.binOp,Op.intArith]),by rw[OD],trivial⟩
   case quo =>
    split at hr
    ·cases hr
    ·rename_i h0;injection hr with hr;subst hr;exact⟨.int k (k.wrap (n.tdiv n')),mE ho hX hY rfl (by simp) (by simp[Go.binOp,Op.intDiv,h0]),by rw[OD],trivial⟩
   case rem =>
    split at hr
    ·cases hr
    ·rename_i h0;injection hr with hr;subst hr;exact⟨.int k (n.tmod n'),mE ho hX hY rfl (by simp) (by simp[Go.binOp,Op.intDiv,h0]),by rw[OD],trivial⟩
   case eql=>injection hr with hr;subst hr;exact⟨.bool (n == n'),mE ho hX hY rfl (by simp) (by simp[Go.binOp,Op.intCmp]),cE.2 (congrArg Value.bool (by first|rfl|(rw[Bool.eq_iff_iff];simp))),trivial⟩
   case neq=>injection hr with hr;subst hr;exact⟨.bool (n != n'),mE ho hX hY rfl (by simp) (by simp[Go.binOp,Op.intCmp]),cE.2 (congrArg Value.bool (by first|rfl|(rw[Bool.eq_iff_iff];simp))),trivial⟩
   case lss=>injection hr with hr;subst hr;exact⟨.bool (decide (n<n')),mE ho hX hY rfl (by simp) (by simp[Go.binOp,Op.intCmp]),cE.2 (congrArg Value.bool (by first|rfl|(rw[Bool.eq_iff_iff];simp))),trivial⟩
   case leq=>injection hr with hr;subst hr;exact⟨.bool (decide (n<=n')),mE ho hX hY rfl (by simp) (by simp[Go.binOp,Op.intCmp]),cE.2 (congrArg Value.bool (by first|rfl|(rw[Bool.eq_iff_iff];simp))),trivial⟩
   case gtr=>injection hr with hr;subst hr;exact⟨.bool (decide (n > n')),mE ho hX hY rfl (by simp) (by simp[Go.binOp,Op.intCmp]),cE.2 (congrArg Value.bool (by first|rfl|(rw[Bool.eq_iff_iff];simp))),trivial⟩
   case geq=>injection hr with hr;subst hr;exact⟨.bool (decide (n>=n')),mE ho hX hY rfl (by simp) (by simp[Go.binOp,Op.intCmp]),cE.2 (congrArg Value.bool (by first|rfl|(rw[Bool.eq_iff_iff];simp))),trivial⟩
   all_goals cases hr
  ·cases hr
 ·rename_i n n' e1 e2;rw [e1,NI] at hX;rw [e2,NI] at hY;cases op <;> simp only at hr
  case add =>
   split at hr
   ·rename_i bc;injection hr with hr;subst hr;have hm:IntKind.i64.max=9223372036854775807:=by decide
    have:¬((n.size+n'.size:Nat):Int) > IntKind.i64.max:=by rw[hm];omega
    exact⟨.string (n++n'),mE ho hX hY rfl (by simp) (by simp only[Go.binOp,Op.stringOp,if_neg this];simp),by rw[NI],trivial⟩
   ·cases hr
  case eql=>injection hr with hr;subst hr;exact⟨.bool (n.toList == n'.toList),mE ho hX hY rfl (by simp) (by simp[Go.binOp,Op.stringOp]),cE.2 (congrArg Value.bool (by first|rfl|(rw[HP]))),trivial⟩
  case neq=>injection hr with hr;subst hr;exact⟨.bool (!(n.toList == n'.toList)),mE ho hX hY rfl (by simp) (by simp[Go.binOp,Op.stringOp]),cE.2 (congrArg Value.bool (by first|rfl|(rw[HP]))),trivial⟩
  case lss=>injection hr with hr;subst hr;exact⟨.bool (Op.bytesLess n.toList n'.toList),mE ho hX hY rfl (by simp) (by simp[Go.binOp,Op.stringOp]),cE.2 (congrArg Value.bool (by first|rfl|(rw[HP]))),trivial⟩
  case gtr=>injection hr with hr;subst hr;exact⟨.bool (!(Op.bytesLess n.toList n'.toList||n.toList == n'.toList)),mE ho hX hY rfl (by simp) (by simp[Go.binOp,Op.stringOp]),by rw[cE,HP],trivial⟩
  case leq=>injection hr with hr;subst hr;exact⟨.bool (Op.bytesLess n.toList n'.toList||n.toList == n'.toList),mE ho hX hY rfl (by simp) (by simp[Go.binOp,Op.stringOp]),by rw[cE,HP],trivial⟩
  case geq=>injection hr with hr;subst hr;exact⟨.bool (!Op.bytesLess n.toList n'.toList),mE ho hX hY rfl (by simp) (by simp[Go.binOp,Op.stringOp]),by rw[cE],trivial⟩
  all_goals cases hr
 ·rename_i n n' e1 e2;rw [e1,cE] at hX;rw [e2,cE] at hY;split at hr
  case isFalse=>cases hr
  rename_i hb;have hq:(Op.equal t (.bool n) (.bool n')).run P w=.ok (n == n') w:=run_equalIn_bool' w 9999 t n n' (ht hb);cases op<;>simp only at hr
  case eql=>injection hr with hr;subst hr;exact⟨.bool (n == n'),mE ho hX hY rfl (by simp) (by simp[Go.binOp,hq]),by rw[cE],trivial⟩
  case neq=>injection hr with hr;subst hr;exact⟨.bool (!(n == n')),mE ho hX hY rfl (by simp) (by simp[Go.binOp,hq]),by rw[cE],trivial⟩
  all_goals cases hr
 ·cases hr
end
end
section
open Go Go.RowKit
section
variable {P:Program} {O:XH} {nt B:Nat} {F0:pR} {aa:Av} {w0:World} {D:Nat->Prop} {s:LC} {a:Act} {w w':World} {ι:Ix} {Θ:kM} {o:Oper}
theorem ZN {av:Av}:∀{cs:List AV}{b off:Nat}(k:Nat),dH av w cs b off->dH av w (cs.drop k) b (off+k)
 | [],_,_,k,_=>by simp[dH]
 |x::r,b,off,0,h=>h
 |x::r,b,off,k+1,h=>by
  simp only[dH]at h;rw[List.drop_succ_cons,show off+(k+1)=off+1+k from by omega];exact ZN k h.2.2
theorem WM {av avb:Av}:∀{cs:List AV}{b off:Nat}(k:Nat),iF av avb w cs b off->iF av avb w (cs.drop k) b (off+k)
 | [],_,_,k,_=>by simp[iF]
 |x::r,b,off,0,h=>h
 |x::r,b,off,k+1,h=>by
  simp only[iF]at h;rw[List.drop_succ_cons,show off+(k+1)=off+1+k from by omega];exact WM k h.2.2
section
variable (R:DE P O nt B F0 aa w0 D s a w ι Θ) {t:TypeId} {fs:Array Field} {f:Field} {i z:Nat}
include R t fs f i z
theorem Af (ht:P.underlying t=some (.struct fs))(hf:fs[i]?=some f)(hz:CE P f.type=some (z+1)){X:Operand}{y:EE}(h:pA X=some y)(ho:o.op=.fieldAddr t X i)
  {call} {x:SC} {e:uG} (hr:(K.PA f.offset y).run call s=some (x,e)):e=.none/\BX P aa a w ι Θ o x:=by
 have hX:=(R.pA h).1;have oa:∀b off,a.eval X=.pointer (some ⟨b,off,none⟩)->(execOp a.eval o).run P w=.ok (.value (.pointer (some ⟨b,off+f.offset,none⟩))) w:=fun b off hv=>by
  simp[execOp,ho,Instr.fieldAt,run_underlying ht,hf,hv,Instr.sureAddr,fieldPlace,mF hz,Addr.add_lit]
 simp only[K.run]at hr;split at hr
 ·rename_i t' n off hy;injection hr with hr;injection hr with h1 h2;subst h1;subst h2;rw[hy,BI]at hX;obtain⟨b,hb,hv⟩:=hX;exact⟨rfl,_,oa _ _ hv,⟨b,hb,rfl⟩,trivial⟩
 ·rename_i cs hy;injection hr with hr;injection hr with h1 h2;subst h1;subst h2;rw[hy,PN]at hX;obtain⟨b,off,hv,hc⟩:=hX;exact⟨rfl,_,oa _ _ hv,by rw[PN];exact⟨b,_,rfl,ZN _ hc⟩,trivial⟩
 ·rename_i cs hy;injection hr with hr;injection hr with h1 h2;subst h1;subst h2;rw[hy]at hX;obtain⟨b,off,hv,hc⟩:=hX;exact⟨rfl,_,oa _ _ hv,⟨b,_,rfl,WM _ hc⟩,trivial⟩
 ·cases hr
theorem Sf {agg:Bool}(ht:P.underlying t=some (.struct fs))(hf:fs[i]?=some f)(hA:QL P f.type=some agg)(hz:CE P f.type=some z){X:Operand}{y:EE}(h:pA X=some y)(ho:o.op=.field t X i)
  {call} {x:SC} {e:uG} (hr:(K.field agg f.offset z y).run call s=some (x,e)):e=.none/\BX P aa a w ι Θ o x:=by
 have hX:=(R.pA h).1;simp only[K.run]at hr;split at hr
 ·rename_i cs hy;rw [hy,E1] at hX;obtain ⟨us,hv,hc⟩:=hX;cases hl:XI agg z (cs.drop f.offset) with
  |none=>rw[hl]at hr;cases hr
  |some v =>
   rw[hl]at hr;injection hr with hr;injection hr with h1 h2;subst h1;subst h2;obtain⟨u,hu,hS⟩:=Xx (avb:=uF ι Θ) hA hz hc hl;exact⟨rfl,u,by simp[execOp,ho,Instr.field,run_underlying ht,hf,hv,asAgg,hu],hS,trivial⟩
 ·cases hr
end
theorem LN {v:AV}{n:Nat}(h:XV v=some n):∃k i,v=.int k i/\0<=i/\i.toNat=n:=by
 unfold XV at h;split at h
 ·rename_i k i;split at h
  ·injection h with h;exact⟨k,i,rfl,by assumption,h⟩
  ·cases h
 ·cases h
theorem Tg {av:Av}{l:List (List AV)}{b off sz k:Nat}{cs:List AV}(h:Rows av w l b off)(hu:∀c∈l,c.length=sz)(hk:l[k]?=some cs):dH av w cs b (off+k*sz):=by
 have h1:=ZN (k*sz) (XG.1 h);rw[qT hu]at h1;have ba:k<l.length:=(yn.1 hk).1;have ad:l[k]=cs:=(yn.1 hk).2;rw[yv ba,yA,cN,ad]at h1;exact h1.1
theorem Ep {av avb:Av}{l:List (List AV)}{b off sz k:Nat}{cs:List AV}(h:BN av avb w l b off)(hu:∀c∈l,c.length=sz)(hk:l[k]?=some cs):iF av avb w cs b (off+k*sz):=by
 have h1:=WM (k*sz) (XL.1 h);rw[qT hu]at h1;have ba:k<l.length:=(yn.1 hk).1;have ad:l[k]=cs:=(yn.1 hk).2;rw[yv ba,yA,jM,ad]at h1;exact h1.1
section
variable (R:DE P O nt B F0 aa w0 D s a w ι Θ)
include R
theorem Df {t e':TypeId}{z:Nat}(ht:P.underlying t=some (.slice e'))(hz:CE P e'=some z){X I:Operand}{y i:EE}(h:pA X=some y)(hi:pA I=some i)(ho:o.op=.indexAddr t X I)
  {call} {x:SC} {e:uG} (hr:(K.aB z y i).run call s=some (x,e)):e=.none/\BX P aa a w ι Θ o x:=by
 have hX:=(R.pA h).1;have hI:=(R.pA hi).1;simp only[K.run]at hr;split at hr
 ·rename_i k hk;obtain⟨kk,n,ee,h0,hn⟩:=LN hk;rw[ee,OD]at hI;have oa:∀b off len cap,a.eval X=.slice (some ⟨b,off,none⟩) len cap->k<len->(execOp a.eval o).run P w=.ok (.value (.pointer (some ⟨b,off+k*z,none⟩))) w:=fun b off len cap hv ba=>by
   have hc:0<=n/\n<(len:Int):=⟨h0,by omega⟩;simp[execOp,ho,Instr.indexAt,run_underlying ht,hv,hI,asIntOf,hc,mF hz,Addr.add_lit,hn]
  split at hr
  ·rename_i nl l hy;rw [hy,FG] at hX;simp only [ZG] at hX;obtain ⟨A,c,hv,hc,hu,xv,hs⟩:=hX;cases hl:l[k]? with
   |none=>rw[hl]at hr;cases hr
   |some cs =>
    rw[hl,J]at hr;split at hr
    ·rename_i ol;injection hr with hr;injection hr with h1 h2;subst h1;subst h2;have ba:k<l.length:=(yn.1 hl).1;have pd:cs∈l:=yr hl;have hnf:nl=false:=by
      cases nl with
      |false=>rfl
      |true=>have:=(xv rfl).2.1;omega
     obtain⟨b,off,rfl,ja⟩:=(hs hnf).2 (by omega);exact⟨rfl,_,oa _ _ _ _ hv ba,by rw[PN];exact⟨b,_,rfl,Tg ja (fun c hc=>(hu c hc cs pd).trans ol) hl⟩,trivial⟩
    ·cases hr
  ·rename_i l hy;rw [hy] at hX;obtain ⟨a',c,hv,hc,hu,hs⟩:=hX;cases hl:l[k]? with
   |none=>rw[hl]at hr;cases hr
   |some cs =>
    rw[hl,J]at hr;split at hr
    ·rename_i ol;injection hr with hr;injection hr with h1 h2;subst h1;subst h2;have ba:k<l.length:=(yn.1 hl).1;have pd:cs∈l:=yr hl;obtain⟨b,off,rfl,ja⟩:=hs (by omega);exact⟨rfl,_,oa _ _ _ _ hv ba,⟨b,_,rfl,Ep ja (fun c hc=>(hu c hc cs pd).trans ol) hl⟩,trivial⟩
    ·cases hr
  ·rename_i t' n' sz off ln cap hy;rw [hy,lK] at hX;obtain ⟨b,hb,bc,_,_,_,hv⟩:=hX;split at hr
   ·rename_i ba;injection hr with hr;injection hr with h1 h2;subst h1;subst h2;obtain⟨ba,rfl⟩:=ba;exact⟨rfl,_,oa _ _ _ _ hv ba,⟨b,hb,rfl⟩,trivial⟩
   ·cases hr
  ·cases hr
 ·cases hr
theorem Pf {t e':TypeId}{n z:Nat}(ht:P.underlying t=some (.array n e'))(hz:CE P e'=some z){X I:Operand}{y i:EE}(h:pA X=some y)(hi:pA I=some i)(ho:o.op=.indexAddr t X I)
  {call} {x:SC} {e:uG} (hr:(K.PB n z y i).run call s=some (x,e)):e=.none/\BX P aa a w ι Θ o x:=by
 have hX:=(R.pA h).1;have hI:=(R.pA hi).1;simp only[K.run]at hr;split at hr
 ·rename_i k hk;obtain ⟨kk,m,ee,h0,hn⟩:=LN hk;rw [ee,OD] at hI;split at hr
  ·rename_i ba;have oa:∀b off,a.eval X=.pointer (some ⟨b,off,none⟩)->(execOp a.eval o).run P w=.ok (.value (.pointer (some ⟨b,off+k*z,none⟩))) w:=fun b off hv=>by
    have hc:0<=m/\m<(n:Int):=⟨h0,by omega⟩;simp[execOp,ho,Instr.indexAt,run_underlying ht,hv,hI,asIntOf,hc,Instr.sureAddr,mF hz,Addr.add_lit,hn]
   split at hr
   ·rename_i t' n' off hy;injection hr with hr;injection hr with h1 h2;subst h1;subst h2;rw[hy,BI]at hX;obtain⟨b,hb,hv⟩:=hX;exact⟨rfl,_,oa _ _ hv,⟨b,hb,rfl⟩,trivial⟩
   ·rename_i cs hy;injection hr with hr;injection hr with h1 h2;subst h1;subst h2;rw[hy,PN]at hX;obtain⟨b,off,hv,hc⟩:=hX;exact⟨rfl,_,oa _ _ hv,by rw[PN];exact⟨b,_,rfl,ZN _ hc⟩,trivial⟩
   ·rename_i cs hy;injection hr with hr;injection hr with h1 h2;subst h1;subst h2;rw[hy]at hX;obtain⟨b,off,hv,hc⟩:=hX;exact⟨rfl,_,oa _ _ hv,⟨b,_,rfl,WM _ hc⟩,trivial⟩
   ·cases hr
  ·cases hr
 ·cases hr
theorem Ff {t:TypeId}(ht:P.underlying t=some .string){X I:Operand}{y i:EE}(h:pA X=some y)(hi:pA I=some i)(ho:o.op=.index t X I)
  {call} {x:SC} {e:uG} (hr:(K.index y i).run call s=some (x,e)):e=.none/\BX P aa a w ι Θ o x:=by
 have hX:=(R.pA h).1;have hI:=(R.pA hi).1;simp only[K.run]at hr;split at hr
 ·rename_i k b hk hy;obtain ⟨kk,n,ee,h0,hn⟩:=LN hk;rw [ee,OD] at hI;rw [hy,NI] at hX;cases hb:b[k]? with
  |none=>rw[hb]at hr;cases hr
  |some u =>
   rw[hb]at hr;injection hr with hr;injection hr with h1 h2;subst h1;subst h2;exact⟨rfl,.int .u8 u.toNat,by simp[execOp,ho,Instr.index,run_underlying ht,hX,hI,asIntOf,h0,hn,hb],by rw[OD],trivial⟩
 ·cases hr
end
theorem J3 {av:Av}:∀{xs:List AV}{us:List Value}(_:rJ ι av w xs us){j:Nat}{x:AV},xs[j]?=some x->∃u,us[j]?=some u/\qS ι av w x u
 | [],_,_,_,_,hx=>by simp at hx
 |y::r,_,h,j,x,hx=>by
  simp only[rJ]at h;obtain⟨u,gb,rfl,h0,h⟩:=h;cases j with
  |zero=>simp at hx;subst hx;exact⟨u,rfl,h0⟩
  |succ j=>exact J3 h (j:=j) (by simpa using hx)
theorem wS {av:Av}{x:AV}{u:Value}(h:ZG av w x u):qS ι av w x u:=by
 cases x<;>first
  |(simp only[ZG]at h;obtain⟨us,hv,hc⟩:=h;exact⟨us,hv,jG hc⟩)
  |exact ZO (ι:=ι) h
theorem K3 {av:Av}:∀{xs:List AV}{us:List Value},PO av w xs us->rJ ι av w xs us
 | [],_,h=>by simpa [PO,rJ]using h
 |x::r,_,h=>by
  simp only[PO]at h;obtain⟨u,gb,rfl,h0,h⟩:=h;exact⟨u,gb,rfl,wS h0,K3 h⟩
theorem RM {av avb:Av}{x:AV}{u:Value}(h:ZG av w x u):WD ι av avb w x u:=by
 cases x<;>first
  |exact h
  |(simp only[ZG]at h;obtain⟨us,hv,hc⟩:=h;exact⟨us,hv,jG hc⟩)
  |(simp only[ZG]at h;obtain⟨us,hv,hc⟩:=h;exact⟨us,hv,K3 hc⟩)
  |(simp[ZG]at h;done)
theorem Qp {av avb:Av}{x:AV}{u:Value}(h:qS ι av w x u):WD ι av avb w x u:=by
 cases x<;>first
  |exact h
  |exact RM h
theorem mG {av avb:Av}{x:AV}{u:Value}(h:RD ι av w x u):WD ι av avb w x u:=by
 cases x<;>first|exact h|exact RM h
section
variable (R:DE P O nt B F0 aa w0 D s a w ι Θ)
include R
theorem val_ext {i:Nat}{X:Operand}{y:EE}(h:pA X=some y)(ho:o.op=.extract X i)
  {call} {x:SC} {e:uG} (hr:(K.ext y i).run call s=some (x,e)):e=.none/\BX P aa a w ι Θ o x:=by
 have hX:=(R.pA h).1;simp only[K.run]at hr;split at hr
 ·rename_i vs hy;rw [hy,Wc] at hX;obtain ⟨us,hv,hc⟩:=hX;cases hb:vs[i]? with
  |none=>rw[hb]at hr;cases hr
  |some u =>
   rw[hb]at hr;injection hr with hr;injection hr with h1 h2;subst h1;subst h2;obtain⟨u',hu,kc⟩:=J3 hc hb;have zt:us[i]?=some u':=by simpa using hu
   exact⟨rfl,u',by simp[execOp,ho,Instr.extract,hv,zt],Qp kc,trivial⟩
 ·cases hr
theorem Qe {X:Operand}{y:EE}(h:pA X=some y)(ho:o.op=.nilCheck X)
  {call} {x:SC} {e:uG} (hr:(K.WA y).run call s=some (x,e)):e=.none/\BX P aa a w ι Θ o x:=by
 have hX:=(R.pA h).1;simp only[K.run]at hr;split at hr
 ·rename_i t n off hy;injection hr with hr;injection hr with h1 h2;subst h1;subst h2;rw[hy]at hX;obtain⟨b,hb,hv⟩:=BI.1 hX;exact⟨rfl,.pointer (some ⟨b,off,none⟩),by simp[execOp,ho,hv],by rw[BI];exact⟨b,hb,rfl⟩,trivial⟩
 ·rename_i cs hy;injection hr with hr;injection hr with h1 h2;subst h1;subst h2;rw[hy]at hX;obtain⟨b,off,hv,hc⟩:=PN.1 hX;exact⟨rfl,.pointer (some ⟨b,off,none⟩),by simp[execOp,ho,hv],by rw[PN];exact⟨b,off,rfl,hc⟩,trivial⟩
 ·rename_i cs hy;injection hr with hr;injection hr with h1 h2;subst h1;subst h2;rw[hy]at hX;obtain⟨b,off,hv,hc⟩:=hX;exact⟨rfl,.pointer (some ⟨b,off,none⟩),by simp[execOp,ho,hv],⟨b,off,rfl,hc⟩,trivial⟩
 ·cases hr
theorem Ko {t:TypeId}{str:Bool}(ht:if str then P.underlying t=some .string else ∃e,P.underlying t=some (.slice e)){X:Operand}{y:EE}(h:pA X=some y)(ho:o.op=.call { callee:=.builtin .len,args:=#[X],argTypes:=#[t] })
  {call} {x:SC} {e:uG} (hr:(K.len str y).run call s=some (x,e)):e=.none/\BX P aa a w ι Θ o x:=by
 have hX:=(R.pA h).1;have kg:∀A n c,str=false->a.eval X=.slice A n c->(execOp a.eval o).run P w=.ok (.value (.int .i64 n)) w:=fun A n c hs hv=>by
  subst hs;obtain⟨e',ht⟩:=ht;simp[execOp,ho,resolve,invoke,builtin,Builtin.len_,run_underlying ht,hv,goInt]
 simp only[K.run]at hr;split at hr
 ·rename_i nl l hy;rw [hy,FG] at hX;simp only [ZG] at hX;obtain ⟨A,c,hv,_⟩:=hX;cases str with
  |true=>simp at hr
  |false =>
   simp only[yM,if_false]at hr;injection hr with hr;injection hr with h1 h2;subst h1;subst h2;exact⟨rfl,_,kg _ _ _ rfl hv,by rw[OD],trivial⟩
 ·rename_i l hy;rw [hy] at hX;obtain ⟨A,c,hv,_⟩:=hX;cases str with
  |true=>simp at hr
  |false =>
   simp only[yM,if_false]at hr;injection hr with hr;injection hr with h1 h2;subst h1;subst h2;exact⟨rfl,_,kg _ _ _ rfl hv,by rw[OD],trivial⟩
 ·rename_i t' n sz off ln cap hy;rw [hy,lK] at hX;obtain ⟨b,_,_,_,_,_,hv⟩:=hX;cases str with
  |true=>simp at hr
  |false =>
   simp only[yM,if_false]at hr;injection hr with hr;injection hr with h1 h2;subst h1;subst h2;exact⟨rfl,_,kg _ _ _ rfl hv,by rw[OD],trivial⟩
 ·rename_i b hy;rw [hy,NI] at hX;cases str with
  |false=>simp at hr
  |true =>
   simp only[if_true]at hr ht;injection hr with hr;injection hr with h1 h2;subst h1;subst h2;exact⟨rfl,.int .i64 b.size,by simp[execOp,ho,resolve,invoke,builtin,Builtin.len_,run_underlying ht,hX,goInt],by rw[OD],trivial⟩
 ·cases hr
theorem val_un {op:UnOp}{t:TypeId}{X:Operand}{y:EE}(h:pA X=some y)(ho:o.op=.unOp op t X)
  {call} {x:SC} {e:uG} (hr:(K.un op y).run call s=some (x,e)):e=.none/\BX P aa a w ι Θ o x:=by
 have hX:=(R.pA h).1;simp only[K.run]at hr;split at hr
 ·rename_i b hy;injection hr with hr;injection hr with h1 h2;subst h1;subst h2;rw[hy,cE]at hX;exact⟨rfl,.bool (!b),by simp[execOp,ho,Op.unary,hX],by rw[cE],trivial⟩
 ·rename_i k n hy;injection hr with hr;injection hr with h1 h2;subst h1;subst h2;rw[hy,OD]at hX;exact⟨rfl,.int k (k.wrap (0-n)),by simp[execOp,ho,Op.unary,Op.intArith,hX],by rw[OD],trivial⟩
 ·cases hr
theorem E9 {k:Option IntKind}{t t':TypeId}(hk:match k with|some k=>(∃j,P.underlying t=some (.int j))/\P.underlying t'=some (.int k)|none=>P.underlying t=some .string/\P.underlying t'=some .string)
  {X:Operand} {y:EE} (h:pA X=some y) (ho:o.op=.convert t t' X) {call} {x:SC} {e:uG} (hr:(K.conv k y).run call s=some (x,e)):e=.none/\BX P aa a w ι Θ o x:=by
 have hX:=(R.pA h).1;simp only[K.run]at hr;split at hr
 ·rename_i k' j n hy;injection hr with hr;injection hr with h1 h2;subst h1;subst h2;rw[hy,OD]at hX;obtain⟨⟨i,h1⟩,h2⟩:=hk;exact⟨rfl,.int k' (k'.wrap n),by simp[execOp,ho,Go.convert,run_underlying h1,run_underlying h2,Conv.intToInt,hX],by rw[OD],trivial⟩
 ·rename_i b hy;injection hr with hr;injection hr with h1 h2;subst h1;subst h2;rw[hy,NI]at hX;exact⟨rfl,.string b,by simp[execOp,ho,Go.convert,run_underlying hk.1,run_underlying hk.2,hX],by rw[NI],trivial⟩
 ·cases hr
end
end
end
section
open Go Go.RowKit
section
variable {P:Program} {O:XH} {nt B:Nat} {F0:pR} {aa:Av} {w0:World} {D:Nat->Prop} {s:LC} {a:Act} {w w':World} {ι:Ix} {Θ:kM} {o:Oper}
def nZ (a:Act)(d:Nat):Option Operand->Option Value×Nat->Prop
 |none,(v,n)=>v=none/\n=d
 |some x,(v,n)=>v=some (a.eval x)/\∃k i,a.eval x=.int k i/\0<=i/\i.toNat=n
theorem TP {t e:TypeId}{z:Nat}(ht:P.underlying t=some (.slice e))(hz:CE P e=some z){A:Option Addr}{n c:Nat}{L H:Option Operand}{l h:Nat}(hl:nZ a 0 L (L.map a.eval,l))(hh:nZ a n H (H.map a.eval,h))(h1:l<=h)(h2:h<=c):
  (Instr.sliceAt t (.slice A n c) (L.map a.eval) (H.map a.eval) none).run P w=.ok (.slice (if c=l then A else A.map (·.add (l*z))) (h-l) (c-l)) w:=by
 cases L with
 |none =>
  obtain⟨_,rfl⟩:=hl;cases H with
  |none =>
   obtain⟨_,rfl⟩:=hh;simp[Instr.sliceAt,Instr.slice,Instr.sliceBounds,run_underlying ht,mF hz]
  |some x =>
   obtain⟨_,k,i,hx,h0,rfl⟩:=hh;have:0<=i/\i<=(c:Int):=⟨h0,by omega⟩;simp[Instr.sliceAt,Instr.slice,Instr.sliceBounds,Instr.sliceBound,run_underlying ht,mF hz,hx,asIntOf,this]
 |some y =>
  obtain⟨_,k',i',hy,xg,rfl⟩:=hl;cases H with
  |none =>
   obtain⟨_,rfl⟩:=hh;have:0<=i'/\i'<=(h:Int):=⟨xg,by omega⟩;simp[Instr.sliceAt,Instr.slice,Instr.sliceBounds,Instr.sliceBound,run_underlying ht,mF hz,hy,asIntOf,this]
  |some x =>
   obtain⟨_,k,i,hx,h0,rfl⟩:=hh;have h3:0<=i/\i<=(c:Int):=⟨h0,by omega⟩;have h4:0<=i'/\i'<=(i.toNat:Int):=⟨xg,by omega⟩;have h5:i'<=max i 0:=by omega
   simp[Instr.sliceAt,Instr.slice,Instr.sliceBounds,Instr.sliceBound,run_underlying ht,mF hz,hx,hy,asIntOf,h3,h4,h5]
theorem i2 {t:TypeId}(ht:P.underlying t=some .string){b:ByteArray}{L H:Option Operand}{l h:Nat}(hl:nZ a 0 L (L.map a.eval,l))(hh:nZ a b.size H (H.map a.eval,h))(h1:l<=h)(h2:h<=b.size):
  (Instr.sliceAt t (.string b) (L.map a.eval) (H.map a.eval) none).run P w=.ok (.string (b.extract l h)) w:=by
 cases L with
 |none =>
  obtain⟨_,rfl⟩:=hl;cases H with
  |none =>
   obtain⟨_,rfl⟩:=hh;simp[Instr.sliceAt,Instr.slice,Instr.sliceBounds,run_underlying ht]
  |some x =>
   obtain⟨_,k,i,hx,h0,rfl⟩:=hh;have:0<=i/\i<=(b.size:Int):=⟨h0,by omega⟩;simp[Instr.sliceAt,Instr.slice,Instr.sliceBounds,Instr.sliceBound,run_underlying ht,hx,asIntOf,this]
 |some y =>
  obtain⟨_,k',i',hy,xg,rfl⟩:=hl;cases H with
  |none =>
   obtain⟨_,rfl⟩:=hh;have:0<=i'/\i'<=(b.size:Int):=⟨xg,by omega⟩;simp[Instr.sliceAt,Instr.slice,Instr.sliceBounds,Instr.sliceBound,run_underlying ht,hy,asIntOf,this]
  |some x =>
   obtain⟨_,k,i,hx,h0,rfl⟩:=hh;have h3:0<=i/\i<=(b.size:Int):=⟨h0,by omega⟩;have h4:0<=i'/\i'<=(i.toNat:Int):=⟨xg,by omega⟩;have h5:i'<=max i 0:=by omega
   simp[Instr.sliceAt,Instr.slice,Instr.sliceBounds,Instr.sliceBound,run_underlying ht,hx,hy,asIntOf,h3,h4,h5]
theorem dM (R:DE P O nt B F0 aa w0 D s a w ι Θ){L:Option Operand}{l:Option EE}(h:JY L=some l){d n:Nat}(hn:kL s d l=some n):nZ a d L (L.map a.eval,n):=by
 cases L with
 |none =>
  injection h with h;subst h;injection hn with hn;exact⟨rfl,hn.symm⟩
 |some X =>
  simp only[JY]at h;cases hx:pA X with
  |none=>rw[hx]at h;cases h
  |some x =>
   rw[hx]at h;injection h with h;subst h;obtain⟨k,i,hi,h0,hn⟩:=LN hn;have:=(R.pA hx).1;rw[hi,OD]at this;exact⟨rfl,k,i,this,h0,hn⟩
theorem d9 {sz:Nat}{e:List (List AV)}(hu:∀c∈e,c.length=sz)(l h:Nat):((e.take h).drop l).flatten=(e.flatten.take (h*sz)).drop (l*sz):=by
 rw[<- qT (fun c hc=>hu c (Y0i hc)) l];congr 1;clear l
 induction e generalizing h with
 |nil=>simp
 |cons c r ih =>
  cases h with
  |zero=>simp
  |succ h =>
   have hc:c.length=sz:=hu c (by simp);rw[List.take_succ_cons,yA,yA,List.take_append,hc,ih (fun c hc=>hu c (by simp[hc])),
    Y0b (l:=c) (by rw[hc,yN];omega),show(h+1)*sz-sz=h*sz from by rw[yN];omega]
theorem A9 {av:Av}{cs:List AV}{b off:Nat}(k:Nat)(h:dH av w cs b off):dH av w (cs.take k) b off:=by
 rw[<- Y0c k cs,cN]at h;exact h.1
theorem N6 {av avb:Av}{cs:List AV}{b off:Nat}(k:Nat)(h:iF av avb w cs b off):iF av avb w (cs.take k) b off:=by
 rw[<- Y0c k cs,jM]at h;exact h.1
theorem Lo (R:DE P O nt B F0 aa w0 D s a w ι Θ){t:TypeId}{str:Bool}{z:Nat}(ht:if str then P.underlying t=some .string else ∃e,P.underlying t=some (.slice e)/\CE P e=some z){X:Operand}{L H:Option Operand}{x:EE}{l h:Option EE}(hx:pA X=some x)(hl:JY L=some l)(hh:JY H=some h)
  (ho:o.op=.slice t X L H none) {call} {y:SC} {e:uG} (hr:(K.nC str z x l h none).run call s=some (y,e)):e=.none/\BX P aa a w ι Θ o y:=by
 have hX:=(R.pA hx).1;simp only[K.run]at hr;split at hr
 ·cases hr
 ·rename_i lo hlo;have hL:=dM R hl hlo;split at hr
  ·rename_i b e' hy;rw [hy,FG] at hX;simp only [ZG] at hX;obtain ⟨A,c,hv,hc,hu,hn,hs⟩:=hX;split at hr
   ·rename_i hi kz;have hH:=dM R hh kz;split at hr
    ·rename_i ia;obtain ⟨h1,h2,h3,rfl⟩:=ia;injection hr with hr; injection hr with e1 e2; subst e1; subst e2;obtain ⟨el,ht1,ht2⟩:=ht;have zc:∀ c∈e',c.length=z:=fun c hc=>by simpa using ye.1 h3 c hc
     have oa:=TP (w:=w) (A:=A) ht1 ht2 hL hH h1 (yH h2 hc);refine⟨rfl,.slice (if c=lo then A else A.map (·.add (lo*z))) (hi-lo) (c-lo),by simp only[execOp,ho,hv,Option.map_none,Sem.run_bind,oa,Result.andThen_ok,Sem.run_pure],?_,trivial⟩;simp only[FG,ZG];have da:((e'.take hi).drop lo).length=hi-lo:=by rw[yJ,yz];omega
     refine⟨_,_,by rw[da],by rw[da];omega,fun x hx y hy=>(zc x (Y0i (List.mem_of_mem_drop hx))).trans (zc y (Y0i (List.mem_of_mem_drop hy))).symm,fun hb=>?_,fun hb=>?_⟩
     ·obtain⟨rfl,h0,rfl⟩:=hn hb;refine⟨by simp,by omega,by omega⟩
     ·obtain ⟨rg,ro⟩:=hs hb;by_cases ge:c=lo
      ·exact⟨fun _=>by omega,fun h0=>by omega⟩
      ·refine ⟨fun hA=>?_,fun h0=>?_⟩
       ·rw [if_neg ge] at hA;cases wm:A with
        |none=>have:=rg wm;omega
        |some a=>rw[wm]at hA;cases hA
       obtain⟨bb,off,rfl,ja⟩:=ro (by omega);refine⟨bb,off+lo*z,by rw[if_neg ge];simp only[yB,Addr.add_lit],?_⟩;rw[XG,d9 zc];exact ZN _ (A9 _ (XG.1 ja))
    ·cases hr
   ·cases hr
  ·rename_i e' hy;rw [hy] at hX;obtain ⟨a',c,hv,hc,hu,hs⟩:=hX;split at hr
   ·rename_i hi kz;have hH:=dM R hh kz;split at hr
    ·rename_i ia;obtain ⟨h1,h2,h3,rfl⟩:=ia;injection hr with hr; injection hr with e1 e2; subst e1; subst e2;obtain ⟨el,ht1,ht2⟩:=ht;have zc:∀ c∈e',c.length=z:=fun c hc=>by simpa using ye.1 h3 c hc
     have oa:=TP (w:=w) (A:=some a') ht1 ht2 hL hH h1 (yH h2 hc);refine⟨rfl,.slice (if c=lo then some a' else(some a').map (·.add (lo*z))) (hi-lo) (c-lo),by simp only[execOp,ho,hv,Option.map_none,Sem.run_bind,oa,Result.andThen_ok,Sem.run_pure],?_,trivial⟩;have da:((e'.take hi).drop lo).length=hi-lo:=by rw[yJ,yz];omega
     refine⟨if c=lo then a' else a'.add (lo*z),c-lo,by rw[da];split<;>simp,by rw[da];omega,fun x hx y hy=>(zc x (Y0i (List.mem_of_mem_drop hx))).trans (zc y (Y0i (List.mem_of_mem_drop hy))).symm,fun h0=>?_⟩;rw[if_neg (by omega)];obtain⟨bb,off,rfl,ja⟩:=hs (by omega);refine⟨bb,off+lo*z,by rw[Addr.add_lit],?_⟩;rw[XL,d9 zc];exact WM _ (N6 _ (XL.1 ja))
    ·cases hr
   ·cases hr
  ·rename_i t' n sz off ln cap hy;rw [hy,lK] at hX;obtain ⟨b,hb,bc,cc,th,hz,hv⟩:=hX;split at hr
   ·rename_i hi kz;have hH:=dM R hh kz;split at hr
    ·rename_i ia;obtain ⟨h1,h2,rfl,rfl⟩:=ia;obtain ⟨el,ht1,ht2⟩:=ht;have oa:=TP (w:=w) (A:=some ⟨b,off,none⟩) ht1 ht2 hL hH h1 (yH h2 th);have aj:(execOp a.eval o).run P w=.ok (.value (.slice (if cc=lo then some ⟨b,off,none⟩ else (some (⟨b,off,none⟩:Addr)).map (·.add (lo * sz))) (hi - lo) (cc - lo))) w:=by simp only [execOp,ho,hv,Option.map_none,Sem.run_bind,oa,Result.andThen_ok,Sem.run_pure]
     split at hr
     ·rename_i he;injection hr with hr;injection hr with e1 e2;subst e1;subst e2;refine⟨rfl,_,aj,?_,trivial⟩;rw[FG];simp only[ZG,List.length_nil];refine⟨_,cc-lo,by rw[show hi-lo=0 from by omega],by omega,(fun x hx=>by cases hx),(fun h=>by cases h),fun _=>⟨fun h=>?_,fun h=>absurd h (Nat.lt_irrefl 0)⟩⟩;split at h<;>simp at h
     ·rename_i he;injection hr with hr; injection hr with e1 e2; subst e1; subst e2;refine ⟨rfl,_,aj,⟨b,hb,by omega,cc - lo,by omega,?_,?_⟩,trivial⟩
      ·have:off+lo*sz+(cc-lo)*sz=off+cc*sz:=by
        rw[Nat.add_assoc,<- yL];congr 2;omega
       rw[this];exact hz
      ·rw[if_neg (by omega)];simp[Addr.add_lit]
    ·cases hr
   ·cases hr
  ·rename_i b hy;rw [hy,NI] at hX;split at hr
   ·rename_i hi kz;have hH:=dM R hh kz;split at hr
    ·rename_i ia;obtain⟨h1,h2,rfl⟩:=ia;injection hr with hr;injection hr with e1 e2;subst e1;subst e2;have oa:=i2 (w:=w) ht hL hH h1 h2;exact⟨rfl,.string (b.extract lo hi),by simp only[execOp,ho,hX,Option.map_none,Sem.run_bind,oa,Result.andThen_ok,Sem.run_pure],by rw[NI],trivial⟩
    ·cases hr
   ·cases hr
  ·cases hr
end
end
section
open Go Go.RowKit
section
variable {P:Program} {O:XH} {nt B:Nat} {F0:pR} {aa:Av} {w0:World} {D:Nat->Prop} {s:LC} {a:Act} {w w':World} {ι:Ix} {Θ:kM} {o:Oper}
theorem Ta (d:Nat){t e:TypeId}(ht:P.underlying t=some (.slice e))(A:Option Addr)(n c:Nat):(Op.equalIn (d+1) t (.slice A n c) (.slice none 0 0)).run P w=.ok A.isNone w:=by
 unfold Op.equalIn;simp only[Sem.run_bind,run_underlying ht,Result.andThen_ok];cases A<;>rfl
theorem eql_ptr (d:Nat){t e:TypeId}(ht:P.underlying t=some (.pointer e))(A:Option Addr):(Op.equalIn (d+1) t (.pointer A) (.pointer none)).run P w=.ok A.isNone w:=by
 unfold Op.equalIn;simp only[Sem.run_bind,run_underlying ht,Result.andThen_ok];cases A<;>rfl
theorem rZ (R:DE P O nt B F0 aa w0 D s a w ι Θ){t t':TypeId}{neg ptr:Bool}(ht:if ptr then ∃e,P.underlying t=some (.pointer e)else ∃e,P.underlying t=some (.slice e)){X Y:Operand}{x y:EE}(hx:pA X=some x)(hy:pA Y=some y)
  (ho:o.op=.binOp (if neg then .neq else .eql) t X Y t') {call} {z:SC} {e:uG} (hr:(K.jC neg ptr x y).run call s=some (z,e)):e=.none/\BX P aa a w ι Θ o z:=by
 have hX:=(R.pA hx).1;have hY:=(R.pA hy).1;have key:∀(u v:Value)(r:Bool),a.eval X=u->a.eval Y=v->u.oneCell'=true->u≠.nilIface->(∀op,(Go.binOp op t u v).run P w=(match op with|.eql=>(do pure (.bool (<- Op.equal t u v)):Sem Value)|.neq=>(do pure (.bool (!(<- Op.equal t u v))):Sem Value)|_=>Go.binOp op t u v).run P w)->(Op.equal t u v).run P w=.ok r w →
   (execOp a.eval o).run P w=.ok (.value (.bool (r != neg))) w:=fun u v r hu hv h1 hn hb he=>by
  cases neg with
  |false =>
   simp only[yM,if_false]at ho;have:=hb .eql;simp only[Sem.run_bind,he,Result.andThen_ok,Sem.run_pure]at this;rw[mE ho hu hv h1 hn this];simp
  |true =>
   simp only[if_true]at ho;have:=hb .neq;simp only[Sem.run_bind,he,Result.andThen_ok,Sem.run_pure]at this;rw[mE ho hu hv h1 hn this];simp
 have kg:∀A n c,ptr=false->a.eval X=.slice A n c->a.eval Y=.slice none 0 0->(execOp a.eval o).run P w=.ok (.value (.bool (A.isNone != neg))) w:=fun A n c hp hu hv=>by
  subst hp;simp only[yM,if_false]at ht;obtain⟨e,ht⟩:=ht;exact key _ _ _ hu hv rfl (by simp) (fun op=>by cases op<;>simp[Go.binOp]) (Ta 9999 ht A n c)
 have hpt:∀A,ptr=true->a.eval X=.pointer A->a.eval Y=.pointer none->(execOp a.eval o).run P w=.ok (.value (.bool (A.isNone != neg))) w:=fun A hp hu hv=>by
  subst hp;simp only[if_true]at ht;obtain⟨e,ht⟩:=ht;exact key _ _ _ hu hv rfl (by simp) (fun op=>by cases op<;>simp[Go.binOp]) (eql_ptr 9999 ht A)
 have JJ:∀{b:Bool},(execOp a.eval o).run P w=.ok (.value (.bool (b != neg))) w->BX P aa a w ι Θ o ⟨.bool (b != neg),.no⟩:=fun h=>⟨_,h,by rw[cE],trivial⟩
 simp only[K.run]at hr;split at hr
 ·rename_i l xw;rw [xw,FG] at hY;simp only [ZG] at hY;obtain ⟨A,c,hv,_,_,hn,_⟩:=hY;obtain ⟨rfl,h0,rfl⟩:=hn trivial;rw [h0] at hv;cases hi:bJ false (x.get s) with
  |none=>rw[hi]at hr;cases hr
  |some b =>
   rw[hi]at hr;injection hr with hr;injection hr with e1 e2;subst e1;subst e2;refine⟨rfl,JJ ?_⟩;unfold bJ at hi;split at hi<;>first|(exact absurd ‹false=true› (by decide))|skip
   ·rename_i l' _ ue;injection hi with hi;subst hi;rw[ue,FG]at hX;simp only[ZG]at hX;obtain⟨A,c,hu,_,_,im,po⟩:=hX;have:=kg _ _ _ rfl hu hv;rw[(im trivial).1]at this;exact this
   ·rename_i l' _ ue;split at hi
    ·cases hi
    ·rename_i ua;injection hi with hi;subst hi;rw[ue,FG]at hX;simp only[ZG]at hX;obtain⟨A,c,hu,_,_,im,po⟩:=hX;have:=kg _ _ _ rfl hu hv;obtain⟨_,_,rfl,_⟩:=(po trivial).2 (by cases l' with|nil=>simp at ua|cons=>simp);exact this
   ·rename_i l' _ ue;injection hi with hi;subst hi;rw[ue]at hX;obtain⟨a',c,hu,_⟩:=hX;exact kg _ _ _ rfl hu hv
   ·rename_i ue;injection hi with hi;subst hi;rw[ue]at hX;obtain⟨b,_,_,_,_,_,hu⟩:=lK.1 hX;exact kg _ _ _ rfl hu hv
   ·cases hi
 ·rename_i xw;rw [xw,K4] at hY;cases hi:bJ true (x.get s) with
  |none=>rw[hi]at hr;cases hr
  |some b =>
   rw[hi]at hr;injection hr with hr;injection hr with e1 e2;subst e1;subst e2;refine⟨rfl,JJ ?_⟩;unfold bJ at hi;split at hi<;>first|(exact absurd ‹true=false› (by decide))|skip
   ·rename_i ue;injection hi with hi;subst hi;rw[ue,K4]at hX;exact hpt _ rfl hX hY
   ·rename_i ue;injection hi with hi;subst hi;rw[ue]at hX;obtain⟨b,_,hu⟩:=BI.1 hX;exact hpt _ rfl hu hY
   ·rename_i ue;injection hi with hi;subst hi;rw[ue]at hX;obtain⟨b,off,hu,_⟩:=PN.1 hX;exact hpt _ rfl hu hY
   ·rename_i ue;injection hi with hi;subst hi;rw[ue]at hX;obtain⟨b,off,hu,_⟩:=hX;exact hpt _ rfl hu hY
   ·cases hi
 ·cases hr
def KindEq (P:Program)(d:Nat)(t:TypeId)(w:World):Nat->Value->Value->Prop
 |0,.int j a,.int j' b=>j=j'->(Op.equalIn (d+1) t (.int j a) (.int j' b)).run P w=.ok (decide (a=b)) w
 |1,.string a,.string b=>(Op.equalIn (d+1) t (.string a) (.string b)).run P w=.ok (decide (a=b)) w
 |2,.bool a,.bool b=>(Op.equalIn (d+1) t (.bool a) (.bool b)).run P w=.ok (decide (a=b)) w
 |_,_,_=>True
theorem j9 (d:Nat){t:TypeId}{k:Nat}(hk:U2 P t=some k){xs ys:Array Value}{i:Nat}{u v:Value}(hu:xs[i]?=some u)(hv:ys[i]?=some v):
  (part t xs i).run P w=.ok u w/\(part t ys i).run P w=.ok v w/\KindEq P d t w k u v:=by
 unfold U2 at hk;split at hk
 ·rename_i j ht _;injection hk with hk;subst hk;refine ⟨by simp [part,isAgg,run_underlying ht,hu],by simp [part,isAgg,run_underlying ht,hv],?_⟩;cases u <;> cases v <;> first | trivial | skip
  rename_i j1 a j2 b;rintro rfl;rw[run_equalIn_int w d t j1 j a b ht];rfl
 ·rename_i ht _;injection hk with hk;subst hk;refine ⟨by simp [part,isAgg,run_underlying ht,hu],by simp [part,isAgg,run_underlying ht,hv],?_⟩;cases u <;> cases v <;> first | trivial | skip
  rename_i a b;show(Op.equalIn (d+1) t (.string a) (.string b)).run P w=_;rw[run_equalIn_string w d t a b ht,HP]
 ·rename_i ht _;injection hk with hk;subst hk;refine ⟨by simp [part,isAgg,run_underlying ht,hu],by simp [part,isAgg,run_underlying ht,hv],?_⟩;cases u <;> cases v <;> first | trivial | skip
  rename_i a b;show(Op.equalIn (d+1) t (.bool a) (.bool b)).run P w=_;rw[run_equalIn_bool' w d t a b ht];cases a<;>cases b<;>rfl
 ·cases hk
theorem Bj {k:Nat}{ks:List Nat}{x y:AV}{xs ys:List AV}{r:Bool}(h:BM (k::ks) (x::xs) (y::ys)=some r){av:Av}{u v:Value}(hu:RD ι av w x u)(hv:RD ι av w y v)(d:Nat){t:TypeId}(hk:U2 P t=some k){us vs:Array Value}{i:Nat}(hi:us[i]?=some u)(hj:vs[i]?=some v):
  ∃b,(part t us i).run P w=.ok u w/\(part t vs i).run P w=.ok v w/\(Op.equalIn (d+1) t u v).run P w=.ok b w/\(if b then BM ks xs ys=some r else r=false):=by
 obtain⟨h1,h2,h3⟩:=j9 (w:=w) d hk hi hj;unfold BM at h;split at h
 ·rename_i e _ _;cases e
 ·rename_i j a r1 j' b r2 e1 e2 e3;injection e1 with e1 e1'; injection e2 with e2 oq; injection e3 with e3 e3';subst e1; subst e1'; subst e2; subst oq; subst e3; subst e3';simp only [RD,ZG] at hu hv;subst hu; subst hv;split at h
  ·rename_i hjj;refine ⟨_,h1,h2,h3 hjj,?_⟩;by_cases og:a=b
   ·rw[if_pos og]at h;rw[if_pos (by simpa using og)];exact h
   ·rw[if_neg og]at h;injection h with h;rw[if_neg (by simpa using og)];exact h.symm
  ·cases h
 ·rename_i a r1 b r2 e1 e2 e3;injection e1 with e1 e1'; injection e2 with e2 oq; injection e3 with e3 e3';subst e1; subst e1'; subst e2; subst oq; subst e3; subst e3';simp only [RD,ZG] at hu hv;subst hu; subst hv;refine ⟨_,h1,h2,h3,?_⟩;by_cases og:a=b
  ·rw[if_pos og]at h;rw[if_pos (by simpa using og)];exact h
  ·rw[if_neg og]at h;injection h with h;rw[if_neg (by simpa using og)];exact h.symm
 ·rename_i a r1 b r2 e1 e2 e3;injection e1 with e1 e1'; injection e2 with e2 oq; injection e3 with e3 e3';subst e1; subst e1'; subst e2; subst oq; subst e3; subst e3';simp only [RD,ZG] at hu hv;subst hu; subst hv;refine ⟨_,h1,h2,h3,?_⟩;by_cases og:a=b
  ·rw[if_pos og]at h;rw[if_pos (by simpa using og)];exact h
  ·rw[if_neg og]at h;injection h with h;rw[if_neg (by simpa using og)];exact h.symm
 ·cases h
theorem Lu:∀{ks:List Nat}{xs ys:List AV}{r:Bool},BM ks xs ys=some r->ks≠[]->∃x pk y ys',xs=x::pk/\ys=y::ys'
 | [],_,_,_,h,h'=>absurd rfl h'
 |k::ks,xs,ys,r,h,_=>by
  cases xs with
  |nil=>simp[BM]at h
  |cons x xs =>
   cases ys with
   |nil=>unfold BM at h;split at h<;>simp_all
   |cons y ys=>exact⟨x,xs,y,ys,rfl,rfl⟩
theorem NS:∀{k1 k2:List Nat}{xs ys:List AV}{r:Bool},BM (k1++k2) xs ys=some r->∃r1,BM k1 (xs.take k1.length) (ys.take k1.length)=some r1/\(if r1 then BM k2 (xs.drop k1.length) (ys.drop k1.length)=some r else r=false)
 | [],k2,xs,ys,r,h=>⟨true,by simp[BM],by simpa using h⟩
 |k::k1,k2,xs,ys,r,h=>by
  obtain⟨x,pk,y,ys',rfl,rfl⟩:=Lu h (by simp);simp only[List.cons_append]at h;simp only[yG,List.take_succ_cons,List.drop_succ_cons];unfold BM at h;split at h
  ·rename_i e _ _;cases e
  ·rename_i j a r1 j' b r2 e1 e2 e3;injection e1 with e1 e1'; injection e2 with e2 oq; injection e3 with e3 e3';subst e1; subst e1'; subst e2; subst oq; subst e3; subst e3';split at h
   ·rename_i hjj;subst hjj;split at h
    ·rename_i og;simp only[BM,if_true,if_pos og];exact NS h
    ·rename_i og;injection h with h;exact⟨false,by simp[BM,og],by simpa using h.symm⟩
   ·cases h
  ·rename_i a r1 b r2 e1 e2 e3;injection e1 with e1 e1'; injection e2 with e2 oq; injection e3 with e3 e3';subst e1; subst e1'; subst e2; subst oq; subst e3; subst e3';split at h
   ·rename_i og;simp only[BM,if_pos og];exact NS h
   ·rename_i og;injection h with h;exact⟨false,by simp[BM,og],by simpa using h.symm⟩
  ·rename_i a r1 b r2 e1 e2 e3;injection e1 with e1 e1'; injection e2 with e2 oq; injection e3 with e3 e3';subst e1; subst e1'; subst e2; subst oq; subst e3; subst e3';split at h
   ·rename_i og;simp only[BM,if_pos og];exact NS h
   ·rename_i og;injection h with h;exact⟨false,by simp[BM,og],by simpa using h.symm⟩
  ·cases h
def T5 (P:Program)(ι:Ix)(av:Av)(w:World)(n:Nat)(t:TypeId)(ks:List Nat):Prop :=
 ∀(d:Nat)(us vs:Array Value)(off:Nat)(xs ys:List AV)(r:Bool),cD ι av w xs ((us.toList.drop off).take ks.length)->cD ι av w ys ((vs.toList.drop off).take ks.length)->BM ks xs ys=some r →
  ∃a b,(part t us off).run P w=.ok a w/\(part t vs off).run P w=.ok b w/\(Op.equalIn (d+n) t a b).run P w=.ok r w
theorem LO {av:Av}{xs:List AV}{us:List Value}{off k m:Nat}(h:cD ι av w xs ((us.drop off).take (k+m))):cD ι av w (xs.take k) ((us.drop off).take k)/\cD ι av w (xs.drop k) ((us.drop (off+k)).take m):=by
 constructor
 ·have:=RI k h
  rwa [List.take_take,Nat.min_eq_left (Nat.le_add_right ..)]at this
 ·have:=qI k h
  rwa [List.drop_take,Y0g,List.drop_drop]at this
theorem rY {av:Av}{n:Nat}(ih:∀t ks,nJ P n t=some ks->T5 P ι av w n t ks)(d:Nat){us vs:Array Value}:∀{fs:List Field}{i:Nat}{ks:List Nat}{xs ys:List AV}{r:Bool},MS (nJ P n) i fs=some ks->BM ks xs ys=some r->cD ι av w xs ((us.toList.drop i).take ks.length)->cD ι av w ys ((vs.toList.drop i).take ks.length) →
  (Op.eqFields (d+n) us vs fs).run P w=.ok r w
 | [],i,ks,xs,ys,r,hk,h,_,_=>by
  injection hk with hk;subst hk;cases xs<;>cases ys<;>simp[BM]at h
  subst h;simp[Op.eqFields]
 |f::fs,i,ks,xs,ys,r,hk,h,hx,hy=>by
  unfold MS at hk;obtain⟨l,hl,hk⟩:=yh.1 hk;split at hk
  ·rename_i hn;obtain ⟨l',lv,rfl⟩:=yq.1 hk;obtain ⟨r1,h1,h2⟩:=NS h;rw [yj] at hx hy;obtain ⟨x1,x2⟩:=LO hx;obtain ⟨y1,y2⟩:=LO hy;obtain ⟨a,b,p1,p2,p3⟩:=ih _ _ hl d us vs i _ _ _ x1 y1 h1;unfold Op.eqFields;rw [if_pos hn.1,hn.2];simp only [Sem.run_bind,p1,p2,p3,Result.andThen_ok,Sem.run_ite];cases r1 with
   |true =>
    simp only[if_true]at h2;simp only[Bool.not_true,yM,if_false];exact rY ih d lv h2 x2 y2
   |false =>
    simp only[yM,if_false]at h2;simp[h2]
  ·cases hk
theorem JZ {av:Av}{n:Nat}{e:TypeId}{l:List Nat}(ih:T5 P ι av w n e l)(hc:P.cellsOf e=l.length)(d:Nat){us vs:Array Value}:∀{m i:Nat}{xs ys:List AV}{r:Bool},BM (yX m l).flatten xs ys=some r->cD ι av w xs ((us.toList.drop (i*l.length)).take (yX m l).flatten.length)->cD ι av w ys ((vs.toList.drop (i*l.length)).take (yX m l).flatten.length) →
  (Op.eqItems (d+n) e (P.cellsOf e) us vs (List.range' i m)).run P w=.ok r w
 |0,i,xs,ys,r,h,_,_=>by
  cases xs<;>cases ys<;>simp[BM]at h
  subst h;simp[Op.eqItems]
 |m+1,i,xs,ys,r,h,hx,hy=>by
  rw[List.replicate_succ,yA]at h hx hy;obtain⟨r1,h1,h2⟩:=NS h;rw[yj]at hx hy;obtain⟨x1,x2⟩:=LO hx;obtain⟨y1,y2⟩:=LO hy;rw[<- yN]at x2 y2;obtain⟨a,b,p1,p2,p3⟩:=ih d us vs (i*l.length) _ _ _ x1 y1 h1;rw[List.range'_succ];unfold Op.eqItems;rw[hc];simp only[Sem.run_bind,p1,p2,p3,Result.andThen_ok,Sem.run_ite];cases r1 with
  |true =>
   simp only[if_true]at h2;simp only[Bool.not_true,yM,if_false];have:=JZ ih hc d (m:=m) (i:=i+1) h2 x2 y2;rw[hc]at this;exact this
  |false =>
   simp only[yM,if_false]at h2;simp[h2]
theorem OU {t:TypeId}{z:Nat}(hA:QL P t=some true)(hz:CE P t=some z)(us:Array Value)(off:Nat):(part t us off).run P w=.ok (.agg (us.extract off (off+z))) w/\(us.extract off (off+z)).toList=(us.toList.drop off).take z :=
 ⟨by simp[part,FS hA,mF hz],by rw[Array.toList_extract,List.extract_eq_take_drop,Y0g]⟩
theorem OV {t:TypeId}{z:Nat}(h:CE P t=some z):∃i,P.info? t=some i:=by
 unfold CE at h;cases hh:P.info? t with
 |none=>rw[hh]at h;cases h
 |some i=>exact⟨i,rfl⟩
theorem JX {av:Av}{n:Nat}(ih:∀t ks,nJ P n t=some ks->T5 P ι av w n t ks)(d:Nat){t:TypeId}{ks:List Nat}(hk:nJ P (n+1) t=some ks)(hA:QL P t=some true){us vs:Array Value}{xs ys:List AV}{r:Bool}
  (hx:cD ι av w xs (us.toList.take ks.length)) (hy:cD ι av w ys (vs.toList.take ks.length)) (h:BM ks xs ys=some r):CE P t=some ks.length/\(Op.equalIn (d+n+1) t (.agg us) (.agg vs)).run P w=.ok r w:=by
 unfold nJ at hk;split at hk
 ·rename_i k tc;unfold QL at hA;unfold U2 at tc;split at tc<;>first|(cases tc;done)|(rename_i ht _;rw[ht]at hA;injection hA with hA;cases hA)|(rename_i ht;rw[ht]at hA;injection hA with hA;cases hA)
 ·split at hk
  ·rename_i m e ht;obtain ⟨l,hl,hk⟩:=yh.1 hk;split at hk
   ·rename_i hc;injection hk with hk;subst hk;obtain⟨i,hi⟩:=OV hc.2.1;refine⟨hc.2.2,?_⟩;have:=run_equalIn_array (P:=P) w (d+n) us vs ht hi;rw[List.range_eq_range']at this;exact this.trans (JZ (ih _ _ hl) hc.1 d h (by simpa using hx) (by simpa using hy))
   ·cases hk
  ·rename_i fs ht;split at hk
   ·cases hk
   ·rename_i sb;obtain ⟨l,hl,hk⟩:=yh.1 hk;split at hk
    ·rename_i hc;injection hk with hk;subst hk;refine ⟨hc,?_⟩;have hf:P.fieldsOf t=fs:=by simp [Program.fieldsOf,ht]
     have:=run_equalIn_struct (P:=P) w (d+n) t us vs (by rw[hf];exact ht) (by simpa using sb);rw[hf]at this;exact this.trans (rY ih d hl h (by simpa using hx) (by simpa using hy))
    ·cases hk
  ·cases hk
theorem BW {av:Av}:∀(n:Nat)(t:TypeId)(ks:List Nat),nJ P n t=some ks->T5 P ι av w n t ks
 |0,_,_,h=>by cases h
 |n+1,t,ks,hk=>by
  intro d us vs off xs ys r hx hy h;have sf:=hk;unfold nJ at hk;split at hk
  ·rename_i k tc;injection hk with hk;subst hk;obtain⟨x,pk,y,ys',rfl,rfl⟩:=Lu h (by simp);obtain⟨u,gb,e1,hu,_,ci⟩:=hx;obtain⟨v,ly,e2,hv,_,nk⟩:=hy;have l1:gb=[]:=by
    have:=congrArg List.length e1;simp at this;exact Y04 (by omega)
   have l2:ly=[]:=by
    have:=congrArg List.length e2;simp at this;exact Y04 (by omega)
   have g1:us[off]?=some u:=by
    have:=congrArg (fun l=>l[0]?) e1;simpa [yK,yI]using this
   have g2:vs[off]?=some v:=by
    have:=congrArg (fun l=>l[0]?) e2;simpa [yK,yI]using this
   obtain⟨b,p1,p2,p3,p4⟩:=Bj (P:=P) h hu hv (d+n) tc g1 g2;refine⟨u,v,p1,p2,?_⟩;have:b=r:=by
    cases b with
    |true =>
     simp only[if_true]at p4;subst l1;subst l2;cases pk with
     |nil=>cases ys' with
      |nil=>simp[BM]at p4;exact p4.symm
      |cons=>simp[BM]at p4
     |cons=>simp[BM]at p4
    |false=>simpa using p4.symm
   rw[<- this];exact p3
  ·rename_i hnk;have hA:QL P t=some true:=by
    split at hk
    ·rename_i ht;simp[QL,ht]
    ·rename_i ht;simp[QL,ht]
    ·cases hk
   have:=JX (fun t ks h=>BW n t ks h) d sf hA (us:=us.extract off (off+ks.length)) (vs:=vs.extract off (off+ks.length)) (xs:=xs) (ys:=ys) (r:=r)
    (by rw[Array.toList_extract,List.extract_eq_take_drop,Y0g,List.take_take,Nat.min_self];exact hx)
    (by rw[Array.toList_extract,List.extract_eq_take_drop,Y0g,List.take_take,Nat.min_self];exact hy) h
   exact⟨_,_,(OU hA this.1 us off).1,(OU hA this.1 vs off).1,this.2⟩
theorem Jo (R:DE P O nt B F0 aa w0 D s a w ι Θ){t t':TypeId}{neg:Bool}{ks:List Nat}(ht:pU P t=some ks){X Y:Operand}{x y:EE}(hx:pA X=some x)(hy:pA Y=some y)
  (ho:o.op=.binOp (if neg then .neq else .eql) t X Y t') {call} {z:SC} {e:uG} (hr:(K.QC neg ks x y).run call s=some (z,e)):e=.none/\BX P aa a w ι Θ o z:=by
 have hX:=(R.pA hx).1;have hY:=(R.pA hy).1;simp only[K.run]at hr;split at hr
 ·rename_i xa ya ue xw;rw [ue,E1] at hX;rw [xw,E1] at hY;obtain ⟨us,hu,ci⟩:=hX;obtain ⟨vs,hv,nk⟩:=hY;cases hq:BM ks xa ya with
  |none=>rw[hq]at hr;cases hr
  |some r =>
   rw[hq]at hr;injection hr with hr;injection hr with e1 e2;subst e1;subst e2;unfold pU at ht;split at ht
   ·cases ht
   ·rename_i hg;have he:(Op.equal t (.agg us) (.agg vs)).run P w=.ok r w:=by
     have main:nJ P 8 t=some ks->QL P t=some true->(Op.equal t (.agg us) (.agg vs)).run P w=.ok r w:=fun hk hA =>
      by
       obtain⟨r1,h1,h2⟩:=NS (k1:=ks) (k2:=[]) (by simpa using hq);have e:r1=r:=by
        cases r1 with
        |true =>
         simp only[if_true]at h2;unfold BM at h2;split at h2<;>first|(injection h2)|(rename_i e _ _;cases e)|cases h2
        |false=>simpa using h2.symm
       subst e;exact(JX (fun t ks h=>BW 7 t ks h) 9992 hk hA (us:=us) (vs:=vs) (RI _ ci) (RI _ nk) h1).2
     split at ht
     ·rename_i xt;exact main ht (by simp[QL,xt])
     ·rename_i xt;exact main ht (by simp[QL,xt])
     ·cases ht
    have ux:∀op,(eqGuard op t X Y (.agg us) (.agg vs)).run P w=.ok () w:=fun op=>by
     have:P.eqGuardType P.depth t=false:=by simpa using hg
     unfold eqGuard;cases op<;>simp[this]
    refine⟨rfl,.bool (r != neg),?_,by rw[cE],trivial⟩;cases neg with
    |false =>
     simp only[yM,if_false]at ho;simp[execOp,ho,hu,hv,ux,Go.binOp,he]
    |true =>
     simp only[if_true]at ho;simp[execOp,ho,hu,hv,ux,Go.binOp,he]
 ·cases hr
end
end
section
open Go Go.RowKit
section
variable {P:Program} {O:XH} {nt B:Nat} {F0:pR} {aa:Av} {w0:World} {D:Nat->Prop} {s:LC} {a:Act} {w w':World} {ι:Ix} {Θ:kM} {o:Oper}
theorem CZ {av avb:Av}{x:AV}{v:Value}(h:WD ι av avb w x v)(hx:x.leaf=true):RD ι av w x v/\v.oneCell'=true:=by
 cases x<;>first
  |(simp[AV.leaf]at hx;done)
  |(refine⟨h,?_⟩;simp only[WD,RD,ZG]at h;subst h;rfl)
  |(refine⟨h,?_⟩;obtain⟨b,_,rfl⟩:=h;rfl)
  |(refine⟨h,?_⟩;obtain⟨b,_,_,_,_,_,rfl⟩:=h;rfl)
  |(refine⟨h,?_⟩;simp only[WD,RD,ZG]at h;obtain⟨b,off,rfl,_⟩:=h;rfl)
theorem Kp {av avb:Av}{x:AV}{v:Value}(h:WD ι av avb w x v)(hx:x.whole=true):cD ι av w x.cells v.cells.toList:=by
 cases x with
 |agg cs=>obtain⟨us,rfl,hc⟩:=h;exact hc
 |_ =>
  obtain⟨h1,h2⟩:=CZ h hx;cases v<;>first|exact⟨_,[],rfl,h1,h2,rfl⟩|(simp[Value.oneCell']at h2;done)
theorem U9 (off:Nat):∀(l:List Value)(k:Nat)(cells:Array Value),off+k+l.length<=cells.size →
  ((l.zipIdx k).foldl (fun cs (p:Value×Nat)=>cs.setIfInBounds (off+p.2) p.1) cells).toList=cells.toList.take (off+k)++l++cells.toList.drop (off+k+l.length)
 | [],k,cells,_=>by simp
 |v::l,k,cells,h=>by
  simp only[yG]at h;rw[List.zipIdx_cons,List.foldl_cons,U9 off l (k+1) _ (by simp;omega)];simp only[Array.toList_setIfInBounds,yG];have hk:off+k<cells.toList.length:=by simp;omega
  rw[show off+(k+1)=off+k+1 from by omega,List.take_succ_eq_append_getElem (by simpa using hk)];rw[List.take_set_of_le (yl _),List.getElem_set_self,List.drop_set_of_lt (by omega)];simp[yx,show off+k+1+l.length=off+k+(l.length+1)from by omega]
theorem mV {pl:Nat->Option (Nat×Nat)}{av avb:Av}(ld:avb=avb):∀{ps:List (Nat×Operand)}{ys:List (Nat×EE)}{zs:List (Nat×Nat×EE)}{cs ds:List AV}{us:Array Value},
  (∀(X:Operand)(y:EE),pA X=some y->WD ι av avb w (y.get s) (a.eval X))->aA ps=some ys->TS pl ys=some zs->(∀p∈zs,(p.2.2.get s).whole=true) →
  nV cs (zs.map fun p=>(p.1,p.2.1,(p.2.2.get s).cells))=some ds->cD ι av w cs us.toList->∃gb,Instr.fill pl us (ps.map fun p=>(p.1,a.eval p.2))=some gb/\cD ι av w ds gb.toList
 | [],ys,zs,cs,ds,us,_,hy,hz,_,hf,hc=>by
  injection hy with hy;subst hy;injection hz with hz;subst hz;injection hf with hf;subst hf;exact⟨us,rfl,hc⟩
 |(i,X)::ps,ys,zs,cs,ds,us,wb,hy,hz,hl,hf,hc=>by
  unfold aA at hy;split at hy
  ·rename_i x l hx hr;injection hy with hy; subst hy;unfold TS at hz;split at hz
   ·rename_i off z l' hp di;injection hz with hz; subst hz;simp only [ym,nV] at hf;split at hf
    ·rename_i ia;have jc:=Kp (wb X x hx) (hl _ (yo));have da:=xF jc;have hlu:=xF hc;simp only [Y02] at da hlu;have zc:(a.eval X).cells.size=z:=by rw [da]; exact ia.1
     have hfold:((a.eval X).cells.zipIdx.foldl (fun cs (p:Value×Nat)=>cs.setIfInBounds (off+p.2) p.1) us).toList=us.toList.take off++(a.eval X).cells.toList++us.toList.drop (off+z):=by
      rw[<- Array.foldl_toList,Array.toList_zipIdx,U9 off _ 0 us (by simp[zc];omega)];simp[zc]
     have fd:cD ι av w (cs.take off++(x.get s).cells++cs.drop (off+z)) (((a.eval X).cells.zipIdx.foldl (fun cs (p:Value×Nat)=>cs.setIfInBounds (off+p.2) p.1) us)).toList:=by
      rw[hfold];exact UJ (UJ (RI off hc) jc) (qI (off+z) hc)
     obtain⟨gb,h1,h2⟩:=mV ld wb hr di (fun p hp=>hl p (yp _ hp)) hf fd;refine⟨gb,?_,h2⟩;simp only[ym,Instr.fill,hp];rw[if_neg (by simp[zc];omega)];exact h1
    ·cases hf
   ·cases hz
  ·cases hy
theorem j5 (R:DE P O nt B F0 aa w0 D s a w ι Θ){t:TypeId}{ps:Array (Nat×Operand)}{ys:List (Nat×EE)}{zs:List (Nat×Nat×EE)}{zero:List AV}{pl:Nat->Option (Nat×Nat)}{z:Value}(lr:TM z.cells.toList=some zero)
  (hb:P.built t (ps.map fun(i,x)=>(i,a.eval x)).toList=Instr.fill pl z.cells (ps.map fun(i,x)=>(i,a.eval x)).toList) (hy:aA ps.toList=some ys) (hp:TS pl ys=some zs) (ho:o.op=.build t ps)
  {call} {x:SC} {e:uG} (hr:(K.build zero zs).run call s=some (x,e)):e=.none/\BX P aa a w ι Θ o x:=by
 simp only[K.run]at hr;split at hr
 ·rename_i nb;cases hf:nV zero (zs.map fun p=>(p.1,p.2.1,(p.2.2.get s).cells)) with
  |none=>rw[hf]at hr;cases hr
  |some ds =>
   rw[hf]at hr;injection hr with hr;injection hr with e1 e2;subst e1;subst e2;obtain⟨gb,h1,h2⟩:=mV (pl:=pl) (ι:=ι) (av:=BE aa ι Θ) (avb:=uF ι Θ) (w:=w) (s:=s) (a:=a) rfl (fun X y h=>(R.pA h).1) hy hp (fun p hp=>by
    have:=ye.1 nb p hp;exact this) hf (BL lr _ _)
   have h3:P.built t (ps.map fun(i,x)=>(i,a.eval x)).toList=some gb:=by
    rw[hb,Array.toList_map];exact h1
   exact⟨rfl,.agg gb,by simp only[execOp,ho,Sem.run_bind,run_build w t _ gb h3,Result.andThen_ok,Sem.run_pure],⟨gb,rfl,h2⟩,trivial⟩
 ·cases hr
def Ix.add (ι:Ix)(d n b z:Nat):Ix:=⟨fun t' n'=>if t'=d/\n'=n then some b else ι t' n',ι.ob,fun b'=>if b'=b then z else ι.z b'⟩
section
variable (R:DE P O nt B F0 aa w0 D s a w ι Θ)
include R
theorem DE.low {b o:Nat}(h:BE aa ι Θ b o):b<w.heap.size:=by
 have h1:=R.kept.size;have h2:=R.base.1;rcases h with h|(⟨t,n,h⟩|⟨t,n,H,h,hb⟩)|⟨k,ow,h,rfl,_⟩
 ·have:=R.out _ _ h;omega
 ·exact(R.mine _ _ _ h).2.1
 ·exact((R.obs _ _ _ h).1 _ hb).2.1
 ·obtain⟨_,_,_,_,cur,h5,_⟩:=R.tok _ _ h;exact sD h5
theorem DE.EC:B<=w.heap.size:=by
 have h1:=R.kept.size;have h2:=R.base.1;omega
theorem DE.new {d:Nat}(hd:d<nt)(hD:¬D d){r:List SC}{cur:Array Value}(ty:TypeId)(ja:zG ι Θ (BE aa ι Θ) w r cur){x:AV}{v:Value}
  (hx:∀ι':Ix,ι' d s.next=some w.heap.size->ι'.z w.heap.size=cur.size->WD ι' (BE aa ι' Θ) (uF ι' Θ) (w.alloc (.cells cur ty)) x v) :
  ∃ι',DE P O nt B F0 aa w0 (fun t=>D t\/t=d) ((s.setRow d s.next r).put (some d) ⟨x,.no⟩) (a.put (some d) v) (w.alloc (.cells cur ty)) ι' Θ:=by
 have dg:ι d s.next=none:=by
  cases h:ι d s.next with
  |none=>rfl
  |some b =>
   rcases(R.mine _ _ _ h).2.2 with h1|h1
   ·omega
   ·exact absurd h1.2 hD
 have pf:ι.ob d s.next=none:=by
  cases h:ι.ob d s.next with
  |none=>rfl
  |some b =>
   rcases(R.obs _ _ _ h).2 with h1|h1
   ·omega
   ·exact absurd h1.2 hD
 have kf:∀t n b,ι t n=some b->(ι.add d s.next w.heap.size cur.size) t n=some b:=fun t n b h=>by
  show(if t=d/\n=s.next then some w.heap.size else ι t n)=some b;split
  ·rename_i e;rw[e.1,e.2,dg]at h;cases h
  ·exact h
 have rd:∀t n b,(ι.add d s.next w.heap.size cur.size) t n=some b->b<w.heap.size->ι t n=some b:=fun t n b h hb=>by
  have h':(if t=d/\n=s.next then some w.heap.size else ι t n)=some b:=h;split at h'
  ·injection h' with h';omega
  ·exact h'
 have fd:(ι.add d s.next w.heap.size cur.size) d s.next=some w.heap.size:=by
  show(if d=d/\s.next=s.next then some w.heap.size else ι d s.next)=_;rw[if_pos ⟨rfl,rfl⟩]
 have ll:∀b o,b<w.heap.size->uF (ι.add d s.next w.heap.size cur.size) Θ b o->uF ι Θ b o:=fun b o hb h=>h.imp (fun h=>h.imp (fun⟨t,n,h⟩=>⟨t,n,rd t n b h hb⟩) id) id
 have hAx:∀b o,b<w.heap.size->BE aa (ι.add d s.next w.heap.size cur.size) Θ b o->BE aa ι Θ b o:=fun b o hb h=>h.imp id (ll b o hb)
 have ji:∀b,b<w.heap.size->(w.alloc (.cells cur ty)).heap[b]?=w.heap[b]?:=fun b hb=>Below.heap_alloc w _ b hb
 have hA:QD (BE aa ι Θ) (BE aa (ι.add d s.next w.heap.size cur.size) Θ) w (w.alloc (.cells cur ty)):=QD.grown ji hAx;have hB:QD (uF ι Θ) (uF (ι.add d s.next w.heap.size cur.size) Θ) w (w.alloc (.cells cur ty)):=QD.grown ji ll;have pu:=R.EC;have bc:Ix.Le ι (ι.add d s.next w.heap.size cur.size):=⟨kf,fun t n b h=>by
  have:=(R.mine t n b h).2.1;show(if b=w.heap.size then cur.size else ι.z b)=ι.z b;rw[if_neg (by omega)]⟩
 have hzn:(ι.add d s.next w.heap.size cur.size).z w.heap.size=cur.size:=if_pos rfl;refine⟨ι.add d s.next w.heap.size cur.size,DE.put (s:=s.setRow d s.next r) ⟨R.defers,R.size,fun t=>WD.held bc hA hB _ _ (R.env t),R.aC,fun t n r' hr=>?_,fun t n b h=>?_,fun t n t' n' b h h'=>?_,fun k o h=>?_,R.ZA,fun k o t n h h'=>?_,R.out,fun p h=>⟨kf _ _ _ (R.pin p h).1,(R.pin p h).2.imp (fun g=>⟨g.1,(bc.z _ _ _ (R.pin p h).1).trans g.2⟩) id⟩,R.kept.alloc _,R.base,fun t n S h=>?_,fun t n H h=>?_,fun t=>WD.held bc hA hB _ _ (R.gen t),R.pB⟩ hd (hx _ fd hzn) trivial⟩
 ·simp only [LC.setRow] at hr;split at hr
  ·rename_i e;injection hr with hr;subst hr;refine⟨by show ι.ob t n=none;rw[e.1,e.2];exact pf,w.heap.size,cur,ty,by rw[e.1,e.2];exact fd,qX rfl,ja.held bc hA (fun _ _ h=>h),.inl pu,hzn.symm⟩
  ·obtain⟨h0,b,sa,dj,h1,h2,h3,h4,h5⟩:=R.rows t n r' hr;exact⟨h0,b,sa,dj,kf _ _ _ h1,(ji b (sD h2)).trans h2,h3.held bc hA (fun _ _ h=>h),h4,h5.trans (bc.z _ _ _ h1).symm⟩
 ·have h':(if t=d/\n=s.next then some w.heap.size else ι t n)=some b:=h;split at h'
  ·rename_i e;injection h' with h';subst h';exact⟨.inl pu,by simp,.inr ⟨e.2,.inr e.1⟩⟩
  ·obtain⟨h2,h3,h4⟩:=R.mine t n b h';exact⟨h2,by simp;omega,h4.imp id fun⟨e,d⟩=>⟨e,.inl d⟩⟩
 ·have g:(if t=d/\n=s.next then some w.heap.size else ι t n)=some b:=h;have g':(if t'=d/\n'=s.next then some w.heap.size else ι t' n')=some b:=h';split at g <;> split at g'
  ·rename_i e e';exact⟨e.1.trans e'.1.symm,e.2.trans e'.2.symm⟩
  ·injection g with g;have:=(R.mine _ _ _ g').2.1;omega
  ·injection g' with g';have:=(R.mine _ _ _ g).2.1;omega
  ·exact R.inj t n t' n' b g g'
 ·obtain⟨h1,h2,h3,h4,sa,h5,h6⟩:=R.tok k o h;exact⟨h1,h2,h3,h4,sa,(ji _ (sD h5)).trans h5,h6⟩
 ·obtain⟨_,_,_,_,sa,h5,_⟩:=R.tok k o h;exact R.apart k o t n h (rd t n _ h' (sD h5))
 ·obtain⟨p,H,h1,h2,h3,h4⟩:=R.qB t n S h;exact⟨p,H,kf _ _ _ h1,h2,O.keep h3 (fun b hH=>ji b (O.lt h3 hH)) (by simp),h4.keep (fun t n b H h g=>⟨kf _ _ _ h,H,g⟩) fun x hx=>(ji _ (sD hx)).trans hx⟩
 ·obtain⟨h1,h2⟩:=R.obs t n H h;refine⟨fun b hb=>?_,h2.imp id fun⟨e,d⟩=>⟨e,.inl d⟩⟩;obtain⟨g1,g2,g3,g4⟩:=h1 b hb;exact⟨g1,by simp;omega,fun t' n' h'=>g3 t' n' (rd t' n' b h' g2),g4⟩
end
end
end
section
open Go Go.RowKit
section
variable {P:Program} {O:XH} {nt B:Nat} {F0:pR} {aa:Av} {w0:World} {D:Nat->Prop} {s:LC} {a:Act} {w w':World} {ι:Ix} {Θ:kM} {o:Oper}
def SG (P:Program)(O:XH)(nt B:Nat)(F0:pR)(aa:Av)(w0:World)(D:Nat->Prop)(s:LC)(a:Act)(w:World):Prop:=∃ι Θ,DE P O nt B F0 aa w0 D s a w ι Θ
theorem zG.of {av:Av}:∀{r:List SC}{cur:List Value},cD ι av w (r.map (·.v)) cur->(∀(j:Nat)(x:SC)(u:Value),r[j]?=some x->cur[j]?=some u->QM Θ x.a u)->zG ι Θ av w r cur.toArray:=by
 intro r cur h ha;refine⟨by have:=xF h;simp at this;simp[this],fun j x hx=>?_⟩;obtain⟨u,hu,h1,hr⟩:=ZL h (j:=j) (x:=x.v) (by simp[hx]);exact⟨u,by simpa using hu,h1,hr,ha j x u hx hu⟩
theorem Gx (R:DE P O nt B F0 aa w0 D s a w ι Θ){t:TypeId}{zero:List AV}(hz:JL P t=some zero)(ho:o.op=.alloc t){d:Nat}(ka:o.dst=some d)(hd:d<nt)(hD:¬D d) {call} {xe:SC×uG} (hr:(K.alloc zero).run call s=some xe) {g} {s':LC} (he:aD.eff ⟨o.dst,.alloc zero,g⟩ s xe=some s') :
  ∃v w',(execOp a.eval o).run P w=.ok (.value v) w'/\SG P O nt B F0 aa w0 (fun t=>D t\/t=d) s' (a.put o.dst v) w':=by
 obtain⟨z,i,hi,sr,oa,hl⟩:=NJ hz w;simp only[K.run]at hr;injection hr with hr;subst hr;simp only[aD.eff,ka]at he;injection he with he;subst he;refine⟨.pointer (some ⟨w.heap.size,0,none⟩),w.alloc (.cells z.cells t),by simp[execOp,ho,Instr.alloc,oa,newVar,newRow],?_⟩;rw[ka];have kc:=BL (ι:=ι) hl (BE aa ι Θ) w;have ja:zG ι Θ (BE aa ι Θ) w (zero.map fun v=>⟨v,EJ v⟩) z.cells.toList.toArray:=zG.of (by
  rw[y9,show((fun x:SC=>x.v) ∘ fun v=>(⟨v,EJ v⟩:SC))=id from rfl,List.map_id];exact kc) (fun j x u hx hu=>by
  rw[yk]at hx;cases ku:zero[j]? with
  |none=>rw[ku]at hx;cases hx
  |some v =>
   rw[ku]at hx;injection hx with hx;subst hx;obtain⟨u',zt,_,hr⟩:=ZL kc ku;rw[hu]at zt;injection zt with zt;subst zt;show QM Θ (EJ v) u;unfold EJ;split
   ·simp only[RD,ZG]at hr;obtain⟨A,c,rfl,_,_,hn,_⟩:=hr;obtain⟨rfl,h0,rfl⟩:=hn trivial;exact⟨none,0,by rw[h0]⟩
   ·trivial)
 rw[Y07]at ja;exact let⟨ι',h⟩:=R.new hd hD t ja (x:=.ptr d s.next 0) (v:=.pointer (some ⟨w.heap.size,0,none⟩)) (fun ι' h _=>⟨_,h,rfl⟩);⟨ι',Θ,h⟩
theorem op_boxE (R:DE P O nt B F0 aa w0 D s a w ι Θ){t:TypeId}{z:Nat}{X:Operand}{x:EE}(hx:pA X=some x)(ho:o.op=.box t X){d:Nat}(ka:o.dst=some d)(hd:d<nt)(hD:¬D d) {call} {xe:SC×uG} (hr:(K.box z x).run call s=some xe) {g} {s':LC} (he:aD.eff ⟨o.dst,.box z x,g⟩ s xe=some s') :
  ∃v w',(execOp a.eval o).run P w=.ok (.value v) w'/\SG P O nt B F0 aa w0 (fun t=>D t\/t=d) s' (a.put o.dst v) w':=by
 have hX:=R.pA hx;have oa:(execOp a.eval o).run P w=.ok (.value (.pointer (some ⟨w.heap.size,0,none⟩))) (w.alloc (.cells (a.eval X).cells t)):=by simp[execOp,ho,Instr.box,newVar,newRow]
 have key:∀(r:List SC),zG ι Θ (BE aa ι Θ) w r (a.eval X).cells->SG P O nt B F0 aa w0 (fun t=>D t\/t=d) ((s.setRow d s.next r).put (some d) ⟨.ptr d s.next 0,.no⟩) (a.put (some d) (.pointer (some ⟨w.heap.size,0,none⟩))) (w.alloc (.cells (a.eval X).cells t)):=fun r h =>
  let⟨ι',h⟩:=R.new hd hD t h (x:=.ptr d s.next 0) (v:=.pointer (some ⟨w.heap.size,0,none⟩)) (fun ι' h _=>⟨_,h,rfl⟩);⟨ι',Θ,h⟩
 simp only[K.run]at hr;split at hr
 ·rename_i cs hv;split at hr
  ·injection hr with hr;subst hr;simp only[aD.eff,ka]at he;injection he with he;subst he;refine⟨_,_,oa,?_⟩;rw[ka];refine key _ ?_;rw[hv]at hX;obtain⟨us,hu,hc⟩:=hX.1;rw[hu];have:=zG.of (Θ:=Θ) (r:=cs.map fun v=>(⟨v,.no⟩:SC)) (cur:=us.toList) (ι:=ι) (w:=w) (av:=BE aa ι Θ) (by rw[y9,show((fun x:SC=>x.v) ∘ fun v=>(⟨v,.no⟩:SC))=id from rfl,List.map_id];exact hc) (fun j x u hx _=>by
    rw[yk]at hx;cases ku:cs[j]? with
    |none=>rw[ku]at hx;cases hx
    |some v=>rw[ku]at hx;injection hx with hx;subst hx;trivial)
   simpa [Value.cells]using this
  ·cases hr
 ·rename_i hv;split at hr
  ·rename_i nv;injection hr with hr;subst hr;simp only[aD.eff,ka]at he;injection he with he;subst he;refine⟨_,_,oa,?_⟩;rw[ka];refine key _ ?_;obtain⟨h1,h2⟩:=CZ hX.1 nv;have hc:(a.eval X).cells=#[a.eval X]:=by
    generalize a.eval X=u at *
    cases u<;>first|rfl|(simp[Value.oneCell']at h2;done)
   rw[hc];refine⟨yl _,fun j y hy=>?_⟩;cases j with
   |zero =>
    simp only[Y0d]at hy;injection hy with hy;subst hy;exact⟨a.eval X,rfl,h2,h1,hX.2⟩
   |succ j=>simp at hy
  ·cases hr
theorem AX (zero:List Value)(av:Av){zs:List AV}(hz:cD ι av w zs zero)(c:Nat):cD ι av w (yX c zs).flatten (yX c zero).flatten:=by
 induction c with
 |zero=>simp[cD]
 |succ c ih=>rw[List.replicate_succ,List.replicate_succ,yA,yA];exact UJ hz ih
theorem PX (zero:Array Value)(c:Nat):((Array.range (c*zero.size)).map (zero[· % zero.size]!)).toList=(yX c zero.toList).flatten:=by
 apply List.ext_getElem?;intro j;have da:(yX c zero.toList).flatten.length=c*zero.size:=by simp
 rcases Nat.lt_or_ge j (c*zero.size)with h|h
 ·have gc:0<zero.size:=by
   rcases yZ zero.size with h0|h0
   ·rw[h0]at h;simp at h
   ·exact h0
  have hm:=Nat.mod_lt j gc;have e1:((Array.range (c*zero.size)).map (zero[· % zero.size]!)).toList[j]?=some zero[j%zero.size]:=by
   simp[h,hm]
  rw[e1];clear e1 da
  induction c generalizing j with
  |zero=>simp at h
  |succ c ih =>
   rw[List.replicate_succ,yA];rcases Nat.lt_or_ge j zero.size with h1|h1
   ·rw[yT (by simpa using h1)];have:j%zero.size=j:=Nat.mod_eq_of_lt h1;simp[this,h1]
   ·rw [yP (by simpa using h1)];have h2:j - zero.size<c * zero.size:=by rw [yN] at h; omega
    have h3:(j-zero.size)%zero.size=j%zero.size:=by
     conv=>rhs;rw[show j=(j-zero.size)+zero.size from by omega,Nat.add_mod_right]
    have:=ih (j-zero.size) h2 (Nat.mod_lt _ gc);simp only[Y02]at this ⊢;rw[<- this];simp[h3]
 ·rw[Y08 (by simpa using h),Y08 (by omega)]
theorem op_mks (R:DE P O nt B F0 aa w0 D s a w ι Θ){t e:TypeId}{i:TypeInfo}{zero:List AV}(ht:P.underlying t=some (.slice e))(hi:P.info? e=some i)(hz:JL P e=some zero)(zc:zero.length=i.size){X Y:Operand}{x y:EE}(hx:pA X=some x)(hy:pA Y=some y)(ho:o.op=.makeSlice t X Y){d:Nat}(ka:o.dst=some d)(hd:d<nt)(hD:¬D d)
  {call} {xe:SC×uG} (hr:(K.PC i.size i.bytes zero x y).run call s=some xe) {g} {s':LC} (he:aD.eff ⟨o.dst,.PC i.size i.bytes zero x y,g⟩ s xe=some s') :
  ∃v w',(execOp a.eval o).run P w=.ok (.value v) w'/\SG P O nt B F0 aa w0 (fun t=>D t\/t=d) s' (a.put o.dst v) w':=by
 obtain⟨z,i',ee,sr,om,hl⟩:=NJ hz w;rw[hi]at ee;injection ee with ee;subst ee;have hX:=(R.pA hx).1;have hY:=(R.pA hy).1;simp only[K.run]at hr;split at hr
 ·rename_i l c hln hcn;obtain ⟨k1,n1,h1,py,h11⟩:=LN hln;obtain ⟨k2,n2,h2,h20,h21⟩:=LN hcn;rw [h1,OD] at hX;rw [h2,OD] at hY;split at hr
  ·rename_i ia;obtain⟨xx,kh,cf,_⟩:=ia;injection hr with hr;subst hr;simp only[aD.eff,ka]at he;injection he with he;subst he;have fk:z.cells.size=i.size:=by
    have:=OJ hl;simp only[Y02]at this;omega
   have hc2:n2=(c:Int):=by omega
   have uq:(i.bytes:Int)*n2<=281474976710656:=by
    rw[hc2,<- Int.natCast_mul,Nat.mul_comm];omega
   have bm:madeCells z.cells (c*i.size)=(yX c z.cells.toList).flatten.toArray:=by
    have h:=PX z.cells c;rw[fk]at h;unfold madeCells;rw[<- fk]at h;rw[<- fk];have h':=congrArg List.toArray h;rw[Y07]at h';exact h'
   have oa:(execOp a.eval o).run P w=.ok (.value (.slice (some ⟨w.heap.size,0,none⟩) l c)) (w.alloc (.cells (yX c z.cells.toList).flatten.toArray e)):=by
    have:=run_make (P:=P) w t e i z ht hi sr k1 k2 n1 n2 py (by omega) uq (by omega);rw[h11,h21,bm]at this;simp[execOp,ho,hX,hY,this]
   refine⟨_,_,oa,?_⟩;rw[ka];have ja:zG ι Θ (BE aa ι Θ) w ((yX c zero).flatten.map fun v=>(⟨v,.no⟩:SC)) (yX c z.cells.toList).flatten.toArray:=zG.of (by
    rw[y9,show((fun x:SC=>x.v) ∘ fun v=>(⟨v,.no⟩:SC))=id from rfl,List.map_id];exact AX _ _ (BL hl _ _) c) (fun j x u hx _=>by
    rw[yk]at hx;cases ku:(yX c zero).flatten[j]? with
    |none=>rw[ku]at hx;cases hx
    |some v=>rw[ku]at hx;injection hx with hx;subst hx;trivial)
   exact let⟨ι',h⟩:=R.new hd hD e ja (x:=.ref d s.next i.size 0 l c) (v:=.slice (some ⟨w.heap.size,0,none⟩) l c) (fun ι' h hz=>⟨_,h,xx,c,yl _,by rw[hz,yy];simp[List.length_flatten,fk],rfl⟩);⟨ι',Θ,h⟩
  ·cases hr
 ·cases hr
end
end
section
open Go Go.RowKit
section
variable {P:Program} {O:XH} {nt B:Nat} {F0:pR} {aa:Av} {w0:World} {D:Nat->Prop} {s:LC} {a:Act} {w w':World} {ι:Ix} {Θ:kM} {o:Oper}
theorem DE.alloc (R:DE P O nt B F0 aa w0 D s a w ι Θ)(ob:Obj):DE P O nt B F0 aa w0 D s a (w.alloc ob) ι Θ :=
 R.grow (fun b hb=>Below.heap_alloc w _ b hb) (by simp) (R.kept.alloc _)
theorem IJ {av:Av}:∀{xs:List AV}{us:List Value},cD ι av w xs us->(∀x∈xs,x.tA=true)->eE av w xs us
 | [],_,h,_=>by simpa [eE,cD]using h
 |x::r,_,h,hf=>by
  simp only[cD]at h;obtain⟨u,gb,rfl,h0,h1,h⟩:=h;refine⟨u,gb,rfl,?_,h1,IJ h fun y hy=>hf y (yp _ hy)⟩;have hx:=hf x (yo);cases x<;>first|exact h0|(simp[AV.tA]at hx;done)
theorem DW (sz:Nat):∀(ps:List (Nat×EE))(k:Nat)(A Z:List AV),ps.map (·.1)=List.range' k ps.length->A.length=k*sz->Z.length=ps.length*sz->(∀p∈ps,(p.2.get s).cells.length=sz) →
  nV (A++Z) (ps.map fun p=>(p.1*sz,sz,(p.2.get s).cells))=some (A++(ps.map fun p=>(p.2.get s).cells).flatten)
 | [],k,A,Z,_,_,hz,_=>by
  have:Z=[]:=Y04 (by simpa using hz);subst this;simp[nV]
 |(i,y)::ps,k,A,Z,hp,hA,hZ,hl=>by
  simp only[ym,yG,List.range'_succ]at hp;injection hp with h1 h2;subst h1;have hy:(y.get s).cells.length=sz:=hl (_,y) (yo);simp only[yG]at hZ;have hZ2:sz<=Z.length:=by rw[hZ,yN];omega
  simp only[ym,nV];rw[if_pos ⟨hy,by simp[hA];omega⟩];have e1:(A++Z).take (i*sz)=A:=by rw[<- hA];exact List.take_left
  have e2:(A++Z).drop (i*sz+sz)=Z.drop sz:=by rw[List.drop_append,<- hA,yw (by omega),Y00];congr 1;omega
  rw[e1,e2];have:=DW sz ps (i+1) (A++(y.get s).cells) (Z.drop sz) h2 (by rw[yj,hA,hy,yN]) (by rw[yJ,hZ,yN];omega) (fun p hp=>hl p (yp _ hp));rw[this];simp
theorem PU (sz:Nat):∀(ps:List (Nat×EE)),TS (fun i=>some (i*sz,sz)) ps=some (ps.map fun p=>(p.1*sz,sz,p.2))
 | []=>rfl
 |(i,x)::r=>by simp[TS,PU sz r]
theorem op_bsl (R:DE P O nt B F0 aa w0 D s a w ι Θ){t e:TypeId}{n z:Nat}{zero:List AV}(ht:P.underlying t=some (.slice e))(hz:JL P e=some zero)(hs:CE P e=some z)(zc:zero.length=z)(gc:0<z)(hmax:n*z<=16777216){ps:Array (Nat×Operand)}{ys:List (Nat×EE)}(hy:aA ps.toList=some ys)(ho:o.op=.buildSlice t n ps)
  {call} {x:SC} {ef:uG} (hr:(K.IA zero n ys).run call s=some (x,ef)):ef=.none/\∃v w',(execOp a.eval o).run P w=.ok (.value v) w'/\DE P O nt B F0 aa w0 D s a w' ι Θ/\WD ι (BE aa ι Θ) (uF ι Θ) w' x.v v/\QM Θ x.a v:=by
 obtain⟨zv,i',ee,sr,om,hl⟩:=NJ hz w;have hisz:i'.size=z:=by simp[CE,ee]at hs;exact hs
 have fk:zv.cells.size=z:=by
  have:=OJ hl;simp only[Y02]at this;omega
 simp only[K.run]at hr;split at hr
 ·rename_i ia;obtain⟨ti,nb⟩:=ia;injection hr with hr;injection hr with e1 e2;subst e1;subst e2;have bd:∀p∈ys,(p.2.get s).free=true/\(p.2.get s).cells.length=zero.length:=fun p hp=>by
   have:=ye.1 nb p hp;simpa using this
  have hn:ys.length=n:=by
   have:=congrArg List.length ti;simpa using this
  have wl:=DW (s:=s) z ys 0 [] (yX n zero).flatten (by rw[ti,List.range_eq_range',hn]) (by simp) (by simp[hn,zc]) (fun p hp=>by rw[(bd p hp).2,zc]);rw[Y00,Y00]at wl;have hwhole:∀p∈ys,(p.2.get s).whole=true:=fun p hp=>by
   have:=(bd p hp).1;generalize p.2.get s=v at this;cases v<;>first|rfl|(simp[AV.free,AV.tA]at this;done)
  have hp:=PU z ys;have bm:((Array.range (n*z)).map (((if n*z=0 then(#[]:Array Value)else zv.cells)[· % (if n*z=0 then(#[]:Array Value)else zv.cells).size]!))).toList=(yX n zv.cells.toList).flatten:=by
   rcases yZ n with h0|h0
   ·subst h0;simp
   ·have:¬ n * z=0:=by have:=Nat.mul_pos h0 gc; omega
    simp only[if_neg this];rw[<- fk];exact PX zv.cells n
  obtain⟨gb,h1,h2⟩:=mV (pl:=fun i=>some (i*z,z)) (ι:=ι) (av:=BE aa ι Θ) (avb:=uF ι Θ) (w:=w) (s:=s) (a:=a) rfl (fun X y h=>(R.pA h).1) hy hp (fun p hp=>by
   obtain⟨q,hq,rfl⟩:=yD.1 hp;exact hwhole q hq) (by rw[y9];exact wl) (us:=(Array.range (n*z)).map (((if n*z=0 then(#[]:Array Value)else zv.cells)[· % (if n*z=0 then(#[]:Array Value)else zv.cells).size]!))) (by
    rw[bm];exact AX _ _ (BL hl _ _) n)
  have oa:(execOp a.eval o).run P w=.ok (.value (.slice (some ⟨w.heap.size,0,none⟩) n n)) (w.alloc (.cells gb e)):=by
   have h3:Instr.fill (fun i=>some (i*z,z)) ((Array.range (n*z)).map (((if n*z=0 then(#[]:Array Value)else zv.cells)[· % (if n*z=0 then(#[]:Array Value)else zv.cells).size]!))) (ps.map fun(i,x)=>(i,a.eval x)).toList=some gb:=by
    rw[Array.toList_map];exact h1
   have bc:¬(n*z > 2 ^ 24):=by omega
   by_cases h0:n*z=0
   ·simp only[if_pos h0]at h3;simp only[execOp,ho,Instr.buildSlice,Sem.run_bind,run_underlying ht,Result.andThen_ok,mF hs,if_neg bc,if_pos h0,Sem.run_pure,h3,newRow,run_newObj_alloc]
   ·simp only[if_neg h0]at h3;simp only[execOp,ho,Instr.buildSlice,Sem.run_bind,run_underlying ht,Result.andThen_ok,mF hs,if_neg bc,if_neg h0,Sem.run_pure,om,h3,newRow,run_newObj_alloc]
  refine⟨rfl,_,_,oa,R.alloc _,?_,⟨_,_,rfl⟩⟩;have R':=R.alloc (.cells gb e);have hA:QD (BE aa ι Θ) (BE aa ι Θ) w (w.alloc (.cells gb e)):=QD.grown (fun b hb=>Below.heap_alloc w _ b hb) fun _ _ _ h=>h
  rw[FG];simp only[ZG];have da:(ys.map fun p=>(p.2.get s).cells).length=n:=by simp[hn]
  refine⟨_,n,by rw[da],by rw[da];exact yl _,fun x hx y hy=>?_,(fun h=>by cases h),fun _=>⟨fun h=>(by cases h),fun _=>⟨w.heap.size,0,rfl,?_⟩⟩⟩
  ·obtain⟨p,hp,rfl⟩:=yD.1 hx;obtain⟨q,hq,rfl⟩:=yD.1 hy;rw[(bd p hp).2,(bd q hq).2]
  ·rw[XG];have jf:∀x∈(ys.map fun p=>(p.2.get s).cells).flatten,x.tA=true:=fun x hx=>by
    obtain⟨l,hl,hx⟩:=List.mem_flatten.1 hx;obtain⟨p,hp,rfl⟩:=yD.1 hl;have:=(bd p hp).1;generalize p.2.get s=v at this hx;cases v<;>first|(simp[AV.cells]at hx;subst hx;exact this)|exact ye.1 this x hx
   refine EM (eE.held hA _ _ (IJ h2 jf)) fun j u hu=>⟨?_,fun h=>?_⟩
   ·rw[yy,cell_of_row _ w.heap.size j gb e (0,0) (qX rfl)];simpa using hu
   ·have:=R.low h;omega
 ·cases hr
theorem set_run {t:TypeId}{z:Nat}(hz:CE P t=some z){b off:Nat}{cur:Array Value}{ty:TypeId}(hb:w.heap[b]?=some (.cells cur ty (0,0))){v:Value}(hv:v.cells.size=z)(bc:off+z<=cur.size)(h1:∀u∈v.cells.toList,u.oneCell'=true):
  (Instr.storeAt t (.pointer (some ⟨b,off,none⟩)) v).run P w=.ok () (w.setRow b (cur.toList.take off++v.cells.toList++cur.toList.drop (off+z)).toArray):=by
 have sb:=run_storeCells_at P b off ty v.cells.toList 0 cur w hb (by simp[hv];omega) h1;simp only[yV,Y02,hv]at sb;simp[Instr.storeAt,Instr.sureAddr,storeVar,mF hz,hv,sb]
theorem DE.set (R:DE P O nt B F0 aa w0 D s a w ι Θ){t n b:Nat}{cur:Array Value}{ty:TypeId}(hb:ι t n=some b)(gd:ι.ob t n=none)(ra:w.heap[b]?=some (.cells cur ty (0,0))){r:List SC}{new:Array Value}(ja:zG ι Θ (BE aa ι Θ) w r new)(sk:B<=b\/F0.r b)(hnz:new.size=ι.z b):
  DE P O nt B F0 aa w0 D (s.setRow t n r) a (w.setRow b new) ι Θ:=by
 have ua:∀b',b'≠b->(w.setRow b new).heap[b']?=w.heap[b']?:=fun b' h=>setRow_other w b b' new h
 have de:(w.setRow b new).heap[b]?=some (.cells new ty (0,0)):=setRow_heap w b cur new ty (0,0) ra;have hB:QD (uF ι Θ) (uF ι Θ) w (w.setRow b new):=⟨fun b' o u hc hn=>by
  have:b'≠b:=fun e=>hn (.inl (.inl ⟨t,n,e▸hb⟩))
  exact⟨(World.cell?_of_block (w:=w) (a:=⟨b',o,none⟩) (ua b' this)).trans hc,hn⟩⟩
 have hA:QD (BE aa ι Θ) (BE aa ι Θ) w (w.setRow b new):=⟨fun b' o u hc hn=>by
  have:b'≠b:=fun e=>hn (.inr (.inl (.inl ⟨t,n,e▸hb⟩)))
  exact⟨(World.cell?_of_block (w:=w) (a:=⟨b',o,none⟩) (ua b' this)).trans hc,hn⟩⟩
 have wv:=R.mine t n b hb;refine⟨R.defers,R.size,fun t=>WD.held (Ix.Le.refl _) hA hB _ _ (R.env t),R.aC,fun t' n' r' hr=>?_,fun t n b h=>?_,R.inj,fun k o h=>?_,R.ZA,R.apart,R.out,R.pin,?_,R.base,fun t' n' S h=>?_,fun t n H h=>(R.obs t n H h).grow (by simp),fun t=>WD.held (Ix.Le.refl _) hA hB _ _ (R.gen t),R.pB⟩
 ·simp only [LC.setRow] at hr;split at hr
  ·rename_i e;injection hr with hr;subst hr;exact⟨by rw[e.1,e.2];exact gd,b,new,ty,by rw[e.1,e.2];exact hb,de,ja.held (Ix.Le.refl _) hA (fun _ _ h=>h),sk,hnz⟩
  ·rename_i e;obtain ⟨h0,b',sa,dj,h1,h2,h3,h4⟩:=R.rows t' n' r' hr;have:b'≠b:=fun e'=>e (R.inj _ _ _ _ _ (e' ▸ h1) hb)
   exact⟨h0,b',sa,dj,h1,(ua b' this).trans h2,h3.held (Ix.Le.refl _) hA (fun _ _ h=>h),h4⟩
 ·obtain⟨h1,h2,h3⟩:=R.mine t n b h;exact⟨h1,by simpa using h2,h3⟩
 ·obtain ⟨h1,h2,h3,h4,sa,h5,h6⟩:=R.tok k o h;have:o.g≠b:=fun e=>R.apart k o t n h (e ▸ hb)
  exact⟨h1,h2,h3,h4,sa,(ua _ this).trans h5,h6⟩
 ·refine R.kept.setRow (fun ba=>?_) _;rcases wv.1 with h | h
  ·have:=R.base.1;omega
  ·exact h
 ·obtain⟨p,H,h1,h2,h3,h4⟩:=R.qB t' n' S h;have ot:∀b',H b'->b'≠b:=fun b' hH e=>by
   subst e;have:=((R.obs _ _ _ h2).1 _ hH).2.2.1 t n hb;rw[this.1,this.2,h2]at gd;cases gd
  exact⟨p,H,h1,h2,O.keep h3 (fun b' hH=>ua b' (ot b' hH)) (by simp),h4.keep (fun t n b H h g=>⟨h,H,g⟩) fun x hx=>(ua p (ot p (O.main h3))).trans hx⟩
theorem zG.splice {av:Av}{r:List SC}{cur:Array Value}(h:zG ι Θ av w r cur){off z:Nat}{m:List SC}{us:Array Value}(hm:zG ι Θ av w m us)(ne:us.size=m.length)(hz:m.length=z)(bc:off+z<=r.length):zG ι Θ av w (r.take off++m++r.drop (off+z)) (cur.toList.take off++us.toList++cur.toList.drop (off+z)).toArray:=by
 obtain⟨h1,h2⟩:=h;obtain⟨m1,m2⟩:=hm;have hl:r.length<=cur.toList.length:=by simpa using h1
 refine⟨by simp only[yj,yz,yJ,yY,Y02,ne]at *;omega,fun j x hx=>?_⟩;have ht:(r.take off).length=off:=by rw[yz];omega
 have ht':(cur.toList.take off).length=off:=by rw[yz];omega
 simp only[List.getElem?_toArray];rcases Nat.lt_or_ge j off with hj|hj
 ·rw[yx,yT (by omega),yK]at hx;rw[yx,yT (by omega),yK];rw[if_pos hj]at hx ⊢;obtain⟨u,hu,h⟩:=h2 j x hx;exact⟨u,by simpa using hu,h⟩
 ·rcases Nat.lt_or_ge j (off + z) with hj2 | hj2
  ·rw[yx,yP (by omega),yT (by omega),ht]at hx;rw[yx,yP (by omega),yT (by simp[ne];omega),ht'];obtain⟨u,hu,h⟩:=m2 _ x hx;exact⟨u,by simpa using hu,h⟩
  ·rw [yx,yP (by omega),yP (by omega),ht,yI] at hx;rw [yx,yP (by omega),yP (by simp [ne]; omega),ht',yI];obtain ⟨u,hu,h⟩:=h2 _ x hx;refine ⟨u,?_,h⟩;have:us.toList.length=m.length:=by simpa using ne
   rw[this];simpa using hu
theorem Lx (R:DE P O nt B F0 aa w0 D s a w ι Θ){t:TypeId}{agg:Bool}{z:Nat}(hz:CE P t=some z)(hag:agg=true\/z=1){X Y:Operand}{x y:EE}(hx:pA X=some x)(hy:pA Y=some y)(ho:o.op=.store t X Y)(hd:∀d,o.dst=some d->d<nt){cl:Cl} {call} {xe:SC×uG} (hr:(K.store cl agg z x y).run call s=some xe) {g} {s':LC} (he:aD.eff ⟨o.dst,.store cl agg z x y,g⟩ s xe=some s') :
  ∃w',(execOp a.eval o).run P w=.ok .skip w'/\SG P O nt B F0 aa w0 D s' (a.put o.dst undef) w':=by
 have hX:=(R.pA hx).1;have hY:=R.pA hy;simp only[K.run]at hr;split at hr
 ·rename_i t' n off ue;rw [ue,BI] at hX;obtain ⟨b,hb,hv⟩:=hX;split at hr
  ·cases hm:s.mem t' n with
   |none=>rw[hm]at hr;cases hr
   |some r =>
    rw[hm,J]at hr;cases hs:KC agg z off r (y.get s) (y.an s)with
    |none=>rw[hs]at hr;cases hr
    |some r' =>
     rw[hs]at hr;injection hr with hr;subst hr;simp only[aD.eff]at he;injection he with he;subst he;obtain⟨cj,b',cur,ty,db,ra,ja,sk,jo⟩:=R.rows t' n r hm;rw[hb]at db;injection db with db;subst db;have JJ:∀(m:List SC)(us:Array Value),r'=r.take off++m++r.drop (off+z)->m.length=z->off+z<=r.length->(a.eval Y).cells=us->us.size=m.length->zG ι Θ (BE aa ι Θ) w m us->∃w',(execOp a.eval o).run P w=.ok .skip w'/\SG P O nt B F0 aa w0 D ((s.setRow t' n r').put o.dst ⟨.undef,.no⟩) (a.put o.dst undef) w':=fun m us h1 h2 h3 h4 h4' h5=>by
      have zc:(a.eval Y).cells.size=z:=by rw[h4,h4',h2]
      have eo:∀u∈(a.eval Y).cells.toList,u.oneCell'=true:=fun u hu=>by
       rw[h4]at hu;obtain⟨j,hj,rfl⟩:=Y0k hu;have hjm:j<m.length:=by simp at hj;omega
       obtain⟨u',zt,h6,_⟩:=h5.2 j m[j] (yf hjm);have:us[j]?=some (us.toList[j]):=by simp at hj ⊢
       rw[this]at zt;injection zt with zt;rw[zt];exact h6
      have oa:=set_run (P:=P) hz ra zc (yH h3 ja.1) eo;refine⟨w.setRow b (cur.toList.take off++(a.eval Y).cells.toList++cur.toList.drop (off+z)).toArray,by simp only[execOp,ho,hv,Sem.run_bind,oa,Result.andThen_ok,Sem.run_pure],ι,Θ,DE.cB ?_ hd trivial trivial⟩;rw[h4];subst h1;exact R.set hb cj ra (ja.splice h5 h4' h2 h3) sk (by
       rw[<- jo];have h6:=ja.1;simp only[yY,yj,yz,yJ,Y02];omega)
     cases agg with
     |true =>
      simp only[KC,if_true]at hs;split at hs
      ·rename_i cs xw;split at hs
       ·rename_i ia;injection hs with hs;rw[xw]at hY;obtain⟨us,hu,hc⟩:=hY.1;refine JJ (cs.map (⟨·,.no⟩)) us hs.symm (by simpa using ia.1) ia.2 (by rw[hu];rfl) (by have:=xF hc;simpa using this) ?_;have:=zG.of (Θ:=Θ) (r:=cs.map fun v=>(⟨v,.no⟩:SC)) (cur:=us.toList) (ι:=ι) (w:=w) (av:=BE aa ι Θ) (by rw[y9,show((fun x:SC=>x.v) ∘ fun v=>(⟨v,.no⟩:SC))=id from rfl,List.map_id];exact hc) (fun j x u hx _=>by
         rw[yk]at hx;cases ku:cs[j]? with
         |none=>rw[ku]at hx;cases hx
         |some v=>rw[ku]at hx;injection hx with hx;subst hx;trivial)
        simpa using this
       ·cases hs
      ·cases hs
     |false =>
      have ze:z=1:=by rcases hag with h|h;cases h;exact h
      subst ze;simp only[KC,yM,if_false]at hs;split at hs
      ·rename_i ia;injection hs with hs;obtain⟨h1,h2⟩:=CZ hY.1 ia.1;have hc:(a.eval Y).cells=#[a.eval Y]:=by
        generalize a.eval Y=u at *
        cases u<;>first|rfl|(simp[Value.oneCell']at h2;done)
       refine JJ [⟨y.get s,y.an s⟩] #[a.eval Y] ?_ rfl (by have:=ia.2;omega) hc rfl ⟨yl _,fun j x hx=>?_⟩
       ·rw[<- hs,List.set_eq_take_append_cons_drop,if_pos ia.2];simp
       ·cases j with
        |zero=>simp at hx;subst hx;exact⟨a.eval Y,rfl,h2,h1,hY.2⟩
        |succ j=>simp at hx
      ·cases hs
  ·cases hr
 ·cases hr
theorem H3 {av:Av}:∀{xs:List AV}{us:List Value},cD ι av w xs us->∀u∈us,u.oneCell'=true
 | [],us,h,u,hu=>by simp only[cD]at h;subst h;cases hu
 |x::r,us,h,u,hu=>by
  simp only[cD]at h;obtain⟨u',gb,rfl,_,h1,h⟩:=h;rcases yt.1 hu with rfl|hu
  ·exact h1
  ·exact H3 h u hu
end
end
section
section
variable {call:sE} {s s':LC}
def tZ (s s':LC)(l:List EE):Prop:=∀o∈l,o.get s=o.get s'/\o.an s=o.an s'
def K.reads (k:K)(t:Nat):Prop:=match k.cl with
 |none=>False
 |some .KB=>False
 |some (.root r)=>t=r
 |some (.out L)=>L.contains t=false
 |some .any=>True
theorem s8 {cl:Cl}(hm:cl.gA=true->∀t n,s.mem t n=s'.mem t n)(v:AV):zS s cl v=zS s' cl v:=by
 cases v<;>simp only[zS]
 split
 ·rename_i wa;rw[hm wa]
 ·rfl
theorem GQ {cl:Cl}(hm:cl.gA=true->∀t n,s.mem t n=s'.mem t n):∀(l:List AV),gG s cl l=gG s' cl l
 | []=>rfl
 |x::r=>by simp only[gG,s8 hm x,GQ hm r]
section
variable {cl:Cl} (hm:cl.gA=true->∀ t n,s.mem t n=s'.mem t n) (uc:s.obj=s'.obj) (v:AV)
include cl hm uc v
theorem xU:GV s cl v=GV s' cl v:=by
 unfold GV;split
 ·split
  ·rename_i wa;rw[hm wa]
  ·rfl
 ·rfl
 ·rfl
 ·rw[uc]
 ·rfl
theorem i8:tI s cl v=tI s' cl v:=by
 have:=xU hm uc v;cases v<;>simp only[tI,GQ hm]<;>exact this
end
theorem gK {cl:Cl}(hm:cl.gA=true->∀t n,s.mem t n=s'.mem t n)(uc:s.obj=s'.obj):∀{xs:List EE},tZ s s' xs->DH s cl xs=DH s' cl xs
 | [],_=>rfl
 |x::r,h=>by
  have h1:=h x (yo);have h2:=gK hm uc (xs:=r) fun o ho=>h o (yp _ ho)
  unfold DH;rw[h2,h1.1];rw[i8 hm uc]
theorem HV {cl:Cl}{t n:Nat}(hm:cl.gA=true->∀t n,s.mem t n=s'.mem t n)(uc:s.obj=s'.obj):∀{xs:List EE},tZ s s' xs->uM s cl t n xs=uM s' cl t n xs
 | [],_=>rfl
 |x::r,h=>by
  have h1:=h x (yo);have h2:=HV (t:=t) (n:=n) hm uc (xs:=r) fun o ho=>h o (yp _ ho)
  unfold uM;rw[h2,h1.1];have:gY s cl t n (x.get s')=gY s' cl t n (x.get s'):=by
   unfold gY;split
   ·rfl
   ·rw[xU hm uc]
   ·rfl
   ·rw[xU hm uc]
  rw[this]
theorem UN {xs:List EE}(h:tZ s s' xs):rK s xs=rK s' xs:=by
 induction xs with
 |nil=>rfl
 |cons x r ih =>
  have h1:=h x (yo);unfold rK at ih ⊢;rw[List.filterMap_cons,List.filterMap_cons,h1.1,ih fun o ho=>h o (yp _ ho)]
theorem DM {cl:Cl}(hm:cl.gA=true->∀t n,s.mem t n=s'.mem t n)(v:AV):v.elems s cl=v.elems s' cl:=by
 cases v<;>simp only[AV.elems]
 split
 ·rename_i wa;rw[hm wa]
 ·rfl
theorem Uw {cl:Cl}(hm:cl.gA=true->∀t n,s.mem t n=s'.mem t n)(v:AV):v.QB s cl=v.QB s' cl:=by
 cases v<;>simp only[AV.QB]
 case ref t n sz off len c =>
  split
  ·rename_i h;rw[hm h t n]
  ·rfl
theorem DQ {d:Nat}{o:Option EE}(h:tZ s s' o.toList):kL s d o=kL s' d o:=by
 cases o with
 |none=>rfl
 |some o=>simp only[kL];rw[(h o (by simp)).1]
theorem Aa {s s':LC}(hm:∀t n,s.mem t n=s'.mem t n)(v:AV):v.FA s=v.FA s':=by
 have e:s.mem=s'.mem:=funext fun t=>funext fun n=>hm t n
 have h1:∀v:AV,v.xA s=v.xA s':=fun v=>by cases v<;>simp only[AV.xA,e]
 have kq:AV.xA s=AV.xA s':=funext h1;have h0:∀v:AV,v.lA s=v.lA s':=fun v=>by cases v<;>simp only[AV.lA,fT,e,kq]
 have xg:AV.lA s=AV.lA s':=funext h0;cases v<;>simp only[AV.FA,h0,xg]
theorem gT (k:K)(h:tZ s s' k.aA)(hm:∀t n,k.reads t->s.mem t n=s'.mem t n)(uc:RW k=true->s.obj=s'.obj):k.run call s=k.run call s':=by
 cases k with
 |mv x=>have h1:=h x (by simp[K.aA]);simp only[K.run,h1.1,h1.2]
 |pick c a b =>
  have h1:=h c (by simp[K.aA]);have h2:=h a (by simp[K.aA]);have h3:=h b (by simp[K.aA]);simp only[K.run,h1.1,h2.1,h2.2,h3.1,h3.2]
 |alloc z=>rfl
 |box z x=>have h1:=h x (by simp[K.aA]);simp only[K.run,h1.1,h1.2]
 |build z ps =>
  have h1:∀p∈ps,p.2.2.get s=p.2.2.get s':=fun p hp=>(h p.2.2 (yD.2 ⟨p,hp,rfl⟩)).1
  have e1:ps.all (fun p=>(p.2.2.get s).whole)=ps.all (fun p=>(p.2.2.get s').whole):=by
   rw[Bool.eq_iff_iff,ye,ye];exact⟨fun h p hp=>by rw[<- h1 p hp];exact h p hp,fun h p hp=>by rw[h1 p hp];exact h p hp⟩
  have e2:(ps.map fun p=>(p.1,p.2.1,(p.2.2.get s).cells))=ps.map fun p=>(p.1,p.2.1,(p.2.2.get s').cells):=yE fun p hp=>by rw[h1 p hp]
  simp only[K.run,e1,e2]
 |IA z n ps =>
  have h1:∀p∈ps,p.2.get s=p.2.get s':=fun p hp=>(h p.2 (yD.2 ⟨p,hp,rfl⟩)).1
  have e1:ps.all (fun p=>(p.2.get s).free&&decide ((p.2.get s).cells.length=z.length))=ps.all (fun p=>(p.2.get s').free&&decide ((p.2.get s').cells.length=z.length)):=by
   rw[Bool.eq_iff_iff,ye,ye];exact⟨fun h p hp=>by rw[<- h1 p hp];exact h p hp,fun h p hp=>by rw[h1 p hp];exact h p hp⟩
  have e2:(ps.map fun p=>(p.2.get s).cells)=ps.map fun p=>(p.2.get s').cells:=yE fun p hp=>by rw[h1 p hp]
  simp only[K.run,e1,e2]
 |load cl g z x =>
  have h1:=h x (by simp[K.aA]);simp only[K.run,h1.1];split
  ·rename_i t n off _;split
   ·rename_i wa;rw [hm t n];cases cl with
    |any=>trivial
    |KB=>simp[Cl.TA]at wa
    |root r=>simp[Cl.TA]at wa;exact wa.symm
    |out L=>show L.contains t=false;simpa [Cl.TA]using wa
   ·rfl
  ·rfl
  ·rfl
  ·rfl
 |clr cl z x=>rfl
 |store cl g z x y =>
  have h1:=h x (by simp[K.aA]);have h2:=h y (by simp[K.aA]);simp only[K.run,h1.1,h2.1,h2.2];split
  ·rename_i t n off _;split
   ·rename_i wa;rw [hm t n];cases cl with
    |any=>trivial
    |KB=>simp[Cl.TA]at wa
    |root r=>simp[Cl.TA]at wa;exact wa.symm
    |out L=>show L.contains t=false;simpa [Cl.TA]using wa
   ·rfl
  ·rfl
 |mm b x y=>have h1:=h x (by simp[K.aA]);have h2:=h y (by simp[K.aA]);simp only[K.run,h1.1,h2.1]
 |bin op b x y=>have h1:=h x (by simp[K.aA]);have h2:=h y (by simp[K.aA]);simp only[K.run,h1.1,h2.1]
 |QC n ks x y=>have h1:=h x (by simp[K.aA]);have h2:=h y (by simp[K.aA]);simp only[K.run,h1.1,h2.1]
 |jC n p x y=>have h1:=h x (by simp[K.aA]);have h2:=h y (by simp[K.aA]);simp only[K.run,h1.1,h2.1]
 |un op x=>have h1:=h x (by simp[K.aA]);simp only[K.run,h1.1]
 |conv o x=>have h1:=h x (by simp[K.aA]);simp only[K.run,h1.1]
 |GB x=>have h1:=h x (by simp[K.aA]);simp only[K.run,h1.1]
 |eC cl x =>
  have h1:=h x (by simp[K.aA]);have h3:=DM (cl:=cl) (s:=s) (s':=s') (fun wa t n=>hm t n (by cases cl<;>simp[Cl.gA]at wa;trivial)) (x.get s');simp only[K.run,h1.1,h3]
 |tC cl l z x lo hi =>
  have h1:=h x (by simp[K.aA]);have h2:∀d,kL s d lo=kL s' d lo:=fun d=>DQ fun o ho=>h o (by simp only[K.aA,yt,yu];exact .inr (.inl ho))
  have h3:∀d,kL s d hi=kL s' d hi:=fun d=>DQ fun o ho=>h o (by simp only[K.aA,yt,yu];exact .inr (.inr ho))
  simp only[K.run,h1.1,h2,h3];split
  ·rename_i t n o _;cases hc:cl.gA with
   |true=>rw[hm t n (by cases cl<;>simp[Cl.gA]at hc;trivial)]
   |false =>
    simp only[yM,and_false,if_false];cases kL s' 0 lo<;>try rfl
    cases kL s' l hi<;>try rfl
    cases s.mem t n<;>cases s'.mem t n<;>rfl
  ·rfl
 |zC f xs =>
  have h1:∀x∈xs,x.get s=x.get s':=fun x hx=>(h x hx).1
  have e1:xs.all (fun x=>(x.get s).mB)=xs.all (fun x=>(x.get s').mB):=by
   rw[Bool.eq_iff_iff,ye,ye];exact⟨fun h p hp=>by rw[<- h1 p hp];exact h p hp,fun h p hp=>by rw[h1 p hp];exact h p hp⟩
  have e2:xs.map (·.get s)=xs.map (·.get s'):=yE h1;simp only[K.run,e1,e2]
 |JA cl x xs =>
  have h0:=h x (by simp[K.aA]);have hx:tZ s s' xs:=fun o ho=>h o (by simp[K.aA,ho])
  have nz:cl.gA=true->∀t n,s.mem t n=s'.mem t n:=fun wa t n=>hm t n (by cases cl<;>simp[Cl.gA]at wa;trivial)
  have h1:=gK (cl:=cl) (s:=s) (s':=s') nz (uc rfl) (xs:=xs) hx;have h2:=UN (xs:=xs) hx;have h3:∀l,gG s cl l=gG s' cl l:=GQ nz;simp only[K.run,h0.1,h1,h2,h3]
 |uB cl f xs =>
  have nz:cl.gA=true->∀t n,s.mem t n=s'.mem t n:=fun wa t n=>hm t n (by cases cl<;>simp[Cl.gA]at wa;trivial)
  have h1:∀t n,uM s cl t n xs=uM s' cl t n xs:=fun t n=>HV nz (uc rfl) (xs:=xs) h
  have h2:WO s xs=WO s' xs:=by
   cases xs with
   |nil=>rfl
   |cons x r=>simp only[WO,(h x (by simp[K.aA])).1]
  simp only[K.run,h1,h2];split
  ·rename_i t n _;split
   ·rename_i wa;rw[hm t n (by cases cl with
     |any=>trivial
     |KB=>simp[Cl.TA]at wa
     |root r=>simp[Cl.TA]at wa;exact wa.symm
     |out L=>show L.contains t=false;simpa [Cl.TA]using wa)]
   ·rfl
  ·rfl
 |mA nt x xs=>rfl
 |XA x=>rfl
 |slz x=>rfl
 |ent x=>rfl
 |fC x=>rfl
 |PC z b zs x y=>have h1:=h x (by simp[K.aA]);have h2:=h y (by simp[K.aA]);simp only[K.run,h1.1,h2.1]
 |nC st z x lo hi mx =>
  have h1:=h x (by simp[K.aA]);have h2:∀d,kL s d lo=kL s' d lo:=fun d=>DQ fun o ho=>h o (by simp only[K.aA,yt,yu];exact .inr (.inl ho))
  have h3:∀d,kL s d hi=kL s' d hi:=fun d=>DQ fun o ho=>h o (by simp only[K.aA,yt,yu];exact .inr (.inr (.inl ho)))
  simp only[K.run,h1.1,h2,h3]
 |PA f x=>have h1:=h x (by simp[K.aA]);simp only[K.run,h1.1]
 |field g f z x=>have h1:=h x (by simp[K.aA]);simp only[K.run,h1.1]
 |PB l z x i=>have h1:=h x (by simp[K.aA]);have h2:=h i (by simp[K.aA]);simp only[K.run,h1.1,h2.1]
 |aB z x i=>have h1:=h x (by simp[K.aA]);have h2:=h i (by simp[K.aA]);simp only[K.run,h1.1,h2.1]
 |index x i=>have h1:=h x (by simp[K.aA]);have h2:=h i (by simp[K.aA]);simp only[K.run,h1.1,h2.1]
 |ext x i=>have h1:=h x (by simp[K.aA]);simp only[K.run,h1.1]
 |call cl f xs =>
  have h1:=gK (cl:=cl) (s:=s) (s':=s') (fun wa t n=>hm t n (by cases cl<;>simp[Cl.gA]at wa;trivial)) (uc rfl) (xs:=xs) h;have h2:=UN (xs:=xs) h;simp only[K.run,h1,h2,uc rfl]
 |sB cl f z xs=>rfl
 |LA cl f z xs =>
  have h1:=gK (cl:=cl) (s:=s) (s':=s') (fun wa t n=>hm t n (by cases cl<;>simp[Cl.gA]at wa;trivial)) (uc rfl) (xs:=xs) h;have h2:=UN (xs:=xs) h;simp only[K.run,h1,h2]
 |nA cl f z L x xs =>
  have hx:=h x yo;have oc:tZ s s' xs:=fun o ho=>h o (yp _ ho)
  have h1:=gK (cl:=cl) (s:=s) (s':=s') (fun wa t n=>hm t n (by cases cl<;>simp[Cl.gA]at wa;trivial)) (uc rfl) oc;have h2:=UN oc;have h3:=DM (cl:=cl) (s:=s) (s':=s') (fun wa t n=>hm t n (by cases cl<;>simp[Cl.gA]at wa;trivial));simp only[K.run,h1,h2,h3,hx.1,hx.2]
 |bA cl f xs =>
  by_cases wa:cl.gA=true
  ·have ic:∀ t n,s.mem t n=s'.mem t n:=fun t n=>hm t n (by cases cl <;> simp [Cl.gA] at wa; trivial)
   have e:(xs.map fun x=>(x.get s).FA s)=xs.map fun x=>(x.get s').FA s':=yE fun x hx=>by rw[(h x hx).1,Aa ic]
   simp only[K.run,e]
  ·simp[K.run,wa]
 |len st x=>have h1:=h x (by simp[K.aA]);simp only[K.run,h1.1]
 |app cl e z b x y =>
  have h1:=h x (by simp[K.aA]);have h2:=h y (by simp[K.aA]);have h3:=DM (cl:=cl) (s:=s) (s':=s') (fun wa t n=>hm t n (by cases cl<;>simp[Cl.gA]at wa;trivial)) (y.get s');simp only[K.run,h1.1,h1.2,h2.1,h3]
 |OC=>rfl
 |bad=>rfl
 |mkb T e=>rfl
 |LB ok ty z x k=>have h1:=h x (by simp[K.aA]);have h2:=h k (by simp[K.aA]);simp only[K.run,h1.1,h2.1,uc rfl]
 |HB ty x k v=>have h1:=h x (by simp[K.aA]);have h2:=h k (by simp[K.aA]);have h3:=h v (by simp[K.aA]);simp only[K.run,h1.1,h2.1,h3.1,uc rfl]
 |rC x=>rfl
 |dB cl e z b x y =>
  have h1:=h x (by simp[K.aA]);have h2:=h y (by simp[K.aA]);have h3:∀v:AV,v.elems s cl=v.elems s' cl:=fun v=>DM (cl:=cl) (s:=s) (s':=s') (fun wa t n=>hm t n (by cases cl<;>simp[Cl.gA]at wa;trivial)) v
  simp only[K.run,h1.1,h1.2,h2.1,h3]
 |RA cl e z b x y =>
  have h1:=h x (by simp[K.aA]);have h2:=h y (by simp[K.aA]);have h3:∀v:AV,v.elems s cl=v.elems s' cl:=fun v=>DM (cl:=cl) (s:=s) (s':=s') (fun wa t n=>hm t n (by cases cl<;>simp[Cl.gA]at wa;trivial)) v
  simp only[K.run,h1.1,h1.2,h2.1,h3]
 |jB cl e z b x y =>
  have h1:=h x (by simp[K.aA]);have h2:=h y (by simp[K.aA]);have h3:∀v:AV,v.QB s cl=v.QB s' cl:=fun v=>Uw (cl:=cl) (s:=s) (s':=s') (fun wa t n=>hm t n (by cases cl<;>simp[Cl.gA]at wa;trivial)) v
  simp only[K.run,h1.1,h1.2,h2.1,h3]
 |SB sz z n ps =>
  have h1:∀p∈ps,p.2.get s=p.2.get s':=fun p hp=>(h p.2 (yD.2 ⟨p,hp,rfl⟩)).1
  have e1:ps.all (fun p=>(p.2.get s).whole&&decide ((p.2.get s).cells.length=z.length))=ps.all (fun p=>(p.2.get s').whole&&decide ((p.2.get s').cells.length=z.length)):=by
   rw[Bool.eq_iff_iff,ye,ye];exact⟨fun h p hp=>by rw[<- h1 p hp];exact h p hp,fun h p hp=>by rw[h1 p hp];exact h p hp⟩
  have e2:(ps.map fun p=>(p.2.get s).cells)=ps.map fun p=>(p.2.get s').cells:=yE fun p hp=>by rw[h1 p hp]
  simp only[K.run,e1,e2]
 |WA x=>have h1:=h x (by simp[K.aA]);simp only[K.run,h1.1]
structure M6 (f:An->An):Prop where
 no:f .no=.no
 ex:f .ex=.ex
 own:∀k e,f (.own k e)≠.ex
def LC.eA (s:LC)(f:An->An):LC:=⟨fun t=>⟨(s.env t).v,f (s.env t).a⟩,fun t n=>(s.mem t n).map (·.map fun x=>⟨x.v,f x.a⟩),s.next,s.obj,fun t=>⟨(s.gh t).v,f (s.gh t).a⟩⟩
def SC.eA (f:An->An)(x:SC):SC:=⟨x.v,f x.a⟩
def uG.eA (f:An->An):uG->uG
 |.new r=>.new (r.map (SC.eA f))
 |.set t n r=>.set t n (r.map (SC.eA f))
 |.bB t n S r=>.bB t n S (r.map (SC.eA f))
 |e=>e
theorem nD (f:An->An)(o:EE):o.get (s.eA f)=o.get s:=by cases o<;>rfl
theorem Ie {f:An->An}(hf:M6 f)(b:Bool)(a:An):tE b (f a)=f (tE b a):=by
 cases b with
 |true=>exact hf.ex.symm
 |false=>rfl
theorem Oa {f:An->An}(hf:M6 f)(b:Bool)(a:An):LY b (f a)=LY b a:=by
 unfold LY;rw[Ie hf];cases h:tE b a with
 |no=>rw[hf.no]
 |ex=>rw[hf.ex]
 |own k e =>
  cases h2:f (.own k e)with
  |ex=>exact absurd h2 (hf.own k e)
  |no=>rfl
  |own k' e'=>rfl
theorem FP {f:An->An}(hf:M6 f)(o:EE):o.an (s.eA f)=f (o.an s):=by
 cases o with
 |t n=>rfl
 |c v=>cases v<;>first|exact hf.no.symm|(rename_i b l;cases b;exact hf.no.symm;exact hf.ex.symm)
theorem qR (f:An->An)(r:List SC)(sz off len:Nat):KG (r.map (SC.eA f)) sz off len=KG r sz off len:=by
 unfold KG;have h1:(r.map (SC.eA f)).all (fun x=>x.v.tA)=r.all (fun x=>x.v.tA):=by rw[List.all_map];rfl
 simp only[yc,h1];congr 1;congr 1;apply yE;intro i _;rw[<- Y01,<- yW,y9];rfl
theorem sS (f:An->An)(cl:Cl)(v:AV):v.elems (s.eA f) cl=v.elems s cl:=by
 cases v<;>simp only[AV.elems]
 rename_i t n sz off len cap;split
 ·simp only [LC.eA];cases s.mem t n with
  |none=>rfl
  |some r=>exact qR f r sz off len
 ·rfl
theorem d8 (f:An->An)(cl:Cl)(v:AV):zS (s.eA f) cl v=zS s cl v:=by
 cases v<;>simp only[zS]
 rename_i t n off;split
 ·simp only [LC.eA];cases s.mem t n with
  |none=>rfl
  |some r =>
   simp only[yB,<- Y01,List.all_map,y9];rfl
 ·rfl
theorem HQ (f:An->An)(cl:Cl):∀(l:List AV),gG (s.eA f) cl l=gG s cl l
 | []=>rfl
 |x::r=>by simp only[gG,d8 f cl x,HQ f cl r]
theorem cU (f:An->An)(cl:Cl)(v:AV):GV (s.eA f) cl v=GV s cl v:=by
 unfold GV;split
 ·rename_i t n sz off len cap;split
  ·simp only [LC.eA];cases s.mem t n with
   |none=>rfl
   |some r=>simp only[yB,J];rw[show(fun x:SC=>(⟨x.v,f x.a⟩:SC))=SC.eA f from rfl,qR]
  ·rfl
 ·rfl
 ·rfl
 ·rfl
 ·rfl
theorem o8 (f:An->An)(cl:Cl)(v:AV):tI (s.eA f) cl v=tI s cl v:=by
 have:=cU (s:=s) f cl v;cases v<;>simp only[tI,HQ]<;>exact this
theorem jK (f:An->An)(cl:Cl):∀(xs:List EE),DH (s.eA f) cl xs=DH s cl xs
 | []=>rfl
 |x::r=>by
  unfold DH;rw[jK f cl r,nD];rw[o8]
theorem JV (f:An->An)(cl:Cl)(t n:Nat):∀(xs:List EE),uM (s.eA f) cl t n xs=uM s cl t n xs
 | []=>rfl
 |x::r=>by
  unfold uM;rw[JV f cl t n r,nD];have:gY (s.eA f) cl t n (x.get s)=gY s cl t n (x.get s):=by
   unfold gY;split
   ·rfl
   ·rw[cU]
   ·rfl
   ·rw[cU]
  rw[this]
theorem J1 (f:An->An)(xs:List EE):WO (s.eA f) xs=WO s xs:=by
 cases xs with
 |nil=>rfl
 |cons x r=>simp only[WO,nD]
theorem T9 {f:An->An}(hf:M6 f)(v:AV):f (EJ v)=EJ v:=by
 unfold EJ;split
 ·exact hf.ex
 ·exact hf.no
theorem IN (f:An->An)(xs:List EE):rK (s.eA f) xs=rK s xs:=by
 unfold rK;simp only[nD]
theorem bZ (f:An->An)(d:Nat)(o:Option EE):kL (s.eA f) d o=kL s d o:=by
 cases o with
 |none=>rfl
 |some o=>simp only[kL,nD]
theorem Hs (f:An->An)(hf:M6 f)(g:Bool)(z off:Nat)(r:List SC):eD g z off (r.map (SC.eA f))=(eD g z off r).map (SC.eA f):=by
 unfold eD;cases g with
 |true =>
  simp only[if_true,yc];split
  ·simp only[yB,SC.eA,hf.no,<- Y01,<- yW,y9];rfl
  ·rfl
 |false=>simp
theorem r9 (f:An->An)(hf:M6 f)(g:Bool)(z off:Nat)(r:List SC)(v:AV)(a:An):KC g z off (r.map (SC.eA f)) v (f a)=(KC g z off r v a).map (·.map (SC.eA f)):=by
 unfold KC;cases g with
 |true =>
  simp only[if_true,yc];cases v<;>try rfl
  simp only;split
  ·simp only[yB,Y03,yW,Y01,y9];congr 3;apply yE;intro x _;simp[SC.eA,hf.no]
  ·rfl
 |false =>
  simp only[yM,if_false,yc];split
  ·simp[SC.eA,List.map_set]
  ·rfl
theorem Sa (f:An->An)(v:AV):v.FA (s.eA f)=v.FA s:=by
 have hm:∀t n,(s.eA f).mem t n=(s.mem t n).map (·.map (SC.eA f)):=fun _ _=>rfl
 have hr:∀(r:List SC) sz off len,PH (r.map (SC.eA f)) sz off len=PH r sz off len:=fun r sz off len=>by
  simp only[PH,yc];congr 2;exact yE fun i _=>by
   rw[<- Y01,<- yW,y9];rfl
 have h1:∀v:AV,v.xA (s.eA f)=v.xA s:=fun v=>by
  cases v<;>simp only[AV.xA,hm]
  rename_i t n sz off len cap;cases s.mem t n with
  |none=>rfl
  |some r=>simp only[yB,J,qR]
 have kq:AV.xA (s.eA f)=AV.xA s:=funext h1;have h0:∀v:AV,v.lA (s.eA f)=v.lA s:=fun v=>by
  cases v<;>simp only[AV.lA,hm]
  rename_i t n sz off len cap;cases s.mem t n with
  |none=>rfl
  |some r=>simp only[yB,J,qR,fT,hr,kq]
 have xg:AV.lA (s.eA f)=AV.lA s:=funext h0;cases v<;>simp only[AV.FA,h0,xg]
theorem Hd {f:An->An}(hf:M6 f)(k:K)(hk:Kf k=false):k.run call (s.eA f)=(k.run call s).map fun p=>(p.1.eA f,p.2.eA f):=by
  cases k with
  |mv x=>simp[K.run,nD,FP hf,SC.eA,uG.eA]
  |mA nt x xs=>rfl
  |XA x=>rfl
  |slz x=>rfl
  |ent x=>rfl
  |fC x=>rfl
  | pick c a b =>
    simp only[K.run,nD,FP hf];split
    · rename_i t _
      cases t<;>simp[SC.eA,uG.eA]
    · rfl
  | alloc z =>
    simp only[K.run,yB,SC.eA,uG.eA,hf.no,y9];congr 3;apply yE;intro v _;simp only[Function.comp,SC.eA,EJ];split<;>simp[hf.no,hf.ex]
  | box z x =>
    simp only[K.run,nD,FP hf];split
    · split
      · simp[SC.eA,uG.eA,hf.no,Function.comp_def]
      · rfl
    · split
      · simp[SC.eA,uG.eA,hf.no]
      · rfl
  | build z ps =>
    simp only[K.run,nD];split
    · rw [Option.map_map]
      congr 1;funext cs;simp[SC.eA,uG.eA,hf.no]
    · rfl
  | IA z n ps =>
    simp only[K.run,nD];split
    · simp[SC.eA,uG.eA,hf.ex]
    · rfl
  | load cl g z x =>
    simp only[K.run,nD];split
    · rename_i t n off _
      split
      · simp only [LC.eA]
        cases s.mem t n with
        |none=>rfl
        | some r =>
          simp only[yB,J];rw[show(fun x:SC=>(⟨x.v,f x.a⟩:SC))=SC.eA f from rfl,Hs f hf];cases eD g z off r<;>rfl
      · rfl
    · split
      · rfl
      · rename_i cs _ _ _
        cases XI g z cs<;>simp[SC.eA,uG.eA,hf.no]
    · split
      · rfl
      · rename_i cs _ _ _
        cases XI g z cs<;>simp[SC.eA,uG.eA,hf.no]
    · rfl
  |clr cl z x=>rfl
  | store cl g z x y =>
    simp only[K.run,nD,FP hf];split
    · rename_i t n off _
      split
      · simp only [LC.eA]
        cases s.mem t n with
        |none=>rfl
        | some r =>
          simp only[yB,J];rw[show(fun x:SC=>(⟨x.v,f x.a⟩:SC))=SC.eA f from rfl,r9 f hf];cases KC g z off r (y.get s) (y.an s)<;>simp[SC.eA,uG.eA,hf.no]
      · rfl
    · rfl
  |mm b x y=>simp only[K.run,nD];cases mmC b (x.get s) (y.get s)<;>simp[SC.eA,uG.eA,hf.no]
  |bin op b x y=>simp only[K.run,nD];cases Rh op b (x.get s) (y.get s)<;>simp[SC.eA,uG.eA,hf.no]
  | QC n ks x y =>
    simp only[K.run,nD];split
    · rename_i a b _ _
      cases BM ks a b<;>simp[SC.eA,uG.eA,hf.no]
    · rfl
  | jC n p x y =>
    simp only[K.run,nD];split
    · cases bJ false (x.get s)<;>simp[SC.eA,uG.eA,hf.no]
    · cases bJ true (x.get s)<;>simp[SC.eA,uG.eA,hf.no]
    · rfl
  |un op x=>simp only[K.run,nD];split<;>simp[SC.eA,uG.eA,hf.no]
  |conv o x=>simp only[K.run,nD];split<;>simp[SC.eA,uG.eA,hf.no]
  |GB x=>simp only[K.run,nD];split<;>simp[SC.eA,uG.eA,hf.no]
  | eC cl x =>
    simp only[K.run,nD,sS];split
    · rename_i l _
      cases bytesOf l<;>simp[SC.eA,uG.eA,hf.no]
    · rfl
  | tC cl l z x lo hi =>
    simp only[K.run,nD,bZ];split
    · rename_i t n o _
      simp only[LC.eA];cases kL s 0 lo<;>try rfl
      cases kL s l hi<;>try rfl
      cases s.mem t n with
      |none=>rfl
      | some r =>
        simp only[yB,yc];split
        · split<;>simp[SC.eA,uG.eA,hf.no]
        · rfl
    · rfl
  | zC g xs =>
    simp only[K.run,nD];split<;>simp[SC.eA,uG.eA,hf.no]
  | JA cl x xs =>
    simp only[K.run,nD,jK,IN,HQ];split
    · split
      · rename_i vs ws _ _ _
        rename_i g cs _ _ _ _ _ _;cases call _ _ none with
        |none=>rfl
        | some r =>
          simp only[J];split
          · split<;>simp[SC.eA,uG.eA,hf.no]
          · rfl
      · rfl
    · rfl
  | uB cl g xs =>
    simp only[K.run,JV,J1];split
    · rename_i t n _
      split
      · simp only [LC.eA]
        cases s.mem t n with
        |none=>rfl
        | some r =>
          simp only[yB];cases uM s cl t n xs with
          |none=>rfl
          | some vs =>
            simp only[List.all_map,y9,yc];have e1:r.all ((fun x:SC=>x.v.tA) ∘ fun x=>(⟨x.v,f x.a⟩:SC))=r.all (fun x=>x.v.tA):=rfl;have e2:r.map ((fun x:SC=>x.v) ∘ fun x=>(⟨x.v,f x.a⟩:SC))=r.map (·.v):=rfl;rw[e1,e2];split
            · cases call g (.undef :: .undef :: vs) (some (.agg (r.map (·.v)))) with
              |none=>rfl
              | some q =>
                simp only[J];split
                · split<;>simp[SC.eA,uG.eA,hf.no,Function.comp_def,T9 hf]
                · rfl
            · rfl
      · rfl
    · rfl
  | PC z b zs x y =>
    simp only[K.run,nD];split
    · split
      · simp only [yB,SC.eA,uG.eA,hf.no,y9]
        congr 3;apply yE;intro v _;simp[SC.eA,hf.no]
      · rfl
    · rfl
  | nC st z x lo hi mx =>
    simp only[K.run,nD,bZ];split
    · rfl
    · split
      · rfl
      · split<;>first
          |rfl
          | (split
             · split<;>(try split)<;>simp[SC.eA,uG.eA,hf.no]
             · rfl)
  |PA o x=>simp only[K.run,nD];split<;>simp[SC.eA,uG.eA,hf.no]
  | field g o z x =>
    simp only[K.run,nD];split
    · rename_i cs _
      cases XI g z (cs.drop o)<;>simp[SC.eA,uG.eA,hf.no]
    · rfl
  | PB l z x i =>
    simp only[K.run,nD];split
    · split
      · split<;>simp[SC.eA,uG.eA,hf.no]
      · rfl
    · rfl
  | aB z x i =>
    simp only[K.run,nD];split
    · split
      · rename_i k _ _ _ l _
        cases l[k]? with
        |none=>rfl
        |some cs=>simp only[J];split<;>simp[SC.eA,uG.eA,hf.no]
      · rename_i k _ _ l _
        cases l[k]? with
        |none=>rfl
        |some cs=>simp only[J];split<;>simp[SC.eA,uG.eA,hf.no]
      · split<;>simp[SC.eA,uG.eA,hf.no]
      · rfl
    · rfl
  | index x i =>
    simp only[K.run,nD];split
    · rename_i k b _ _
      cases b[k]?<;>simp[SC.eA,uG.eA,hf.no]
    · rfl
  | ext x i =>
    simp only[K.run,nD];split
    · rename_i vs _
      cases vs[i]?<;>simp[SC.eA,uG.eA,hf.no]
    · rfl
  | call cl g xs =>
    simp only[K.run,jK,IN];cases DH s cl xs with
    |none=>rfl
    | some vs =>
      simp only[J];split
      · cases call g vs none with
        |none=>rfl
        | some r =>
          simp only[J];split
          · split<;>simp[SC.eA,uG.eA,hf.no]
          · split<;>simp[SC.eA,uG.eA,hf.no]
      · rename_i t n _
        simp only[show(s.eA f).obj=s.obj from rfl];cases call g vs (s.obj t n)with
        |none=>rfl
        | some r =>
          simp only[J];split
          · rfl
          · split<;>simp[SC.eA,uG.eA,hf.no]
      · rfl
  |sB cl g z xs=>rfl
  | LA cl g z xs =>
    simp only[K.run,jK,IN];split
    · rename_i vs _ _
      cases call g (.undef::vs) none with
      |none=>rfl
      | some r =>
        simp only[J];split
        · rename_i b l
          split
          · split
            · simp[SC.eA,uG.eA,hf.ex]
            · split
              · rfl
              · simp[SC.eA,uG.eA,hf.no,qD,Function.comp_def]
          · rfl
        · rfl
    · rfl
  | nA cl g z L x xs =>
    simp only[K.run,jK,IN,nD,sS,FP hf,Oa hf];split
    · rename_i vs _ _
      split
      · split
        · split
          · rename_i l _
            split
            · cases call g (.undef :: .sl false l :: vs) (some (.int .i64 z)) with
              |none=>rfl
              | some r =>
                simp only[J];split
                · split
                  · simp[SC.eA,uG.eA,hf.no,qD,Function.comp_def]
                  · rfl
                · rfl
            · rfl
          · rfl
        · rename_i b _
          split
          · cases call g (.undef :: .sl b [] :: vs) (some (.int .i64 z)) with
            |none=>rfl
            | some r =>
              simp only[J];split
              · split
                · simp[SC.eA,uG.eA,hf.no,qD,Function.comp_def]
                · rfl
              · rfl
          · rfl
        · rfl
      · rfl
    · rfl
  | bA cl g xs =>
    have e:(xs.map fun x=>(x.get (s.eA f)).FA (s.eA f))=xs.map fun x=>(x.get s).FA s:=yE fun x _=>by rw[nD,Sa]
    simp only[K.run,e];split
    · cases call g (xs.map fun x=>(x.get s).FA s) none with
      |none=>rfl
      | some r =>
        simp only[J];split
        · split<;>simp[SC.eA,uG.eA,hf.no]
        · rfl
    · rfl
  |len st x=>simp only[K.run,nD];split<;>(try split)<;>simp[SC.eA,uG.eA,hf.no]
  |app cl e z b x y=>simp[Kf]at hk
  |OC=>simp[K.run,SC.eA,uG.eA,hf.no]
  |bad=>simp[K.run]
  |mkb T e=>simp[K.run,SC.eA,uG.eA,hf.no]
  | LB ok ty z x k =>
    simp only[K.run,nD,show(s.eA f).obj=s.obj from rfl];split
    · split
      · split<;>simp[SC.eA,uG.eA,hf.no]
      · rfl
    · rfl
  | HB ty x k v =>
    simp only[K.run,nD,show(s.eA f).obj=s.obj from rfl];split
    · split
      · split<;>simp[SC.eA,uG.eA,hf.no]
      · rfl
    · rfl
  |rC x=>rfl
  | dB cl e z b x y =>
    simp only[K.run,nD,FP hf,sS];split
    · split
      · rename_i bb _ _ _ _ _
        rw[Ie hf];cases hx:tE bb (x.an s)with
        |no=>simp[hf.no]
        | ex =>
          simp only[hf.ex];split
          · simp[SC.eA,uG.eA,hf.ex]
          · simp[SC.eA,uG.eA,hf.no,Function.comp_def,qD]
        | own k e =>
          simp only;have:=hf.own k e;split
          · contradiction
          · rfl
      · rfl
    · rfl
  |RA cl e z b x y=>simp[Kf]at hk
  |jB cl e z b x y=>simp[Kf]at hk
  | SB sz z n ps =>
    simp only[K.run,nD];split
    · simp[SC.eA,uG.eA,hf.no,Function.comp_def,qD]
    · rfl
  |WA x=>simp only[K.run,nD];split<;>simp[SC.eA,uG.eA,hf.no]
end
end
section
open Go Go.RowKit
section
variable {P:Program} {O:XH} {nt B:Nat} {F0:pR} {aa:Av} {w0:World} {D:Nat->Prop} {s:LC} {a:Act} {w w':World} {ι:Ix} {Θ:kM} {o:Oper}
theorem Z9 {α:Type}(sz:Nat):∀(len:Nat)(L:List α),len*sz<=L.length->((List.range len).map fun i=>(L.drop (i*sz)).take sz).flatten=L.take (len*sz)
 |0,L,_=>by simp
 |len+1,L,h=>by
  have h1:len*sz<=L.length:=by rw[yN]at h;omega
  rw[y0,Y03,Y0l,Z9 sz len L h1];simp only[ym,yQ,yA,List.flatten_nil,yF];rw[yN,List.take_add]
theorem QJ {av:Av}{r:List SC}{cur:Array Value}(ja:zG ι Θ av w r cur){b:Nat}{ty:TypeId}(hb:w.heap[b]?=some (.cells cur ty (0,0))){sz off len:Nat}{m:List (List AV)}(h:KG r sz off len=some m):
  m.length=len/\(∀c∈m,c.length=sz)/\∃us,eE av w m.flatten us/\∀(j:Nat)(u:Value),us[j]?=some u->w.cell? ⟨b,off+j,none⟩=some u:=by
 unfold KG at h;split at h
 ·rename_i hc;injection h with h;subst h;have jf:∀x∈r.map (·.v),x.tA=true:=fun x hx=>by
   obtain⟨y,hy,rfl⟩:=yD.1 hx;exact ye.1 hc.2 y hy
  have xl:((List.range len).map fun i=>((r.drop (off+i*sz)).take sz).map (·.v)).flatten=((r.map (·.v)).drop off).take (len*sz):=by
   rw[<- Z9 sz len _ (by simp;omega)];congr 1;apply yE;intro i _;rw[List.drop_drop,yW,Y01]
  have kc:=RI (len*sz) (qI off ja.rep);refine⟨by simp,fun c wk=>?_,((cur.toList.take r.length).drop off).take (len*sz),?_,fun j u hu=>?_⟩
  ·obtain ⟨i,hi,rfl⟩:=yD.1 wk;have ee:i<len:=by simpa using hi
   have:(i+1)*sz<=len*sz:=Y0e _ ee;rw[yN]at this;simp;omega
  ·rw[xl];exact IJ kc fun x hx=>jf x (List.mem_of_mem_drop (Y0i hx))
  ·rw [cell_of_row w b (off + j) cur ty (0,0) hb];rw [yK] at hu;split at hu
   ·rw [yI,yK] at hu;split at hu
    ·simpa using hu
    ·cases hu
   ·cases hu
 ·cases h
theorem aO (R:DE P O nt B F0 aa w0 D s a w ι Θ){v:Value}{y:AV}(hY:WD ι (BE aa ι Θ) (uF ι Θ) w y v){cl:Cl}{m:List (List AV)}(h:y.elems s cl=some m){sz:Nat}(gc:0<sz)(zc:∀c∈m,c.length=sz):
  ∃us,eE (BE aa ι Θ) w m.flatten us/\Sl (fun _=>False) w sz v m.length us:=by
 have ev:m.flatten.length=m.length*sz:=by
  clear h hY
  induction m with
  |nil=>simp
  |cons c r ih=>rw[yA,yj,zc c (by simp),ih (fun c hc=>zc c (by simp[hc])),yG,yN];omega
 have da:∀{av:Av}{us:List Value},eE av w m.flatten us->us.length=m.length*sz:=fun h=>by
  have:=xF (jG (ι:=ι) h);omega
 cases y with
 |sl nil l =>
  injection h with h;subst h;rw[FG]at hY;simp only[ZG]at hY;obtain⟨A,c,hv,hc,_,hn,hs⟩:=hY;rcases yZ l.length with h0|h0
  ·have:l=[]:=Y04 h0;subst this;exact⟨[],rfl,by simp,A,c,hv,hc,fun h=>by simp at h⟩
  ·cases nil with
   |true=>have:=(hn rfl).2.1;omega
   |false =>
    obtain⟨b,off,rfl,ja⟩:=(hs rfl).2 h0;obtain⟨us,hl,ne⟩:=LL (XG.1 ja);refine⟨us,hl,da hl,_,c,hv,hc,fun _=>⟨b,off,rfl,?_,fun h=>h,fun j u hu=>(ne j u hu).1⟩⟩;have hp:0<us.length:=by rw[da hl];exact Nat.mul_pos h0 gc
    exact SI (ne 0 us[0] (yf hp)).1
 |bl l =>
  injection h with h;subst h;obtain⟨a',c,hv,hc,_,hs⟩:=hY;rcases yZ l.length with h0|h0
  ·have:l=[]:=Y04 h0;subst this;exact⟨[],rfl,by simp,some a',c,hv,hc,fun h=>by simp at h⟩
  ·obtain ⟨b,off,rfl,ja⟩:=hs h0;obtain ⟨us,hl,ne⟩:=BR (XL.1 ja);refine ⟨us,hl,da hl,_,c,hv,hc,fun _=>⟨b,off,rfl,?_,fun h=>h,fun j u hu=>(ne j u hu).1⟩⟩;have hp:0<us.length:=by rw [da hl]; exact Nat.mul_pos h0 gc
   exact SI (ne 0 us[0] (yf hp)).1
 |ref t n sz' off len cap =>
  simp only[AV.elems]at h;split at h
  ·cases hm:s.mem t n with
   |none=>rw[hm]at h;cases h
   |some r =>
    rw[hm,J]at h;obtain⟨b,hb,bc,cc,th,_,hv⟩:=lK.1 hY;obtain⟨cj,b',cur,ty,db,ra,ja,_⟩:=R.rows t n r hm;rw[hb]at db;injection db with db;subst db;obtain⟨h1,h2,us,hl,ne⟩:=QJ ja ra h;subst h1;exact⟨us,hl,da hl,_,cc,hv,yH bc th,fun _=>⟨b,off,rfl,sD ra,fun h=>h,ne⟩⟩
  ·cases h
 |_=>simp[AV.elems]at h
theorem PS {av:Av}{r:List SC}{cur:Array Value}(ja:zG ι Θ av w r cur){b:Nat}{ty:TypeId}(hb:w.heap[b]?=some (.cells cur ty (0,0))){sz off len:Nat}{m:List (List AV)}(h:PH r sz off len=some m):
  m.length=len/\(∀c∈m,c.length=sz)/\∃us,cD ι av w m.flatten us/\∀(j:Nat)(u:Value),us[j]?=some u->w.cell? ⟨b,off+j,none⟩=some u:=by
 unfold PH at h;split at h
 ·rename_i hc;injection h with h;subst h;have xl:((List.range len).map fun i=>((r.drop (off+i*sz)).take sz).map (·.v)).flatten=((r.map (·.v)).drop off).take (len*sz):=by
   rw[<- Z9 sz len _ (by simp;omega)];congr 1;apply yE;intro i _;rw[List.drop_drop,yW,Y01]
  have kc:=RI (len*sz) (qI off ja.rep);refine⟨by simp,fun c wk=>?_,((cur.toList.take r.length).drop off).take (len*sz),?_,fun j u hu=>?_⟩
  ·obtain ⟨i,hi,rfl⟩:=yD.1 wk;have ee:i<len:=by simpa using hi
   have:(i+1)*sz<=len*sz:=Y0e _ ee;rw[yN]at this;simp;omega
  ·rw[xl];exact kc
  ·rw [cell_of_row w b (off + j) cur ty (0,0) hb];rw [yK] at hu;split at hu
   ·rw [yI,yK] at hu;split at hu
    ·simpa using hu
    ·cases hu
   ·cases hu
 ·cases h
theorem Ni (R:DE P O nt B F0 aa w0 D s a w ι Θ){v:Value}{y:AV}(hY:WD ι (BE aa ι Θ) (uF ι Θ) w y v){cl:Cl}{m:List (List AV)}(h:y.QB s cl=some m){sz:Nat}(gc:0<sz)(zc:∀c∈m,c.length=sz):
  ∃us,cD ι (BE aa ι Θ) w m.flatten us/\Sl (fun _=>False) w sz v m.length us:=by
 have ev:m.flatten.length=m.length*sz:=by
  clear h hY
  induction m with
  |nil=>simp
  |cons c r ih=>rw[yA,yj,zc c (by simp),ih (fun c hc=>zc c (by simp[hc])),yG,yN];omega
 have da:∀{av:Av}{us:List Value},cD ι av w m.flatten us->us.length=m.length*sz:=fun h=>by
  have:=xF h;omega
 have old:∀(hm:y.elems s cl=some m),∃us,cD ι (BE aa ι Θ) w m.flatten us/\Sl (fun _=>False) w sz v m.length us:=fun hm=>by
  obtain⟨us,h1,h2⟩:=aO R hY hm gc zc;exact⟨us,jG h1,h2⟩
 cases y with
 |sl nil l=>exact old h
 |bl l=>exact old h
 |ref t n sz' off len cap =>
  simp only[AV.QB]at h;split at h
  ·cases hm:s.mem t n with
   |none=>rw[hm]at h;cases h
   |some r =>
    rw[hm,J]at h;obtain⟨b,hb,bc,cc,th,_,hv⟩:=lK.1 hY;obtain⟨cj,b',cur,ty,db,ra,ja,_⟩:=R.rows t n r hm;rw[hb]at db;injection db with db;subst db;obtain⟨h1,h2,us,hl,ne⟩:=PS ja ra h;subst h1;exact⟨us,hl,da hl,_,cc,hv,yH bc th,fun _=>⟨b,off,rfl,sD ra,fun h=>h,ne⟩⟩
  ·cases h
 |_=>simp[AV.QB]at h
theorem z7 {t e:TypeId}{i:TypeInfo}{z:Value}(ht:P.underlying t=some (.slice e))(hi:P.info? e=some i)(ty:TypeId){g n c:Nat}{cur:Array Value}(hg:w.heap[g]?=some (.cells cur e (0,0)))(mh:cur.size=c*i.size)(_hz:i.zero=some z)
  {src:Value} {m:Nat} {news:List Value} (hs:Sl (fun _=>False) w i.size src m news) (h1:∀u∈news,u.oneCell'=true) (bc:n+m<=c) :
  (Builtin.append_ #[t,t] ty #[.slice (some ⟨g,0,none⟩) n c,src]).run P w=.ok (.slice (some ⟨g,0,none⟩) (n+m) c) (w.setRow g (cur.toList.take (n*i.size)++news++cur.toList.drop (n*i.size+news.length)).toArray):=by
 obtain⟨hl,A,c',rfl,hc,jc⟩:=hs;have li:n*i.size+news.length<=cur.size:=by rw[hl,mh,<- yL];exact Y0e _ bc
 cases A with
 |none =>
  have hm:m=0:=by
   rcases yZ m with h|h
   ·exact h
   ·obtain⟨b,off,hA,_⟩:=jc h;cases hA
  subst hm;have wg:news=[]:=Y04 (by simpa using hl);subst wg;simp only[yV]at bc;have jw:w.setRow g (cur.toList.take (n*i.size)++[]++cur.toList.drop (n*i.size+([]:List Value).length)).toArray=w:=by
   simp only[yF,List.length_nil,yV,Y0c,Y07];exact setRow_self w g cur e (0,0) hg
  rw[jw];simp[Builtin.append_,run_underlying ht,sizeOf,typeInfo,hi,Builtin.lenOf,Builtin.firstCells,bc,storeCells]
 |some a =>
  refine run_append_room (P:=P) w t ty e i ht hi g n c cur hg a m c' news hl (fun j u hu=>?_) h1 bc li;have hm:0<m:=by
   rcases yZ m with h|h
   ·subst h;have:=(yn.1 hu).1;omega
   ·exact h
  obtain⟨b,off,hA,_,_,ge⟩:=jc hm;injection hA with hA;subst hA;rw[Addr.add_lit];exact ge j u hu
theorem MX {t e:TypeId}{i:TypeInfo}(ht:P.underlying t=some (.slice e))(hi:P.info? e=some i)(ty:TypeId){A:Option Addr}{n c:Nat}(bc:n<=c){src:Value}{news:List Value}(hs:Sl (fun _=>False) w i.size src 0 news):
  (Builtin.append_ #[t,t] ty #[.slice A n c,src]).run P w=.ok (.slice A n c) w:=by
 obtain⟨hl,A',c',rfl,hc,jc⟩:=hs;cases A'<;>cases A<;>simp[Builtin.append_,run_underlying ht,sizeOf,typeInfo,hi,Builtin.lenOf,Builtin.firstCells,bc,storeCells,loadCells,loadCellsFrom]
def El (w:World)(xs news:List Value)(z:Value)(e:TypeId)(need c:Nat):World:=w.drew.alloc (.cells (xs.toArray++news.toArray++Builtin.zeroCells z.cells (grownCap w need c e-need)) e)
theorem NX {t e:TypeId}{i:TypeInfo}{z:Value}(ht:P.underlying t=some (.slice e))(hi:P.info? e=some i)(hz:i.zero=some z)(ty:TypeId){A:Option Addr}{n c:Nat}{xs:List Value}(oc:xs.length=n*i.size)(hA:A=none->n=0/\c=0)(hx:∀a,A=some a->∀j u,xs[j]?=some u->w.cell? (a.add j)=some u)
  {src:Value} {m:Nat} {news:List Value} (hs:Sl (fun _=>False) w i.size src m news) (ba:c<n+m) (hnc:n<=c) (h63:n+m<=140737488355328) (kh:(n+m)*i.bytes<=140737488355328) :
  (Builtin.append_ #[t,t] ty #[.slice A n c,src]).run P w=.ok (.slice (some ⟨w.heap.size,0,none⟩) (n+m) (grownCap w (n+m) c e)) (El w xs news z e (n+m) c):=by
 obtain⟨hl,A',c',rfl,hc,jc⟩:=hs;have hm:0<m:=by omega
 obtain⟨b,off,rfl,_,_,ge⟩:=jc hm;have zb:∀j u,news[j]?=some u->w.cell? ((⟨b,off,none⟩:Addr).add j)=some u:=fun j u hu=>by rw[Addr.add_lit];exact ge j u hu
 cases A with
 |none =>
  obtain⟨rfl,rfl⟩:=hA rfl;have I9:xs=[]:=Y04 (by simpa using oc);subst I9;have:=run_append_nil (P:=P) w t ty e i z ht hi hz ⟨b,off,none⟩ m c' news hl zb hm (by omega) (by rw[yy]at kh;omega);simpa [El]using this
 |some a =>
  exact run_append_grow (P:=P) w t ty e i z ht hi hz a n c xs oc (hx a rfl) ⟨b,off,none⟩ m c' news hl zb ba (by omega) (growslice_fits (by omega) kh)
section
variable (R:DE P O nt B F0 aa w0 D s a w ι Θ)
include R
theorem DE.fam (Θ':kM)(f:An->An)(ld:∀b o,uF ι Θ' b o->uF ι Θ b o)(iT:∀A v,QM Θ A v->QM Θ' (f A) v)
  (tok:∀k o,Θ' k=some o->B<=o.g/\0<o.sz/\o.n<=o.c/\o.c<=maxLen/\∃cur,w.heap[o.g]?=some (.cells cur o.e (0,0))/\(cur.size=o.c*o.sz/\CE P o.e=some o.sz)) (ZA:∀k k' o o',Θ' k=some o->Θ' k'=some o'->o.g=o'.g->k=k') (apart:∀k o t n,Θ' k=some o->ι t n≠some o.g)
  (lC:∀k o t n H,Θ' k=some o->ι.ob t n=some H->¬H o.g) :
  DE P O nt B F0 aa w0 D (s.eA f) a w ι Θ':=by
 have hB:QD (uF ι Θ) (uF ι Θ') w w:=QD.less ld;have hA:QD (BE aa ι Θ) (BE aa ι Θ') w w:=QD.less fun b o h=>h.imp id (ld b o)
 refine⟨R.defers,R.size,fun t=>WD.held (Ix.Le.refl _) hA hB _ _ (R.env t),fun t=>iT _ _ (R.aC t),fun t n r hr=>?_,R.mine,R.inj,tok,ZA,apart,R.out,R.pin,R.kept,R.base,R.qB,fun t n H h=>?_,fun t=>WD.held (Ix.Le.refl _) hA hB _ _ (R.gen t),fun t=>iT _ _ (R.pB t)⟩
 ·simp only [LC.eA] at hr;cases hm:s.mem t n with
  |none=>rw[hm]at hr;cases hr
  |some r0 =>
   rw[hm]at hr;injection hr with hr;subst hr;obtain⟨h0,b,cur,ty,h1,h2,⟨h3,h4⟩,h8⟩:=R.rows t n r0 hm;refine⟨h0,b,cur,ty,h1,h2,⟨by simpa using h3,fun j x hx=>?_⟩,h8⟩;rw[yk]at hx;cases hj:r0[j]? with
   |none=>rw[hj]at hx;cases hx
   |some y =>
    rw[hj]at hx;injection hx with hx;subst hx;obtain⟨u,hu,h5,h6,h7⟩:=h4 j y hj;exact⟨u,hu,h5,RD.held (Ix.Le.refl _) hA _ _ h6,iT _ _ h7⟩
 ·obtain⟨h1,h2⟩:=R.obs t n H h;exact⟨fun b hb=>let⟨g1,g2,g3,_,g5⟩:=h1 b hb;⟨g1,g2,g3,fun k o hk e=>lC k o t n H hk h (e▸hb),g5⟩,h2⟩
theorem DE.spare {k:Nat}{ow:Ow}(hk:Θ k=some ow){cur new:Array Value}(mh:w.heap[ow.g]?=some (.cells cur ow.e (0,0)))(zc:new.size=cur.size)(jg:∀j,j<ow.n*ow.sz->new[j]?=cur[j]?):
  DE P O nt B F0 aa w0 D s a (w.setRow ow.g new) ι Θ:=by
 have ua:∀b',b'≠ow.g->(w.setRow ow.g new).heap[b']?=w.heap[b']?:=fun b' h=>setRow_other w ow.g b' new h
 have de:(w.setRow ow.g new).heap[ow.g]?=some (.cells new ow.e (0,0)):=setRow_heap w ow.g cur new ow.e (0,0) mh;have eh:∀b o u,w.cell? ⟨b,o,none⟩=some u->(b=ow.g->o<ow.n*ow.sz)->(w.setRow ow.g new).cell? ⟨b,o,none⟩=some u:=fun b o u hc ba=>by
  by_cases hb:b=ow.g
  ·subst hb;rw[cell_of_row _ ow.g o new ow.e (0,0) de,jg o (ba rfl),<- cell_of_row w ow.g o cur ow.e (0,0) mh];exact hc
  ·exact(World.cell?_of_block (w:=w) (a:=⟨b,o,none⟩) (ua b hb)).trans hc
 have hB:QD (uF ι Θ) (uF ι Θ) w (w.setRow ow.g new):=⟨fun b o u hc hn=>⟨eh b o u hc fun e=>by
  rcases Nat.lt_or_ge o (ow.n*ow.sz)with h|h
  ·exact h
  ·exact absurd (.inr ⟨k,ow,hk,e.symm,h⟩) hn,hn⟩⟩
 have hA:QD (BE aa ι Θ) (BE aa ι Θ) w (w.setRow ow.g new):=⟨fun b o u hc hn=>⟨eh b o u hc fun e=>by
  rcases Nat.lt_or_ge o (ow.n*ow.sz)with h|h
  ·exact h
  ·exact absurd (.inr (.inr ⟨k,ow,hk,e.symm,h⟩)) hn,hn⟩⟩
 refine⟨R.defers,R.size,fun t=>WD.held (Ix.Le.refl _) hA hB _ _ (R.env t),R.aC,fun t n r hr=>?_,fun t n b h=>?_,R.inj,fun j o h=>?_,R.ZA,R.apart,R.out,R.pin,?_,R.base,fun t n S h=>?_,fun t n H h=>(R.obs t n H h).grow (by simp),fun t=>WD.held (Ix.Le.refl _) hA hB _ _ (R.gen t),R.pB⟩
 ·obtain ⟨h0,b,sa,ty,h1,h2,h3,h8⟩:=R.rows t n r hr;have:b≠ow.g:=fun e=>R.apart k ow t n hk (e ▸ h1)
  exact⟨h0,b,sa,ty,h1,(ua b this).trans h2,h3.held (Ix.Le.refl _) hA (fun _ _ h=>h),h8⟩
 ·obtain⟨h1,h2,h3⟩:=R.mine t n b h;exact⟨h1,by simpa using h2,h3⟩
 ·obtain ⟨h1,h2,h3,h4,sa,h5,h6⟩:=R.tok j o h;by_cases hg:o.g=ow.g
  ·have:=R.ZA _ _ _ _ h hk hg;subst this;rw[hk]at h;injection h with h;subst h;rw[mh]at h5;injection h5 with h5;injection h5 with h5;subst h5;exact⟨h1,h2,h3,h4,new,de,zc.trans h6.1,h6.2⟩
  ·exact⟨h1,h2,h3,h4,sa,(ua _ hg).trans h5,h6⟩
 ·have:=(R.tok k ow hk).1;have hb:=R.base.1;exact R.kept.setRow (fun ba=>by omega) _
 ·obtain ⟨p,H,h1,h2,h3,h4⟩:=R.qB t n S h;have ot:∀ b',H b'->b'≠ow.g:=fun b' hH e=>(((R.obs _ _ _ h2).1 _ hH).2.2.2.1 k ow hk) e.symm
  exact⟨p,H,h1,h2,O.keep h3 (fun b' hH=>ua b' (ot b' hH)) (by simp),h4.keep (fun t n b H h g=>⟨h,H,g⟩) fun x hx=>(ua p (ot p (O.main h3))).trans hx⟩
theorem DE.fresh {d:Nat}(hd:Θ d=none){cur:Array Value}{e:TypeId}{n c sz:Nat}(mh:cur.size=c*sz)(zc:0<sz)(hn:n<=c)(hc:c<=maxLen)(htz:CE P e=some sz):
  DE P O nt B F0 aa w0 D s a (w.drew.alloc (.cells cur e)) ι (fun j=>if j=d then some ⟨w.heap.size,n,c,sz,e⟩else Θ j):=by
 have ji:∀b,b<w.heap.size->(w.drew.alloc (.cells cur e)).heap[b]?=w.heap[b]?:=fun b hb=>Below.heap_alloc w.drew _ b hb
 have ll:∀b o,b<w.heap.size->uF ι (fun j=>if j=d then some ⟨w.heap.size,n,c,sz,e⟩else Θ j) b o->uF ι Θ b o:=fun b o hb h=>h.imp id fun⟨k,ow,h,h1,h2⟩=>by
  by_cases e:k=d
  ·simp only[if_pos e]at h;injection h with h;subst h;simp only at h1;omega
  ·simp only[if_neg e]at h;exact⟨k,ow,h,h1,h2⟩
 have hB:QD (uF ι Θ) (uF ι (fun j=>if j=d then some ⟨w.heap.size,n,c,sz,e⟩else Θ j)) w (w.drew.alloc (.cells cur e)):=QD.grown ji ll;have hA:QD (BE aa ι Θ) (BE aa ι (fun j=>if j=d then some ⟨w.heap.size,n,c,sz,e⟩else Θ j)) w (w.drew.alloc (.cells cur e)):=QD.grown ji fun b o hb h=>h.imp id (ll b o hb)
 have hΘ:∀k o,Θ k=some o->(fun j=>if j=d then some ⟨w.heap.size,n,c,sz,e⟩else Θ j) k=some o:=fun k o h=>by
  by_cases e:k=d
  ·subst e;rw[hd]at h;cases h
  ·simp only[if_neg e];exact h
 have iT:∀A v,QM Θ A v->QM (fun j=>if j=d then some ⟨w.heap.size,n,c,sz,e⟩else Θ j) A v:=fun A v h=>by
  cases A with
  |no=>trivial
  |ex=>exact h
  |own k e'=>exact h.imp id fun⟨ow,h1,h2⟩=>⟨ow,hΘ _ _ h1,h2⟩
 have kw:w.heap.size<=(w.drew.alloc (.cells cur e)).heap.size:=by
  have:(w.drew.alloc (.cells cur e)).heap.size=w.drew.heap.size+1:=World.size_alloc _ _;have h4:w.drew.heap.size=w.heap.size:=rfl;omega
 refine⟨R.defers,R.size,fun t=>WD.held (Ix.Le.refl _) hA hB _ _ (R.env t),fun t=>iT _ _ (R.aC t),fun t n r hr=>?_,fun t n b h=>?_,R.inj,fun j o h=>?_,fun k k' o o' h h' hg=>?_,fun k o t n h h'=>?_,R.out,R.pin,R.kept.drew.alloc _,R.base,fun t n S h=>?_,fun t n H h=>?_,fun t=>WD.held (Ix.Le.refl _) hA hB _ _ (R.gen t),fun t=>iT _ _ (R.pB t)⟩
 ·obtain⟨h0,b,sa,ty,h1,h2,h3,h8⟩:=R.rows t n r hr;exact⟨h0,b,sa,ty,h1,(ji b (sD h2)).trans h2,h3.held (Ix.Le.refl _) hA hΘ,h8⟩
 ·obtain⟨h1,h2,h3⟩:=R.mine t n b h;exact⟨h1,by omega,h3⟩
 ·by_cases e':j=d
  ·simp only[if_pos e']at h;injection h with h;subst h;exact⟨R.EC,zc,hn,hc,cur,qX rfl,mh,htz⟩
  ·simp only[if_neg e']at h;obtain⟨h1,h2,h3,h4,sa,h5,h6⟩:=R.tok j o h;exact⟨h1,h2,h3,h4,sa,(ji _ (sD h5)).trans h5,h6⟩
 ·by_cases e1:k=d <;> by_cases e2:k'=d
  ·rw[e1,e2]
  ·simp only[if_pos e1]at h;simp only[if_neg e2]at h';injection h with h;subst h;obtain⟨_,_,_,_,sa,h5,_⟩:=R.tok _ _ h';have:=sD h5;simp only at hg;omega
  ·simp only[if_neg e1]at h;simp only[if_pos e2]at h';injection h' with h';subst h';obtain⟨_,_,_,_,sa,h5,_⟩:=R.tok _ _ h;have:=sD h5;simp only at hg;omega
  ·simp only[if_neg e1]at h;simp only[if_neg e2]at h';exact R.ZA _ _ _ _ h h' hg
 ·by_cases e':k=d
  ·simp only[if_pos e']at h;injection h with h;subst h;have:=(R.mine _ _ _ h').2.1;simp only at this;omega
  ·simp only[if_neg e']at h;exact R.apart k o t n h h'
 ·obtain⟨p,H,h1,h2,h3,h4⟩:=R.qB t n S h;exact⟨p,H,h1,h2,O.keep h3 (fun b' hH=>ji b' (O.lt h3 hH)) kw,h4.keep (fun t n b H h g=>⟨h,H,g⟩) fun x hx=>(ji _ (sD hx)).trans hx⟩
 ·obtain ⟨h1,h2⟩:=R.obs t n H h;refine ⟨fun b hb=>?_,h2⟩;obtain ⟨g1,g2,g3,g4,g5⟩:=h1 b hb;refine ⟨g1,by omega,g3,fun k o hk=>?_,g5⟩;by_cases e':k=d
  ·simp only[if_pos e']at hk;injection hk with hk;subst hk;simp only;omega
  ·simp only[if_neg e']at hk;exact g4 k o hk
end
end
end
section
open Go Go.RowKit
section
variable {P:Program} {O:XH} {nt B:Nat} {F0:pR} {aa:Av} {w0:World} {D:Nat->Prop} {s:LC} {a:Act} {w w':World} {ι:Ix} {Θ:kM} {o:Oper}
def An.twice (A:An)(d:Nat)(x:An):An:=match A with
 |.own k _=>(x.strip k).strip d
 |_=>x.strip d
theorem Dv (A:An)(d:Nat):(s.zB A).strip d=s.eA (A.twice d):=by
 cases A with
 |own k e=>simp[LC.zB,LC.strip,LC.eA,SC.strip,An.twice,Function.comp_def]
 |no=>rfl
 |ex=>rfl
def kM.less (Θ:kM)(A:An)(d:Nat):kM:=fun j=>match A with
 |.own k _=>if j=d\/j=k then none else Θ j
 |_=>if j=d then none else Θ j
theorem zF {A:An}{d j:Nat}{o:Ow}(h:Θ.less A d j=some o):Θ j=some o/\j≠d/\∀k e,A=.own k e->j≠k:=by
 unfold kM.less at h;cases A with
 |own k e =>
  simp only at h;split at h
  ·cases h
  ·rename_i hn;exact⟨h,fun e=>hn (.inl e),fun k' e' he=>by injection he with h1;subst h1;exact fun e=>hn (.inr e)⟩
 |no =>
  simp only at h;split at h
  ·cases h
  ·rename_i hn;exact⟨h,hn,fun k' e' he=>by cases he⟩
 |ex =>
  simp only at h;split at h
  ·cases h
  ·rename_i hn;exact⟨h,hn,fun k' e' he=>by cases he⟩
theorem less_d {A:An}{d:Nat}:Θ.less A d d=none:=by
 unfold kM.less;cases A<;>simp
theorem Ii {A:An}{d:Nat}{Θ':kM}(hΘ:∀j o,Θ.less A d j=some o->Θ' j=some o)(x:An)(v:Value)(h:QM Θ x v):QM Θ' (A.twice d x) v:=by
 have h1:∀k,x.strip k=.no\/(x.strip k=x/\∀j e,x=.own j e->j≠k):=fun k=>by
  cases x with
  |no=>exact .inl rfl
  |ex=>exact .inr ⟨rfl,fun _ _ h=>by cases h⟩
  |own j e =>
   simp only[An.strip];split
   ·exact .inl rfl
   ·rename_i hn;exact .inr ⟨rfl,fun j' e' h=>by injection h with h;subst h;exact hn⟩
 have key:A.twice d x=.no\/(A.twice d x=x/\(∀j e,x=.own j e->j≠d)/\∀k e',A=.own k e'->∀j e,x=.own j e->j≠k):=by
  cases A with
  |own k e' =>
   simp only[An.twice];rcases h1 k with h2|⟨h2,h3⟩
   ·rw[h2];exact .inl rfl
   ·rw [h2];rcases h1 d with h4 | ⟨h4,h5⟩
    ·exact .inl h4
    ·exact .inr ⟨h4,h5,fun k' e'' he=>by injection he with he;subst he;exact h3⟩
  |no=>rcases h1 d with h4|⟨h4,h5⟩;exact .inl h4;exact .inr ⟨h4,h5,fun _ _ he=>by cases he⟩
  |ex=>rcases h1 d with h4|⟨h4,h5⟩;exact .inl h4;exact .inr ⟨h4,h5,fun _ _ he=>by cases he⟩
 rcases key with h2|⟨h2,h3,h4⟩
 ·rw[h2];trivial
 ·rw [h2];cases x with
  |no=>trivial
  |ex=>exact h
  |own j e =>
   refine h.imp id fun⟨ow,h5,h6⟩=>⟨ow,hΘ _ _ ?_,h6⟩
   unfold kM.less;cases A with
   |own k e'=>simp only;rw[if_neg];exact h5;rintro(e1|e1);exact h3 _ _ rfl e1;exact h4 _ _ rfl _ _ rfl e1
   |no=>simp only;rw[if_neg (h3 _ _ rfl)];exact h5
   |ex=>simp only;rw[if_neg (h3 _ _ rfl)];exact h5
theorem DE.lC (R:DE P O nt B F0 aa w0 D s a w ι Θ){k:Nat}{o:Ow}{t n:Nat}{H:Nat->Prop}(h:Θ k=some o)(hH:ι.ob t n=some H):¬H o.g:=fun hb=>((R.obs t n H hH).1 _ hb).2.2.2.1 k o h rfl
theorem DE.less (R:DE P O nt B F0 aa w0 D s a w ι Θ)(A:An)(d:Nat):DE P O nt B F0 aa w0 D (s.eA (A.twice d)) a w ι (Θ.less A d) :=
 R.fam _ _ (fun _ _ h=>h.imp id fun⟨k,ow,h1,h2⟩=>⟨k,ow,(zF h1).1,h2⟩) (Ii fun _ _ h=>h) (fun k o h=>R.tok k o (zF h).1) (fun k k' o o' h h'=>R.ZA k k' o o' (zF h).1 (zF h').1) (fun k o t n h=>R.apart k o t n (zF h).1) (fun _ _ _ _ _ h=>R.lC (zF h).1)
theorem fH {av:Av}:∀{xs ys:List AV}{us vs:List Value},eE av w xs us->eE av w ys vs->eE av w (xs++ys) (us++vs)
 | [],_,_,_,h,h'=>by simp only[eE]at h;subst h;exact h'
 |x::r,_,_,_,h,h'=>by
  simp only[eE]at h;obtain⟨u,gb,rfl,h0,h1,h⟩:=h;exact⟨u,gb++_,rfl,h0,h1,fH h h'⟩
theorem AP {av:Av}:∀{xs:List AV}{us:List Value},eE av w xs us->∀u∈us,u.oneCell'=true
 | [],_,h,u,hu=>by simp only[eE]at h;subst h;cases hu
 |x::r,_,h,u,hu=>by
  simp only[eE]at h;obtain⟨v,gb,rfl,h0,h1,h⟩:=h;rcases yt.1 hu with rfl|hu
  ·exact h1
  ·exact AP h u hu
theorem op_app (R:DE P O nt B F0 aa w0 D s a w ι Θ){t e:TypeId}{i:TypeInfo}{z:List AV}(ht:P.underlying t=some (.slice e))(hi:P.info? e=some i)(hz:JL P e=some z)(zc:z.length=i.size)(gc:0<i.size){X Y:Operand}{x y:EE}(hx:pA X=some x)(hy:pA Y=some y)
  (ho:o.op=.call { callee:=.builtin .append,args:=#[X,Y],argTypes:=#[t,t] }) {d:Nat} (ka:o.dst=some d) (hd:d<nt) {cl:Cl} {call} {xe:SC×uG} (hr:(K.app cl e i.size i.bytes x y).run call s=some xe) {g} {s':LC} (he:aD.eff ⟨o.dst,.app cl e i.size i.bytes x y,g⟩ s xe=some s') :
  ∃v w',(execOp a.eval o).run P w=.ok (.value v) w'/\SG P O nt B F0 aa w0 D s' (a.put o.dst v) w':=by
 obtain⟨zv,i',ee,sr,om,hl⟩:=NJ hz w;rw[hi]at ee;injection ee with ee;subst ee;have fk:zv.cells.size=i.size:=by
  have:=OJ hl;simp only[Y02]at this;omega
 have hX:=R.pA hx;have hY:=(R.pA hy).1;have ul:∀v w',(Builtin.append_ #[t,t] o.type #[a.eval X,a.eval Y]).run P w=.ok v w'->(execOp a.eval o).run P w=.ok (.value v) w':=fun v w' h=>by
  simp only[execOp,ho,resolve,invoke,builtin,Sem.run_bind,Sem.run_pure,Result.andThen_ok,List.map_toArray,ym,yQ,h]
 simp only[K.run]at hr;split at hr
 ·rename_i b l m ue fb;split at hr
  ·rename_i ia;obtain ⟨ga,nb⟩:=ia;obtain ⟨kh,cf⟩:=XC.1 ga;have bd:∀ c∈l++m,c.length=i.size:=fun c hc=>by simpa using ye.1 nb c hc
   have we:∀c∈m,c.length=i.size:=fun c hc=>bd c (List.mem_append_right _ hc)
   have lv:∀c∈l,c.length=i.size:=fun c hc=>bd c (List.mem_append_left _ hc)
   obtain⟨news,zb,kg⟩:=aO R hY fb gc we;rw[ue]at hX;have ox:=hX.1;rw[FG]at ox;obtain⟨xs,oc,ww⟩:=aO (cl:=cl) R hX.1 (m:=l) rfl gc lv;simp only[ZG]at ox;obtain⟨A,c,hv,xx,hu,hn,hs⟩:=ox;have zf:xs.length=l.length*i.size:=ww.1;have mg:∀a',A=some a'->∀j u,xs[j]?=some u->w.cell? (a'.add j)=some u:=fun a' ha j u hj=>by
    obtain⟨_,A2,c2,hv2,_,h2⟩:=ww;rw[hv]at hv2;injection hv2 with e1 e2 e3;subst e1;have hp:0<l.length:=by
     rcases yZ l.length with h|h
     ·rw[h]at zf;have:=(yn.1 hj).1;omega
     ·exact h
    obtain⟨b',off,hA,_,_,ge⟩:=h2 hp;rw[ha]at hA;injection hA with hA;subst hA;rw[Addr.add_lit];exact ge j u hj
   have zh:news.length=m.length*i.size:=kg.1;have eo:∀u∈news,u.oneCell'=true:=AP zb;have iT:∃A0,tE b (x.an s)=A0/\(A0=.ex\/∃k,A0=.own k e)/\xe=(⟨.sl (b&&m.isEmpty) (l++m),.own 0 e⟩,.app A0 0):=by
    cases wm:tE b (x.an s)with
    |no=>rw[wm]at hr;cases hr
    |ex=>rw[wm]at hr;injection hr with hr;exact⟨_,rfl,.inl rfl,hr.symm⟩
    |own k e' =>
     rw[wm]at hr;simp only at hr;split at hr
     ·rename_i hee;subst hee;injection hr with hr;exact⟨_,rfl,.inr ⟨k,rfl⟩,hr.symm⟩
     ·cases hr
   obtain⟨A0,wm,hAk,rfl⟩:=iT;simp only[aD.eff,ka]at he;injection he with he;subst he;rw[Dv,ka];have lx:QM Θ A0 (a.eval X):=by
    rw[<- wm];cases b with
    |false=>exact hX.2
    |true =>
     obtain⟨h1,h2,h3⟩:=hn rfl;exact⟨none,0,by rw[hv,h1,h2,h3]⟩
   -- what is read of the old elements and the new ones behind
   have kc:eE (BE aa ι Θ) w (l++m).flatten (xs++news):=by rw[Y0l];exact fH oc zb
   have huni:∀c∈l++m,∀c'∈l++m,c.length=c'.length:=fun c hc c' nc=>(bd c hc).trans (bd c' nc).symm
   -- a new block
   have grow:c<l.length+m.length->∃v w',(execOp a.eval o).run P w=.ok (.value v) w'/\SG P O nt B F0 aa w0 D ((s.eA (A0.twice d)).put (some d) ⟨.sl (b&&m.isEmpty) (l++m),.own d e⟩) (a.put (some d) v) w':=fun ba=>by
    have oa:=NX (P:=P) (w:=w) ht hi sr o.type zf (fun hA=>by
     cases b with
     |true=>have:=hn rfl;exact⟨this.2.1,this.2.2⟩
     |false =>
      obtain⟨h1,h2⟩:=hs rfl;refine⟨?_,h1 hA⟩;rcases yZ l.length with h0|h0
      ·exact h0
      ·obtain⟨_,_,ha,_⟩:=h2 h0;rw[hA]at ha;cases ha) mg kg ba xx cf kh
    rw[<- hv]at oa;have ej:=grownCap_ge w (l.length+m.length) c e;have wk:grownCap w (l.length+m.length) c e<=maxLen:=grownCap_le_maxLen w (l.length+m.length) c e (by unfold maxLen;omega);have kw:(xs.toArray++news.toArray++Builtin.zeroCells zv.cells (grownCap w (l.length+m.length) c e-(l.length+m.length))).size=grownCap w (l.length+m.length) c e*i.size:=by
     simp only[Array.size_append,yY,size_zeroCells,fk,zf,zh,<- yL];congr 1;omega
    have R1:=(R.less A0 d).fresh (d:=d) less_d kw gc ej wk (e:=e) (by simp[CE,hi]);refine⟨_,_,ul _ _ oa,ι,_,R1.put hd ?_ (.inr ⟨_,if_pos rfl,rfl,rfl⟩)⟩;have hb:(b&&m.isEmpty)=false:=by
     cases b with
     |false=>rfl
     |true =>
      have:=(hn rfl);have:m≠[]:=fun h=>by subst h;simp at ba;omega
      simpa using this
    show WD _ _ _ _ (.sl (b&&m.isEmpty) (l++m)) _;rw[hb,FG];simp only[ZG,yj];refine⟨_,_,rfl,ej,huni,(fun h=>by cases h),fun _=>⟨fun h=>(by cases h),fun _=>⟨w.heap.size,0,rfl,?_⟩⟩⟩;rw[XG];have cv:QD (BE aa ι Θ) (BE aa ι (fun j=>if j=d then some ⟨w.heap.size,l.length+m.length,grownCap w (l.length+m.length) c e,i.size,e⟩else Θ.less A0 d j)) w (El w xs news zv e (l.length+m.length) c):=QD.grown (fun b hb=>Below.heap_alloc w.drew _ b hb) fun b' o' db h=>h.imp id fun h=>h.imp id fun⟨k,ow,h1,h2,h3⟩=>by
     by_cases ek:k=d
     ·simp only[if_pos ek]at h1;injection h1 with h1;subst h1;simp only at h2;omega
     ·simp only[if_neg ek]at h1;exact⟨k,ow,(zF h1).1,h2,h3⟩
    refine EM (eE.held cv _ _ kc) fun j u hj=>⟨?_,fun h=>?_⟩
    ·rw[yy];rw[cell_of_row _ w.heap.size j _ e (0,0) (qX (w:=w.drew) rfl)];have kt:=(yn.1 hj).1;rw[Array.getElem?_append_left (by simp only[Array.size_append,yY];simpa using kt)];simpa using hj
    ·rw [yy] at h;have kt:=(yn.1 hj).1;rw [yj,zf,zh,<- yL] at kt;rcases h with h | (⟨t',n',h⟩ | ⟨t',n',H,h,db⟩) | ⟨k,ow,h1,h2,h3⟩
     ·have:=R.out _ _ h;have:=R.EC;omega
     ·have:=(R.mine _ _ _ h).2.1;omega
     ·have:=((R.obs _ _ _ h).1 _ db).2.1;omega
     ·by_cases ek:k=d
      ·simp only[if_pos ek]at h1;injection h1 with h1;subst h1;simp only at h3;omega
      ·simp only[if_neg ek]at h1;obtain⟨_,_,_,_,sa,h5,_⟩:=R.tok _ _ (zF h1).1;have:=sD h5;omega
   -- nothing new
   have same:m=[]->exV (a.eval X)->∃v w',(execOp a.eval o).run P w=.ok (.value v) w'/\SG P O nt B F0 aa w0 D ((s.eA (A0.twice d)).put (some d) ⟨.sl (b&&m.isEmpty) (l++m),.own d e⟩) (a.put (some d) v) w':=fun uv aj=>by
    subst uv;have oa:=MX (P:=P) (w:=w) ht hi o.type (A:=A) xx kg;rw[<- hv]at oa;have R1:=R.less A0 d;refine⟨_,_,ul _ _ oa,ι,_,R1.put hd ?_ (.inl aj)⟩;have hb:(b&&List.isEmpty ([]:List (List AV)))=b:=by simp
    show WD _ _ _ _ (.sl (b&&List.isEmpty []) (l++[])) _;rw[hb,yF];have hless:QD (BE aa ι Θ) (BE aa ι (Θ.less A0 d)) w w:=QD.less fun b o h=>h.imp id fun h=>h.imp id fun⟨k,ow,h1,h2⟩=>⟨k,ow,(zF h1).1,h2⟩
    have hlessB:QD (uF ι Θ) (uF ι (Θ.less A0 d)) w w:=QD.less fun b o h=>h.imp id fun⟨k,ow,h1,h2⟩=>⟨k,ow,(zF h1).1,h2⟩
    exact WD.held (Ix.Le.refl _) hless hlessB _ _ hX.1
   have exact:exV (a.eval X)->∃v w',(execOp a.eval o).run P w=.ok (.value v) w'/\SG P O nt B F0 aa w0 D ((s.eA (A0.twice d)).put (some d) ⟨.sl (b&&m.isEmpty) (l++m),.own d e⟩) (a.put (some d) v) w':=fun aj=>by
    obtain⟨A',n',hex'⟩:=aj;rw[hv]at hex';injection hex' with e1 e2 e3;rcases yZ m.length with h0|h0
    ·exact same (Y04 h0) ⟨A',n',by rw[hv,e1,e2,e3]⟩
    ·exact grow (by omega)
   rcases hAk with rfl|⟨k,rfl⟩
   ·exact exact lx
   ·rcases lx with lx | ⟨ow,hk,hoe,lx⟩
    ·exact exact lx
    ·rw[hv]at lx;injection lx with e1 e2 e3;obtain⟨hgB,hosz,honc,hocm,cur,mh,bz⟩:=R.tok k ow hk;rw[hoe]at mh;have gt:ow.sz=i.size:=by
      have:=bz.2;rw[hoe]at this;simp[CE,hi]at this;exact this.symm
     rcases Nat.lt_or_ge c (l.length+m.length)with ba|ej
     ·exact grow ba
     ·subst e1;have oa:=z7 (P:=P) (w:=w) ht hi o.type mh (by rw[bz.1,gt]) sr kg eo (n:=l.length) (m:=m.length) (c:=ow.c) (by omega);have li:l.length*i.size+news.length<=cur.toList.length:=by
       have ge:cur.toList.length=ow.c*i.size:=by rw[Y02,bz.1,gt]
       rw[zh,<- yL,ge];exact Y0e _ (by omega)
      obtain⟨new,fd⟩:∃new,new=(cur.toList.take (l.length*i.size)++news++cur.toList.drop (l.length*i.size+news.length)).toArray:=⟨_,rfl⟩;rw[<- fd]at oa;have oz:new.size=cur.size:=by
       rw[fd];simp only[yY,yj,yz,yJ];simp only[Y02]at li ⊢;omega
      have xv:ow.n*ow.sz=l.length*i.size:=by rw[<- e2,gt]
      have dt:(cur.toList.take (l.length*i.size)).length=l.length*i.size:=by rw[yz];omega
      have ew:∀j,j<l.length*i.size->new[j]?=cur[j]?:=fun j hj=>by
       rw[fd,List.getElem?_toArray,yx,yT (by omega),yK,if_pos hj];simp
      have hxs':∀j u,(xs++news)[j]?=some u->new[j]?=some u:=fun j u hj=>by
       rcases Nat.lt_or_ge j (l.length*i.size)with kt|kt
       ·rw[ew j kt];rw[yT (by omega)]at hj;have:=mg _ rfl j u hj;rw[Addr.add_lit,yy,cell_of_row w ow.g j cur e (0,0) mh]at this;exact this
       ·rw[yP (by omega),zf]at hj;have hjn:=(yn.1 hj).1;rw[fd,List.getElem?_toArray,yx,yP (by omega),dt,yT hjn];exact hj
      have R1:=R.spare (new:=new) hk (by rw[hoe];exact mh) oz (fun j hj=>ew j (by omega));have wu:(w.setRow ow.g new).heap[ow.g]?=some (.cells new e (0,0)):=setRow_heap w ow.g cur new e (0,0) mh;have ld:∀b o,uF ι (fun j=>if j=d then some ⟨ow.g,l.length+m.length,ow.c,i.size,e⟩else Θ.less (.own k e) d j) b o->uF ι Θ b o:=fun b o h=>h.imp id fun⟨k',ow',h1,h2,h3⟩=>by
       by_cases ek:k'=d
       ·simp only[if_pos ek]at h1;injection h1 with h1;subst h1;refine⟨k,ow,hk,h2,?_⟩;simp only[yL]at h3;omega
       ·simp only[if_neg ek]at h1;exact⟨k',ow',(zF h1).1,h2,h3⟩
      have R2:=R1.fam (fun j=>if j=d then some ⟨ow.g,l.length+m.length,ow.c,i.size,e⟩else Θ.less (.own k e) d j) ((An.own k e).twice d) ld
       (Ii fun j o' h=>by have:=(zF h).2.1;simp only[if_neg this];exact h)
       (fun k' o' h=>by
        by_cases ek:k'=d
        ·simp only[if_pos ek]at h;injection h with h;subst h;exact⟨hgB,gc,by simp only;omega,hocm,new,wu,by rw[oz,bz.1,gt],by simp[CE,hi]⟩
        ·simp only[if_neg ek]at h;exact R1.tok k' o' (zF h).1)
       (fun k' k'' o' o'' h h' hg=>by
        by_cases e1:k'=d<;>by_cases e2:k''=d
        ·rw[e1,e2]
        ·simp only[if_pos e1]at h;simp only[if_neg e2]at h';injection h with h;subst h;exact absurd (R.ZA _ _ _ _ hk (zF h').1 hg).symm ((zF h').2.2 k e rfl)
        ·simp only[if_neg e1]at h;simp only[if_pos e2]at h';injection h' with h';subst h';exact absurd (R.ZA _ _ _ _ (zF h).1 hk hg) ((zF h).2.2 k e rfl)
        ·simp only[if_neg e1]at h;simp only[if_neg e2]at h';exact R.ZA _ _ _ _ (zF h).1 (zF h').1 hg)
       (fun k' o' t' n' h=>by
        by_cases ek:k'=d
        ·simp only[if_pos ek]at h;injection h with h;subst h;exact R.apart k ow t' n' hk
        ·simp only[if_neg ek]at h;exact R.apart k' o' t' n' (zF h).1)
       (fun k' o' t' n' H h hH=>by
        by_cases ek:k'=d
        ·simp only[if_pos ek]at h;injection h with h;subst h;show ¬H ow.g;exact R.lC hk hH
        ·simp only[if_neg ek]at h;exact R.lC (zF h).1 hH)
      have hv':a.eval X=.slice (some ⟨ow.g,0,none⟩) l.length ow.c:=by rw[hv,e3]
      rw[<- hv']at oa;refine⟨_,_,ul _ _ oa,ι,_,R2.put hd ?_ (.inr ⟨_,if_pos rfl,rfl,rfl⟩)⟩;show WD _ _ _ _ (.sl (b&&m.isEmpty) (l++m)) _;have hb:b=false:=by
       cases b with
       |false=>rfl
       |true=>have:=(hn rfl).1;cases this
      rw[hb,Bool.false_and,FG];simp only[ZG,yj];refine⟨_,_,rfl,by omega,huni,(fun h=>by cases h),fun _=>⟨fun h=>(by cases h),fun _=>⟨ow.g,0,rfl,?_⟩⟩⟩;rw[XG];have cv:QD (BE aa ι Θ) (BE aa ι (fun j=>if j=d then some ⟨ow.g,l.length+m.length,ow.c,i.size,e⟩else Θ.less (.own k e) d j)) w (w.setRow ow.g new):=⟨fun b' o' u hc hna=>by
       refine⟨?_,fun h=>hna (h.imp id (ld b' o'))⟩;by_cases db:b'=ow.g
       ·subst db;rw[cell_of_row _ ow.g o' new e (0,0) wu];have:o'<l.length*i.size:=by
         rcases Nat.lt_or_ge o' (l.length*i.size)with h|h
         ·exact h
         ·exact absurd (.inr (.inr ⟨k,ow,hk,rfl,by omega⟩)) hna
        rw[ew o' this,<- cell_of_row w ow.g o' cur e (0,0) mh];exact hc
       ·exact(World.cell?_of_block (w:=w) (a:=⟨b',o',none⟩) (setRow_other w ow.g b' new db)).trans hc⟩
      refine EM (eE.held cv _ _ kc) fun j u hj=>⟨?_,fun h=>?_⟩
      ·rw[yy,cell_of_row _ ow.g j new e (0,0) wu];exact hxs' j u hj
      ·rw [yy] at h;have kt:=(yn.1 hj).1;rw [yj,zf,zh,<- yL] at kt;rcases h with h | (⟨t',n',h⟩ | ⟨t',n',H,h,db⟩) | ⟨k',ow',h1,h2,h3⟩
       ·have:=R.out _ _ h;omega
       ·exact R.apart k ow t' n' hk h
       ·exact R.lC hk h db
       ·by_cases ek:k'=d
        ·simp only[if_pos ek]at h1;injection h1 with h1;subst h1;simp only at h3;omega
        ·simp only[if_neg ek]at h1;exact absurd (R.ZA _ _ _ _ (zF h1).1 hk h2) ((zF h1).2.2 k e rfl)
  ·cases hr
 ·cases hr
def Ix.del (ι:Ix)(t n:Nat):Ix:=⟨fun t' n'=>if t'=t/\n'=n then .none else ι t' n',ι.ob,ι.z⟩
theorem Ix.AA {ι:Ix}{t n t' n' b:Nat}(h:(ι.del t n) t' n'=some b):ι t' n'=some b/\¬(t'=t/\n'=n):=by
 have h':(if t'=t/\n'=n then Option.none else ι t' n')=Option.some b:=h;split at h'
 ·cases h'
 ·rename_i hn;exact⟨h',hn⟩
theorem Ix.FB (ι:Ix)(t n:Nat):Ix.Lk t n ι (ι.del t n):=⟨fun t' n' b hn h=>by
 show(if t'=t/\n'=n then Option.none else ι t' n')=Option.some b;rw[if_neg hn];exact h,fun _ _ _ _=>rfl⟩
theorem zG.kill {t n:Nat}{ι':Ix}{av pb:Av}{r:List SC}{cur:Array Value}(h:zG ι Θ av w r cur)(hι:Ix.Lk t n ι ι')(hh:QD av pb w w):zG ι' Θ pb w (r.map (SC.kill t n)) cur:=by
 refine⟨by simpa using h.1,fun j x hx=>?_⟩;rw[yk]at hx;cases hj:r[j]? with
 |none=>rw[hj]at hx;cases hx
 |some y =>
  rw[hj]at hx;injection hx with hx;subst hx;obtain⟨u,hu,h1,hr,ha⟩:=h.2 j y hj;refine⟨u,hu,h1,?_,ha⟩;have hk:=RD.kill hι hh y.v u hr;show RD ι' pb w (y.v.kill t n) u;cases hy:y.v with
  |agg cs=>rw[hy]at hr;obtain⟨us,rfl,_⟩:=hr;simp[Value.oneCell']at h1
  |fA cs=>rw[hy]at hr;obtain⟨us,rfl,_⟩:=hr;simp[Value.oneCell']at h1
  |_=>rw[hy]at hk;exact hk
theorem DE.kill (R:DE P O nt B F0 aa w0 D s a w ι Θ){t n:Nat}(xv:t≠0){r:List SC}(hm:s.mem t n=some r):DE P O nt B F0 aa w0 D (s.kill t n) a w (ι.del t n) Θ:=by
 have gd:=(R.rows t n r hm).1;have ec:=Ix.FB ι t n;have ll:∀b o,uF (ι.del t n) Θ b o->uF ι Θ b o:=fun b o h=>h.imp (fun h=>h.imp (fun⟨t',n',h⟩=>⟨t',n',(Ix.AA h).1⟩) id) id
 have hB:QD (uF ι Θ) (uF (ι.del t n) Θ) w w:=QD.less ll;have hA:QD (BE aa ι Θ) (BE aa (ι.del t n) Θ) w w:=QD.less fun b o h=>h.imp id (ll b o)
 refine⟨R.defers,R.size,fun j=>WD.kill ec hA hB _ _ (R.env j),R.aC,fun t' n' r' hr=>?_,fun t' n' b h=>R.mine t' n' b (Ix.AA h).1,fun t1 n1 t2 n2 b h h'=>R.inj t1 n1 t2 n2 b (Ix.AA h).1 (Ix.AA h').1,R.tok,R.ZA,fun k o t' n' h h'=>R.apart k o t' n' h (Ix.AA h').1,R.out,fun p h=>?_,R.kept,R.base,fun t' n' S h=>?_,fun t' n' H h=>?_,fun j=>WD.kill ec hA hB _ _ (R.gen j),R.pB⟩
 ·simp only [LC.kill] at hr;split at hr
  ·cases hr
  ·rename_i hn;cases we:s.mem t' n' with
   |none=>rw[we]at hr;cases hr
   |some r0 =>
    rw[we]at hr;injection hr with hr;subst hr;obtain⟨h0,b,cur,ty,h1,h2,h3,h4⟩:=R.rows t' n' r0 we;exact⟨h0,b,cur,ty,ec.f _ _ _ hn h1,h2,h3.kill ec hA,h4⟩
 ·obtain⟨h1,h2⟩:=R.pin p h;exact⟨ec.f _ _ _ (fun e=>xv e.1.symm) h1,h2.imp (fun g=>⟨g.1,(ec.z _ _ _ h1).trans g.2⟩) id⟩
 ·obtain ⟨p,H,h1,h2,h3,h4⟩:=R.qB t' n' S h;have lf:∀ t1 n1 b1 H1,ι t1 n1=some b1->ι.ob t1 n1=some H1->(ι.del t n) t1 n1=some b1:=fun t1 n1 b1 H1 g1 g2=>ec.f _ _ _ (fun e=>by rw [<- e.1,<- e.2,g2] at gd; cases gd) g1
  exact⟨p,H,lf _ _ _ _ h1 h2,h2,h3,h4.keep (fun t1 n1 b1 H1 g1 g2=>⟨lf _ _ _ _ g1 g2,H1,g2⟩) fun x hx=>hx⟩
 ·obtain⟨h1,h2⟩:=R.obs t' n' H h;refine⟨fun b hb=>?_,h2⟩;obtain⟨g1,g2,g3,g4,g5⟩:=h1 b hb;exact⟨g1,g2,fun t2 n2 h=>g3 t2 n2 (Ix.AA h).1,g4,g5⟩
theorem DE.ren (R:DE P O nt B F0 aa w0 D s a w ι Θ){t n:Nat}(xv:t≠0){r:List SC}(hm:s.mem t n=some r)(jf:r.map (SC.kill t n)=r){d:Nat}(hd:d<nt)(hD:¬D d){x:AV}{v:Value}
  (hx:∀ι':Ix,ι' d s.next=ι t n->(∀b,ι'.z b=ι.z b)->WD ι' (BE aa ι' Θ) (uF ι' Θ) w x v) :
  ∃ι',DE P O nt B F0 aa w0 (fun j=>D j\/j=d) (((s.kill t n).setRow d s.next r).put (some d) ⟨x,.no⟩) (a.put (some d) v) w ι' Θ:=by
 obtain⟨gd,b0,cur0,ky,dz,hheap0,ai,jx,fc⟩:=R.rows t n r hm;have dg:ι d s.next=none:=by
  cases h:ι d s.next with
  |none=>rfl
  |some b =>
   rcases(R.mine _ _ _ h).2.2 with h1|h1
   ·omega
   ·exact absurd h1.2 hD
 have pf:ι.ob d s.next=none:=by
  cases h:ι.ob d s.next with
  |none=>rfl
  |some b =>
   rcases(R.obs _ _ _ h).2 with h1|h1
   ·omega
   ·exact absurd h1.2 hD
 have ua:¬(t=d/\n=s.next):=fun e=>by rw[e.1,e.2,dg]at dz;cases dz
 obtain⟨ι',hι'⟩:∃ι':Ix,ι'=⟨fun t' n'=>if t'=d/\n'=s.next then some b0 else(ι.del t n) t' n',ι.ob,ι.z⟩:=⟨_,rfl⟩;have fd:ι' d s.next=some b0:=by subst hι';show(if d=d/\s.next=s.next then some b0 else _)=_;rw[if_pos ⟨rfl,rfl⟩]
 have rd:∀t' n' b,ι' t' n'=some b->(t'=d/\n'=s.next/\b=b0)\/(ι t' n'=some b/\¬(t'=t/\n'=n)/\¬(t'=d/\n'=s.next)):=fun t' n' b h=>by
  subst hι';have h':(if t'=d/\n'=s.next then some b0 else(ι.del t n) t' n')=some b:=h;split at h'
  ·rename_i e;injection h' with h';exact .inl ⟨e.1,e.2,h'.symm⟩
  ·rename_i e;exact .inr ⟨(Ix.AA h').1,(Ix.AA h').2,e⟩
 have uc:ι'.ob=ι.ob:=by subst hι';rfl
 have ec:Ix.Lk t n ι ι':=⟨fun t' n' b hn h=>by
  subst hι';show(if t'=d/\n'=s.next then some b0 else(ι.del t n) t' n')=some b;rw[if_neg (fun e=>by rw[e.1,e.2,dg]at h;cases h)];exact(Ix.FB ι t n).f _ _ _ hn h,fun _ _ _ _=>by subst hι';rfl⟩
 have cq:∀b,ι'.z b=ι.z b:=fun b=>by subst hι';rfl
 clear hι';have ll:∀b o,uF ι' Θ b o->uF ι Θ b o:=fun b o h=>h.imp (fun h=>h.imp (fun⟨t',n',h⟩=>by
  rcases rd _ _ _ h with⟨_,_,e⟩|⟨h,_⟩
  ·exact⟨t,n,e▸dz⟩
  ·exact⟨t',n',h⟩) (fun⟨t',n',H,h,hb⟩=>⟨t',n',H,uc▸h,hb⟩)) id
 have hB:QD (uF ι Θ) (uF ι' Θ) w w:=QD.less ll;have hA:QD (BE aa ι Θ) (BE aa ι' Θ) w w:=QD.less fun b o h=>h.imp id (ll b o)
 refine⟨ι',DE.put (s:=(s.kill t n).setRow d s.next r) ⟨R.defers,R.size,fun j=>WD.kill ec hA hB _ _ (R.env j),R.aC,fun t' n' r' hr=>?_,fun t' n' b h=>?_,fun t1 n1 t2 n2 b h h'=>?_,R.tok,R.ZA,fun k o t' n' h h'=>?_,R.out,fun p h=>?_,R.kept,R.base,fun t' n' S h=>?_,fun t' n' H h=>?_,fun j=>WD.kill ec hA hB _ _ (R.gen j),R.pB⟩ hd (hx _ (fd.trans dz.symm) cq) trivial⟩
 ·simp only [LC.setRow] at hr;split at hr
  ·rename_i e;injection hr with hr;subst hr;refine⟨by rw[uc,e.1,e.2];exact pf,b0,cur0,ky,by rw[e.1,e.2];exact fd,hheap0,?_,jx,fc.trans (cq _).symm⟩;have:=ai.kill ec hA;rw[jf]at this;exact this
  ·simp only [LC.kill] at hr;split at hr
   ·cases hr
   ·rename_i hn;cases we:s.mem t' n' with
    |none=>rw[we]at hr;cases hr
    |some r0 =>
     rw[we]at hr;injection hr with hr;subst hr;obtain⟨h0,b,cur,ty,h1,h2,h3,h4,h5⟩:=R.rows t' n' r0 we;exact⟨uc▸h0,b,cur,ty,ec.f _ _ _ hn h1,h2,h3.kill ec hA,h4,h5.trans (cq _).symm⟩
 ·rcases rd _ _ _ h with ⟨e1,e2,e3⟩ | ⟨h,_⟩
  ·subst e1;subst e3;obtain⟨h1,h2,_⟩:=R.mine t n b dz;exact⟨h1,h2,.inr ⟨e2,.inr rfl⟩⟩
  ·obtain⟨h1,h2,h3⟩:=R.mine t' n' b h;exact⟨h1,h2,h3.imp id fun⟨e,d⟩=>⟨e,.inl d⟩⟩
 ·rcases rd _ _ _ h with ⟨e1,e2,e3⟩ | ⟨h,hn,_⟩ <;> rcases rd _ _ _ h' with ⟨f1,f2,f3⟩ | ⟨h',im,_⟩
  ·exact⟨e1.trans f1.symm,e2.trans f2.symm⟩
  ·subst e3;exact absurd (R.inj _ _ _ _ _ h' dz) im
  ·subst f3;exact absurd (R.inj _ _ _ _ _ h dz) hn
  ·exact R.inj _ _ _ _ _ h h'
 ·rcases rd _ _ _ h' with ⟨e1,e2,e3⟩ | ⟨h',_⟩
  ·exact R.apart k o t n h (e3▸dz)
  ·exact R.apart k o t' n' h h'
 ·obtain⟨h1,h2⟩:=R.pin p h;exact⟨ec.f _ _ _ (fun e=>xv e.1.symm) h1,h2.imp (fun g=>⟨g.1,(ec.z _ _ _ h1).trans g.2⟩) fun g=>uc▸g⟩
 ·obtain ⟨p,H,h1,h2,h3,h4⟩:=R.qB t' n' S h;have lf:∀ t1 n1 b1 H1,ι t1 n1=some b1->ι.ob t1 n1=some H1->ι' t1 n1=some b1:=fun t1 n1 b1 H1 g1 g2=>ec.f _ _ _ (fun e=>by rw [<- e.1,<- e.2,g2] at gd; cases gd) g1
  exact⟨p,H,lf _ _ _ _ h1 h2,uc▸h2,h3,h4.keep (fun t1 n1 b1 H1 g1 g2=>⟨lf _ _ _ _ g1 g2,H1,uc▸g2⟩) fun x hx=>hx⟩
 ·rw [uc] at h;obtain ⟨h1,h2⟩:=R.obs t' n' H h;refine ⟨fun b hb=>?_,h2.imp id fun ⟨e,d⟩=>⟨e,.inl d⟩⟩;obtain ⟨g1,g2,g3,g4,g5⟩:=h1 b hb;refine ⟨g1,g2,fun t2 n2 h'=>?_,g4,uc ▸ g5⟩;rcases rd _ _ _ h' with ⟨e1,e2,e3⟩ | ⟨h',_⟩
  ·exfalso;have e:=g3 t n (e3▸dz);rw[<- e.1,<- e.2]at h;rw[gd]at h;cases h
  ·exact g3 t2 n2 h'
theorem Ac {av:Av}{cs:List AV}{us:List Value}(h:eE av w cs us){cur:Array Value}(hc:∀(j:Nat) (u:Value),us[j]?=some u->cur[j]?=some u):zG ι Θ av w (cs.map (⟨·,.no⟩)) cur:=by
 have da:=xF (jG (ι:=ι) h);constructor
 ·rw [yc];rcases yZ cs.length with h0 | h0
  ·omega
  ·have:=hc (cs.length-1) us[cs.length-1] (yf (by omega));have:=(Array.getElem?_eq_some_iff.1 this).1;omega
 ·intro j x hx;rw [yk] at hx;cases hj:cs[j]? with
  |none=>rw[hj]at hx;cases hx
  |some y =>
   rw[hj]at hx;injection hx with hx;subst hx;obtain⟨u,hu,h1,hr⟩:=ZL (jG (ι:=ι) h) hj;exact⟨u,hc j u hu,h1,hr,trivial⟩
theorem DE.drew (R:DE P O nt B F0 aa w0 D s a w ι Θ):DE P O nt B F0 aa w0 D s a w.drew ι Θ:=R.grow (w':=w.drew) (fun _ _=>rfl) (yl _) R.kept.drew
theorem u9 (s:LC)(t n:Nat)(r:List SC):(s.setRow t n r).kill t n=s.kill t n:=by
 simp only[LC.setRow,LC.kill];congr 1;funext t' n';by_cases h:t'=t/\n'=n<;>simp[h]
theorem F6 {av:Av}{cs:List AV}{us:List Value}(h:cD ι av w cs us){cur:Array Value}(hc:∀(j:Nat) (u:Value),us[j]?=some u->cur[j]?=some u):zG ι Θ av w (cs.map (⟨·,.no⟩)) cur:=by
 have da:=xF h;constructor
 ·rw [yc];rcases yZ cs.length with h0 | h0
  ·omega
  ·have:=hc (cs.length-1) us[cs.length-1] (yf (by omega));have:=(Array.getElem?_eq_some_iff.1 this).1;omega
 ·intro j x hx;rw [yk] at hx;cases hj:cs[j]? with
  |none=>rw[hj]at hx;cases hx
  |some y =>
   rw[hj]at hx;injection hx with hx;subst hx;obtain⟨u,hu,h1,hr⟩:=ZL h hj;exact⟨u,hc j u hu,h1,hr,trivial⟩
theorem CV {t n:Nat}{v:AV}(h:v.eB t n=true):v.rA t n=v/\v.kill t n=v:=by
  cases v<;>first
    |exact⟨rfl,rfl⟩
    | (simp only [AV.eB,Bool.not_eq_true',Bool.and_eq_false_imp,decide_eq_true_eq,decide_eq_false_iff_not] at h
       have h':¬(_=t/\_=n):=fun e=>h e.1 e.2
       exact⟨by simp only[AV.rA,if_neg h'],by simp only[AV.kill,AV.rA,if_neg h']⟩)
    |cases h
theorem T8 {t n:Nat}{l:List AV}(h:l.all (AV.eB t n)=true):l.map (AV.rA t n)=l:=by
 have:l.map (AV.rA t n)=l.map id:=yE fun x hx=>(CV (ye.1 h x hx)).1
 rwa [List.map_id]at this
theorem R8 {t n:Nat}{l:List AV}(h:l.all (AV.eB t n)=true):(l.map (⟨·,.no⟩)).map (SC.kill t n)=l.map (⟨·,.no⟩):=by
 rw[y9];apply yE;intro x hx;show(⟨x.kill t n,.no⟩:SC)=⟨x,.no⟩;rw[(CV (ye.1 h x hx)).2]
theorem I6 (R:DE P O nt B F0 aa w0 D s a w ι Θ){t e:TypeId}{i:TypeInfo}{z:List AV}(ht:P.underlying t=some (.slice e))(hi:P.info? e=some i)(hz:JL P e=some z)(zc:z.length=i.size)(gc:0<i.size){X Y:Operand}{x y:EE}(hx:pA X=some x)(hy:pA Y=some y)
  (ho:o.op=.call { callee:=.builtin .append,args:=#[X,Y],argTypes:=#[t,t] }) {d:Nat} (ka:o.dst=some d) (hd:d<nt) (hD:¬D d) {cl:Cl} {call} {xe:SC×uG} (hr:(K.jB cl e i.size i.bytes x y).run call s=some xe) {g} {s':LC} (he:aD.eff ⟨o.dst,.jB cl e i.size i.bytes x y,g⟩ s xe=some s') :
  ∃v w',(execOp a.eval o).run P w=.ok (.value v) w'/\SG P O nt B F0 aa w0 (fun t=>D t\/t=d) s' (a.put o.dst v) w':=by
 obtain⟨zv,i',ee,sr,om,hl⟩:=NJ hz w;rw[hi]at ee;injection ee with ee;subst ee;have fk:zv.cells.size=i.size:=by
  have:=OJ hl;simp only[Y02]at this;omega
 have hX:=R.pA hx;have hY:=(R.pA hy).1;have ul:∀v w',(Builtin.append_ #[t,t] o.type #[a.eval X,a.eval Y]).run P w=.ok v w'->(execOp a.eval o).run P w=.ok (.value v) w':=fun v w' h=>by
  simp only[execOp,ho,resolve,invoke,builtin,Sem.run_bind,Sem.run_pure,Result.andThen_ok,List.map_toArray,ym,yQ,h]
 -- a new block for l++m
 have grow:∀{s1:LC}{ι1:Ix}{l m:List (List AV)}{xs news:List Value}{A:Option Addr}{ln c:Nat},DE P O nt B F0 aa w0 D s1 a w.drew ι1 Θ->a.eval X=.slice A ln c->xs.length=ln*i.size->(A=none->ln=0/\c=0)->(∀a',A=some a'->∀j u,xs[j]?=some u->w.cell? (a'.add j)=some u) →
   l.length=ln->Sl (fun _=>False) w i.size (a.eval Y) m.length news->c<ln+m.length->ln<=c->cD ι1 (BE aa ι1 Θ) w.drew (l++m).flatten (xs++news)->pD i.bytes (ln+m.length)=true →
   ∃v w',(execOp a.eval o).run P w=.ok (.value v) w'/\SG P O nt B F0 aa w0 (fun t=>D t\/t=d) ((s1.setRow d s1.next ((l++m).flatten.map (⟨·,.no⟩))).put (some d) ⟨.ref d s1.next i.size 0 (ln+m.length) (ln+m.length),.no⟩) (a.put (some d) v) w':=by
  intro s1 ι1 l m xs news A ln c R1 hv oc hA bq ub kg ba xx kc ga;obtain⟨kh,cf⟩:=XC.1 ga;have oa:=NX (P:=P) (w:=w) ht hi sr o.type oc hA bq kg ba xx cf kh;rw[<- hv]at oa;have ej:=grownCap_ge w (ln+m.length) c e;have oz:news.length=m.length*i.size:=kg.1;have ja:zG ι1 Θ (BE aa ι1 Θ) w.drew ((l++m).flatten.map (⟨·,.no⟩)) (xs.toArray++news.toArray++Builtin.zeroCells zv.cells (grownCap w (ln+m.length) c e-(ln+m.length))):=F6 kc fun j u hj=>by
   have kt:=(yn.1 hj).1;rw[Array.getElem?_append_left (by simp only[Array.size_append,yY];simpa using kt)];simpa using hj
  obtain⟨ι',h⟩:=R1.new hd hD e ja (x:=.ref d s1.next i.size 0 (ln+m.length) (ln+m.length)) (v:=.slice (some ⟨w.heap.size,0,none⟩) (ln+m.length) (grownCap w (ln+m.length) c e)) (fun ι' h hz=>⟨_,h,yl _,_,ej,by
   rw[show ι'.z w.drew.heap.size=_ from hz,yy];simp only[Array.size_append,yY,size_zeroCells,fk,oc,oz,<- yL];exact Y0e _ (by omega),rfl⟩)
  exact⟨_,_,ul _ _ oa,ι',Θ,h⟩
 have drewHeld:QD (BE aa ι Θ) (BE aa ι Θ) w w.drew:=QD.grown (fun _ _=>rfl) fun _ _ _ h=>h
 simp only[K.run]at hr;split at hr
 ·rename_i b l m ue fb;split at hr
  ·rename_i ia;obtain ⟨ga,nb,uv⟩:=ia;have bd:∀ c∈l++m,c.length=i.size:=fun c hc=>by simpa using ye.1 nb c hc
   have we:∀c∈m,c.length=i.size:=fun c hc=>bd c (List.mem_append_right _ hc)
   have lv:∀c∈l,c.length=i.size:=fun c hc=>bd c (List.mem_append_left _ hc)
   obtain⟨news,zb,kg⟩:=Ni R hY fb gc we;rw[ue]at hX;have ox:=hX.1;rw[FG]at ox;obtain⟨xs,oc,ww⟩:=aO (cl:=cl) R hX.1 (m:=l) rfl gc lv;simp only[ZG]at ox;obtain⟨A,c,hv,xx,hu,hn,hs⟩:=ox;have zf:xs.length=l.length*i.size:=ww.1;have mg:∀a',A=some a'->∀j u,xs[j]?=some u->w.cell? (a'.add j)=some u:=fun a' ha j u hj=>by
    obtain⟨_,A2,c2,hv2,_,h2⟩:=ww;rw[hv]at hv2;injection hv2 with e1 e2 e3;subst e1;have hp:0<l.length:=by
     rcases yZ l.length with h|h
     ·rw[h]at zf;have:=(yn.1 hj).1;omega
     ·exact h
    obtain⟨b',off,hA,_,_,ge⟩:=h2 hp;rw[ha]at hA;injection hA with hA;subst hA;rw[Addr.add_lit];exact ge j u hj
   split at hr
   ·rename_i wm;have hXe:exV (a.eval X):=by
     cases b with
     |false=>have h2:=hX.2;rw[show x.an s=.ex from wm]at h2;exact h2
     |true =>
      obtain⟨h1,h2,h3⟩:=hn rfl;exact⟨none,0,by rw[hv,h1,h2,h3]⟩
    obtain⟨A',n',aj⟩:=hXe;rw[hv]at aj;injection aj with e1 e2 e3;injection hr with hr;subst hr;simp only[aD.eff,ka]at he;injection he with he;subst he;rw[ka];exact grow R.drew hv zf (fun hA=>by
     cases b with
     |true=>have:=hn rfl;exact⟨this.2.1,this.2.2⟩
     |false =>
      obtain⟨h1,h2⟩:=hs rfl;refine⟨?_,h1 hA⟩;rcases yZ l.length with h0|h0
      ·exact h0
      ·obtain⟨_,_,ha,_⟩:=h2 h0;rw[hA]at ha;cases ha) mg rfl kg (by omega) xx (by rw[Y0l];exact UJ (jG (eE.held drewHeld _ _ oc)) (cD.held (Ix.Le.refl _) drewHeld _ _ zb)) ga
   ·cases hr
  ·cases hr
 ·rename_i t' n sz off ln cp m ue fb;split at hr
  ·rename_i l ub;split at hr
   ·rename_i ia;obtain ⟨rfl,rfl,ga,nb,xv,wg⟩:=ia;injection hr with hr;subst hr;have we:∀ c∈m,c.length=i.size:=fun c hc=>by simpa using ye.1 nb c hc
    obtain⟨news,zb,kg⟩:=Ni R hY fb gc we;rw[ue]at hX;obtain⟨b,hb,bc,cc,th,hzb,hv⟩:=lK.1 hX.1;simp only[AV.QB]at ub;split at ub
    ·cases hm:s.mem t' n with
     |none=>rw[hm]at ub;cases ub
     |some r =>
      rw[hm,J]at ub;obtain⟨gd,b',cur,ty,db,ra,ja,sk,jo⟩:=R.rows t' n r hm;rw[hb]at db;injection db with db;subst db;obtain⟨hln,lv,xs,oc,mg⟩:=PS ja ra ub;simp only[yy]at mg hzb;have ev:∀{q:List (List AV)},(∀c∈q,c.length=i.size)->q.flatten.length=q.length*i.size:=fun{q} hq=>by
       induction q with
       |nil=>simp
       |cons c r ih=>rw[yA,yj,hq c (by simp),ih (fun c hc=>hq c (by simp[hc])),yG,yN];omega
      have zf:xs.length=ln*i.size:=by
       have:=xF oc;rw[this,ev lv,hln]
      have zh:news.length=m.length*i.size:=kg.1;have kc:cD ι (BE aa ι Θ) w (l++m).flatten (xs++news):=by rw[Y0l];exact UJ oc zb
      have kv:(l++m).flatten.map (AV.rA t' n)=(l++m).flatten:=T8 wg;simp only[aD.eff,ka,LC.zA]at he;injection he with he;subst he;rw[ka];rcases Nat.lt_or_ge cc (ln+m.length)with ba|ej
      ·have ec:QD (BE aa ι Θ) (BE aa (ι.del t' n) Θ) w w.drew:=QD.grown (fun _ _=>rfl) fun b o _ h=>h.imp id fun h=>h.imp (fun h=>h.imp (fun ⟨t',n',h⟩=>⟨t',n',(Ix.AA h).1⟩) id) id
       exact grow (R.drew.kill xv hm) hv zf (fun h=>by cases h) (fun a' ha j u hj=>by
        injection ha with ha;subst ha;rw[Addr.add_lit,yy];exact mg j u hj) hln kg ba (yH bc th) (by have:=cD.kill (Ix.FB ι t' n) ec _ _ kc;rwa [kv]at this) ga
      ·obtain⟨new,fd⟩:∃new,new=(cur.toList.take (ln*i.size)++news++cur.toList.drop (ln*i.size+news.length)).toArray:=⟨_,rfl⟩;have li:ln*i.size+news.length<=cur.size:=by
        rw[zh,<- yL,jo];exact yH (Y0e _ ej) hzb
       have oa:(Builtin.append_ #[t,t] o.type #[a.eval X,a.eval Y]).run P w=.ok (.slice (some ⟨b,0,none⟩) (ln+m.length) cc) (w.setRow b new):=by
        rw[hv,fd];obtain⟨oe,A,c',hsv,hc,jc⟩:=kg;rw[hsv];cases A with
        |none =>
         have uv:m.length=0:=by
          rcases yZ m.length with h|h
          ·exact h
          ·obtain⟨b,off,hA,_⟩:=jc h;cases hA
         have wg:news=[]:=Y04 (by rw[zh,uv,Nat.zero_mul]);subst wg;rw[uv]at ej ⊢;have jw:w.setRow b (cur.toList.take (ln*i.size)++[]++cur.toList.drop (ln*i.size+([]:List Value).length)).toArray=w:=by
          simp only[yF,List.length_nil,yV,Y0c,Y07];exact setRow_self w b cur ty (0,0) ra
         rw[jw];simp only[yV]at ej;simp[Builtin.append_,run_underlying ht,sizeOf,typeInfo,hi,Builtin.lenOf,Builtin.firstCells,ej,storeCells]
        |some a' =>
         have hnews':∀(j:Nat)(u:Value),news[j]?=some u->w.cell? (a'.add j)=some u:=fun j u hu=>by
          have uv:0<m.length:=by
           rcases yZ m.length with h|h
           ·rw[h]at zh;have:=(yn.1 hu).1;omega
           ·exact h
          obtain⟨b,off,hA,_,_,ge⟩:=jc uv;injection hA with hA;subst hA;rw[Addr.add_lit];exact ge j u hu
         have iu:=run_loadCells_list (P:=P) w a' news hnews';rw[zh]at iu;have sb:=run_storeCells_at P b (ln*i.size) ty news 0 cur w ra (by simpa using li) (H3 zb);simp only[yV]at sb;simp[Builtin.append_,run_underlying ht,sizeOf,typeInfo,hi,Builtin.lenOf,Builtin.firstCells,ej,iu,Addr.add_lit,sb]
       have hns:new.size=cur.size:=by
        rw[fd];simp only[yY,yj,yz,yJ,Y02];omega
       have rp:zG ι Θ (BE aa ι Θ) w ((l++m).flatten.map (⟨·,.no⟩)) new:=F6 kc fun j u hj=>by
        have dt:(cur.toList.take (ln*i.size)).length=ln*i.size:=by rw[yz,Y02];omega
        rw[fd,List.getElem?_toArray,yx];rcases Nat.lt_or_ge j (ln*i.size)with h|h
        ·rw[yT (by omega)]at hj;have:=mg j u hj;rw[cell_of_row w b j cur ty (0,0) ra]at this;rw[yT (by omega),yK,if_pos h];simpa using this
        ·rw[yP (by omega),zf]at hj;have hjn:=(yn.1 hj).1;rw[yP (by omega),dt,yT hjn];exact hj
       have R1:=R.set hb gd ra rp sk (hns.trans jo);have R2:=R1.ren (t:=t') (n:=n) xv (d:=d) (r:=(l++m).flatten.map (⟨·,.no⟩)) (by simp[LC.setRow]) (R8 wg) hd hD (x:=.ref d s.next i.size 0 (ln+m.length) (ln+m.length)) (v:=.slice (some ⟨b,0,none⟩) (ln+m.length) cc) (fun ι' h1 h2=>⟨b,h1.trans hb,yl _,cc,ej,by rw[h2,yy];exact hzb,rfl⟩);rw[u9]at R2;obtain⟨ι',R2⟩:=R2;exact⟨_,_,ul _ _ oa,ι',Θ,R2⟩
    ·cases ub
   ·cases hr
  ·cases hr
 ·cases hr
theorem O6 {v:AV}{cl:Cl}{l:List (List AV)}(h:v.elems s cl=some l):v.QB s cl=some l:=by
 cases v with
 |ref t n sz off len cap =>
  simp only[AV.elems,AV.QB]at h ⊢;split at h
  ·rename_i hc;rw [if_pos hc];cases hm:s.mem t n with
   |none=>rw[hm]at h;cases h
   |some r =>
    rw[hm,J,KG]at h;split at h
    ·rename_i hr;rw[J,PH,if_pos hr.1];exact h
    ·cases h
  ·cases h
 |_=>exact h
theorem O5 {av:Av}(t n:Nat):∀{xs:List AV}{us:List Value},eE av w xs us->xs.all (AV.eB t n)=true
 | [],_,_=>rfl
 |x::r,_,h=>by
  simp only[eE]at h;obtain⟨u,gb,rfl,h0,h1,h⟩:=h;rw[List.all_cons,O5 t n h,Bool.and_true];cases x<;>first|rfl|(simp[ZG]at h0;done)|(simp only[ZG]at h0;obtain⟨us,rfl,_⟩:=h0;simp[Value.oneCell']at h1;done)
theorem Zi (R:DE P O nt B F0 aa w0 D s a w ι Θ){t e:TypeId}{i:TypeInfo}{z:List AV}(ht:P.underlying t=some (.slice e))(hi:P.info? e=some i)(hz:JL P e=some z)(zc:z.length=i.size)(gc:0<i.size){X Y:Operand}{x y:EE}(hx:pA X=some x)(hy:pA Y=some y)
  (ho:o.op=.call { callee:=.builtin .append,args:=#[X,Y],argTypes:=#[t,t] }) {d:Nat} (ka:o.dst=some d) (hd:d<nt) (hD:¬D d) {cl:Cl} {call} {xe:SC×uG} (hr:(K.dB cl e i.size i.bytes x y).run call s=some xe) {g} {s':LC} (he:aD.eff ⟨o.dst,.dB cl e i.size i.bytes x y,g⟩ s xe=some s') :
  ∃v w',(execOp a.eval o).run P w=.ok (.value v) w'/\SG P O nt B F0 aa w0 (fun t=>D t\/t=d) s' (a.put o.dst v) w':=by
 have hX:=R.pA hx;have hY:=(R.pA hy).1;simp only[K.run]at hr;split at hr
 ·rename_i b l m ue fb;split at hr
  ·rename_i ia;split at hr
   ·rename_i wm;split at hr
    ·rename_i ic;cases hr;have uv:m=[]:=by simpa using ic
     subst uv;have bd:∀c∈l,c.length=i.size:=fun c hc=>by simpa using ye.1 ia.2 c (List.mem_append_left _ hc)
     obtain⟨news,zb,kg⟩:=aO R hY fb gc (fun _ h=>by cases h);rw[ue]at hX;obtain⟨hX,lx⟩:=hX;obtain⟨A,c,hv,xx,_,hn,_⟩:=FG.1 hX;cases he;have oa:=MX (P:=P) (w:=w) ht hi o.type (A:=A) xx kg;rw[<- hv]at oa;refine⟨_,_,by simp only[execOp,ho,resolve,invoke,builtin,Sem.run_bind,Sem.run_pure,Result.andThen_ok,List.map_toArray,ym,yQ,oa],ι,Θ,(R.cB (d:=o.dst) (x:=⟨.sl b l,.ex⟩) (fun t h=>by rw[ka]at h;cases h;exact hd) hX ?_).more fun _ h=>.inl h⟩;cases b with
     |false=>rw[show x.an s=.ex from wm]at lx;exact lx
     |true=>obtain⟨h1,h2,h3⟩:=hn rfl;exact⟨none,0,by rw[hv,h1,h2,h3]⟩
    ·rename_i ic;exact I6 R ht hi hz zc gc hx hy ho ka hd hD (cl:=cl) (call:=call) (xe:=xe) (by simp only[K.run,ue,O6 fb];rw[if_pos ⟨ia.1,ia.2,by cases m<;>simp at ic ⊢⟩,wm];exact hr) (g:=g) he
   ·cases hr
  ·cases hr
 ·cases hr
theorem op_appm (R:DE P O nt B F0 aa w0 D s a w ι Θ){t e:TypeId}{i:TypeInfo}{z:List AV}(ht:P.underlying t=some (.slice e))(hi:P.info? e=some i)(hz:JL P e=some z)(zc:z.length=i.size)(gc:0<i.size){X Y:Operand}{x y:EE}(hx:pA X=some x)(hy:pA Y=some y)
  (ho:o.op=.call { callee:=.builtin .append,args:=#[X,Y],argTypes:=#[t,t] }) {d:Nat} (ka:o.dst=some d) (hd:d<nt) (hD:¬D d) {cl:Cl} {call} {xe:SC×uG} (hr:(K.RA cl e i.size i.bytes x y).run call s=some xe) {g} {s':LC} (he:aD.eff ⟨o.dst,.RA cl e i.size i.bytes x y,g⟩ s xe=some s') :
  ∃v w',(execOp a.eval o).run P w=.ok (.value v) w'/\SG P O nt B F0 aa w0 (fun t=>D t\/t=d) s' (a.put o.dst v) w':=by
 have hX:=R.pA hx;have hY:=(R.pA hy).1;simp only[K.run]at hr;split at hr
 ·rename_i b l m ue fb;exact Zi R ht hi hz zc gc hx hy ho ka hd hD (cl:=cl) (call:=call) (xe:=xe) (by simp only[K.run,ue,fb];exact hr) (g:=g) he
 ·rename_i t' n sz off ln cp m ue fb;split at hr
  ·rename_i l ub;split at hr
   ·rename_i ia;obtain ⟨h1,h2,ga,nb,xv⟩:=ia;obtain ⟨news,zb,kg⟩:=aO R hY fb gc fun c hc=>by simpa using ye.1 nb c hc
    rw[ue]at hX;have gd:(l++m).flatten.all (AV.eB t' n)=true:=by
     rw[Y0l,List.all_append,O5 t' n zb,Bool.and_true];simp only[AV.elems]at ub;split at ub
     ·cases hm:s.mem t' n with
      |none=>rw[hm]at ub;cases ub
      |some r =>
       rw[hm,J]at ub;obtain⟨_,b',cur,ty,_,ra,ja,_⟩:=R.rows t' n r hm;obtain⟨_,_,xs,oc,_⟩:=QJ ja ra ub;exact O5 t' n oc
     ·cases ub
    exact I6 R ht hi hz zc gc hx hy ho ka hd hD (cl:=cl) (call:=call) (xe:=xe) (by simp only[K.run,ue,O6 fb,O6 ub];rw[if_pos ⟨h1,h2,ga,nb,xv,gd⟩];exact hr) (g:=g) he
   ·cases hr
  ·cases hr
 ·cases hr
theorem op_bslr (R:DE P O nt B F0 aa w0 D s a w ι Θ){t e:TypeId}{n z:Nat}{zero:List AV}(ht:P.underlying t=some (.slice e))(hz:JL P e=some zero)(hs:CE P e=some z)(zc:zero.length=z)(gc:0<z)(hmax:n*z<=16777216){ps:Array (Nat×Operand)}{ys:List (Nat×EE)}(hy:aA ps.toList=some ys)(ho:o.op=.buildSlice t n ps)
  {d:Nat} (ka:o.dst=some d) (hd:d<nt) (hD:¬D d) {call} {xe:SC×uG} (hr:(K.SB z zero n ys).run call s=some xe) {g} {s':LC} (he:aD.eff ⟨o.dst,.SB z zero n ys,g⟩ s xe=some s') :
  ∃v w',(execOp a.eval o).run P w=.ok (.value v) w'/\SG P O nt B F0 aa w0 (fun t=>D t\/t=d) s' (a.put o.dst v) w':=by
 obtain⟨zv,i',ee,sr,om,hl⟩:=NJ hz w;have hisz:i'.size=z:=by simp[CE,ee]at hs;exact hs
 have fk:zv.cells.size=z:=by
  have:=OJ hl;simp only[Y02]at this;omega
 simp only[K.run]at hr;split at hr
 ·rename_i ia;obtain⟨ti,nb,_,_⟩:=ia;injection hr with hr;subst hr;simp only[aD.eff,ka]at he;injection he with he;subst he;have bd:∀p∈ys,(p.2.get s).whole=true/\(p.2.get s).cells.length=zero.length:=fun p hp=>by
   have:=ye.1 nb p hp;simpa using this
  have hn:ys.length=n:=by
   have:=congrArg List.length ti;simpa using this
  have wl:=DW (s:=s) z ys 0 [] (yX n zero).flatten (by rw[ti,List.range_eq_range',hn]) (by simp) (by simp[hn,zc]) (fun p hp=>by rw[(bd p hp).2,zc]);rw[Y00,Y00]at wl;have hp:=PU z ys;have bm:((Array.range (n*z)).map (((if n*z=0 then(#[]:Array Value)else zv.cells)[· % (if n*z=0 then(#[]:Array Value)else zv.cells).size]!))).toList=(yX n zv.cells.toList).flatten:=by
   rcases yZ n with h0|h0
   ·subst h0;simp
   ·have:¬ n * z=0:=by have:=Nat.mul_pos h0 gc; omega
    simp only[if_neg this];rw[<- fk];exact PX zv.cells n
  obtain⟨gb,h1,h2⟩:=mV (pl:=fun i=>some (i*z,z)) (ι:=ι) (av:=BE aa ι Θ) (avb:=uF ι Θ) (w:=w) (s:=s) (a:=a) rfl (fun X y h=>(R.pA h).1) hy hp (fun p hp=>by
   obtain⟨q,hq,rfl⟩:=yD.1 hp;exact(bd q hq).1) (by rw[y9];exact wl) (us:=(Array.range (n*z)).map (((if n*z=0 then(#[]:Array Value)else zv.cells)[· % (if n*z=0 then(#[]:Array Value)else zv.cells).size]!))) (by
    rw[bm];exact AX _ _ (BL hl _ _) n)
  have oa:(execOp a.eval o).run P w=.ok (.value (.slice (some ⟨w.heap.size,0,none⟩) n n)) (w.alloc (.cells gb e)):=by
   have h3:Instr.fill (fun i=>some (i*z,z)) ((Array.range (n*z)).map (((if n*z=0 then(#[]:Array Value)else zv.cells)[· % (if n*z=0 then(#[]:Array Value)else zv.cells).size]!))) (ps.map fun(i,x)=>(i,a.eval x)).toList=some gb:=by
    rw[Array.toList_map];exact h1
   have bc:¬(n*z > 2 ^ 24):=by omega
   by_cases h0:n*z=0
   ·simp only[if_pos h0]at h3;simp only[execOp,ho,Instr.buildSlice,Sem.run_bind,run_underlying ht,Result.andThen_ok,mF hs,if_neg bc,if_pos h0,Sem.run_pure,h3,newRow,run_newObj_alloc]
   ·simp only[if_neg h0]at h3;simp only[execOp,ho,Instr.buildSlice,Sem.run_bind,run_underlying ht,Result.andThen_ok,mF hs,if_neg bc,if_neg h0,Sem.run_pure,om,h3,newRow,run_newObj_alloc]
  refine⟨_,_,oa,?_⟩;rw[ka];have da:=xF h2;have ko:(ys.map fun p=>(p.2.get s).cells).flatten.length=n*z:=by
   rw[<- hn];clear wl h2 da h1 ti nb hp hy hmax bm hn
   induction ys with
   |nil=>simp
   |cons p r ih=>rw[ym,yA,yj,(bd p (by simp)).2,ih (fun q hq=>bd q (by simp[hq])),zc,yG,yN];omega
  have ne:gb.size=n*z:=by
   rw[ko,Y02]at da;exact da
  have ja:zG ι Θ (BE aa ι Θ) w (qD (ys.map fun p=>(p.2.get s).cells)) gb:=F6 h2 fun j u hj=>by simpa using hj
  obtain⟨ι',h⟩:=R.new hd hD e ja (x:=.ref d s.next z 0 n n) (v:=.slice (some ⟨w.heap.size,0,none⟩) n n) (fun ι' h hz=>⟨_,h,yl _,_,yl _,by
   rw[show ι'.z w.heap.size=_ from hz,yy,ne];exact yl _,rfl⟩)
  exact⟨ι',Θ,h⟩
 ·cases hr
end
end
end Go.Proofs.YtpmklcpajcfpjaaGreatDoor
