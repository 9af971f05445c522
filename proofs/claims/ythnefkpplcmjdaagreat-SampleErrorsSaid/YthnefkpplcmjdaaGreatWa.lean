/- A part of the proof. -/
import Derived.Calls
import Derived.Orders
import Derived.Below
import Derived.Scope
import Derived.Test.YthnefkpplcmjdaaGreatRows
import Derived.WalkKit
import Derived.WalkSpells
import Derived.WalkLawsBesides
import Derived.Handy
import Derived.Maps.AppendAt
import Derived.Lib.FrozenHead
import Derived.Laws.Cells
import Derived.ChangeKeysEq
import Derived.Laws.Tables
set_option linter.all false
set_option maxRecDepth 100000
set_option maxHeartbeats 8000000
open Option renaming bind_some → J, bind_eq_some_iff → y5, map_eq_some_iff → ye, map_some → yp
open List renaming range_succ → y0, map_map → y3, all_eq_true → y6, getElem?_eq_getElem → y7, getElem?_map → yb, drop_eq_getElem_cons → yc, drop_eq_nil_of_le → yf, mem_cons → yh, replicate → yj, map_cons → yk, mem_cons_self → yl, mem_cons_of_mem → ym, getElem?_eq_some_iff → yn, length_map → yo, map_nil → yq, cons_append → yv, map_congr_left → yw, mem_map → yz, flatten_cons → yA, take_of_length_le → yB, length_append → yC, mem_append → yD, length_cons → yE, nil_append → yF, getElem?_take → yI, eq_nil_of_length_eq_zero → yJ, getElem?_drop → yL, length_take → yM, getElem?_append_right → yN, getElem_of_mem → yO, mem_of_getElem? → yQ, take_append_drop → yR, getElem?_append_left → yU, getElem?_eq_none → yV
open Nat renaming le_refl → yg, le_trans → yt, succ_mul → yu, zero_add → yy, eq_zero_or_pos → yG, mul_le_mul_right → yS
open Bool renaming false_eq_true → yr
open Array renaming length_toList → yH, toArray_toList → yK, getD_eq_getD_getElem? → yP
namespace Go.Proofs.YthnefkpplcmjdaaGreat
open Go
inductive AV where
 |int (k:IntKind) (n:Int)
 |bool (b:Bool)
 |str (s:ByteArray)
 |QA
 |ptr (t n off:Nat)
 |ip (cs:List AV)
 |bp (cs:List AV)
 |sl (nil:Bool) (l:List (List AV))
 |bl (l:List (List AV))
 |ref (t n sz off len cap:Nat)
 |mp (t n:Nat)
 |fn (f:Nat) (caps:List AV)
 |agg (cs:List AV)
 |sA (vs:List AV)
 |undef
 deriving Inhabited
inductive An where
 |no
 |ex
 |own (k:Nat) (e:TypeId)
structure WC where
 v:AV
 a:An
inductive KD where
 |t (n:Nat)
 |c (v:AV)
 deriving Inhabited
inductive Cl where
 |any
 |RB
 |root (t:Nat)
 /-- in no box of these slots -/
 |out (L:List Nat)
inductive Oa where
 |none
 |some (k:IntKind)
 |agg (l:List (Option IntKind))
instance:Inhabited Oa:=⟨.none⟩
inductive K where
 |mv (x:KD)
 |pick (c a b:KD)
 |alloc (zero:List AV)
 |box (size:Nat) (x:KD)
 |build (zero:List AV) (parts:List (Nat×Nat×KD))
 |XA (zero:List AV) (n:Nat) (parts:List (Nat×KD))
 |load (cl:Cl) (agg:Bool) (size:Nat) (x:KD)
 |store (cl:Cl) (agg:Bool) (size:Nat) (x y:KD)
 |dC (cl:Cl) (zero:List AV) (x:KD)
 |bin (op:BinOp) (bl:Bool) (x y:KD)
 |mm (mx:Bool) (x y:KD)
 |iC (neg:Bool) (ks:List Nat) (x y:KD)
 |gC (neg ptr:Bool) (x y:KD)
 |un (op:UnOp) (x:KD)
 |conv (k:Option IntKind) (x:KD)
 |BB (x:KD)
 |xB (cl:Cl) (x:KD)
 |wC (size bytes:Nat) (zero:List AV) (len cap:KD)
 |slc (str:Bool) (size:Nat) (x:KD) (lo hi mx:Option KD)
 |PB (cl:Cl) (len size:Nat) (x:KD) (lo hi:Option KD)
 |tB (off:Nat) (x:KD)
 |field (agg:Bool) (off size:Nat) (x:KD)
 |nA (size:Nat) (x i:KD)
 |pB (len size:Nat) (x i:KD)
 |index (x i:KD)
 |ext (x:KD) (i:Nat)
 |call (cl:Cl) (f:Nat) (xs:List KD)
 |LA (cl:Cl) (f:Nat) (sz:Nat) (xs:List KD)
 /-- a call whose result is a slice of the caller's own;one that takes a row (in none of the boxes L) and gives one;one that gives numbers and letters only,by what the memory of its arguments sr -/
 |iB (cl:Cl) (f:Nat) (sz:Nat) (xs:List KD)
 |PA (cl:Cl) (f:Nat) (sz:Nat) (L:List Nat) (x:KD) (xs:List KD)
 |jB (cl:Cl) (f:Nat) (xs:List KD)
 |jC (f:Nat) (xs:List KD)
 |RA (cl:Cl) (x:KD) (xs:List KD)
 |dA (cl:Cl) (f:Nat) (xs:List KD)
 |lA (nt:Nat) (x:KD) (xs:List KD)
 |len (str:Bool) (x:KD)
 |app (cl:Cl) (e:TypeId) (size bytes:Nat) (x y:KD)
 |QB (cl:Cl) (e:TypeId) (size bytes:Nat) (x y:KD)
 |sB (cl:Cl) (e:TypeId) (size bytes:Nat) (x y:KD)
 |qB (cl:Cl) (e:TypeId) (size bytes:Nat) (x y:KD)
 |AB (size:Nat) (zero:List AV) (n:Nat) (parts:List (Nat×KD))
 |fC
 |bC (T e:TypeId)
 |OB (ok:Bool) (ty:Oa) (zero:AV) (x k:KD)
 |SB (ty:Oa) (x k v:KD)
 |LB (x:KD)
 |kB (x:KD)
 |slz (x:KD)
 |ent (x:KD)
 |dB (x:KD)
 |AA (x:KD)
 |bad
 deriving Inhabited
instance:Inhabited Cl:=⟨.any⟩
structure JC where
 dst:Option Nat
 op:K
 guard:Option (Nat×Bool)
inductive C where
 |skip
 |seq (a b:C)
 |reg (ops:List JC)
 |cond (c:KD) (t e:C)
 |block (id:Nat) (b:C)
 |loop (b:C)
 |exit (id:Nat)
 |ret
inductive Ex where
 |nrm
 |exit (id:Nat)
 |ret
structure OC where
 env:Nat->WC
 mem:Nat->Nat->Option (List WC)
 next:Nat
 obj:Nat->Nat->Option AV
 /-- the slots of the calls that wait -/
 gh:Nat->WC
def An.strip (k:Nat):An->An
 |.own j e=>if j=k then .no else .own j e
 |a=>a
def WC.strip (k:Nat)(x:WC):WC:=⟨x.v,x.a.strip k⟩
def OC.strip (s:OC)(k:Nat):OC:=⟨fun t=>(s.env t).strip k,fun t n=>(s.mem t n).map (·.map (WC.strip k)),s.next,s.obj,fun t=>(s.gh t).strip k⟩
def OC.lB (s:OC):An->OC
 |.own k _=>s.strip k
 |_=>s
def OC.put (s:OC)(d:Option Nat)(x:WC):OC:=match d with
 |some d=>{ s with env:=fun t=>if t=d then x else s.env t }
 |none=>s
def OC.setRow (s:OC)(t n:Nat)(r:List WC):OC:={ s with mem:=fun t' n'=>if t'=t/\n'=n then some r else s.mem t' n' }
def OC.setObj (s:OC)(t n:Nat)(S:AV):OC:={ s with obj:=fun t' n'=>if t'=t/\n'=n then some S else s.obj t' n' }
def HC (l:List (List AV)):List WC:=l.flatten.map (⟨·,.no⟩)
def AV.eA (t n:Nat):AV->AV
 |.ptr t' n' o=>if t'=t/\n'=n then .undef else .ptr t' n' o
 |.ref t' n' z o l c=>if t'=t/\n'=n then .undef else .ref t' n' z o l c
 |.mp t' n'=>if t'=t/\n'=n then .undef else .mp t' n'
 |v=>v
def AV.UA (t n:Nat):AV->AV
 |.agg cs=>.agg (cs.map (AV.eA t n))
 |v=>v.eA t n
def AV.kill (t n:Nat):AV->AV
 |.agg cs=>.agg (cs.map (AV.eA t n))
 |.sA vs=>.sA (vs.map (AV.UA t n))
 |.fn f vs=>.fn f (vs.map (AV.eA t n))
 |v=>v.eA t n
def WC.kill (t n:Nat)(x:WC):WC:=⟨x.v.kill t n,x.a⟩
def OC.kill (s:OC)(t n:Nat):OC:=⟨fun j=>(s.env j).kill t n,fun t' n'=>if t'=t/\n'=n then none else(s.mem t' n').map (·.map (WC.kill t n)),s.next,s.obj,fun j=>(s.gh j).kill t n⟩
def OC.kA (s:OC):Option (Nat×Nat)->OC
 |none=>s
 |some p=>s.kill p.1 p.2
def KD.get (s:OC):KD->AV
 |.t n=>(s.env n).v
 |.c v=>v
def KD.an (s:OC):KD->An
 |.t n=>(s.env n).a
 |.c (.sl true _)=>.ex
 |.c _=>.no
def AV.cells:AV->List AV
 |.agg cs=>cs
 |v=>[v]
def AV.leaf:AV->Bool
 |.agg _|.sA _|.bp _|.bl _|.fn ..|.undef=>false
 |_=>true
def AV.whole:AV->Bool
 |.agg _=>true
 |v=>v.leaf
def AV.iA:AV->Bool
 |.ptr ..|.bp _|.bl _|.ref ..|.mp ..|.fn ..|.undef|.agg _|.sA _=>false
 |_=>true
def AV.free:AV->Bool
 |.agg cs=>cs.all AV.iA
 |v=>v.iA
def bH (row:List WC)(sz off len:Nat):Option (List (List AV)) :=
 if off+len*sz<=row.length/\row.all (fun x=>x.v.iA)then some ((List.range len).map fun i=>((row.drop (off+i*sz)).take sz).map (·.v))else none
def Cl.pA:Cl->Bool
 |.any=>true
 |_=>false
def AV.elems (s:OC)(cl:Cl):AV->Option (List (List AV))
 |.sl _ l=>some l
 |.bl l=>some l
 |.ref t n sz off len _=>if cl.pA then(s.mem t n).bind fun r=>bH r sz off len else none
 |_=>none
def xO (row:List WC)(sz off len:Nat):Option (List (List AV)) :=
 if off+len*sz<=row.length then some ((List.range len).map fun i=>((row.drop (off+i*sz)).take sz).map (·.v))else none
def AV.nB (s:OC)(cl:Cl):AV->Option (List (List AV))
 |.sl _ l=>some l
 |.bl l=>some l
 |.ref t n sz off len _=>if cl.pA then(s.mem t n).bind fun r=>xO r sz off len else none
 |_=>none
def AV.gB (t n:Nat):AV->Bool
 |.ptr t' n' _|.ref t' n' _ _ _ _|.mp t' n'=>!(decide (t'=t)&&decide (n'=n))
 |.agg _|.sA _|.fn ..=>false
 |_=>true
def AU:AV->Option Nat
 |.int _ n=>if 0<=n then some n.toNat else none
 |_=>none
def wM (s:OC)(d:Nat):Option KD->Option Nat
 |none=>some d
 |some o=>AU (o.get s)
def kU (cells:List AV):List (Nat×Nat×List AV)->Option (List AV)
 | []=>some cells
 |(off,size,v)::r=>if v.length=size/\off+size<=cells.length then kU (cells.take off++v++cells.drop (off+size)) r else none
def MT (k:IntKind)(r:BitVec k.bits):AV:=.int k (k.wrap r.toNat)
def shN (k:IntKind)(b:Int):Nat:=min b.toNat k.bits
def NK (op:BinOp)(bl:Bool):AV->AV->Option AV
 |.int k a,.int k' b=>match op with
  |.shl=>if 0<=b then some (.int k (k.wrap (a*2 ^ shN k b)))else none
  |.shr=>if 0<=b then some (.int k (a.fdiv (2 ^ shN k b)))else none
  |_=>if k=k' then(match op with
  |.and=>some (MT k (BitVec.ofInt k.bits a &&& BitVec.ofInt k.bits b))
  | .or=>some (MT k (BitVec.ofInt k.bits a ||| BitVec.ofInt k.bits b))
  |.xor=>some (MT k (BitVec.ofInt k.bits a ^^^ BitVec.ofInt k.bits b))
  |.andNot=>some (MT k (BitVec.ofInt k.bits a &&& ~~~ BitVec.ofInt k.bits b))
  |.add=>some (.int k (k.wrap (a+b)))
  |.sub=>some (.int k (k.wrap (a-b)))
  |.mul=>some (.int k (k.wrap (a*b)))
  |.quo=>if b=0 then none else some (.int k (k.wrap (a.tdiv b)))
  |.rem=>if b=0 then none else some (.int k (a.tmod b))
  |.eql=>some (.bool (decide (a=b)))
  |.neq=>some (.bool (!decide (a=b)))
  |.lss=>some (.bool (decide (a<b)))
  |.leq=>some (.bool (decide (a<=b)))
  |.gtr=>some (.bool (decide (b<a)))
  |.geq=>some (.bool (decide (b<=a)))
  |_=>none)else none
 |.str a,.str b=>match op with
  |.add=>if a.size+b.size<=9223372036854775807 then some (.str (a++b))else none
  |.eql=>some (.bool (decide (a=b)))
  |.neq=>some (.bool (!decide (a=b)))
  |.lss=>some (.bool (Op.bytesLess a.toList b.toList))
  | .gtr=>some (.bool (!(Op.bytesLess a.toList b.toList||decide (a=b))))
  | .leq=>some (.bool (Op.bytesLess a.toList b.toList||decide (a=b)))
  |.geq=>some (.bool (!Op.bytesLess a.toList b.toList))
  |_=>none
 |.bool a,.bool b=>if bl then(match op with
  |.eql=>some (.bool (a == b))
  |.neq=>some (.bool (!(a == b)))
  |_=>none)else none
 |_,_=>none
def d8 (mx:Bool):AV->AV->Option AV
 |.int k a,.int k' b=>if k=k' then some (.int k (if mx then max a b else min a b))else none
 |_,_=>none
def iN:List Nat->List AV->List AV->Option Bool
 | [],[],[]=>some true
 |0::ks,.int k a::r,.int k' b::r'=>if k=k' then(if a=b then iN ks r r' else some false)else none
 |1::ks,.str a::r,.str b::r'=>if a=b then iN ks r r' else some false
 |2::ks,.bool a::r,.bool b::r'=>if a=b then iN ks r r' else some false
 |_,_,_=>none
def aX:Bool->AV->Option Bool
 |false,.sl true _=>some true
 |false,.sl false l=>if l.isEmpty then none else some false
 |false,.bl _=>some false
 |false,.ref ..=>some false
 |true,.QA=>some true
 |true,.ptr ..=>some false
 |true,.ip _=>some false
 |true,.bp _=>some false
 |_,_=>none
inductive rF where
 |none
 |new (r:List WC)
 |set (t n:Nat) (r:List WC)
 |app (a:An) (k:Nat)
 |obj (t n:Nat) (S:AV)
 |mk (S:AV)
 |rn (k:Option (Nat×Nat)) (r:List WC)
 |zB (t n:Nat) (S:AV) (r:List WC)
def Cl.cA:Cl->Nat->Bool
 |.any,_=>true
 |.RB,_=>false
 |.root r,t=>r == t
 |.out L,t=>!L.contains t
def kD (agg:Bool)(size off:Nat)(row:List WC):Option WC :=
 if agg then(if off+size<=row.length then some ⟨.agg (((row.drop off).take size).map (·.v)),.no⟩else none)
 else row[off]?
def bI (agg:Bool)(size:Nat)(cs:List AV):Option AV :=
 if agg then(if size<=cs.length then some (.agg (cs.take size))else none)else cs[0]?
def EU (s:OC)(cl:Cl):AV->Option AV
 |.ref t n sz off len _=>if cl.pA then((s.mem t n).bind fun r=>bH r sz off len).map .bl else none
 |.bl l=>some (.bl l)
 |.bp l=>some (.bp l)
 |.ptr t n off=>if off=0/\cl.pA/\(s.obj t n).isSome then some (.ptr 0 0 0)else none
 |v=>if v.free then some v else none
def PR (s:OC)(cl:Cl):AV->Option AV
 |.ptr t n off=>if cl.pA then match s.mem t n with
  |some r=>if(r.drop off).all (fun x=>x.v.iA)then some (.bp ((r.drop off).map (·.v)))else none
  |none=>none else none
 |.bp l=>some (.bp l)
 |.QA=>some .QA
 |_=>none
def KF (s:OC)(cl:Cl):List AV->Option (List AV)
 | []=>some []
 |x::r=>match PR s cl x,KF s cl r with
  |some v,some vs=>some (v::vs)
  |_,_=>none
def qI (s:OC)(cl:Cl):AV->Option AV
 |.fn f cs=>(KF s cl cs).map (.fn f)
 |v=>EU s cl v
def AF:AV->Option (Nat×Nat)
 |.ptr t n _=>some (t,n)
 |.ref t n _ _ _ _=>some (t,n)
 |_=>none
def eH (s:OC)(cl:Cl)(t n:Nat):AV->Option AV
 |.ptr t' n' off=>if t'=t/\n'=n then some (.ptr 0 0 off)else none
 |.ref t' n' sz off len cap=>if t'=t/\n'=n then some (.ref 0 0 sz off len cap)else EU s cl (.ref t' n' sz off len cap)
 |.fn f cs=>if cs.isEmpty then some (.fn f [])else none
 |v=>EU s cl v
def SE (s:OC)(cl:Cl)(t n:Nat):List KD->Option (List AV)
 | []=>some []
 |x::r=>match eH s cl t n (x.get s),SE s cl t n r with
  |some v,some vs=>some (v::vs)
  |_,_=>none
def JD (s:OC):List KD->Option (Nat×Nat)
 | []=>none
 |x::_=>AF (x.get s)
def AV.bB:AV->Bool
 |.ptr ..|.bp _|.QA=>true
 |_=>false
def bytesOf:List (List AV)->Option (List UInt8)
 | []=>some []
 |c::r=>match c,bytesOf r with
  | [.int .u8 n],some l=>some (UInt8.ofNat n.toNat::l)
  |_,_=>none
def SI (s:OC)(xs:List KD):List (Nat×Nat):=xs.filterMap fun x=>match x.get s with
 |.ptr t n _=>some (t,n)
 |_=>none
def pG (s:OC)(cl:Cl):List KD->Option (List AV)
 | []=>some []
 |x::r=>match qI s cl (x.get s),pG s cl r with
  |some v,some vs=>some (v::vs)
  |_,_=>none
def AV.isUn:AV->Bool
 |.undef=>true
 |_=>false
def AV.back:AV->Bool
 | .sA vs=>vs.all fun v=>v.free||v.isUn
 |v=>v.free
def AV.SA:AV->Bool
 |.ptr 0 0 0=>true
 |_=>false
def AV.uC:AV->Bool
 | .sA vs=>vs.all fun v=>v.free||v.SA
 |v=>v.SA
def AV.named (d n:Nat):AV->AV
 |.sA vs=>.sA (vs.map fun v=>if v.SA then .ptr d n 0 else v)
 |.mp _ _=>.mp d n
 |v=>if v.SA then .ptr d n 0 else v
def PD (size:Nat)(l:List (List AV)):Bool:=l.all (·.length == size)
def aE (bytes n:Nat):Bool:=decide (n*bytes<=140737488355328)&&decide (n<=140737488355328)
theorem UD {b n:Nat}:aE b n=true↔n*b<=140737488355328/\n<=140737488355328:=by simp[aE]
theorem Au (z:Nat):PD z []=true:=rfl
theorem pQ (z:Nat)(c:List AV)(l:List (List AV)):PD z (c::l)=(decide (c.length=z)&&PD z l):=rfl
theorem z5 (z:Nat)(l m:List (List AV)):PD z (l++m)=(PD z l&&PD z m):=by simp[PD]
theorem rG {α:Type}(z:Nat)(f:α->List AV)(l:List α)(h:∀x,(f x).length=z):PD z (l.map f)=true:=by simp[PD,h]
theorem UY {z:Nat}{l:List (List AV)}(h:PD z l=true)(n:Nat):PD z (l.take n)=true:=by
 simp only[PD,y6]at h ⊢;exact fun x hx=>h x (List.mem_of_mem_take hx)
theorem H9 {z:Nat}{l:List (List AV)}(h:PD z l=true)(n:Nat):PD z (l.drop n)=true:=by
 simp only[PD,y6]at h ⊢;exact fun x hx=>h x (List.mem_of_mem_drop hx)
def AV.TA:AV->Bool
 |.int ..|.bool _|.str _=>true
 |_=>false
def AV.flat:AV->Bool
 |.agg cs=>cs.all AV.TA
 |v=>v.TA
def fJ (L:List (List AV)):AV:=.sA [.undef,.sl false L]
def SK:AV->Option (List (List AV))
 |.sA [.undef,.sl false L]=>some L
 |_=>none
theorem bL (L:List (List AV)):SK (fJ L)=some L:=rfl
def NI (T e:TypeId)(s:ByteArray):AV:=.sA [.undef,.undef,.int .i64 (T:Nat),.int .i64 (e:Nat),.str s]
def bldOf:AV->Option (TypeId×TypeId×ByteArray)
 |.sA [.undef,.undef,.int _ T,.int _ e,.str s]=>some (T.toNat,e.toNat,s)
 |_=>none
def U5 (tm nm N:Nat)(seen:List Nat):AV:=.sA [.undef,.undef,.undef,.mp tm nm,.int .i64 N,.sl false (seen.map fun i:Nat=>[.int .i64 i])]
def I5:List (List AV)->List Nat
 | [.int _ i]::r=>i.toNat::I5 r
 |_=>[]
def NY:AV->Option (Nat×Nat×Nat×List Nat)
 |.sA [.undef,.undef,.undef,.mp tm nm,.int _ N,.sl false l]=>some (tm,nm,N.toNat,I5 l)
 |_=>none
theorem MY:∀l:List Nat,I5 (l.map fun i:Nat=>[AV.int .i64 i])=l
 | []=>rfl
 |i::r=>by simp[I5,MY r]
theorem iY (tm nm N:Nat)(seen:List Nat):NY (U5 tm nm N seen)=some (tm,nm,N,seen):=by simp[NY,U5,MY]
def H5 (S:AV):Bool:=(NY S).isNone
def Qj:Option AV->Bool
 |none=>true
 |some S=>H5 S
noncomputable def N5 (f:Nat->Option (AV×Option AV))(z:Option (AV×Option AV)):List Nat->Option (AV×Option AV)
 | []=>z
 | [i]=>f i
 |i::j::r=>open Classical in if ∀x∈j::r,f x=f i then f i else none
def UR:List (Option IntKind)->List AV->Bool
 | [],[]=>true
 |.some k::r,.int k' _::cs=>decide (k=k')&&UR r cs
 |.none::r,.str _::cs=>UR r cs
 |_,_=>false
def PK:Oa->AV->Bool
 |.some k,.int k' _=>decide (k=k')
 |.none,.str _=>true
 |.agg l,.agg cs=>UR l cs
 |_,_=>false
def uP (ty:Oa)(L:List (List AV)):Bool:=L.all fun e=>match e with
 | [k,v]=>PK ty k&&v.flat
 |_=>false
def wZ:List AV->List AV->Bool
 | [],[]=>true
 |.int k a::r,.int k' b::r'=>(decide (k=k')&&decide (a=b))&&wZ r r'
 |.str a::r,.str b::r'=>decide (a=b)&&wZ r r'
 |_,_=>false
def uT:AV->AV->Bool
 |.int k a,.int k' b=>decide (k=k')&&decide (a=b)
 |.str a,.str b=>decide (a=b)
 |.agg a,.agg b=>wZ a b
 |_,_=>false
def uM:List (List AV)->AV->Option AV
 | [],_=>none
 |e::r,k=>match e with
  | [k',v]=>if uT k' k then some v else uM r k
  |_=>uM r k
def EK:List (List AV)->AV->AV->List (List AV)
 | [],k,v=>[[k,v]]
 |e::r,k,v=>match e with
  | [k',_]=>if uT k' k then [k,v]::r else e::EK r k v
  |_=>e::EK r k v
abbrev RV:=AV×Option AV
abbrev DD:=Nat->List AV->Option AV->Option RV
abbrev Oz:=C->OC->(Ex->OC->Option RV)->Option RV
abbrev HpT:=Nat->List WC->OC->(WC->OC->Option RV)->Option RV
structure LH where
 l:Oz
 h:HpT
instance:CoeFun LH (fun _=>Oz):=⟨LH.l⟩
def MC (agg:Bool)(size off:Nat)(row:List WC)(x:AV)(a:An):Option (List WC) :=
 if agg then match x with
  |.agg cs=>if cs.length=size/\off+size<=row.length then some (row.take off++cs.map (⟨·,.no⟩)++row.drop (off+size))else none
  |_=>none
 else if x.leaf/\off<row.length then some (row.set off ⟨x,a⟩)else none
def Tu (zero:List AV)(off ln:Nat)(r:List WC):Option (List WC) :=
 if off+ln*zero.length<=r.length then some (r.take off++HC (List.replicate ln zero)++r.drop (off+ln*zero.length))else none
def OE:Bool->An->An
 |true,_=>.ex
 |false,a=>a
def exB (b:Bool)(a:An):Bool:=match OE b a with
 |.ex=>true
 |_=>false
def lD:AV->An
 |.sl true _=>.ex
 |_=>.no
def AV.wB (s:OC):AV->AV
 |.ref t n sz off len c=>match(s.mem t n).bind fun r=>bH r sz off len with
  |some l=>.sl false l
  |none=>.ref t n sz off len c
 |v=>v
def s6 (s:OC)(row:List WC)(sz off len:Nat):Option (List (List AV)):=(xO row sz off len).bind fun l =>
 if(l.map fun c=>c.map (AV.wB s)).flatten.all AV.iA=true then some (l.map fun c=>c.map (AV.wB s))else none
def AV.DA (s:OC):AV->AV
 |.ref t n sz off len c=>match(s.mem t n).bind fun r=>bH r sz off len with
  |some l=>.sl false l
  |none=>match(s.mem t n).bind fun r=>s6 s r sz off len with
   |some l=>.sl false l
   |none=>.ref t n sz off len c
 |v=>v
def AV.uB (s:OC):AV->AV
 |.agg cs=>.agg (cs.map (AV.DA s))
 |v=>v.DA s
def AV.plain:AV->Bool
 |.sA vs=>vs.all AV.TA
 |v=>v.TA
def K.run (call:DD)(s:OC):K->Option (WC×rF)
 |.mv x=>some (⟨x.get s,x.an s⟩,.none)
 |.pick c a b=>match c.get s with
  |.bool t=>some (if t then⟨a.get s,a.an s⟩else⟨b.get s,b.an s⟩,.none)
  |_=>none
 |.alloc zero=>some (⟨.ptr 0 0 0,.no⟩,.new (zero.map fun v=>⟨v,lD v⟩))
 |.box size x=>match x.get s with
  |.agg cs=>if cs.length=size then some (⟨.ptr 0 0 0,.no⟩,.new (cs.map (⟨·,.no⟩)))else none
  |v=>if v.leaf then some (⟨.ptr 0 0 0,.no⟩,.new [⟨v,x.an s⟩])else none
 | .build zero parts=>if parts.all (fun p=>(p.2.2.get s).whole) then
   (kU zero (parts.map fun p=>(p.1,p.2.1,(p.2.2.get s).cells))).map fun cs=>(⟨.agg cs,.no⟩,.none)else none
 | .XA zero n parts=>if parts.map (·.1)=List.range n/\parts.all (fun p=>(p.2.get s).free&&decide ((p.2.get s).cells.length=zero.length)) then
   some (⟨.sl false (parts.map fun p=>(p.2.get s).cells),.ex⟩,.none)else none
 |.load cl agg size x=>match x.get s with
  |.ptr t n off=>if cl.cA t then((s.mem t n).bind (kD agg size off)).map fun x=>(x,.none)else none
  |.ip cs=>match cl with
   |.root _=>none
   |_=>(bI agg size cs).map fun v=>(⟨v,.no⟩,.none)
  |.bp cs=>match cl with
   |.root _=>none
   |_=>(bI agg size cs).map fun v=>(⟨v,.no⟩,.none)
  |_=>none
 |.store cl agg size x y=>match x.get s with
  |.ptr t n off=>if cl.cA t then((s.mem t n).bind fun r=>MC agg size off r (y.get s) (y.an s)).map fun r=>(⟨.undef,.no⟩,.set t n r)else none
  |_=>none
 |.dC cl zero x=>match x.get s with
  |.sl _ []=>some (⟨.undef,.no⟩,.none)
  |.ref t n sz off ln _=>if cl.cA t=true/\zero.length=sz/\0<ln then((s.mem t n).bind fun r=>Tu zero off ln r).map fun r=>(⟨.undef,.no⟩,.set t n r)else none
  |_=>none
 |.bin op t x y=>(NK op t (x.get s) (y.get s)).map fun v=>(⟨v,.no⟩,.none)
 |.mm mx x y=>(d8 mx (x.get s) (y.get s)).map fun v=>(⟨v,.no⟩,.none)
 |.iC neg ks x y=>match x.get s,y.get s with
  |.agg a,.agg b=>(iN ks a b).map fun t=>(⟨.bool (t != neg),.no⟩,.none)
  |_,_=>none
 |.gC neg ptr x y=>match ptr,y.get s with
  |false,.sl true _=>(aX false (x.get s)).map fun t=>(⟨.bool (t != neg),.no⟩,.none)
  |true,.QA=>(aX true (x.get s)).map fun t=>(⟨.bool (t != neg),.no⟩,.none)
  |_,_=>none
 |.un op x=>match op,x.get s with
  |.not,.bool b=>some (⟨.bool (!b),.no⟩,.none)
  |.neg,.int k n=>some (⟨.int k (k.wrap (0-n)),.no⟩,.none)
  |_,_=>none
 |.conv k x=>match k,x.get s with
  |some k,.int _ n=>some (⟨.int k (k.wrap n),.no⟩,.none)
  |none,.str b=>some (⟨.str b,.no⟩,.none)
  |_,_=>none
 |.BB x=>match x.get s with
  |.int _ n=>some (⟨.str (Utf8.encode n),.no⟩,.none)
  |_=>none
 |.xB cl x=>match(x.get s).elems s cl with
  |some l=>(bytesOf l).map fun bs=>(⟨.str ⟨bs.toArray⟩,.no⟩,.none)
  |none=>none
 |.PB cl ln size x lo hi=>match x.get s with
  |.ptr t n o=>match wM s 0 lo,wM s ln hi,s.mem t n with
   | some l,some h,some r=>if l<=h/\h<=ln/\0<size/\o + ln * size<=r.length/\cl.pA=true then
     (if h=l then some (⟨.sl false [],.no⟩,.none)else some (⟨.ref t n size (o+l*size) (h-l) (ln-l),.no⟩,.none))else none
   |_,_,_=>none
  |_=>none
 |.jC f xs=>if xs.all (fun x=>(x.get s).bB)then some (⟨.fn f (xs.map (·.get s)),.no⟩,.none)else none
 |.RA cl x xs=>match x.get s with
  |.fn f cs=>match pG s cl xs,KF s cl cs,SI s xs with
   |some vs,some ws,[]=>(call f (vs++ws) none).bind fun r=>match r.2 with
    |none=>if r.1.back then some (⟨r.1,.no⟩,.none)else none
    |some _=>none
   |_,_,_=>none
  |_=>none
 |.dA cl f xs=>match JD s xs with
  |some (t,n)=>if cl.cA t then(match s.mem t n,SE s cl t n xs with
   | some r,some vs=>if r.all (fun x=>x.v.iA) then (call f (.undef :: .undef :: vs) (some (.agg (r.map (·.v))))).bind fun q=>match q.2 with
     |some (.agg cs)=>if q.1.back/\cs.length=r.length/\cs.all AV.iA=true then some (⟨q.1,.no⟩,.set t n (cs.map fun v=>⟨v,lD v⟩))else none
     |_=>none else none
   |_,_=>none)else none
  |none=>none
 |.lA ..=>none
 |.bad=>none
 |.wC size bytes zero ln cap=>match AU (ln.get s),AU (cap.get s)with
  |some l,some c=>if l<=c/\c*bytes<=140737488355328/\c<=140737488355328/\zero.length=size then some (⟨.ref 0 0 size 0 l c,.no⟩,.new ((List.replicate c zero).flatten.map (⟨·,.no⟩)))else none
  |_,_=>none
 |.slc str size x lo hi mx=>match mx with
  |some _=>none
  |none =>
   match wM s 0 lo with
   |none=>none
   |some l=>match x.get s with
    |.sl b e=>match wM s e.length hi with
     |some h=>if l<=h/\h<=e.length/\PD size e=true/\str=false then some (⟨.sl b ((e.take h).drop l),.no⟩,.none)else none
     |_=>none
    |.bl e=>match wM s e.length hi with
     |some h=>if l<=h/\h<=e.length/\PD size e=true/\str=false then some (⟨.bl ((e.take h).drop l),.no⟩,.none)else none
     |_=>none
    |.ref t n sz off ln cap=>match wM s ln hi with
     |some h=>if l<=h/\h<=cap/\sz=size/\str=false then(if h=l/\¬(l=0/\0<cap)then some (⟨.sl false [],.no⟩,.none)else some (⟨.ref t n sz (off+l*sz) (h-l) (cap-l),.no⟩,.none))else none
     |_=>none
    |.str b=>match wM s b.size hi with
     |some h=>if l<=h/\h<=b.size/\str=true then some (⟨.str (b.extract l h),.no⟩,.none)else none
     |_=>none
    |_=>none
 |.tB off x=>match x.get s with
  |.ptr t n o=>some (⟨.ptr t n (o+off),.no⟩,.none)
  |.ip cs=>some (⟨.ip (cs.drop off),.no⟩,.none)
  |.bp cs=>some (⟨.bp (cs.drop off),.no⟩,.none)
  |_=>none
 |.field agg off size x=>match x.get s with
  |.agg cs=>(bI agg size (cs.drop off)).map fun v=>(⟨v,.no⟩,.none)
  |_=>none
 |.pB ln size x i=>match AU (i.get s)with
  |some k=>if k<ln then(match x.get s with
   |.ptr t n o=>some (⟨.ptr t n (o+k*size),.no⟩,.none)
   |.ip cs=>some (⟨.ip (cs.drop (k*size)),.no⟩,.none)
   |.bp cs=>some (⟨.bp (cs.drop (k*size)),.no⟩,.none)
   |_=>none)else none
  |none=>none
 |.nA size x i=>match AU (i.get s)with
  |some k=>match x.get s with
   |.sl _ l=>l[k]?.bind fun cs=>if cs.length=size then some (⟨.ip cs,.no⟩,.none)else none
   |.bl l=>l[k]?.bind fun cs=>if cs.length=size then some (⟨.bp cs,.no⟩,.none)else none
   |.ref t n sz off ln _=>if k<ln/\sz=size then some (⟨.ptr t n (off+k*sz),.no⟩,.none)else none
   |_=>none
  |none=>none
 |.index x i=>match AU (i.get s),x.get s with
  |some k,.str b=>b[k]?.map fun u=>(⟨.int .u8 u.toNat,.no⟩,.none)
  |_,_=>none
 |.ext x i=>match x.get s with
  |.sA vs=>vs[i]?.map fun v=>(⟨v,.no⟩,.none)
  |_=>none
 |.call cl f xs=>(pG s cl xs).bind fun vs=>match SI s xs with
  | []=>(call f vs none).bind fun r=>match r.2 with
   |none=>if r.1.back then some (⟨r.1,.no⟩,.none)else none
   |some S=>if r.1.uC/\cl.pA/\H5 S=true then some (⟨r.1,.no⟩,.mk S)else none
  | [(t,n)]=>(call f vs (s.obj t n)).bind fun r=>match r.2 with
   |none=>none
   |some S=>if r.1.back/\(s.obj t n).isSome/\H5 S=true then some (⟨r.1,.no⟩,.obj t n S)else none
  |_=>none
 |.LA cl f sz xs=>(pG s cl xs).bind fun vs=>match SI s xs with
  | [(t,n)]=>(call f (.undef::vs) (s.obj t n)).bind fun r=>match r with
   | (.sl false l,some S)=>if (s.obj t n).isSome=true/\PD sz l=true/\l.all (fun c=>c.all AV.TA)=true/\H5 S=true then
     (if l.isEmpty then some (⟨.sl false [],.no⟩,.obj t n S)else some (⟨.ref 0 0 sz 0 l.length l.length,.no⟩,.zB t n S (HC l)))else none
   |_=>none
  |_=>none
 |.iB cl f sz xs=>match pG s cl xs,SI s xs with
  |some vs,[]=>(call f (.undef::vs) none).bind fun r=>match r with
   | (.sl b l,none)=>if PD sz l=true/\l.flatten.all AV.iA=true/\0<sz then
     (if l.isEmpty then some (⟨.sl b [],.ex⟩,.none)else if b then none else some (⟨.ref 0 0 sz 0 l.length l.length,.no⟩,.new (HC l)))else none
   |_=>none
  |_,_=>none
 |.PA cl f sz L x xs=>match pG s cl xs,SI s xs with
  |some vs,[]=>if vs.all AV.free=true then(match x.get s with
   |.ref t n z off ln _=>(match(AV.ref t n z off ln 0).elems s cl with
    | some l=>if off=0/\z=sz/\t≠0/\L.contains t=false then (call f (.undef :: .sl false l :: vs) (some (.int .i64 sz))).bind fun r=>match r with
      |(.sl false l',none)=>if PD sz l'=true/\l'.flatten.all AV.iA=true/\0<sz then some (⟨.ref 0 0 sz 0 l'.length l'.length,.no⟩,.rn (some (t,n)) (HC l'))else none
      |_=>none else none
    |none=>none)
   |.sl b []=>if exB b (x.an s)=true then(call f (.undef :: .sl b []::vs) (some (.int .i64 sz))).bind fun r=>match r with
      |(.sl false l',none)=>if PD sz l'=true/\l'.flatten.all AV.iA=true/\0<sz then some (⟨.ref 0 0 sz 0 l'.length l'.length,.no⟩,.new (HC l'))else none
      |_=>none else none
   |_=>none)else none
  |_,_=>none
 | .jB cl f xs=>if cl.pA=true/\(xs.map fun x=>(x.get s).uB s).all AV.free=true then
   (call f (xs.map fun x=>(x.get s).uB s) none).bind fun r=>match r with
    |(v,none)=>if v.plain then some (⟨v,.no⟩,.none)else none
    |_=>none else none
 |.len str x=>match x.get s with
  |.sl _ l=>if str then none else some (⟨.int .i64 l.length,.no⟩,.none)
  |.bl l=>if str then none else some (⟨.int .i64 l.length,.no⟩,.none)
  |.ref _ _ _ _ ln _=>if str then none else some (⟨.int .i64 ln,.no⟩,.none)
  |.str b=>if str then some (⟨.int .i64 b.size,.no⟩,.none)else none
  |_=>none
 |.app cl e size bytes x y=>match x.get s,(y.get s).elems s cl with
  | .sl b l,some m=>if aE bytes (l.length + m.length)=true/\PD size (l++m)=true then
    (match OE b (x.an s)with
    |.no=>none
    |.own k e'=>if e'=e then some (⟨.sl (b&&m.isEmpty) (l++m),.own 0 e⟩,.app (.own k e') 0)else none
    |.ex=>some (⟨.sl (b&&m.isEmpty) (l++m),.own 0 e⟩,.app .ex 0))else none
  |_,_=>none
 |.QB cl e size bytes x y=>match x.get s,(y.get s).elems s cl with
  | .sl b l,some m=>if aE bytes (l.length + m.length)=true/\PD size (l++m)=true then
    (match OE b (x.an s)with
    |.ex=>if m.isEmpty then some (⟨.sl b l,.ex⟩,.none)else some (⟨.ref 0 0 size 0 (l.length+m.length) (l.length+m.length),.no⟩,.new (HC (l++m)))
    |_=>none)else none
  |_,_=>none
 |.sB cl e size bytes x y=>match x.get s,(y.get s).elems s cl with
  | .sl b l,some m=>if aE bytes (l.length + m.length)=true/\PD size (l++m)=true then
    (match OE b (x.an s)with
    |.ex=>if m.isEmpty then some (⟨.sl b l,.ex⟩,.none)else some (⟨.ref 0 0 size 0 (l.length+m.length) (l.length+m.length),.no⟩,.new (HC (l++m)))
    |_=>none)else none
  |.ref t n sz off ln _,some m=>match(AV.ref t n sz off ln 0).elems s cl with
   | some l=>if off=0/\sz=size/\aE bytes (ln + m.length)=true/\PD size m=true/\t≠0 then
     some (⟨.ref 0 0 size 0 (ln+m.length) (ln+m.length),.no⟩,.rn (some (t,n)) (HC (l++m)))else none
   |none=>none
  |_,_=>none
 |.qB cl e size bytes x y=>match x.get s,(y.get s).nB s cl with
  | .sl b l,some m=>if aE bytes (l.length + m.length)=true/\PD size (l++m)=true/\0<m.length then
    (match OE b (x.an s)with
    |.ex=>some (⟨.ref 0 0 size 0 (l.length+m.length) (l.length+m.length),.no⟩,.new (HC (l++m)))
    |_=>none)else none
  |.ref t n sz off ln _,some m=>match(AV.ref t n sz off ln 0).nB s cl with
   | some l=>if off=0/\sz=size/\aE bytes (ln + m.length)=true/\PD size m=true/\t≠0/\(l++m).flatten.all (AV.gB t n)=true then
     some (⟨.ref 0 0 size 0 (ln+m.length) (ln+m.length),.no⟩,.rn (some (t,n)) (HC (l++m)))else none
   |none=>none
  |_,_=>none
 | .AB size zero n parts=>if parts.map (·.1)=List.range n/\parts.all (fun p=>(p.2.get s).whole&&decide ((p.2.get s).cells.length=zero.length))/\0<n/\zero.length=size then
   some (⟨.ref 0 0 size 0 n n,.no⟩,.new (HC (parts.map fun p=>(p.2.get s).cells)))else none
 |.fC=>some (⟨.mp 0 0,.no⟩,.mk (fJ []))
 |.bC T e=>some (⟨.ptr 0 0 0,.no⟩,.mk (NI T e ⟨#[]⟩))
 |.OB ok ty zero x k=>match x.get s with
  |.mp t n=>match(s.obj t n).bind SK with
   | some L=>if uP ty L=true/\PK ty (k.get s)=true/\zero.flat=true then
     some (⟨if ok then .sA [(uM L (k.get s)).getD zero,.bool (uM L (k.get s)).isSome]else(uM L (k.get s)).getD zero,.no⟩,.none)else none
   |none=>none
  |_=>none
 |.SB ty x k v=>match x.get s with
  |.mp t n=>match(s.obj t n).bind SK with
   | some L=>if uP ty L=true/\PK ty (k.get s)=true/\(v.get s).flat=true then
     some (⟨.undef,.no⟩,.obj t n (fJ (EK L (k.get s) (v.get s))))else none
   |none=>none
  |_=>none
 |.LB x=>match x.get s with
  |.mp t n=>match(s.obj t n).bind SK with
   |some L=>some (⟨.int .i64 L.length,.no⟩,.none)
   |none=>none
  |_=>none
 |.kB x=>match x.get s with
  |.mp t n=>match(s.obj t n).bind SK with
   |some L=>some (⟨.ptr 0 0 0,.no⟩,.mk (U5 t n L.length []))
   |none=>none
  |_=>none
 |.dB _=>none
 |.ent x=>match x.get s with
  |.ptr t n 0=>match(s.obj t n).bind NY with
   |some (tm,nm,N,seen)=>match(s.obj tm nm).bind SK,seen.getLast? with
    | some L,some i=>if L.length=N then (match L[i]? with
      |some [y,v]=>if y.flat&&v.flat then some (⟨.sA [y,v],.no⟩,.none)else none
      |_=>none)else none
    |_,_=>none
   |none=>none
  |_=>none
 |.slz x=>match x.get s with
  |.sl b _=>some (⟨.sl b [],.ex⟩,.none)
  |.bl _=>some (⟨.sl false [],.ex⟩,.none)
  |.ref ..=>some (⟨.sl false [],.ex⟩,.none)
  |_=>none
 |.AA x=>match x.get s with
  |.ptr t n o=>some (⟨.ptr t n o,.no⟩,.none)
  |.ip cs=>some (⟨.ip cs,.no⟩,.none)
  |.bp cs=>some (⟨.bp cs,.no⟩,.none)
  |_=>none
def JC.eff (o:JC)(s:OC):WC×rF->Option OC
 |(x,.none)=>some (s.put o.dst x)
 |(x,.new r)=>match o.dst with
  |none=>none
  |some d=>some ((s.setRow d s.next r).put (some d) ⟨match x.v with|.ref _ _ sz off l c=>.ref d s.next sz off l c|_=>.ptr d s.next 0,.no⟩)
 |(x,.set t n r)=>some ((s.setRow t n r).put o.dst x)
 |(x,.app a _)=>match o.dst with
  |none=>none
  |some d=>some (((s.lB a).strip d).put (some d) ⟨x.v,match x.a with|.own _ e=>.own d e|a=>a⟩)
 |(x,.obj t n S)=>some ((s.setObj t n S).put o.dst x)
 |(x,.mk S)=>match o.dst with
  |none=>none
  |some d=>some ((s.setObj d s.next S).put (some d) ⟨x.v.named d s.next,.no⟩)
 |(x,.zB t n S r)=>match o.dst with
  |none=>none
  |some d=>some (((s.setObj t n S).setRow d s.next r).put (some d) ⟨match x.v with|.ref _ _ sz off l c=>.ref d s.next sz off l c|_=>.ptr d s.next 0,.no⟩)
 |(x,.rn k r)=>match o.dst with
  |none=>none
  |some d=>some (((s.kA k).setRow d s.next r).put (some d) ⟨match x.v with|.ref _ _ sz off l c=>.ref d s.next sz off l c|_=>.ptr d s.next 0,.no⟩)
def JC.step (call:DD)(o:JC)(s:OC):Option OC :=
 match o.guard with
 |none=>(o.op.run call s).bind (o.eff s)
 |some (t,want)=>match(s.env t).v with
  |.bool b=>if b=want then(o.op.run call s).bind (o.eff s)else some (s.put o.dst ⟨.sA [],.no⟩)
  |.sA []=>some (s.put o.dst ⟨.sA [],.no⟩)
  |_=>none
def OC.enter (s:OC)(nt:Nat):OC:={ s with next:=s.next+1,gh:=fun t=>if t<nt then s.env t else s.gh (t-nt) }
def OC.leave (s:OC)(nt:Nat):OC:={ s with env:=fun t=>if t<nt then s.gh t else⟨.undef,.no⟩,gh:=fun t=>s.gh (t+nt) }
def SM (s:OC)(xs:List KD):List WC:=xs.map fun x=>⟨x.get s,x.an s⟩
def rT (lh:LH)(d:Option Nat)(nt:Nat)(x:KD)(xs:List KD)(s:OC)(k:OC->Option RV):Option RV:=match x.get s with
 |.fn f cs=>lh.h f (SM s xs++cs.map (⟨·,.no⟩)) (s.enter nt) fun y s'=>k ((s'.leave nt).put d y)
 |_=>none
noncomputable def cZ (d:Option Nat)(x:KD)(s:OC)(k:OC->Option RV):Option RV:=match x.get s with
 |.ptr t n 0=>match(s.obj t n).bind NY with
  |some (tm,nm,N,seen)=>match(s.obj tm nm).bind SK with
   | some L=>if L.length=N then N5 (fun i=>match L[i]? with
     |some [y,v]=>if y.flat&&v.flat then k ((s.setObj t n (U5 tm nm N (seen++[i]))).put d ⟨.sA [.bool true,y,v],.no⟩)else none
     |_=>none) (k (s.put d ⟨.sA [.bool false],.no⟩)) ((List.range N).filter fun i=>!seen.contains i)else none
   |none=>none
  |none=>none
 |_=>none
def sO (s:OC)(d:Option Nat)(g:Option (Nat×Bool))(a:Option RV)(k:OC->Option RV):Option RV:=match g with
 |none=>a
 |some (t,want)=>match(s.env t).v with
  |.bool b=>if b=want then a else k (s.put d ⟨.sA [],.no⟩)
  |.sA []=>k (s.put d ⟨.sA [],.no⟩)
  |_=>none
noncomputable def JC.rA (call:DD)(lh:LH)(o:JC)(s:OC)(k:OC->Option RV):Option RV:=match o.op with
 |.lA nt x xs=>sO s o.dst o.guard (rT lh o.dst nt x xs s k) k
 |.dB x=>sO s o.dst o.guard (cZ o.dst x s k) k
 |_=>(o.step call s).bind k
noncomputable def lJ (call:DD)(lh:LH):List JC->OC->(OC->Option RV)->Option RV
 | [],s,k=>k s
 |o::r,s,k=>o.rA call lh s fun s=>lJ call lh r s k
noncomputable def C.run (call:DD)(lp:LH):C->OC->(Ex->OC->Option RV)->Option RV
 |.skip,s,k=>k .nrm s
 |.seq a b,s,k=>a.run call lp s fun e s=>match e with
  |.nrm=>b.run call lp s k
  |e=>k e s
 |.reg ops,s,k=>lJ call lp ops s fun s=>k .nrm { s with next:=s.next+1 }
 |.cond c t e,s,k=>match c.get s with
  |.bool b=>if b then t.run call lp s k else e.run call lp s k
  |_=>none
 |.block id b,s,k=>b.run call lp s fun e s=>match e with
  |.exit j=>if j=id then k .nrm s else k (.exit j) s
  |e=>k e s
 |.loop b,s,k=>lp b s k
 |.exit id,s,k=>k (.exit id) s
 |.ret,s,k=>k .ret s
inductive Hy where
 |tmp (t:Nat)
 |cell (t:Nat) (agg:Bool) (size:Nat)
structure jD where
 code:C
 res:List Hy
 np:Nat
 mu:List Nat:=[]
def G2 (s:OC):List Hy->Option (List AV)
 | []=>some []
 |.tmp t::r=>(G2 s r).map ((s.env t).v :: ·)
 |.cell t agg size::r=>match(s.env t).v with
  |.ptr t n off=>((s.mem t n).bind (kD agg size off)).bind fun x=>(G2 s r).map (x.v :: ·)
  |_=>none
def T8:List AV->AV
 | [v]=>v
 |vs=>.sA vs
def Wj:List AV->Option (Nat×Nat)
 | []=>none
 |.ptr t n 0::_=>some (t,n)
 |_::r=>Wj r
def IL (t n:Nat):AV->AV
 |.ptr t' n' o=>if t'=t/\n'=n/\o=0 then .ptr 0 0 0 else .undef
 |v=>v
def J9 (S0:Option AV)(s:OC)(vs:List AV):Option RV :=
 match S0 with
 |some _=>if vs.all AV.free then(s.obj 0 0).map fun S=>(T8 vs,some S)else none
 |none=>if vs.all AV.free then some (T8 vs,none)else match Wj vs with
  |some (t,n)=>match s.obj t n with
   | some S=>if(vs.map (IL t n)).all (fun v=>v.free||v.SA)then some (T8 (vs.map (IL t n)),some S)else none
   |none=>none
  |none=>none
def fin (f:jD)(S0:Option AV):Ex->OC->Option RV
 |.exit _,_=>none
 |_,s=>(G2 s f.res).bind fun vs=>J9 S0 s (vs.map (AV.uB s))
def OC.init (args:List AV)(S0:Option AV):OC:=⟨fun t=>⟨args.getD t .undef,.no⟩,fun _ _=>none,1,fun t n=>if t=0/\n=0 then S0 else none,fun _=>⟨.undef,.no⟩⟩
def OC.TB (args:List AV)(cs:List AV):OC:=⟨fun t=>⟨args.getD t .undef,.no⟩,fun t n=>if t=0/\n=0 then some (cs.map fun v=>⟨v,lD v⟩)else none,1,fun _ _=>none,fun _=>⟨.undef,.no⟩⟩
def OC.ZA (s:OC):OC:={ s with mem:=fun t n=>if t=0/\n=0 then none else s.mem t n }
def pJ (n:Nat)(s:OC)(vs:List AV):Option RV :=
 if vs.all AV.free then(s.mem 0 0).bind fun r =>
  if(r.map fun x=>AV.DA s.ZA x.v).all AV.iA=true/\r.length=n then some (T8 vs,some (.agg (r.map fun x=>AV.DA s.ZA x.v)))else none
 else none
def tM (f:jD)(n:Nat):Ex->OC->Option RV
 |.exit _,_=>none
 |_,s=>(G2 s f.res).bind fun vs=>pJ n s (vs.map (AV.uB s.ZA))
def oT:List AV->Option (List AV)
 |.undef :: .undef::r=>some r
 |_=>none
def XN (lp:Oz)(b:C)(k:Ex->OC->Option RV):Ex->OC->Option RV
 |.nrm,s=>lp b s k
 |e,s=>k e s
def PI:List AV->Bool
 |.undef::_=>true
 |_=>false
def lO (s:OC):List Hy->Option (List WC)
 | []=>some []
 |.tmp t::r=>(lO s r).map (s.env t :: ·)
 |.cell t agg size::r=>match(s.env t).v with
  |.ptr t n off=>((s.mem t n).bind (kD agg size off)).bind fun x=>(lO s r).map (⟨x.v,.no⟩ :: ·)
  |_=>none
def AV.lC:AV->Bool
 |.bp _|.bl _|.fn ..|.sA _=>false
 |_=>true
def jN:List WC->Option WC
 | [x]=>some x
 |l=>if l.all (fun x=>x.v.lC)then some ⟨.sA (l.map (·.v)),.no⟩else none
def pO (f:jD)(k:WC->OC->Option RV):Ex->OC->Option RV
 |.exit _,_=>none
 |_,s=>((lO s f.res).bind jN).bind fun x=>k x s
def OC.UB (s:OC)(args:List WC):OC:={ s with env:=fun t=>args.getD t ⟨.undef,.no⟩ }
def W5 (f:jD):Ex->OC->Option RV
 |.exit _,_=>none
 |_,s=>match lO s f.res with
  |some [⟨.sl b [],a⟩]=>if exB b a=true then some (.sl b [],none)else none
  |some [⟨.ref t n sz 0 (len+1) _,_⟩]=>((s.mem t n).bind fun r=>bH r sz 0 (len+1)).map fun l=>(.sl false l,none)
  |_=>none
mutual
noncomputable def RG (T:Nat->Option jD)(ext:DD):Nat->DD
 |0,f,args,S0=>match T f with
  |none=>ext f args S0
  |some _=>none
 |n+1,f,args,S0=>match T f with
  |none=>ext f args S0
  |some c=>match oT args,S0 with
   |some rest,some (.agg cs)=>if rest.length=c.np/\PI rest=false then c.code.run (RG T ext n) ⟨QO T ext n,lP T ext n⟩ (OC.TB rest cs) (tM c cs.length)else none
   |some _,_=>none
   |none,_=>if args.length=c.np/\PI args=false/\Qj S0=true then c.code.run (RG T ext n) ⟨QO T ext n,lP T ext n⟩ (OC.init args S0) (fin c S0)
    else if args.length=c.np+1/\PI args=true/\PI args.tail=false/\S0.isNone=true then c.code.run (RG T ext n) ⟨QO T ext n,lP T ext n⟩ (OC.init args.tail none) (W5 c)else none
noncomputable def QO (T:Nat->Option jD)(ext:DD):Nat->Oz
 |0,_,_,_=>none
 |n+1,b,s,k=>b.run (RG T ext n) ⟨QO T ext n,lP T ext n⟩ s (XN (QO T ext n) b k)
noncomputable def lP (T:Nat->Option jD)(ext:DD):Nat->HpT
 |0,_,_,_,_=>none
 |n+1,f,args,s,k=>match T f with
  |none=>none
  |some c=>if args.length=c.np then c.code.run (RG T ext n) ⟨QO T ext n,lP T ext n⟩ (s.UB args) (pO c k)else none
end
section
def O1:Value->Option AV
 |.int k n=>some (.int k n)
 |.bool b=>some (.bool b)
 |.string s=>some (.str s)
 |.pointer none=>some .QA
 |.slice none 0 0=>some (.sl true [])
 |.map none=>some .undef
 |_=>none
def DM:List Value->Option (List AV)
 | []=>some []
 |v::r=>match O1 v,DM r with
  |some x,some l=>some (x::l)
  |_,_=>none
def Ba:Value->Option AV
 |.agg cs=>(DM cs.toList).map .agg
 |v=>O1 v
def uA:Operand->Option KD
 |.tmp t=>some (.t t)
 |.const v=>(Ba v).map .c
 |.func f=>some (.c (.fn f []))
 |_=>none
section
variable (P:Program)
def TL (t:TypeId):Option Bool:=(P.underlying t).map fun|.struct _=>true|.array ..=>true|_=>false
def fE (t:TypeId):Option Nat:=(P.info? t).map (·.size)
def UL (t:TypeId):Option (List AV):=((P.info? t).bind (·.zero)).bind fun z=>DM z.cells.toList
def tScal (t:TypeId):Bool:=match P.underlying t with|some (.int _)=>true|some .string=>true|some .bool=>true|_=>false
def aA:List (Nat×Operand)->Option (List (Nat×KD))
 | []=>some []
 |(i,x)::r=>match uA x,aA r with
  |some x,some l=>some ((i,x)::l)
  |_,_=>none
def NH:List Operand->Option (List KD)
 | []=>some []
 |x::r=>match uA x,NH r with
  |some x,some l=>some (x::l)
  |_,_=>none
def BX:Option Operand->Option (Option KD)
 |none=>some none
 |some x=>(uA x).map some
def ZR (pl:Nat->Option (Nat×Nat)):List (Nat×KD)->Option (List (Nat×Nat×KD))
 | []=>some []
 |(i,x)::r=>match pl i,ZR pl r with
  |some (off,z),some l=>some ((off,z,x)::l)
  |_,_=>none
def C0 (t:TypeId):Option Nat:=match P.underlying t,fE P t with
 |some (.int _),some 1=>some 0
 |some .string,some 1=>some 1
 |some .bool,some 1=>some 2
 |_,_=>none
def zS (r:TypeId->Option (List Nat))(i:Nat):List Field->Option (List Nat)
 | []=>some []
 | f :: fs=>(r f.type).bind fun l=>if f.name≠"_"/\f.offset=i then (zS r (i + l.length) fs).map (l++·) else none
def sJ:Nat->TypeId->Option (List Nat)
 |0,_=>none
 |n+1,t=>match C0 P t with
  |some k=>some [k]
  |none=>match P.underlying t with
   |some (.array m e)=>(sJ n e).bind fun l=>if P.cellsOf e=l.length/\fE P e=some l.length/\fE P t=some (List.replicate m l).flatten.length then some (List.replicate m l).flatten else none
   |some (.struct fs)=>if P.stoodInHeld t then none else(zS (sJ n) 0 fs.toList).bind fun l=>if fE P t=some l.length then some l else none
   |_=>none
def dT (t:TypeId):Option (List Nat):=if P.eqGuardType P.depth t then none else match P.underlying t with
 |some (.array ..)=>sJ P 8 t
 |some (.struct _)=>sJ P 8 t
 |_=>none
def scalK (t:TypeId):Option (Option IntKind):=match P.underlying t with
 |some (.int k)=>some (some k)
 |some .string=>some none
 |_=>none
def keysT (t:TypeId):Option (List (Option IntKind)):=match P.underlying t with
 |some (.array n e)=>(scalK P e).map (List.replicate n)
 |some (.struct fs)=>fs.toList.mapM fun f=>scalK P f.type
 |_=>none
def EM:Option IntKind->Nat
 |some _=>0
 |none=>1
def eZ (t:TypeId):Option Oa:=match P.underlying t with
 |some (.int k)=>some (.some k)
 |some .string=>some .none
 |_=>(keysT P t).bind fun l=>if dT P t=some (l.map EM)/\l≠[]then some (.agg l)else none
def Sr:List AV->Bool
 | [.QA,.sl true []]=>true
 |_=>false
def Rd (e:TypeId):Option TypeId:=if(UL P e).map Sr=some true then(match P.underlying e with
  |some (.struct fs)=>(fs[1]?).bind fun f=>match P.underlying f.type with
   |some (.slice el)=>some el
   |_=>none
  |_=>none)else none
def isZ:Option Operand->Bool
 |some (.const (.int .i64 n))=>decide (n=0)
 |_=>false
def F9 (cl:Cl)(mu:Option Bool)(o:Go.Op)(nest:Bool:=false):Option K :=
 match o with
 |.move x|.assign x=>(uA x).map .mv
 |.pick c a b=>match uA c,uA a,uA b with
  |some c,some a,some b=>some (.pick c a b)
  |_,_,_=>none
 |.alloc e=>match mu with
  |none=>(UL P e).map .alloc
  |some _=>(Rd P e).map (.bC e)
 |.box e x=>match fE P e,uA x with
  |some z,some x=>some (.box z x)
  |_,_=>none
 |.build t ps=>match P.underlying t,UL P t,aA ps.toList with
  |some (.struct fs),some z,some ps=>(match fs.toList.mapM (fun f=>(P.info? f.type).map fun i=>(f.offset,i.size))with
   |some pl=>(ZR (pl.toArray[·]?) ps).map (.build z)
   |none=>none)
  |some (.array _ e),some z,some ps=>(match P.info? e with
   |some ie=>(ZR (fun i=>some (i*ie.size,ie.size)) ps).map (.build z)
   |none=>none)
  |_,_,_=>none
 |.buildSlice t n ps=>match P.underlying t,aA ps.toList with
  |some (.slice e),some ps=>match UL P e,fE P e with
   |some z,some k=>if z.length=k/\0<k/\n*k<=16777216 then(match mu with|none=>some (.XA z n ps)|some _=>some (.AB k z n ps))else none
   |_,_=>none
  |_,_=>none
 |.load t x=>match TL P t,fE P t,uA x with
  |some a,some z,some x=>some (.load cl a z x)
  |_,_,_=>none
 |.store t x y=>match TL P t,fE P t,uA x,uA y with
  | some a,some z,some x,some y=>if a||z == 1 then some (.store cl a z x y)else none
  |_,_,_,_=>none
 |.binOp op t x y _=>match uA x,uA y with
  |some x,some y=>if tScal P t then some (.bin op (match P.underlying t with|some .bool=>true|_=>false) x y)else
   match op with
   |.eql=>(match P.underlying t with
    |some (.slice _)=>some (.gC false false x y)
    |some (.pointer _)=>some (.gC false true x y)
    |_=>(dT P t).map fun ks=>.iC false ks x y)
   |.neq=>(match P.underlying t with
    |some (.slice _)=>some (.gC true false x y)
    |some (.pointer _)=>some (.gC true true x y)
    |_=>(dT P t).map fun ks=>.iC true ks x y)
   |_=>none
  |_,_=>none
 |.unOp op t x=>if tScal P t then(uA x).map (.un op)else none
 |.convert s d x=>match P.underlying s,P.underlying d,uA x with
  |some (.int _),some (.int k),some x=>some (.conv (some k) x)
  |some .string,some .string,some x=>some (.conv none x)
  |some (.int _),some .string,some x=>some (.BB x)
  |some (.slice e),some .string,some x=>(match P.underlying e with
   |some (.int .u8)=>if fE P e=some 1 then some (.xB cl x)else none
   |_=>none)
  |_,_,_=>none
 |.makeSlice t l c=>match P.underlying t,uA l,uA c with
  |some (.slice e),some l,some c=>match UL P e,P.info? e with
   |some z,some i=>if z.length=i.size/\0<i.size then some (.wC i.size i.bytes z l c)else none
   |_,_=>none
  |_,_,_=>none
 |.entry x=>(uA x).map .ent
 |.slice t x lo hi mx0=>match uA x,BX lo,BX hi,BX mx0 with
  |some x,some l,some h,some m=>match P.underlying t with
   |some .string=>some (.slc true 1 x l h m)
   |some (.slice e)=>(match lo,isZ hi&&isZ mx0 with
    |none,true=>(fE P e).map fun _=>.slz x
    |_,_=>(fE P e).map fun k=>.slc false k x l h m)
   |some (.array n e)=>(match m with
    |none=>(fE P e).map fun k=>.PB cl n k x l h
    |some _=>none)
   |_=>none
  |_,_,_,_=>none
 |.fieldAddr t x i=>match P.underlying t,uA x with
  |some (.struct fs),some x=>match fs[i]? with
   |some f=>match fE P f.type with
    |some (_+1)=>some (.tB f.offset x)
    |_=>none
   |none=>none
  |_,_=>none
 |.field t x i=>match P.underlying t,uA x with
  |some (.struct fs),some x=>match fs[i]? with
   |some f=>match TL P f.type,fE P f.type with
    |some a,some z=>some (.field a f.offset z x)
    |_,_=>none
   |none=>none
  |_,_=>none
 |.indexAddr t x i=>match P.underlying t,uA x,uA i with
  |some (.slice e),some x,some i=>(fE P e).map fun k=>.nA k x i
  |some (.array n e),some x,some i=>(fE P e).map fun k=>.pB n k x i
  |_,_,_=>none
 |.index t x i=>match P.underlying t,uA x,uA i with
  |some .string,some x,some i=>some (.index x i)
  |_,_,_=>none
 |.range t x=>match P.underlying t with
  |some (.map _ _)=>(uA x).map .kB
  |_=>none
 |.makeMap t r=>match r,P.underlying t with
  |none,some (.map kT _)=>(eZ P kT).map fun _=>.fC
  |_,_=>none
 |.lookup t x i ok=>match P.underlying t,uA x,uA i with
  |some (.map kT eT),some x,some i=>match eZ P kT,((P.info? eT).bind (·.zero)).bind Ba with
   |some ty,some z=>some (.OB ok ty z x i)
   |_,_=>none
  |_,_,_=>none
 |.mapUpdate t m k v=>match P.underlying t,uA m,uA k,uA v with
  |some (.map kT _),some m,some k,some v=>(eZ P kT).map fun ty=>.SB ty m k v
  |_,_,_,_=>none
 |.insert t m k v=>match P.underlying t,uA m,uA k,uA v with
  |some (.map kT _),some m,some k,some v=>(eZ P kT).map fun ty=>.SB ty m k v
  |_,_,_,_=>none
 |.extract x i=>(uA x).map fun x=>.ext x i
 |.nilCheck x=>(uA x).map .AA
 |.call { callee:=.value (.func f),args:=xs,.. }=>match mu with
  |some false=>(match P.funcs[f]? with
   |some fn=>(match fn.resultTypes.toList with
    | [t]=>(match P.underlying t with
     |some (.slice e)=>(match fE P e,NH xs.toList with
      |some z,some xs=>if 0<z then some (.LA cl f z xs)else none
      |_,_=>none)
     |_=>none)
    |_=>none)
   |none=>none)
  |some true=>(NH xs.toList).map (.dA cl f)
  |none=>(NH xs.toList).map (.call cl f)
 |.makeFunc (.func f) fs xs=>if fs.size=0 then(NH xs.toList).map (.jC f)else none
 |.call { callee:=.value (.tmp t),args:=xs,.. }=>(NH xs.toList).map (.RA cl (.t t))
 |.call { callee:=.builtin .len,args:=xs,argTypes:=ts }=>match NH xs.toList,ts.toList with
  |some [x],[t]=>(match P.underlying t with
   |some .string=>some (.len true x)
   |some (.slice _)=>some (.len false x)
   |some (.map _ _)=>some (.LB x)
   |_=>none)
  |_,_=>none
 |.call { callee:=.builtin .clear,args:=xs,argTypes:=ts }=>match NH xs.toList,ts.toList with
  |some [x],[t]=>(match P.underlying t with
   |some (.slice e)=>(UL P e).map fun z=>.dC cl z x
   |_=>none)
  |_,_=>none
 |.call { callee:=.builtin .max,args:=xs,.. }=>match xs.toList with
  | [X,Y]=>(match uA X,uA Y with
   |some x,some y=>some (.mm true x y)
   |_,_=>none)
  |_=>none
 |.call { callee:=.builtin .min,args:=xs,.. }=>match xs.toList with
  | [X,Y]=>(match uA X,uA Y with
   |some x,some y=>some (.mm false x y)
   |_,_=>none)
  |_=>none
 |.call { callee:=.builtin .append,args:=xs,argTypes:=ts }=>match NH xs.toList,ts.toList with
  |some [x,y],[t,t']=>if t=t' then match P.underlying t with
   |some (.slice e)=>match P.info? e,UL P e with
    |some i,some z=>if z.length=i.size/\0<i.size then some (match mu with|some true=>(if nest then .qB cl e i.size i.bytes x y else .sB cl e i.size i.bytes x y)|some false=>.QB cl e i.size i.bytes x y|none=>.app cl e i.size i.bytes x y)else none
    |_,_=>none
   |_=>none else none
  |_,_=>none
 |_=>none
def z7 (cl:Cl)(mu:Option Bool)(bad nest:Bool)(o:Go.Op):Option K:=match F9 P cl mu o nest with
 |some k=>some k
 |none=>if bad then some .bad else none
def eX (cl:Cl)(hs:Nat->Bool)(L:List Nat)(o:Go.Op):Option K:=match o with
 |.call { callee:=.value (.func f),args:=xs,.. } =>
  if hs (30000000+f)then(NH xs.toList).map (.jB cl f)else
  if hs (10000000+f)||hs (20000000+f)then(match P.funcs[f]? with
   |some fn=>(match fn.resultTypes.toList with
    | [t]=>(match P.underlying t with
     |some (.slice e)=>(match fE P e,NH xs.toList with
      |some z,some ys=>if 0<z then(if hs (10000000+f)then some (.iB cl f z ys)else match ys with
       |y::r=>some (.PA cl f z L y r)
       | []=>none)else none
      |_,_=>none)
     |_=>none)
    |_=>none)
   |none=>none)else none
 |_=>none
def I3 (nt:Nat)(hs:Nat->Bool)(o:Go.Op):Option K:=match o with
 |.call { callee:=.value (.func f),args:=xs,.. }=>if hs (1000000+f)then(NH xs.toList).map (.lA nt (.c (.fn f [])))else none
 |.call { callee:=.value (.tmp t),args:=xs,.. }=>if hs (2000000+t)then(NH xs.toList).map (.lA nt (.t t))else none
 |.next x false=>(uA x).map .dB
 |_=>none
def TQ (boxes:List Nat)(ops:List Oper):Nat->Operand->Option Nat
 |0,_=>none
 |n+1,.tmp t=>if boxes.contains t then some t else
  match ops.find? (fun o=>o.dst == some t)with
  |some o=>match o.op with
   |.fieldAddr _ x _=>TQ boxes ops n x
   |.move x=>TQ boxes ops n x
   |.nilCheck x=>TQ boxes ops n x
   |_=>none
  |none=>none
 |_+1,_=>none
def isS:K->Bool
 |.store ..|.dA ..|.dC ..=>true
 |_=>false
def Ti:K->Bool
 |.lA ..=>true
 |.dB _=>true
 |_=>false
def n9:K->Bool
 |.alloc _|.box ..|.wC ..|.QB ..|.sB ..|.qB ..|.AB ..|.LA ..|.iB ..|.PA ..=>true
 |_=>false
def Wh:K->Bool
 |.sB ..=>true
 |.qB ..=>true
 |.PA ..=>true
 |.lA ..=>true
 |.dB _=>true
 |_=>false
def nV:K->Bool
 |.call ..|.LA ..|.iB ..|.PA ..|.jB ..|.RA ..|.dA ..|.fC|.bC ..|.OB ..|.SB ..|.LB _|.kB _|.ent _=>true
 |_=>false
def Th:K->Bool
 |.OB ..|.LB _|.ent _=>true
 |_=>false
def Ta:K->Bool
 |.app ..|.sB ..|.qB ..=>true
 |_=>false
def K.cl:K->Option Cl
 |.load cl ..=>some cl
 |.store cl ..=>some cl
 |.dC cl ..=>some cl
 |.call cl ..=>some cl
 |.LA cl ..=>some cl
 |.RA cl ..=>some cl
 |.iB cl ..=>some cl
 |.PA cl ..=>some cl
 |.jB cl ..=>some cl
 |.dA cl ..=>some cl
 |.xB cl _=>some cl
 |.PB cl ..=>some cl
 |.app cl ..=>some cl
 |.QB cl ..=>some cl
 |.sB cl ..=>some cl
 |.qB cl ..=>some cl
 |_=>none
def cK (a b:JC):Bool :=
 !Wh a.op&&!Wh b.op&&(!Ta a.op||!Ta b.op)&&(!nV a.op||!nV b.op||(Th a.op&&Th b.op)) &&
 (match a.op.cl,b.op.cl with
  | some c,some d=>!(isS a.op||isS b.op)||(match c,d with
   |.RB,_=>true
   |_,.RB=>true
   |.root r,.root r'=>r != r'
   |.root r,.out L=>L.contains r
   |.out L,.root r=>L.contains r
   |_,_=>false)
  |_,_=>true) &&
 (!n9 a.op||(match b.op.cl with | none=>true | some .RB=>true | some (.root r)=>a.dst != some r | some (.out L)=>(match a.dst with | some d=>L.contains d | none=>false) | some .any=>false)) &&
 (!n9 b.op||(match a.op.cl with | none=>true | some .RB=>true | some (.root r)=>b.dst != some r | some (.out L)=>(match b.dst with | some d=>L.contains d | none=>false) | some .any=>false)) &&
 (!n9 a.op||!n9 b.op||a.dst != b.dst)
def Ui (o:JC):Bool:=match o.op,o.guard with
 |.mv (.t _),none=>true
 |_,_=>false
def Eh:K->Bool
 |.sB ..=>true
 |.PA ..=>true
 |.qB ..=>true
 |_=>false
def Qh (o b:JC):Bool:=match o.op,o.guard,b.op with
 |.load (.root r) .false _ (.t _),none,.PA _ _ _ L _ _=>L.contains r&&b.dst != some r
 |_,_,_=>false
def Rh (o:JC):Bool:=match o.op,o.guard with
 |.AA (.t _),none=>true
 |.tB _ (.t _),none=>true
 |_,_=>false
def jQ (a b:JC):Bool:=cK a b||((Ui a&&Eh b.op)||(Ui b&&Eh a.op)||(Qh a b&&Eh b.op)||(Eh a.op&&Rh b))
def gS (ops:List Oper):List Nat :=
 (ops.foldl (fun acc o=>acc.push (o.after.foldl (fun s e=>if Region.binds .any e then s ||| 2 ^ e.on ||| acc.getD e.on 0 else s) 0)) (#[]:Array Nat)).toList
def K.aA:K->List KD
 |.mv x|.box _ x|.load _ _ _ x|.un _ x|.conv _ x|.BB x|.xB _ x|.tB _ x|.field _ _ _ x|.ext x _|.len _ x|.AA x|.kB x|.dB x|.slz x|.ent x|.dC _ _ x=>[x]
 |.pick c a b=>[c,a,b]
 |.alloc _|.fC|.bC ..|.bad=>[]
 |.OB _ _ _ x k=>[x,k]
 |.SB _ x k v=>[x,k,v]
 |.LB x=>[x]
 |.build _ ps=>ps.map (·.2.2)
 |.XA _ _ ps=>ps.map (·.2)
 |.AB _ _ _ ps=>ps.map (·.2)
 |.store _ _ _ x y|.bin _ _ x y|.mm _ x y|.iC _ _ x y|.gC _ _ x y|.wC _ _ _ x y|.nA _ x y|.pB _ _ x y|.index x y|.app _ _ _ _ x y|.QB _ _ _ _ x y|.sB _ _ _ _ x y|.qB _ _ _ _ x y=>[x,y]
 |.slc _ _ x lo hi mx=>x ::(lo.toList++(hi.toList++mx.toList))
 |.PB _ _ _ x lo hi=>x ::(lo.toList++hi.toList)
 |.jC _ xs=>xs
 |.RA _ x xs=>x::xs
 |.dA _ _ xs=>xs
 |.lA _ x xs=>x::xs
 |.call _ _ xs=>xs
 |.LA _ _ _ xs=>xs
 |.iB _ _ _ xs=>xs
 |.PA _ _ _ _ x xs=>x::xs
 |.jB _ _ xs=>xs
def JC.looks (o:JC):List Nat:=o.op.aA.filterMap (fun|.t n=>some n|_=>none)++(match o.guard with|some (t,_)=>[t]|none=>[])
def JC.clear (a b:JC):Bool:=match a.dst with
 |some d=>!b.looks.contains d&&b.dst != some d
 |none=>true
def UH (a b:JC):Bool:=a.clear b&&b.clear a
def QM (o:Oper):List Nat:=o.after.toList.filterMap fun e=>if Region.binds .any e then some e.on else none
def Mx (ops:List Oper)(bf:List Nat):Bool:=(List.range ops.length).all fun i=>match ops[i]? with
 | some o=>(QM o).all (fun e=>decide (e<i))&&(List.range i).all fun r=>!(bf.getD i 0).testBit r||(QM o).any fun e=>e == r||(decide (r<e)&&(bf.getD e 0).testBit r)
 |none=>false
def PV (ops:List Oper)(cs:List JC):Bool :=
 let bf:=gS ops
 Mx ops bf&&(List.range ops.length).all fun j=>(List.range j).all fun i =>
  (bf.getD j 0).testBit i||(match cs[i]?,cs[j]? with
   |some x,some y=>UH x y&&jQ x y
   |_,_=>false)
def xU (cs:List JC):Bool:=(List.range cs.length).all fun j=>match cs[j]? with
 | some y=>!((n9 y.op||nV y.op)&&y.dst.isSome)||(List.range cs.length).all fun i=>i == j||(match cs[i]? with | some x=>x.dst != y.dst | none=>false)
 |none=>false
def F4 (o:Oper):Bool:=match o.op with|.store ..=>true|.alloc _=>true|.box ..=>true|.makeSlice ..=>true|.call { callee:=.builtin .append,.. }=>true|.call { callee:=.builtin .clear,.. }=>true|_=>false
def Rg (ops:List Oper)(o:Oper):Bool:=match o.dst with
 |none=>false
 |some d=>match ops.findIdx? (fun p=>p.dst == some d)with
  |none=>false
  |some i=>let bf:=gS ops
   (List.range ops.length).all fun j=>i == j||!(match ops[j]? with | some p=>F4 p | none=>false)||(bf.getD j 0).testBit i||(bf.getD i 0).testBit j
def claim (boxes:List Nat)(adv lo:Bool)(out:Option (List Nat))(ops:List Oper)(draw:Bool)(o:Oper):Cl :=
 if !draw then .any else
 if adv then(match o.op with
  |.load _ x=>(match TQ boxes ops 10 x with|some t=>.root t|none=>if Rg ops o then .any else if lo then .out (out.getD []++ops.filterMap fun p=>if F4 p then p.dst else none)else .RB)
  |.store _ x _=>(match TQ boxes ops 10 x,out with|some t,_=>.root t|none,some L=>.out (L++ops.filterMap fun p=>if F4 p then p.dst else none)|none,none=>.any)
  | .call { callee:=.value (.func _),args:=xs,.. }=>(match(xs[0]?).bind (TQ (boxes.filter (· == 0)) ops 10)with | some t=>.root t | none=>if Rg ops o||!(ops.any F4)then .any else .RB)
  | _=>if Rg ops o||!(ops.any F4)then .any else .RB)else
 if ops.any (fun o=>match o.op with|.store ..=>true|.call { callee:=.builtin .clear,.. }=>true|.alloc _=>true|.box ..=>true|.makeSlice ..=>true|_=>false)then
  match o.op with
  |.load _ x=>(match TQ boxes ops 10 x with|some t=>.root t|none=>.RB)
  |.store _ x _=>(match TQ boxes ops 10 x with|some t=>.root t|none=>.any)
  |_=>.RB
 else .any
def Dd (h9:Bool)(boxes:List Nat)(adv lo:Bool)(out:Option (List Nat))(ops:List Oper)(draw:Bool)(o:Oper):Cl:=match claim boxes adv lo out ops draw o with
 |.RB=>if h9 then(match o.op with
  |.load _ _=>.out ((ops.filterMap fun p=>match p.op with|.store _ x _=>TQ boxes ops 10 x|_=>none)++ops.filterMap fun p=>if F4 p then p.dst else none)
  |_=>.RB)else .RB
 |c=>c
def dstOk (nt:Nat):Option Nat->Bool
 |some d=>decide (d<nt)
 |none=>true
def aU (boxes:List Nat)(nt:Nat)(all:List Oper)(draw:Bool):List Oper->Option (List JC)
 | []=>some []
 |o::r=>match(match I3 nt (fun c=>boxes.contains (nt+1+c)) o.op with|some k=>some k|none=>match eX P (Dd (boxes.contains (nt+1+9000000)) boxes (boxes.any (nt<·)) (boxes.contains (nt+1+7000000)) (if boxes.contains (nt+1+6000000)then some (boxes.filter (·<nt))else none) all draw o) (fun c=>boxes.contains (nt+1+c)) (boxes.filter (·<nt)) o.op with|some k=>some k|none=>(z7 P (Dd (boxes.contains (nt+1+9000000)) boxes (boxes.any (nt<·)) (boxes.contains (nt+1+7000000)) (if boxes.contains (nt+1+6000000)then some (boxes.filter (·<nt))else none) all draw o) (match o.dst with|some d=>if boxes.contains (nt+1+(2*d+1))then some true else if boxes.contains (nt+1+2*d)then some false else none|none=>none) (boxes.contains (nt+1+4000000)) (boxes.contains (nt+1+5000000)) o.op).filter (fun k=>!Ti k)),aU boxes nt all draw r with
  |some k,some l =>
   if dstOk nt o.dst then
    match o.guard with
    |none=>some (⟨o.dst,k,none⟩::l)
    |some (g,want)=>match(all[g]?).bind (·.dst)with
     |some t=>some (⟨o.dst,k,some (t,want)⟩::l)
     |none=>none
   else none
  |_,_=>none
def comp (boxes:List Nat)(nt:Nat):Code->Option C
 |.skip=>some .skip
 |.seq a b=>match comp boxes nt a,comp boxes nt b with
  |some a,some b=>some (.seq a b)
  |_,_=>none
 |.region _ ops draw=>match aU P boxes nt ops.toList draw ops.toList with
  | some cs=>if xU cs&&(!draw||PV ops.toList cs)then some (.reg cs)else none
  |none=>none
 |.cond c t e=>match uA c,comp boxes nt t,comp boxes nt e with
  |some c,some t,some e=>some (.cond c t e)
  |_,_,_=>none
 |.block id b=>(comp boxes nt b).map (.block id)
 |.loop b=>(comp boxes nt b).map .loop
 |.exit id=>some (.exit id)
 |.scope b=>comp boxes nt b
 |.ret=>some .ret
 |_=>none
def SO:Code->List Nat
 |.seq a b=>SO a++SO b
 |.region _ ops _=>ops.toList.filterMap fun o=>match o.op with|.alloc _=>o.dst|.box ..=>o.dst|_=>none
 |.cond _ t e=>SO t++SO e
 |.block _ b=>SO b
 |.loop b=>SO b
 |.scope b=>SO b
 |_=>[]
def RN:List ResultVar->Option (List Hy)
 | []=>some []
 |.tmp t::r=>(RN r).map (.tmp t :: ·)
 |.cell t ty::r=>match TL P ty,fE P ty,RN r with
  |some a,some z,some l=>some (.cell t a z::l)
  |_,_,_=>none
def wT (mu:List Nat)(fn:Func):Option jD:=match fn.body with
 |none=>none
 |some b=>match comp P (SO b++(if mu.contains 3000000 then [0]else [])++mu.map (fn.ntmps+1 + ·)) fn.ntmps b,RN P fn.results.toList with
  |some c,some r=>if fn.params.size+fn.nfree<=fn.ntmps then some ⟨c,r,fn.params.size+fn.nfree,mu⟩else none
  |_,_=>none
end
end
section
open Go.RowKit
structure cE (F:Nat->Prop)(w w':World):Prop where
 os:w'.os=w.os
 tape:w'.tape=w.tape
 output:w'.output=w.output
 size:w.heap.size<=w'.heap.size
 block:∀k,k<w.heap.size->¬F k->w'.heap[k]?=w.heap[k]?
section
variable {F G:Nat->Prop} {w w1 w2:World}
theorem cE.refl (F:Nat->Prop)(w:World):cE F w w:=⟨rfl,rfl,rfl,yg _,fun _ _ _=>rfl⟩
theorem cE.trans (h:cE F w w1)(k:cE G w1 w2)(hG:∀i,i<w.heap.size->G i->F i):cE F w w2 :=
 ⟨k.os.trans h.os,k.tape.trans h.tape,k.output.trans h.output,yt h.size k.size,fun i hi hF =>
  (k.block i (Nat.lt_of_lt_of_le hi h.size) (fun g=>hF (hG i hi g))).trans (h.block i hi hF)⟩
theorem cE.mono (h:cE F w w1)(hG:∀i,i<w.heap.size->F i->G i):cE G w w1 :=
 ⟨h.os,h.tape,h.output,h.size,fun i hi hg=>h.block i hi fun hf=>hg (hG i hi hf)⟩
theorem cE.of_below (h:Below w.heap.size w w1)(F:Nat->Prop):cE F w w1:=⟨h.os,h.tape,h.output,h.size,fun k hk _=>h.block k hk⟩
theorem cE.below (h:cE (fun _=>False) w w1):Below w.heap.size w w1:=⟨h.os,h.tape,h.output,h.size,fun k hk=>h.block k hk id⟩
theorem cE.alloc (h:cE F w w1)(o:Obj):cE F w (w1.alloc o) :=
 ⟨h.os,h.tape,h.output,by have:=h.size;simp;omega,fun k hk hF=>(Below.heap_alloc w1 o k (Nat.lt_of_lt_of_le hk h.size)).trans (h.block k hk hF)⟩
theorem cE.drew (h:cE F w w1):cE F w w1.drew:=⟨h.os,h.tape,h.output,h.size,h.block⟩
theorem cE.setCell (h:cE F w w1){a:Addr}(ha:a.block<w.heap.size->F a.block)(u:Value):cE F w (w1.setCell a u) :=
 ⟨h.os,h.tape,h.output,by have:=h.size;simpa [World.setCell]using this,fun k hk hF =>
  (Below.heap_setCell w1 a u k (fun e=>hF (e▸ha (e▸hk)))).trans (h.block k hk hF)⟩
theorem cE.FA (h:cE F w w1)(k:Below w1.heap.size w1 w2):cE F w w2:=h.trans (cE.of_below k (fun _=>False)) (fun _ _ h=>h.elim)
theorem cE.grown (h:cE F w w1){row:Option Nat}(hg:w1.grownBy w2 row)(hr:∀k,k<w.heap.size->row=some k->F k):cE F w w2 :=
 ⟨hg.os.trans h.os,hg.tape.trans h.tape,hg.output.trans h.output,yt h.size hg.size,fun k hk hF =>
  (hg.block k (Nat.lt_of_lt_of_le hk h.size) (fun e=>hF (hr k hk e.symm))).trans (h.block k hk hF)⟩
theorem cE.cell (h:cE F w w1){a:Addr}(ha:a.block<w.heap.size)(hF:¬F a.block):w1.cell? a=w.cell? a:=World.cell?_of_block (w:=w) (h.block _ ha hF)
theorem cE.frozen (h:cE F w w1){a:Addr}(ha:a.block<w.heap.size)(hF:¬F a.block):w1.frozen? a=w.frozen? a:=World.frozen?_of_block (w:=w) (h.block _ ha hF)
end
theorem MQ {p:Prop}(h:p):Hid p:=h
theorem DC {w:World}{k:Nat}{o:Obj}(h:w.heap[k]?=some o):k<w.heap.size:=by
 rcases Nat.lt_or_ge k w.heap.size with h'|h'
 ·exact h'
 ·rw[Array.getElem?_eq_none h']at h;cases h
theorem cE.at_ {F:Nat->Prop}{w w1:World}(h:cE F w w1){a:Addr}{v:Value}(hc:w.cell? a=some v)(hF:¬F a.block):w1.cell? a=some v:=(h.cell (World.block_lt_of_cell? w a hc) hF).trans hc
theorem cE.fz {F:Nat->Prop}{w w1:World}(h:cE F w w1){a:Addr}(hc:w.frozen? a=false)(hl:a.block<w.heap.size)(hF:¬F a.block):w1.frozen? a=false:=(h.frozen hl hF).trans hc
theorem nT {w:World}{o:Obj}{n:Nat}(h:n=w.heap.size):(w.alloc o).heap[n]?=some o:=by rw[h];exact heap_alloc_new w o
def Sl (av:Nat->Prop)(w:World)(sz:Nat)(v:Value)(n:Nat)(cs:List Value):Prop :=
 cs.length=n*sz/\∃A c,v=.slice A n c/\n<=c ∧
  (0<n->∃b off,A=some ⟨b,off,none⟩/\b<w.heap.size/\¬av b/\∀j u,cs[j]?=some u->w.cell? ⟨b,off+j,none⟩=some u)
section
variable {av za:Nat->Prop} {w w':World} {sz n:Nat} {v:Value} {cs:List Value}
theorem Sl.nil (av:Nat->Prop)(w:World)(sz:Nat):Sl av w sz (.slice none 0 0) 0 []:=⟨by simp,none,0,rfl,yg _,fun h=>absurd h (by omega)⟩
theorem Sl.keep {F:Nat->Prop}(h:Sl av w sz v n cs)(hk:cE F w w')(hF:∀b,b<w.heap.size->F b->av b):Sl av w' sz v n cs:=by
 obtain⟨hl,A,c,rfl,hc,hn⟩:=h;refine⟨hl,A,c,rfl,hc,fun h0=>?_⟩;obtain⟨b,off,rfl,hb,gd,nb⟩:=hn h0;exact⟨b,off,rfl,Nat.lt_of_lt_of_le hb hk.size,gd,fun j u hu=>(hk.cell (a:=⟨b,off+j,none⟩) hb (fun f=>gd (hF b hb f))).trans (nb j u hu)⟩
theorem Sl.below (h:Sl av w sz v n cs)(hk:Below w.heap.size w w'):Sl av w' sz v n cs:=h.keep (cE.of_below hk (fun _=>False)) (fun _ _ h=>h.elim)
theorem Sl.len (h:Sl av w sz v n cs):cs.length=n*sz:=h.1
theorem Sl.zero (av:Nat->Prop)(w:World)(sz:Nat)(A:Option Addr)(c:Nat):Sl av w sz (.slice A 0 c) 0 []:=⟨by simp,A,c,rfl,Nat.zero_le _,fun h=>absurd h (by omega)⟩
end
theorem cE.setRow {F:Nat->Prop}{w w1:World}(h:cE F w w1){B:Nat}(hF:B<w.heap.size->F B)(cs:Array Value):cE F w (w1.setRow B cs) :=
 ⟨h.os,h.tape,h.output,by have:=h.size;simpa using this,fun k hk hn=>(setRow_other w1 B k cs (fun e=>hn (e▸hF (e▸hk)))).trans (h.block k hk hn)⟩
/-! maps -/
def pN {κ β:Type}[DecidableEq κ]:List (κ×β)->κ->Option β
 | [],_=>none
 |p::l,k=>if k=p.1 then some p.2 else pN l k
def J2 {κ β:Type}[DecidableEq κ]:List (κ×β)->κ->β->List (κ×β)
 | [],k,v=>[(k,v)]
 |p::l,k,v=>if k=p.1 then(k,v)::l else p::J2 l k v
section
variable {κ β:Type} [DecidableEq κ]
end
structure gR (P:Program)(T:TypeId){κ:Type}[DecidableEq κ](ke:κ->Value):Prop where
 check:∀(empty:Bool)(k:κ)(w:World),(Instr.checkKey empty 10000 T (ke k)).run P w=.ok () w
 find:∀(k:κ)(es:List MapEntry)(L:List (κ×Value))(w:World),es.map (fun e=>(e.key,e.val))=L.map (fun p=>(ke p.1,p.2)) →
  (Instr.findKey T (ke k) es).run P w=.ok (((L.map (·.1)).idxOf? k).bind fun i=>(L[i]?).map fun p=>(i,p.2)) w
 same:∀(k:κ),Instr.sameBits 10000 (ke k) (ke k)=true
def DQ {κ:Type}(ke:κ->Value)(w:World)(m:Nat)(L:List (κ×Value)):Prop :=
 ∃es clock,w.heap[m]?=some (.map es clock)/\es.toList.map (fun e=>(e.key,e.val))=L.map (fun p=>(ke p.1,p.2))
theorem Ar {κ β:Type}[DecidableEq κ](L:List (κ×β))(k:κ):(((L.map (·.1)).idxOf? k).bind fun i=>(L[i]?).map fun p=>(i,p.2)).map (·.2)=pN L k:=by
 induction L with
 |nil=>simp[pN]
 |cons p l ih =>
  unfold pN;simp only[yk,List.idxOf?_cons];by_cases h:p.1=k
  ·subst h;simp
  ·have h':(p.1 == k)=false:=by simpa using h
   have h2:¬k=p.1:=fun e=>h e.symm
   rw[h',if_neg h2,<- ih];cases hi:List.idxOf? k (List.map (fun x=>x.1) l)with
   |none=>simp
   |some i=>simp[Function.comp_def]
section
theorem DQ.keep {κ:Type}{ke:κ->Value}{w:World}{m:Nat}{L:List (κ×Value)}{F:Nat->Prop}{w':World}(h:DQ ke w m L)(hk:cE F w w')(hF:¬F m):DQ ke w' m L:=by
 obtain⟨es,clock,h1,h2⟩:=h;exact⟨es,clock,(hk.block m (DC h1) hF).trans h1,h2⟩
theorem DQ.lt {κ:Type}{ke:κ->Value}{w:World}{m:Nat}{L:List (κ×Value)}(h:DQ ke w m L):m<w.heap.size:=by
 obtain⟨es,clock,h1,h2⟩:=h;exact DC h1
theorem Tv {κ β:Type}[DecidableEq κ](L:List (κ×β))(k:κ)(v:β):J2 L k v=match(L.map (·.1)).idxOf? k with|some i=>L.set i (k,v)|none=>L++[(k,v)]:=by
 induction L with
 |nil=>simp[J2]
 |cons p l ih =>
  unfold J2;simp only[yk,List.idxOf?_cons];by_cases h:p.1=k
  ·subst h;simp
  ·have h':(p.1 == k)=false:=by simpa using h
   have h2:¬k=p.1:=fun e=>h e.symm
   rw[h',if_neg h2,ih];cases hi:List.idxOf? k (List.map (fun x=>x.1) l)<;>simp
variable {κ:Type} [DecidableEq κ] {P:Program} {T kT eT:TypeId} {ke:κ->Value} {w:World} {m:Nat} {L:List (κ × Value)}
theorem DQ.lookup (h:DQ ke w m L)(K:gR P kT ke)(hT:P.underlying T=some (.map kT eT)){z:Value}(hz:(zeroValue eT).run P w=.ok z w)(k:κ):
  (Instr.lookup T (.map (some m)) (ke k) false).run P w=.ok ((pN L k).getD z) w:=by
 obtain⟨es,clock,h1,h2⟩:=h;have hg:(getObj m).run P w=.ok (.map es clock) w:=by simp[getObj,Sem.run,h1]
 have hf:=K.find k es.toList L w h2;have hi:=Ar L k;simp only[Instr.lookup,Sem.run_bind,run_underlying hT,Result.andThen_ok,hg,Sem.run_pure,K.check,hf];rw[<- hi];cases hq:((L.map (·.1)).idxOf? k).bind fun i=>(L[i]?).map fun p=>(i,p.2)with
 |none=>simp[hz]
 |some x=>obtain⟨i,v⟩:=x;simp
theorem DQ.aC (h:DQ ke w m L)(K:gR P kT ke)(hT:P.underlying T=some (.map kT eT)){z:Value}(hz:(zeroValue eT).run P w=.ok z w)(k:κ):
  (Instr.lookup T (.map (some m)) (ke k) true).run P w=.ok (.tuple #[(pN L k).getD z,.bool (pN L k).isSome]) w:=by
 obtain⟨es,clock,h1,h2⟩:=h;have hg:(getObj m).run P w=.ok (.map es clock) w:=by simp[getObj,Sem.run,h1]
 have hf:=K.find k es.toList L w h2;have hi:=Ar L k;simp only[Instr.lookup,Sem.run_bind,run_underlying hT,Result.andThen_ok,hg,Sem.run_pure,K.check,hf];rw[<- hi];cases hq:((L.map (·.1)).idxOf? k).bind fun i=>(L[i]?).map fun p=>(i,p.2)with
 |none=>simp[hz]
 |some x=>obtain⟨i,v⟩:=x;simp
theorem cE.setObj {F:Nat->Prop}{w w1:World}(h:cE F w w1){m:Nat}(hF:F m)(o:Obj):cE F w { w1 with heap:=w1.heap.setIfInBounds m o } :=
 ⟨h.os,h.tape,h.output,by have:=h.size;simpa using this,fun k hk hn=>by
  have:m≠k:=fun e=>hn (e▸hF)
  show(w1.heap.setIfInBounds m o)[k]?=_;rw[Array.getElem?_setIfInBounds_ne this];exact h.block k hk hn⟩
end
end
section
open Go Go.RowKit
abbrev Av:=Nat->Nat->Prop
structure Ix where
 f:Nat->Nat->Option Nat
 ob:Nat->Nat->Option (Nat->Prop)
 z:Nat->Nat
instance:CoeFun Ix (fun _=>Nat->Nat->Option Nat):=⟨Ix.f⟩
def Ix.none:Ix:=⟨fun _ _=>.none,fun _ _=>.none,fun _=>0⟩
structure Ix.Le (ι ι':Ix):Prop where
 f:∀t n b,ι t n=some b->ι' t n=some b
 z:∀t n b,ι t n=some b->ι'.z b=ι.z b
theorem Ix.Le.refl (ι:Ix):Ix.Le ι ι:=⟨fun _ _ _ h=>h,fun _ _ _ _=>rfl⟩
def AV.IA:AV->Value
 |.int k n=>.int k n
 |.bool b=>.bool b
 |.str s=>.string s
 |_=>Go.undef
def AV.bA:AV->Value
 |.agg cs=>.agg (cs.map AV.IA).toArray
 |v=>v.IA
def Ef:List AV->Value×Value
 | [k,v]=>(k.bA,v.bA)
 |_=>(Go.undef,Go.undef)
def M4 (es:Array MapEntry)(clock:Nat):Prop:=clock=es.size/\∀i (h:i<es.size),es[i].born=i
theorem Gr {S:AV}(h:(NY S).isSome=true):SK S=none/\bldOf S=none:=by
 unfold NY at h;split at h
 ·exact⟨rfl,rfl⟩
 ·cases h
def MapO (L:List (List AV))(H:Nat->Prop)(p:Nat)(w:World):Prop:=(∀b,H b↔b=p)/\∃es clock,w.heap[p]?=some (.map es clock)/\es.toList.map (fun e=>(e.key,e.val))=L.map Ef/\M4 es clock
def Q9 (T e:TypeId)(s:ByteArray)(H:Nat->Prop)(p:Nat)(w:World):Prop :=
 ∃v q,w.heap[p]?=some (.cells #[q,v] T (0,0))/\(q=.pointer none\/q=.pointer (some ⟨p,0,none⟩))/\w.ownsRowF 0 e 1 v s.size (Go.Lib.strCells s)/\v.ownBlock≠some p/\∀b,H b↔b=p\/v.ownBlock=some b
theorem Q9.keep {T e:TypeId}{s:ByteArray}{H:Nat->Prop}{p:Nat}{w w':World}(h:Q9 T e s H p w)(hb:∀b,H b->w'.heap[b]?=w.heap[b]?):Q9 T e s H p w':=by
 obtain⟨v,q,h1,h2,h3,h4,h5⟩:=h;refine⟨v,q,(hb p ((h5 p).2 (.inl rfl))).trans h1,h2,⟨h3.1,?_⟩,h4,h5⟩;rcases h3.2 with hn|⟨g,cap,cur,fz,rfl,ax,hg,rest⟩
 ·exact .inl hn
 ·exact .inr ⟨g,cap,cur,fz,rfl,ax,(hb g ((h5 g).2 (.inr rfl))).trans hg,rest⟩
theorem Q9.lt {T e:TypeId}{s:ByteArray}{H:Nat->Prop}{p b:Nat}{w:World}(h:Q9 T e s H p w)(hb:H b):b<w.heap.size:=by
 obtain⟨v,q,h1,h2,h3,h4,h5⟩:=h;rcases(h5 b).1 hb with rfl|hv
 ·exact DC h1
 ·exact(h3.lt b hv).2
structure LS where
 at_:AV->(Nat->Prop)->Nat->World->Prop
 keep:∀{S H p w w'},at_ S H p w->(∀b,H b->w'.heap[b]?=w.heap[b]?)->w.heap.size<=w'.heap.size->at_ S H p w'
 main:∀{S H p w},at_ S H p w->H p
 lt:∀{S H p w b},at_ S H p w->H b->b<w.heap.size
 /-- a fact of the world's eldest blocks -/
 lo:Nat:=0
 wd:World->Prop:=fun _=>True
 wdl:∀{w},wd w->lo<=w.heap.size:=by intros;exact Nat.zero_le _
 wdk:∀{H w w'},wd w->cE H w w'->(∀b,H b->lo<=b)->wd w':=by intros;trivial
structure XI extends LS where
 maps:∀L H p w,at_ (fJ L) H p w↔MapO L H p w
 sC:∀T e s H p w,at_ (NI T e s) H p w↔Q9 T e s H p w
 pC:∀S H p w,(NY S).isSome=true->(at_ S H p w↔((∀b,H b↔b=p)/\p<w.heap.size))
def XI.low (O:XI)(H:Nat->Prop)(av:Av)(w:World):Prop:=(O.wd w/\∀b,H b->O.lo<=b)/\∀b o,av b o->b<w.heap.size
def LS.xC (O:LS)(A:AV)(H:Nat->Prop)(p:Nat)(w:World):Prop:=match SK A with
 |some L=>MapO L H p w
 |none=>match bldOf A with
  |some (T,e,s)=>Q9 T e s H p w
  |none=>if(NY A).isSome=true then(∀b,H b↔b=p)/\p<w.heap.size else O.at_ A H p w
def LS.of (O:LS):XI where
 at_:=O.xC
 keep:=fun{A H p w w'} h hb hs=>by
  unfold LS.xC at h ⊢
  split at h
  ·obtain ⟨h1,es,clock,h2,h3⟩:=h
   exact⟨h1,es,clock,(hb p ((h1 p).2 rfl)).trans h2,h3⟩
  ·split at h
   ·exact h.keep hb
   ·split at h
    ·rename_i hi
     simp only[hi,if_true]
     exact⟨h.1,Nat.lt_of_lt_of_le h.2 hs⟩
    ·rename_i hi
     simp only[hi,if_false]
     exact O.keep h hb hs
 main:=fun{A H p w} h=>by
  unfold LS.xC at h
  split at h
  ·exact(h.1 p).2 rfl
  ·split at h
   ·obtain ⟨v,q,h1,h2,h3,h4,h5⟩:=h
    exact(h5 p).2 (.inl rfl)
   ·split at h
    ·exact(h.1 p).2 rfl
    ·exact O.main h
 lt:=fun{A H p w b} h hb=>by
  unfold LS.xC at h
  split at h
  ·obtain ⟨h1,es,clock,h2,h3⟩:=h
   rw[(h1 b).1 hb]
   exact DC h2
  ·split at h
   ·exact h.lt hb
   ·split at h
    ·rw[(h.1 b).1 hb];exact h.2
    ·exact O.lt h hb
 lo:=O.lo
 wd:=O.wd
 wdl:=O.wdl
 wdk:=O.wdk
 maps:=fun L H p w=>Iff.rfl
 sC:=fun T e s H p w=>Iff.rfl
 pC:=fun S H p w h=>by
  unfold LS.xC
  rw[(Gr h).1,(Gr h).2]
  simp only[h,if_true]
def noObjs:LS where
 at_:=fun _ _ _ _=>False
 keep:=fun h _ _=>h.elim
 main:=fun h=>h.elim
 lt:=fun h _=>h.elim
mutual
/-- v reads as x in w,and nothing that it reads lies in av -/
def gG (av:Av)(w:World):AV->Value->Prop
 |.int k n,v=>v=.int k n
 |.bool b,v=>v=.bool b
 |.str s,v=>v=.string s
 |.QA,v=>v=.pointer none
 |.ip cs,v=>∃b off,v=.pointer (some ⟨b,off,none⟩)/\IG av w cs b off
 |.sl nil l,v=>∃A c,v=.slice A l.length c/\l.length<=c/\(∀x∈l,∀y∈l,x.length=y.length)/\(nil=true->A=none/\l.length=0/\c=0)/\(nil=false->(A=none->c=0)/\(0<l.length->∃b off,A=some ⟨b,off,none⟩/\Rows av w l b off))
 |.agg cs,v=>∃us,v=.agg us/\JE av w cs us.toList
 |.sA xs,v=>∃us,v=.tuple us/\WO av w xs us.toList
 |.ptr ..,_=>False
 |.bp ..,_=>False
 |.bl ..,_=>False
 |.ref ..,_=>False
 |.mp ..,_=>False
 |.fn ..,_=>False
 |.undef,_=>True
def JE (av:Av)(w:World):List AV->List Value->Prop
 | [],us=>us=[]
 |x::r,us=>∃u oa,us=u::oa/\gG av w x u/\u.oneCell'=true/\JE av w r oa
def WO (av:Av)(w:World):List AV->List Value->Prop
 | [],us=>us=[]
 |x::r,us=>∃u oa,us=u::oa/\gG av w x u/\WO av w r oa
def IG (av:Av)(w:World):List AV->Nat->Nat->Prop
 | [],_,_=>True
 |x::r,b,off=>(∃u,w.cell? ⟨b,off,none⟩=some u/\gG av w x u/\u.oneCell'=true)/\¬av b off/\IG av w r b (off+1)
def Rows (av:Av)(w:World):List (List AV)->Nat->Nat->Prop
 | [],_,_=>True
 |cs::r,b,off=>IG av w cs b off/\Rows av w r b (off+cs.length)
end
structure aD (av za:Av)(w w':World):Prop where
 cell:∀b o u,w.cell? ⟨b,o,none⟩=some u->¬av b o->w'.cell? ⟨b,o,none⟩=some u/\¬za b o
mutual
theorem gG.held {av za:Av}{w w':World}(h:aD av za w w'):∀(x:AV)(v:Value),gG av w x v->gG za w' x v
 |.int _ _,_,hr=>by simpa [gG]using hr
 |.bool _,_,hr=>by simpa [gG]using hr
 |.str _,_,hr=>by simpa [gG]using hr
 |.QA,_,hr=>by simpa [gG]using hr
 |.ip cs,_,hr=>by
  simp only[gG]at hr ⊢
  obtain⟨b,off,rfl,hc⟩:=hr
  exact⟨b,off,rfl,IG.held h cs b off hc⟩
 |.sl nil l,_,hr=>by
  simp only[gG]at hr ⊢
  obtain⟨A,c,rfl,hc,hu,hn,hs⟩:=hr
  refine⟨A,c,rfl,hc,hu,hn,fun hf=>⟨(hs hf).1,fun h0=>?_⟩⟩
  obtain⟨b,off,rfl,ka⟩:=(hs hf).2 h0
  exact⟨b,off,rfl,Rows.held h l b off ka⟩
 |.agg cs,_,hr=>by
  simp only[gG]at hr ⊢
  obtain⟨us,rfl,hc⟩:=hr
  exact⟨us,rfl,JE.held h cs _ hc⟩
 |.sA xs,_,hr=>by
  simp only[gG]at hr ⊢
  obtain⟨us,rfl,hc⟩:=hr
  exact⟨us,rfl,WO.held h xs _ hc⟩
 |.ptr ..,_,hr=>by simp[gG]at hr
 |.bp ..,_,hr=>by simp[gG]at hr
 |.bl ..,_,hr=>by simp[gG]at hr
 |.ref ..,_,hr=>by simp[gG]at hr
 |.mp ..,_,hr=>by simp[gG]at hr
 |.fn ..,_,hr=>by simp[gG]at hr
 |.undef,_,hr=>trivial
theorem JE.held {av za:Av}{w w':World}(h:aD av za w w'):∀(xs:List AV)(us:List Value),JE av w xs us->JE za w' xs us
 | [],_,hr=>by simpa [JE]using hr
 |x::r,_,hr=>by
  simp only[JE]at hr ⊢
  obtain⟨u,oa,rfl,hx,h1,hr⟩:=hr
  exact⟨u,oa,rfl,gG.held h x u hx,h1,JE.held h r oa hr⟩
theorem WO.held {av za:Av}{w w':World}(h:aD av za w w'):∀(xs:List AV)(us:List Value),WO av w xs us->WO za w' xs us
 | [],_,hr=>by simpa [WO]using hr
 |x::r,_,hr=>by
  simp only[WO]at hr ⊢
  obtain⟨u,oa,rfl,hx,hr⟩:=hr
  exact⟨u,oa,rfl,gG.held h x u hx,WO.held h r oa hr⟩
theorem IG.held {av za:Av}{w w':World}(h:aD av za w w'):∀(cs:List AV)(b off:Nat),IG av w cs b off->IG za w' cs b off
 | [],_,_,_=>by simp[IG]
 |x::r,b,off,hr=>by
  simp only[IG]at hr ⊢
  obtain⟨⟨u,hc,hx,h1⟩,ha,hr⟩:=hr
  obtain⟨ze,cz⟩:=h.cell b off u hc ha
  exact⟨⟨u,ze,gG.held h x u hx,h1⟩,cz,IG.held h r b (off+1) hr⟩
theorem Rows.held {av za:Av}{w w':World}(h:aD av za w w'):∀(l:List (List AV))(b off:Nat),Rows av w l b off->Rows za w' l b off
 | [],_,_,_=>by simp[Rows]
 |cs::r,b,off,hr=>by
  simp only[Rows]at hr ⊢
  exact⟨IG.held h cs b off hr.1,Rows.held h r b (off+cs.length) hr.2⟩
end
theorem aD.refl (av:Av)(w:World):aD av av w w:=⟨fun _ _ _ hc ha=>⟨hc,ha⟩⟩
theorem aD.less {av za:Av}{w:World}(h:∀b o,za b o->av b o):aD av za w w:=⟨fun _ _ _ hc ha=>⟨hc,fun hx=>ha (h _ _ hx)⟩⟩
def WE (av zE:Av)(w:World):List AV->Nat->Nat->Prop
 | [],_,_=>True
 |x::r,b,off=>(∃u,w.cell? ⟨b,off,none⟩=some u/\gG av w x u/\u.oneCell'=true)/\¬zE b off/\WE av zE w r b (off+1)
def ZN (av zE:Av)(w:World):List (List AV)->Nat->Nat->Prop
 | [],_,_=>True
 |cs::r,b,off=>WE av zE w cs b off/\ZN av zE w r b (off+cs.length)
theorem WE.held {av za zE avB':Av}{w w':World}(h:aD av za w w')(hB:aD zE avB' w w'):∀(cs:List AV)(b off:Nat),WE av zE w cs b off->WE za avB' w' cs b off
 | [],_,_,_=>by simp[WE]
 |x::r,b,off,hr=>by
  simp only[WE]at hr ⊢;obtain⟨⟨u,hc,hx,h1⟩,ha,hr⟩:=hr;obtain⟨ze,cz⟩:=hB.cell b off u hc ha;exact⟨⟨u,ze,gG.held h x u hx,h1⟩,cz,WE.held h hB r b (off+1) hr⟩
theorem ZN.held {av za zE avB':Av}{w w':World}(h:aD av za w w')(hB:aD zE avB' w w'):∀(l:List (List AV))(b off:Nat),ZN av zE w l b off->ZN za avB' w' l b off
 | [],_,_,_=>by simp[ZN]
 |cs::r,b,off,hr=>by
  simp only[ZN]at hr ⊢;exact⟨WE.held h hB cs b off hr.1,ZN.held h hB r b (off+cs.length) hr.2⟩
def gD (ι:Ix)(av:Av)(w:World):AV->Value->Prop
 |.ptr t n off,v=>∃b,ι t n=some b/\v=.pointer (some ⟨b,off,none⟩)
 |.ref t n sz off len cap,v=>∃b,ι t n=some b/\len<=cap/\∃c,cap<=c/\off+c*sz<=ι.z b/\v=.slice (some ⟨b,off,none⟩) len c
 |.mp t n,v=>∃b,ι t n=some b/\v=.map (some b)
 |.undef,_=>True
 |x,v=>gG av w x v
def iD (ι:Ix)(av:Av)(w:World):List AV->List Value->Prop
 | [],us=>us=[]
 |x::r,us=>∃u oa,us=u::oa/\gD ι av w x u/\u.oneCell'=true/\iD ι av w r oa
def jR (ι:Ix)(av:Av)(w:World):AV->Value->Prop
 |.agg cs,v=>∃us,v=.agg us/\iD ι av w cs us.toList
 |x,v=>gD ι av w x v
def DI (ι:Ix)(av:Av)(w:World):List AV->List Value->Prop
 | [],us=>us=[]
 |x::r,us=>∃u oa,us=u::oa/\jR ι av w x u/\DI ι av w r oa
def lX (ι:Ix)(av zE:Av)(w:World):AV->Value->Prop
 |.bp cs,v=>∃b off,v=.pointer (some ⟨b,off,none⟩)/\WE av zE w cs b off
 |x,v=>gD ι av w x v
def CI (ι:Ix)(av zE:Av)(w:World):List AV->List Value->Prop
 | [],us=>us=[]
 |x::r,us=>∃u oa,us=u::oa/\lX ι av zE w x u/\CI ι av zE w r oa
def sD (ι:Ix)(av zE:Av)(w:World):AV->Value->Prop
 |.bp cs,v=>∃b off,v=.pointer (some ⟨b,off,none⟩)/\WE av zE w cs b off
 |.bl l,v=>∃a c,v=.slice (some a) l.length c/\l.length<=c/\(∀x∈l,∀y∈l,x.length=y.length)/\(0<l.length->∃b off,a=⟨b,off,none⟩/\ZN av zE w l b off)
 |.agg cs,v=>∃us,v=.agg us/\iD ι av w cs us.toList
 |.sA xs,v=>∃us,v=.tuple us/\DI ι av w xs us.toList
 |.fn f cs,v=>∃us,v=.func (.func f) #[] us/\CI ι av zE w cs us.toList
 |.undef,_=>True
 |x,v=>gD ι av w x v
theorem gD.held {ι ι':Ix}{av za:Av}{w w':World}(hι:Ix.Le ι ι')(h:aD av za w w')(x:AV)(v:Value)(hr:gD ι av w x v):gD ι' za w' x v:=by
 cases x<;>first
  |exact gG.held h _ v hr
  |(obtain⟨b,hb,h1,c,h2,h3,hv⟩:=hr;exact⟨b,hι.f _ _ _ hb,h1,c,h2,by rw[hι.z _ _ _ hb];exact h3,hv⟩)
  |(obtain⟨b,hb,hv⟩:=hr;exact⟨b,hι.f _ _ _ hb,hv⟩)
  |trivial
theorem iD.held {ι ι':Ix}{av za:Av}{w w':World}(hι:Ix.Le ι ι')(h:aD av za w w'):∀(xs:List AV)(us:List Value),iD ι av w xs us->iD ι' za w' xs us
 | [],_,hr=>by simpa [iD]using hr
 |x::r,_,hr=>by
  simp only[iD]at hr ⊢;obtain⟨u,oa,rfl,hx,h1,hr⟩:=hr;exact⟨u,oa,rfl,gD.held hι h x u hx,h1,iD.held hι h r oa hr⟩
theorem jR.held {ι ι':Ix}{av za:Av}{w w':World}(hι:Ix.Le ι ι')(h:aD av za w w')(x:AV)(v:Value)(hr:jR ι av w x v):jR ι' za w' x v:=by
 cases x with
 |agg cs=>obtain⟨us,hv,hc⟩:=hr;exact⟨us,hv,iD.held hι h _ _ hc⟩
 |int=>exact gD.held hι h (.int _ _) v hr
 |bool=>exact gD.held hι h (.bool _) v hr
 |str=>exact gD.held hι h (.str _) v hr
 |QA=>exact gD.held hι h .QA v hr
 |ptr t n o=>exact gD.held hι h (.ptr t n o) v hr
 |ip cs=>exact gD.held hι h (.ip cs) v hr
 |bp cs=>exact gD.held hι h (.bp cs) v hr
 |sl n l=>exact gD.held hι h (.sl n l) v hr
 |bl l=>exact gD.held hι h (.bl l) v hr
 |ref a b c d e f=>exact gD.held hι h (.ref a b c d e f) v hr
 |mp t n=>exact gD.held hι h (.mp t n) v hr
 |fn f cs=>exact gD.held hι h (.fn f cs) v hr
 |sA cs=>exact gD.held hι h (.sA cs) v hr
 |undef=>trivial
theorem DI.held {ι ι':Ix}{av za:Av}{w w':World}(hι:Ix.Le ι ι')(h:aD av za w w'):∀(xs:List AV)(us:List Value),DI ι av w xs us->DI ι' za w' xs us
 | [],_,hr=>by simpa [DI]using hr
 |x::r,_,hr=>by
  simp only[DI]at hr ⊢;obtain⟨u,oa,rfl,hx,hr⟩:=hr;exact⟨u,oa,rfl,jR.held hι h x u hx,DI.held hι h r oa hr⟩
theorem lX.held {ι ι':Ix}{av za zE avB':Av}{w w':World}(hι:Ix.Le ι ι')(h:aD av za w w')(hB:aD zE avB' w w')(x:AV)(v:Value)(hr:lX ι av zE w x v):lX ι' za avB' w' x v:=by
 match x,hr with
 |.bp cs,⟨b,off,hv,hc⟩=>exact⟨b,off,hv,WE.held h hB _ b off hc⟩
 |.int k n,hr=>exact gD.held hι h (.int k n) v hr
 |.bool b,hr=>exact gD.held hι h (.bool b) v hr
 |.str s,hr=>exact gD.held hι h (.str s) v hr
 |.QA,hr=>exact gD.held hι h .QA v hr
 |.ptr t n off,hr=>exact gD.held hι h (.ptr t n off) v hr
 |.ip cs,hr=>exact gD.held hι h (.ip cs) v hr
 |.sl n l,hr=>exact gD.held hι h (.sl n l) v hr
 |.mp t n,hr=>exact gD.held hι h (.mp t n) v hr
 |.ref t n sz off len cap,hr=>exact gD.held hι h (.ref t n sz off len cap) v hr
 |.undef,hr=>trivial
 |.agg cs,hr=>exact gD.held hι h (.agg cs) v hr
 |.sA cs,hr=>exact gD.held hι h (.sA cs) v hr
theorem CI.held {ι ι':Ix}{av za zE avB':Av}{w w':World}(hι:Ix.Le ι ι')(h:aD av za w w')(hB:aD zE avB' w w'):∀(xs:List AV)(us:List Value),CI ι av zE w xs us->CI ι' za avB' w' xs us
 | [],_,hr=>by simpa [CI]using hr
 |x::r,_,hr=>by
  simp only[CI]at hr ⊢;obtain⟨u,oa,rfl,hx,hr⟩:=hr;exact⟨u,oa,rfl,lX.held hι h hB x u hx,CI.held hι h hB r oa hr⟩
theorem sD.held {ι ι':Ix}{av za zE avB':Av}{w w':World}(hι:Ix.Le ι ι')(h:aD av za w w')(hB:aD zE avB' w w')(x:AV)(v:Value)(hr:sD ι av zE w x v):sD ι' za avB' w' x v:=by
 match x,hr with
 |.bp cs,⟨b,off,hv,hc⟩=>exact⟨b,off,hv,WE.held h hB _ b off hc⟩
 |.bl l,⟨a,c,hv,hl,hu,hc⟩ =>
  refine⟨a,c,hv,hl,hu,fun h0=>?_⟩;obtain⟨b,off,ha,hr⟩:=hc h0;exact⟨b,off,ha,ZN.held h hB _ b off hr⟩
 |.agg cs,⟨us,hv,hc⟩=>exact⟨us,hv,iD.held hι h _ _ hc⟩
 |.undef,_=>trivial
 |.int k n,hr=>exact gD.held hι h (.int k n) v hr
 |.bool b,hr=>exact gD.held hι h (.bool b) v hr
 |.str s,hr=>exact gD.held hι h (.str s) v hr
 |.QA,hr=>exact gD.held hι h .QA v hr
 |.ptr t n off,hr=>exact gD.held hι h (.ptr t n off) v hr
 |.ip cs,hr=>exact gD.held hι h (.ip cs) v hr
 |.sl n l,hr=>exact gD.held hι h (.sl n l) v hr
 |.mp t n,hr=>exact gD.held hι h (.mp t n) v hr
 |.ref t n sz off len cap,hr=>exact gD.held hι h (.ref t n sz off len cap) v hr
 |.sA vs,⟨us,hv,hc⟩=>exact⟨us,hv,DI.held hι h _ _ hc⟩
 |.fn f cs,⟨us,hv,hc⟩=>exact⟨us,hv,CI.held hι h hB _ _ hc⟩
end
section
open Go Go.RowKit
structure FQ where
 b:Nat->Prop
 p:Option Nat
 r:Nat->Prop
 z:Nat
 /-- what the slots of the calls that wait ee -/
 g:Nat->Value
instance:CoeFun FQ (fun _=>Nat->Prop):=⟨FQ.b⟩
structure Ow where
 g:Nat
 n:Nat
 c:Nat
 sz:Nat
 e:TypeId
abbrev jM:=Nat->Option Ow
def Ix.has (ι:Ix)(b:Nat):Prop:=(∃t n,ι t n=some b)\/∃t n H,ι.ob t n=some H/\H b
def zE (ι:Ix)(Θ:jM):Av:=fun b o=>ι.has b\/(∃k ow,Θ k=some ow/\ow.g=b/\ow.n*ow.sz<=o)
def uE (da:Av)(ι:Ix)(Θ:jM):Av:=fun b o=>da b o\/zE ι Θ b o
def exV (v:Value):Prop:=∃A n,v=.slice A n n
def TM (Θ:jM):An->Value->Prop
 |.no,_=>True
 |.ex,v=>exV v
 |.own k e,v=>exV v\/∃ow,Θ k=some ow/\ow.e=e/\v=.slice (some ⟨ow.g,0,none⟩) ow.n ow.c
def QF (ι:Ix)(Θ:jM)(av:Av)(w:World)(r:List WC)(cur:Array Value):Prop :=
 r.length<=cur.size/\∀(j:Nat)(x:WC),r[j]?=some x->∃u,cur[j]?=some u/\u.oneCell'=true/\gD ι av w x.v u/\TM Θ x.a u
def Az (B:Nat)(F0:FQ)(D:Nat->Prop)(next:Nat)(w:World)(ι:Ix)(Θ:jM)(t n:Nat)(H:Nat->Prop):Prop :=
 (∀b,H b->(B<=b\/F0 b)/\b<w.heap.size/\(∀t' n',ι t' n'=some b->t'=t/\n'=n)/\(∀k o,Θ k=some o->o.g≠b)/\∀t' n' H',ι.ob t' n'=some H'->H' b->t'=t/\n'=n)/\(n<next\/n=next/\D t)
def S6 (ι:Ix)(S:AV)(p:Nat)(w:World):Prop:=∀tm nm N seen,NY S=some (tm,nm,N,seen)->∃m H,ι tm nm=some m/\ι.ob tm nm=some H/\w.heap[p]?=some (.mapIter (some m) N seen.toArray N)
theorem S6.no {ι:Ix}{S:AV}{p:Nat}{w:World}(h:H5 S=true):S6 ι S p w:=fun tm nm N seen e=>by
 unfold H5 at h;rw[e]at h;cases h
theorem S6.keep {ι ι':Ix}{S:AV}{p:Nat}{w w':World}(h:S6 ι S p w)(hι:∀t n b H,ι t n=some b->ι.ob t n=some H->ι' t n=some b/\∃H',ι'.ob t n=some H')(hp:∀x,w.heap[p]?=some x->w'.heap[p]?=some x):S6 ι' S p w':=fun tm nm N seen e=>by
 obtain⟨m,H,h1,h2,h3⟩:=h tm nm N seen e;obtain⟨g1,H',g2⟩:=hι _ _ _ _ h1 h2;exact⟨m,H',g1,g2,hp _ h3⟩
structure LD (P:Program)(O:XI)(nt B:Nat)(F0:FQ)(da:Av)(w0:World)(D:Nat->Prop)(s:OC)(a:Act)(w:World)(ι:Ix)(Θ:jM):Prop where
 defers:a.defers=[]
 size:a.tmps.size=nt
 env:∀t,sD ι (uE da ι Θ) (zE ι Θ) w (s.env t).v (a.tmps.getD t undef)
 ZB:∀t,TM Θ (s.env t).a (a.tmps.getD t undef)
 rows:∀t n r,s.mem t n=some r->ι.ob t n=none/\∃b cur ty,ι t n=some b/\w.heap[b]?=some (.cells cur ty (0,0))/\QF ι Θ (uE da ι Θ) w r cur/\(B<=b\/F0.r b)/\cur.size=ι.z b
 mine:∀t n b,ι t n=some b->(B<=b\/F0 b)/\b<w.heap.size/\(n<s.next\/n=s.next/\D t)
 inj:∀t n t' n' b,ι t n=some b->ι t' n'=some b->t=t'/\n=n'
 tok:∀k o,Θ k=some o->B<=o.g/\0<o.sz/\o.n<=o.c/\o.c<=maxLen/\∃cur,w.heap[o.g]?=some (.cells cur o.e (0,0))/\(cur.size=o.c*o.sz/\fE P o.e=some o.sz)
 OA:∀k k' o o',Θ k=some o->Θ k'=some o'->o.g=o'.g->k=k'
 apart:∀k o t n,Θ k=some o->ι t n≠some o.g
 out:∀b o,da b o->b<B
 pin:∀p,F0.p=some p->ι 0 0=some p/\((F0.r p/\ι.z p=F0.z)\/∃H,ι.ob 0 0=some H)
 kept:cE F0.b w0 w
 base:B=w0.heap.size/\O.wd w0/\∀b,F0.b b->O.lo<=b
 WA:∀t n S,s.obj t n=some S->∃p H,ι t n=some p/\ι.ob t n=some H/\O.at_ S H p w/\S6 ι S p w
 obs:∀t n H,ι.ob t n=some H->Az B F0 D s.next w ι Θ t n H
 gen:∀t,sD ι (uE da ι Θ) (zE ι Θ) w (s.gh t).v (F0.g t)
 CA:∀t,TM Θ (s.gh t).a (F0.g t)
section
variable {P:Program} {O:XI} {nt B:Nat} {F0:FQ} {da:Av} {w0:World} {D:Nat->Prop} {s:OC} {a:Act} {w w':World} {ι:Ix} {Θ:jM}
theorem MG {w:World}{b o:Nat}{u:Value}(h:w.cell? ⟨b,o,none⟩=some u):b<w.heap.size:=World.block_lt_of_cell? w ⟨b,o,none⟩ (by exact h)
theorem aD.grown {av za:Av}(hb:∀b,b<w.heap.size->w'.heap[b]?=w.heap[b]?)(ha:∀b o,b<w.heap.size->za b o->av b o):aD av za w w' :=
 ⟨fun b o _ hc hn=>⟨(World.cell?_of_block (w:=w) (a:=⟨b,o,none⟩) (hb b (MG hc))).trans hc,fun h=>hn (ha b o (MG hc) h)⟩⟩
theorem QF.held {ι ι':Ix}{Θ Θ':jM}{av za:Av}{r:List WC}{cur:Array Value}(h:QF ι Θ av w r cur)(hι:Ix.Le ι ι')(hh:aD av za w w')(hΘ:∀k o,Θ k=some o->Θ' k=some o):QF ι' Θ' za w' r cur:=by
 refine⟨h.1,fun j x hx=>?_⟩;obtain⟨u,hu,h1,hr,ha⟩:=h.2 j x hx;refine⟨u,hu,h1,gD.held hι hh _ _ hr,?_⟩;cases hxa:x.a with
 |no=>trivial
 |ex=>rw[hxa]at ha;exact ha
 |own k e =>
  rw[hxa]at ha;rcases ha with ha|⟨ow,h1,h2⟩
  ·exact .inl ha
  ·exact .inr ⟨ow,hΘ _ _ h1,h2⟩
theorem Az.grow {t n:Nat}{H:Nat->Prop}{next:Nat}(h:Az B F0 D next w ι Θ t n H)(hs:w.heap.size<=w'.heap.size):Az B F0 D next w' ι Θ t n H :=
 ⟨fun b hb=>let⟨h1,h2,h3⟩:=h.1 b hb;⟨h1,Nat.lt_of_lt_of_le h2 hs,h3⟩,h.2⟩
theorem LD.grow (R:LD P O nt B F0 da w0 D s a w ι Θ)(hb:∀b,b<w.heap.size->w'.heap[b]?=w.heap[b]?)(hs:w.heap.size<=w'.heap.size)(hw:cE F0.b w0 w'):LD P O nt B F0 da w0 D s a w' ι Θ:=by
 have hA:aD (uE da ι Θ) (uE da ι Θ) w w':=aD.grown hb fun _ _ _ h=>h
 have hB:aD (zE ι Θ) (zE ι Θ) w w':=aD.grown hb fun _ _ _ h=>h
 refine⟨R.defers,R.size,fun t=>sD.held (Ix.Le.refl _) hA hB _ _ (R.env t),R.ZB,fun t n r hr=>?_,fun t n b h=>?_,R.inj,fun k o h=>?_,R.OA,R.apart,R.out,R.pin,hw,R.base,fun t n S h=>?_,fun t n H h=>(R.obs t n H h).grow hs,fun t=>sD.held (Ix.Le.refl _) hA hB _ _ (R.gen t),R.CA⟩
 ·obtain⟨h0,b,cur,ty,h1,h2,h3,h4⟩:=R.rows t n r hr;exact⟨h0,b,cur,ty,h1,(hb b (DC h2)).trans h2,h3.held (Ix.Le.refl _) hA (fun _ _ h=>h),h4⟩
 ·obtain⟨h1,h2,h3⟩:=R.mine t n b h;exact⟨h1,by omega,h3⟩
 ·obtain⟨h1,h2,h3,h4,cur,h5,h6⟩:=R.tok k o h;exact⟨h1,h2,h3,h4,cur,(hb _ (DC h5)).trans h5,h6⟩
 ·obtain⟨p,H,h1,h2,h3,h4⟩:=R.WA t n S h;exact⟨p,H,h1,h2,O.keep h3 (fun b hH=>hb b (O.lt h3 hH)) hs,h4.keep (fun t n b H h g=>⟨h,H,g⟩) fun x hx=>(hb _ (DC hx)).trans hx⟩
theorem I7 {a:Act}{d t:Nat}{v:Value}(hd:d<a.tmps.size):(a.put (some d) v).tmps.getD t undef=if t=d then v else a.tmps.getD t undef:=by
 simp only[Act.put,yP,Array.getElem?_setIfInBounds];by_cases h:d=t
 ·subst h;simp[hd]
 ·have h':¬ t=d:=fun e=>h e.symm
  simp[h,h']
theorem LD.put (R:LD P O nt B F0 da w0 D s a w ι Θ){d:Nat}(hd:d<nt){x:WC}{v:Value}(hx:sD ι (uE da ι Θ) (zE ι Θ) w x.v v)(ha:TM Θ x.a v):LD P O nt B F0 da w0 D (s.put (some d) x) (a.put (some d) v) w ι Θ:=by
 have ll:d<a.tmps.size:=by rw[R.size];exact hd
 refine⟨R.defers,by simpa [Act.put]using R.size,fun t=>?_,fun t=>?_,R.rows,R.mine,R.inj,R.tok,R.OA,R.apart,R.out,R.pin,R.kept,R.base,R.WA,R.obs,R.gen,R.CA⟩
 ·rw [I7 ll];simp only [OC.put];by_cases h:t=d
  ·simp only[if_pos h];exact hx
  ·simp only[if_neg h];exact R.env t
 ·rw [I7 ll];simp only [OC.put];by_cases h:t=d
  ·simp only[if_pos h];exact ha
  ·simp only[if_neg h];exact R.ZB t
theorem LD.MA (R:LD P O nt B F0 da w0 D s a w ι Θ){d:Option Nat}(hd:∀t,d=some t->t<nt){x:WC}{v:Value}(hx:sD ι (uE da ι Θ) (zE ι Θ) w x.v v)(ha:TM Θ x.a v):LD P O nt B F0 da w0 D (s.put d x) (a.put d v) w ι Θ:=by
 cases d with
 |none=>exact R
 |some d=>exact R.put (hd d rfl) hx ha
theorem LD.more (R:LD P O nt B F0 da w0 D s a w ι Θ){D':Nat->Prop}(h:∀t,D t->D' t):LD P O nt B F0 da w0 D' s a w ι Θ :=
 ⟨R.defers,R.size,R.env,R.ZB,R.rows,fun t n b hb=>let⟨h1,h2,h3⟩:=R.mine t n b hb;⟨h1,h2,h3.imp id fun⟨e,d⟩=>⟨e,h t d⟩⟩,R.inj,R.tok,R.OA,R.apart,R.out,R.pin,R.kept,R.base,R.WA,fun t n H hb=>⟨(R.obs t n H hb).1,(R.obs t n H hb).2.imp id fun⟨e,d⟩=>⟨e,h t d⟩⟩,R.gen,R.CA⟩
structure Ix.Lk (t n:Nat)(ι ι':Ix):Prop where
 f:∀t' n' b,¬(t'=t/\n'=n)->ι t' n'=some b->ι' t' n'=some b
 z:∀t n b,ι t n=some b->ι'.z b=ι.z b
theorem gD.kill {t n:Nat}{ι ι':Ix}{av za:Av}(hι:Ix.Lk t n ι ι')(h:aD av za w w')(x:AV)(v:Value)(hr:gD ι av w x v):gD ι' za w' (x.eA t n) v:=by
 cases x with
 |ptr t' n' o =>
  obtain⟨b,hb,hv⟩:=hr;simp only[AV.eA];split
  ·trivial
  ·rename_i ua;exact⟨b,hι.f _ _ _ ua hb,hv⟩
 |ref t' n' sz o l c =>
  obtain⟨b,hb,h1,c',h2,h3,hv⟩:=hr;simp only[AV.eA];split
  ·trivial
  ·rename_i ua;exact⟨b,hι.f _ _ _ ua hb,h1,c',h2,by rw[hι.z _ _ _ hb];exact h3,hv⟩
 |mp t' n' =>
  obtain⟨b,hb,hv⟩:=hr;simp only[AV.eA];split
  ·trivial
  ·rename_i ua;exact⟨b,hι.f _ _ _ ua hb,hv⟩
 |undef=>trivial
 |_=>exact gG.held h _ v hr
theorem iD.kill {t n:Nat}{ι ι':Ix}{av za:Av}(hι:Ix.Lk t n ι ι')(h:aD av za w w'):∀(xs:List AV)(us:List Value),iD ι av w xs us->iD ι' za w' (xs.map (AV.eA t n)) us
 | [],_,hr=>by simpa [iD]using hr
 |x::r,_,hr=>by
  simp only[iD]at hr;obtain⟨u,oa,rfl,hx,h1,hr⟩:=hr;exact⟨u,oa,rfl,gD.kill hι h x u hx,h1,iD.kill hι h r oa hr⟩
theorem jR.kill {t n:Nat}{ι ι':Ix}{av za:Av}(hι:Ix.Lk t n ι ι')(h:aD av za w w')(x:AV)(v:Value)(hr:jR ι av w x v):jR ι' za w' (x.UA t n) v:=by
 cases x with
 |agg cs=>obtain⟨us,hv,hc⟩:=hr;exact⟨us,hv,iD.kill hι h _ _ hc⟩
 |ptr t' n' o =>
  have:=gD.kill hι h (.ptr t' n' o) v hr;show jR ι' za w' (AV.eA t n (.ptr t' n' o)) v;simp only[AV.eA]at this ⊢;split
  ·trivial
  ·rename_i ua;rw[if_neg ua]at this;exact this
 |ref t' n' sz o l c =>
  have:=gD.kill hι h (.ref t' n' sz o l c) v hr;show jR ι' za w' (AV.eA t n (.ref t' n' sz o l c)) v;simp only[AV.eA]at this ⊢;split
  ·trivial
  ·rename_i ua;rw[if_neg ua]at this;exact this
 |mp t' n' =>
  have:=gD.kill hι h (.mp t' n') v hr;show jR ι' za w' (AV.eA t n (.mp t' n')) v;simp only[AV.eA]at this ⊢;split
  ·trivial
  ·rename_i ua;rw[if_neg ua]at this;exact this
 |undef=>trivial
 |int=>exact gD.kill hι h (.int _ _) v hr
 |bool=>exact gD.kill hι h (.bool _) v hr
 |str=>exact gD.kill hι h (.str _) v hr
 |QA=>exact gD.kill hι h .QA v hr
 |ip=>exact gD.kill hι h (.ip _) v hr
 |sl n' l=>exact gD.kill hι h (.sl n' l) v hr
 |sA cs=>exact gD.kill hι h (.sA cs) v hr
 |bl cs=>exact gD.kill hι h (.bl cs) v hr
 |bp cs=>exact gD.kill hι h (.bp cs) v hr
 |fn f cs=>exact gD.kill hι h (.fn f cs) v hr
theorem DI.kill {t n:Nat}{ι ι':Ix}{av za:Av}(hι:Ix.Lk t n ι ι')(h:aD av za w w'):∀(xs:List AV)(us:List Value),DI ι av w xs us->DI ι' za w' (xs.map (AV.UA t n)) us
 | [],_,hr=>by simpa [DI]using hr
 |x::r,_,hr=>by
  simp only[DI]at hr;obtain⟨u,oa,rfl,hx,hr⟩:=hr;exact⟨u,oa,rfl,jR.kill hι h x u hx,DI.kill hι h r oa hr⟩
theorem lX.kill {t n:Nat}{ι ι':Ix}{av za zE avB':Av}(hι:Ix.Lk t n ι ι')(h:aD av za w w')(hB:aD zE avB' w w')(x:AV)(v:Value)(hr:lX ι av zE w x v):lX ι' za avB' w' (x.eA t n) v:=by
 cases x with
 |bp cs=>obtain⟨b,off,hv,hc⟩:=hr;exact⟨b,off,hv,WE.held h hB _ b off hc⟩
 |ptr t' n' o =>
  have:=gD.kill hι h (.ptr t' n' o) v hr;simp only[AV.eA]at this ⊢;split
  ·trivial
  ·rename_i ua;rw[if_neg ua]at this;exact this
 |ref t' n' sz o l c =>
  have:=gD.kill hι h (.ref t' n' sz o l c) v hr;simp only[AV.eA]at this ⊢;split
  ·trivial
  ·rename_i ua;rw[if_neg ua]at this;exact this
 |mp t' n' =>
  have:=gD.kill hι h (.mp t' n') v hr;simp only[AV.eA]at this ⊢;split
  ·trivial
  ·rename_i ua;rw[if_neg ua]at this;exact this
 |undef=>trivial
 |int=>exact gD.kill hι h (.int _ _) v hr
 |bool=>exact gD.kill hι h (.bool _) v hr
 |str=>exact gD.kill hι h (.str _) v hr
 |QA=>exact gD.kill hι h .QA v hr
 |ip=>exact gD.kill hι h (.ip _) v hr
 |sl=>exact gD.kill hι h (.sl _ _) v hr
 |agg cs=>exact gD.kill hι h (.agg cs) v hr
 |sA cs=>exact gD.kill hι h (.sA cs) v hr
 |bl cs=>exact gD.kill hι h (.bl cs) v hr
 |fn f cs=>exact gD.kill hι h (.fn f cs) v hr
theorem CI.kill {t n:Nat}{ι ι':Ix}{av za zE avB':Av}(hι:Ix.Lk t n ι ι')(h:aD av za w w')(hB:aD zE avB' w w'):∀(xs:List AV)(us:List Value),CI ι av zE w xs us->CI ι' za avB' w' (xs.map (AV.eA t n)) us
 | [],_,hr=>by simpa [CI]using hr
 |x::r,_,hr=>by
  simp only[CI]at hr;obtain⟨u,oa,rfl,hx,hr⟩:=hr;exact⟨u,oa,rfl,lX.kill hι h hB x u hx,CI.kill hι h hB r oa hr⟩
theorem sD.kill {t n:Nat}{ι ι':Ix}{av za zE avB':Av}(hι:Ix.Lk t n ι ι')(h:aD av za w w')(hB:aD zE avB' w w')(x:AV)(v:Value)(hr:sD ι av zE w x v):sD ι' za avB' w' (x.kill t n) v:=by
 cases x with
 |bp cs=>obtain⟨b,off,hv,hc⟩:=hr;exact⟨b,off,hv,WE.held h hB _ b off hc⟩
 |bl l =>
  obtain⟨a,c,hv,hl,hu,hc⟩:=hr;refine⟨a,c,hv,hl,hu,fun h0=>?_⟩;obtain⟨b,off,ha,hr⟩:=hc h0;exact⟨b,off,ha,ZN.held h hB _ b off hr⟩
 |agg cs=>obtain⟨us,hv,hc⟩:=hr;exact⟨us,hv,iD.kill hι h _ _ hc⟩
 |sA cs=>obtain⟨us,hv,hc⟩:=hr;exact⟨us,hv,DI.kill hι h _ _ hc⟩
 |fn f cs=>obtain⟨us,hv,hc⟩:=hr;exact⟨us,hv,CI.kill hι h hB _ _ hc⟩
 |undef=>trivial
 |ptr t' n' o =>
  have:=gD.kill hι h (.ptr t' n' o) v hr;show sD ι' za avB' w' (AV.eA t n (.ptr t' n' o)) v;simp only[AV.eA]at this ⊢;split
  ·trivial
  ·rename_i ua;rw[if_neg ua]at this;exact this
 |ref t' n' sz o l c =>
  have:=gD.kill hι h (.ref t' n' sz o l c) v hr;show sD ι' za avB' w' (AV.eA t n (.ref t' n' sz o l c)) v;simp only[AV.eA]at this ⊢;split
  ·trivial
  ·rename_i ua;rw[if_neg ua]at this;exact this
 |mp t' n' =>
  have:=gD.kill hι h (.mp t' n') v hr;show sD ι' za avB' w' (AV.eA t n (.mp t' n')) v;simp only[AV.eA]at this ⊢;split
  ·trivial
  ·rename_i ua;rw[if_neg ua]at this;exact this
 |int=>exact gD.kill hι h (.int _ _) v hr
 |bool=>exact gD.kill hι h (.bool _) v hr
 |str=>exact gD.kill hι h (.str _) v hr
 |QA=>exact gD.kill hι h .QA v hr
 |ip=>exact gD.kill hι h (.ip _) v hr
 |sl=>exact gD.kill hι h (.sl _ _) v hr
theorem cY {v:Value}{x:AV}(h:O1 v=some x)(av:Av)(w:World):gG av w x v/\v.oneCell'=true/\(x.leaf=true\/x=.undef)/\(∀n l,x=.sl n l->n=true/\v=.slice none 0 0):=by
 unfold O1 at h;split at h<;>first
  |(injection h with h;subst h;simp[gG,Value.oneCell',AV.leaf];done)
  |(cases h;done)
theorem CW {ι:Ix}{av zE:Av}{w:World}{x:AV}{v:Value}(h:gG av w x v)(hx:x.leaf=true):sD ι av zE w x v:=by
 cases x<;>first|exact h|(simp[AV.leaf]at hx;done)|(simp[gG]at h;done)
theorem PM {ι:Ix}{av:Av}{w:World}{x:AV}{v:Value}(h:gG av w x v):gD ι av w x v:=by
 cases x<;>first|exact h|simp[gG]at h
theorem TK {ι:Ix}:∀{vs:List Value}{xs:List AV}(_:DM vs=some xs)(av:Av)(w:World),iD ι av w xs vs
 | [],_,h,_,_=>by injection h with h;subst h;rfl
 |v::r,_,h,av,w=>by
  unfold DM at h;cases hv:O1 v with
  |none=>rw[hv]at h;cases h
  |some x =>
   rw[hv]at h;cases hr:DM r with
   |none=>rw[hr]at h;cases h
   |some l =>
    rw[hr]at h;injection h with h;subst h;have h1:=cY hv av w;exact⟨v,r,rfl,PM h1.1,h1.2.1,TK hr av w⟩
theorem Jw {v:Value}{x:AV}(h:Ba v=some x)(ι:Ix)(av zE:Av)(w:World):sD ι av zE w x v:=by
 unfold Ba at h;split at h
 ·rename_i cs;cases hc:DM cs.toList with
  |none=>rw[hc]at h;cases h
  |some l =>
   rw[hc]at h;injection h with h;subst h;exact⟨cs,rfl,TK hc av w⟩
 ·have:=cY h av w;rcases this.2.2.1 with h1 | h1
  ·exact CW this.1 h1
  ·subst h1;trivial
theorem Zz {v:Value}{b:Bool}{l:List (List AV)}(h:Ba v=some (.sl b l)):b=true/\v=.slice none 0 0:=by
 unfold Ba at h;split at h
 ·rename_i cs;cases hc:DM cs.toList with
  |none=>rw[hc]at h;cases h
  |some l=>rw[hc]at h;injection h with h;cases h
 ·exact(cY h (fun _ _=>False) default).2.2.2 _ _ rfl
theorem LD.uA (R:LD P O nt B F0 da w0 D s a w ι Θ){x:Operand}{y:KD}(h:uA x=some y):sD ι (uE da ι Θ) (zE ι Θ) w (y.get s) (a.eval x)/\TM Θ (y.an s) (a.eval x):=by
 unfold YthnefkpplcmjdaaGreat.uA at h;split at h
 ·injection h with h;subst h;exact⟨R.env _,R.ZB _⟩
 ·rename_i v;cases hc:Ba v with
  |none=>rw[hc]at h;cases h
  |some x =>
   rw[hc]at h;injection h with h;subst h;refine⟨Jw hc _ _ _ _,?_⟩;cases x with
   |sl b l =>
    obtain⟨rfl,hv⟩:=Zz hc;exact⟨none,0,hv⟩
   |_=>trivial
 ·injection h with h;subst h;exact⟨⟨#[],rfl,rfl⟩,trivial⟩
 ·cases h
end
end
section
open Go Go.RowKit
section
variable {P:Program} {O:XI} {nt B:Nat} {F0:FQ} {da:Av} {w0:World} {D:Nat->Prop} {s:OC} {a:Act} {w w':World} {ι:Ix} {Θ:jM}
theorem uS {t:TypeId}{b:Bool}(h:TL P t=some b)(w:World):(isAgg t).run P w=.ok b w:=by
 unfold TL at h;cases hu:P.underlying t with
 |none=>rw[hu]at h;cases h
 |some d =>
  rw[hu]at h;injection h with h;subst h;cases d<;>simp[isAgg,run_underlying hu]
theorem EE {t:TypeId}{z:Nat}(h:fE P t=some z)(w:World):(sizeOf t).run P w=.ok z w:=by
 unfold fE at h;cases hu:P.info? t with
 |none=>rw[hu]at h;cases h
 |some d =>
  rw[hu]at h;injection h with h;subst h;simp[sizeOf,typeInfo,hu]
theorem UI {t:TypeId}{l:List AV}(h:UL P t=some l)(w:World):∃z i,P.info? t=some i/\i.zero=some z/\(zeroValue t).run P w=.ok z w/\DM z.cells.toList=some l:=by
 unfold UL at h;cases hu:P.info? t with
 |none=>rw[hu]at h;cases h
 |some d =>
  rw[hu]at h;cases hz:d.zero with
  |none=>simp[hz]at h
  |some z =>
   simp only[J,hz]at h;exact⟨z,d,rfl,hz,by simp[zeroValue,typeInfo,hu,hz],h⟩
theorem eI:∀{vs:List Value}{xs:List AV},DM vs=some xs->xs.length=vs.length
 | [],_,h=>by injection h with h;subst h;rfl
 |v::r,_,h=>by
  unfold DM at h;cases hv:O1 v with
  |none=>rw[hv]at h;cases h
  |some x =>
   rw[hv]at h;cases hr:DM r with
   |none=>rw[hr]at h;cases h
   |some l=>rw[hr]at h;injection h with h;subst h;simp[eI hr]
def BT (P:Program)(da:Av)(a:Act)(w:World)(ι:Ix)(Θ:jM)(o:Oper)(x:WC):Prop :=
 ∃v,(execOp a.eval o).run P w=.ok (.value v) w/\sD ι (uE da ι Θ) (zE ι Θ) w x.v v/\TM Θ x.a v
section
variable {av avb:Av}
include av avb
theorem QD {k:IntKind}{n:Int}{v:Value}:sD ι av avb w (.int k n) v↔v=.int k n:=by simp[sD,gD,gG]
theorem ZD {b:Bool}{v:Value}:sD ι av avb w (.bool b) v↔v=.bool b:=by simp[sD,gD,gG]
theorem mI {b:ByteArray}{v:Value}:sD ι av avb w (.str b) v↔v=.string b:=by simp[sD,gD,gG]
theorem W4 {v:Value}:sD ι av avb w .QA v↔v=.pointer none:=by simp[sD,gD,gG]
theorem lH {t n off:Nat}{v:Value}:sD ι av avb w (.ptr t n off) v ↔ ∃b,ι t n=some b/\v=.pointer (some ⟨b,off,none⟩):=Iff.rfl
theorem jJ {t n sz off len cap:Nat}{v:Value}:sD ι av avb w (.ref t n sz off len cap) v ↔ ∃b,ι t n=some b/\len<=cap/\∃c,cap<=c/\off+c*sz<=ι.z b/\v=.slice (some ⟨b,off,none⟩) len c:=Iff.rfl
theorem AN {cs:List AV}{v:Value}:sD ι av avb w (.ip cs) v ↔ ∃b off,v=.pointer (some ⟨b,off,none⟩)/\IG av w cs b off:=by simp[sD,gD,gG]
theorem XF {nil:Bool}{l:List (List AV)}{v:Value}:sD ι av avb w (.sl nil l) v↔gG av w (.sl nil l) v:=Iff.rfl
theorem T0 {cs:List AV}{v:Value}:sD ι av avb w (.agg cs) v ↔ ∃us,v=.agg us/\iD ι av w cs us.toList:=Iff.rfl
theorem Mj {cs:List AV}{v:Value}:sD ι av avb w (.sA cs) v ↔ ∃us,v=.tuple us/\DI ι av w cs us.toList:=Iff.rfl
end
theorem HE {av:Av}:∀{xs:List AV}{us:List Value},iD ι av w xs us->us.length=xs.length
 | [],_,h=>by simp only[iD]at h;subst h;rfl
 |x::r,_,h=>by
  simp only[iD]at h;obtain⟨u,oa,rfl,_,_,h⟩:=h;simp[HE h]
theorem xH {av:Av}:∀{xs:List AV}{us:List Value}(n:Nat),iD ι av w xs us->iD ι av w (xs.drop n) (us.drop n)
 | [],_,n,h=>by simp only[iD]at h;subst h;simp[iD]
 |x::r,_,n,h=>by
  cases n with
  |zero=>exact h
  |succ n =>
   simp only[iD]at h;obtain⟨u,oa,rfl,_,_,h⟩:=h;exact xH n h
theorem wI {av:Av}:∀{xs:List AV}{us:List Value}(n:Nat),iD ι av w xs us->iD ι av w (xs.take n) (us.take n)
 | [],_,n,h=>by simp only[iD]at h;subst h;simp[iD]
 |x::r,_,n,h=>by
  cases n with
  |zero=>simp[iD]
  |succ n =>
   simp only[iD]at h;obtain⟨u,oa,rfl,h0,h1,h⟩:=h;exact⟨u,oa.take n,rfl,h0,h1,wI n h⟩
theorem CL {av:Av}:∀{xs:List AV}{us:List Value}(_:iD ι av w xs us){j:Nat}{x:AV},xs[j]?=some x->∃u,us[j]?=some u/\u.oneCell'=true/\gD ι av w x u
 | [],_,_,_,_,hx=>by simp at hx
 |y::r,_,h,j,x,hx=>by
  simp only[iD]at h;obtain⟨u,oa,rfl,h0,h1,h⟩:=h;cases j with
  |zero=>simp at hx;subst hx;exact⟨u,rfl,h1,h0⟩
  |succ j=>exact CL h (j:=j) (by simpa using hx)
theorem xJ {av:Av}:∀{xs ys:List AV}{us vs:List Value},iD ι av w xs us->iD ι av w ys vs->iD ι av w (xs++ys) (us++vs)
 | [],_,_,_,h,h'=>by simp only[iD]at h;subst h;exact h'
 |x::r,_,_,_,h,h'=>by
  simp only[iD]at h;obtain⟨u,oa,rfl,h0,h1,h⟩:=h;exact⟨u,oa++_,rfl,h0,h1,xJ h h'⟩
theorem SF {av:Av}:∀{xs:List AV}{us:List Value},JE av w xs us->iD ι av w xs us
 | [],_,h=>by simpa [JE,iD]using h
 |x::r,_,h=>by
  simp only[JE]at h;obtain⟨u,oa,rfl,h0,h1,h⟩:=h;exact⟨u,oa,rfl,PM h0,h1,SF h⟩
theorem gT {av:Av}:∀{cs:List AV}{b off:Nat},IG av w cs b off->∃us,JE av w cs us/\∀(j:Nat)(u:Value),us[j]?=some u->w.cell? ⟨b,off+j,none⟩=some u/\¬av b (off+j)
 | [],_,_,_=>⟨[],rfl,fun j u h=>by simp at h⟩
 |x::r,b,off,h=>by
  simp only[IG]at h;obtain⟨⟨u,hc,hx,h1⟩,ha,hr⟩:=h;obtain⟨us,hl,hj⟩:=gT hr;refine⟨u::us,⟨u,us,rfl,hx,h1,hl⟩,fun j v hv=>?_⟩;cases j with
  |zero=>simp at hv;subst hv;exact⟨hc,ha⟩
  |succ j =>
   have:=hj j v (by simpa using hv);rw[show off+(j+1)=off+1+j from by omega];exact this
theorem fR {av avb:Av}:∀{cs:List AV}{b off:Nat},WE av avb w cs b off->∃us,JE av w cs us/\∀(j:Nat)(u:Value),us[j]?=some u->w.cell? ⟨b,off+j,none⟩=some u/\¬avb b (off+j)
 | [],_,_,_=>⟨[],rfl,fun j u h=>by simp at h⟩
 |x::r,b,off,h=>by
  simp only[WE]at h;obtain⟨⟨u,hc,hx,h1⟩,ha,hr⟩:=h;obtain⟨us,hl,hj⟩:=fR hr;refine⟨u::us,⟨u,us,rfl,hx,h1,hl⟩,fun j v hv=>?_⟩;cases j with
  |zero=>simp at hv;subst hv;exact⟨hc,ha⟩
  |succ j =>
   have:=hj j v (by simpa using hv);rw[show off+(j+1)=off+1+j from by omega];exact this
theorem IM {av:Av}:∀{cs:List AV}{us:List Value}{b off:Nat},JE av w cs us->(∀(j:Nat)(u:Value),us[j]?=some u->w.cell? ⟨b,off+j,none⟩=some u/\¬av b (off+j))->IG av w cs b off
 | [],_,_,_,_,_=>by simp[IG]
 |x::r,_,b,off,h,hj=>by
  simp only[JE]at h;obtain⟨u,oa,rfl,h0,h1,h⟩:=h;simp only[IG];have h2:=hj 0 u rfl;refine⟨⟨u,h2.1,h0,h1⟩,h2.2,IM h fun j v hv=>?_⟩;have:=hj (j+1) v (by simpa using hv);rw[show off+1+j=off+(j+1)from by omega];exact this
theorem kN {av:Av}:∀{cs ds:List AV}{b off:Nat},IG av w (cs++ds) b off↔IG av w cs b off/\IG av w ds b (off+cs.length)
 | [],ds,b,off=>by simp[IG]
 |x::r,ds,b,off=>by
  simp only[yv,IG,kN (cs:=r),yE];rw[show off+(r.length+1)=off+1+r.length from by omega];exact⟨fun⟨h1,h2,h3,h4⟩=>⟨⟨h1,h2,h3⟩,h4⟩,fun⟨⟨h1,h2,h3⟩,h4⟩=>⟨h1,h2,h3,h4⟩⟩
theorem TH {av:Av}:∀{l:List (List AV)}{b off:Nat},Rows av w l b off↔IG av w l.flatten b off
 | [],b,off=>by simp[Rows,IG]
 |cs::r,b,off=>by
  simp only[Rows,yA,kN,TH (l:=r)]
theorem gM {av avb:Av}:∀{cs ds:List AV}{b off:Nat},WE av avb w (cs++ds) b off↔WE av avb w cs b off/\WE av avb w ds b (off+cs.length)
 | [],ds,b,off=>by simp[WE]
 |x::r,ds,b,off=>by
  simp only[yv,WE,gM (cs:=r),yE];rw[show off+(r.length+1)=off+1+r.length from by omega];exact⟨fun⟨h1,h2,h3,h4⟩=>⟨⟨h1,h2,h3⟩,h4⟩,fun⟨⟨h1,h2,h3⟩,h4⟩=>⟨h1,h2,h3,h4⟩⟩
theorem BL {av avb:Av}:∀{l:List (List AV)}{b off:Nat},ZN av avb w l b off↔WE av avb w l.flatten b off
 | [],b,off=>by simp[ZN,WE]
 |cs::r,b,off=>by
  simp only[ZN,yA,gM,BL (l:=r)]
theorem xS {sz:Nat}:∀{l:List (List AV)}(_:∀c∈l,c.length=sz)(k:Nat),l.flatten.drop (k*sz)=(l.drop k).flatten
 | [],_,k=>by simp
 |c::r,h,k=>by
  cases k with
  |zero=>simp
  |succ k =>
   have hc:c.length=sz:=h c (by simp);rw[yA,List.drop_succ_cons,List.drop_append,hc,show(k+1)*sz-sz=k*sz from by rw[yu];omega,
    yf (by rw[hc,yu];omega),yF]
   exact xS (fun c hc=>h c (by simp[hc])) k
theorem Lj {t:TypeId}{agg:Bool}{z:Nat}(hA:TL P t=some agg)(hz:fE P t=some z){av:Av}{cs:List AV}{us:Array Value}(h:iD ι av w cs us.toList){off:Nat}{x:AV}{avb:Av}
  (hx:bI agg z (cs.drop off)=some x):∃v,(part t us off).run P w=.ok v w/\sD ι av avb w x v:=by
 cases agg with
 |true =>
  simp only[bI,if_true]at hx;split at hx
  ·rename_i ib;injection hx with hx;subst hx;refine⟨.agg (us.extract off (off+z)),by simp[part,uS hA,EE hz],_,rfl,?_⟩;have:=wI z (xH off h);have he:(us.extract off (off+z)).toList=(us.toList.drop off).take z:=by
    rw[Array.toList_extract,List.extract_eq_take_drop,Nat.add_sub_cancel_left]
   rw[he];exact this
  ·cases hx
 |false =>
  simp only[bI,yr,if_false,yL,Nat.add_zero]at hx;obtain⟨u,hu,h1,hr⟩:=CL h hx;have rp:us[off]?=some u:=by simpa using hu
  refine⟨u,by simp[part,uS hA,rp],?_⟩;cases x<;>first|exact hr|(simp[gD,gG]at hr;obtain⟨oa,rfl,_⟩:=hr;simp[Value.oneCell']at h1)|(simp[gD,gG]at hr)
end
end
section
open Go Go.RowKit
section
variable {P:Program} {O:XI} {nt B:Nat} {F0:FQ} {da:Av} {w0:World} {D:Nat->Prop} {s:OC} {a:Act} {w w':World} {ι:Ix} {Θ:jM} {o:Oper}
theorem Fy {av avb:Av}{x:AV}{u:Value}(h:gD ι av w x u)(h1:u.oneCell'=true):sD ι av avb w x u:=by
 cases x<;>first|exact h|(simp[gD,gG]at h;obtain⟨oa,rfl,_⟩:=h;simp[Value.oneCell']at h1;done)|(simp[gD,gG]at h;done)
theorem Nl (R:LD P O nt B F0 da w0 D s a w ι Θ){X:Operand}{y:KD}(h:uA X=some y)(ho:o.op=.move X\/o.op=.assign X):BT P da a w ι Θ o ⟨y.get s,y.an s⟩ :=
 ⟨a.eval X,by rcases ho with ho|ho<;>simp[execOp,ho],(R.uA h).1,(R.uA h).2⟩
theorem Ml (R:LD P O nt B F0 da w0 D s a w ι Θ){C X Y:Operand}{c x y:KD}(hc:uA C=some c)(hx:uA X=some x)(hy:uA Y=some y)(ho:o.op=.pick C X Y){t:Bool}(ht:c.get s=.bool t):
  BT P da a w ι Θ o (if t then⟨x.get s,x.an s⟩else⟨y.get s,y.an s⟩):=by
 have h:=(R.uA hc).1;rw[ht,ZD]at h;cases t with
 |true=>exact⟨a.eval X,by simp[execOp,ho,h,asBool],(R.uA hx).1,(R.uA hx).2⟩
 |false=>exact⟨a.eval Y,by simp[execOp,ho,h,asBool],(R.uA hy).1,(R.uA hy).2⟩
theorem QF.rep {av:Av}{r:List WC}{cur:Array Value}(h:QF ι Θ av w r cur):iD ι av w (r.map (·.v)) (cur.toList.take r.length):=by
 obtain⟨hl,hj⟩:=h;obtain⟨l⟩:=cur;simp only[List.size_toArray]at hl;simp only[List.getElem?_toArray]at hj;simp only
 induction r generalizing l with
 |nil=>rfl
 |cons x r ih =>
  cases l with
  |nil=>simp at hl
  |cons u us =>
   obtain⟨u',hu,h1,hr,_⟩:=hj 0 x rfl;simp at hu;subst hu;exact⟨_,us.take r.length,rfl,hr,h1,ih us (by simpa using hl) fun j y hy=>hj (j+1) y hy⟩
theorem AR {t:TypeId}{agg:Bool}{z:Nat}(hA:TL P t=some agg)(hz:fE P t=some z){av avb:Av}{cs:List AV}{us:List Value}(h:iD ι av w cs us){b off:Nat}(tc:∀(j:Nat) (u:Value),us[j]?=some u->w.cell? ⟨b,off+j,none⟩=some u)
  {x:AV} (hx:bI agg z cs=some x):∃v,(loadVar t ⟨b,off,none⟩).run P w=.ok v w/\sD ι av avb w x v/\(agg=false->w.cell? ⟨b,off,none⟩=some v):=by
 cases agg with
 |true =>
  simp only[bI,if_true]at hx;split at hx
  ·rename_i ib;injection hx with hx;subst hx;have ja:=HE h;have hl:(us.take z).length=z:=by rw [yM,ja]; omega
   have hr:=run_loadCells_list (P:=P) w ⟨b,off,none⟩ (us.take z) (fun j v hv=>by
    rw[Addr.add_lit];refine tc j v ?_;rw[yI]at hv;split at hv
    ·exact hv
    ·cases hv)
   rw[hl]at hr;exact⟨.agg (us.take z).toArray,by simp[loadVar,uS hA,EE hz,hr],⟨_,rfl,wI z h⟩,fun h=>by cases h⟩
  ·cases hx
 |false =>
  simp only[bI,yr,if_false]at hx;obtain⟨u,hu,h1,hr⟩:=CL h hx;have hc:=tc 0 u hu;rw[Nat.add_zero]at hc;refine⟨u,by simp[loadVar,uS hA,hc],Fy hr h1,fun _=>hc⟩
theorem Xl (R:LD P O nt B F0 da w0 D s a w ι Θ){t:TypeId}{agg:Bool}{z:Nat}(hA:TL P t=some agg)(hz:fE P t=some z){X:Operand}{y:KD}(h:uA X=some y)(ho:o.op=.load t X){cl:Cl} {call} {x:WC} {e:rF}
  (hr:(K.load cl agg z y).run call s=some (x,e)):e=.none/\BT P da a w ι Θ o x:=by
 have hX:=(R.uA h).1;simp only[K.run]at hr;split at hr
 ·rename_i t' n off hy;rw [hy,lH] at hX;obtain ⟨b,hb,hv⟩:=hX;split at hr
  ·cases hm:s.mem t' n with
   |none=>rw[hm]at hr;cases hr
   |some r =>
    rw[hm,J]at hr;obtain⟨sf,b',cur,ty,na,ia,ka,_⟩:=R.rows t' n r hm;rw[hb]at na;injection na with na;subst na;have nb:∀(j:Nat)(u:Value),((cur.toList.take r.length).drop off)[j]?=some u->w.cell? ⟨b,off+j,none⟩=some u:=fun j u hu=>by
     rw[cell_of_row w b (off+j) cur ty (0,0) ia];rw[yL,yI]at hu;split at hu
     ·simpa using hu
     ·cases hu
    cases hl:kD agg z off r with
    |none=>rw[hl]at hr;cases hr
    |some y' =>
     rw[hl]at hr;injection hr with hr;injection hr with h1 h2;subst h1;subst h2;refine⟨rfl,?_⟩;have pb:=xH off ka.rep;have hi:bI agg z ((r.map (·.v)).drop off)=some y'.v:=by
      cases agg with
      |true =>
       simp only[kD,if_true]at hl;split at hl
       ·rename_i ib;injection hl with hl;subst hl;simp only[bI,if_true,List.length_drop,yo];rw[if_pos (by omega)];simp[List.map_take,List.map_drop]
       ·cases hl
      |false =>
       simp only[kD,yr,if_false]at hl;simp[bI,yL,hl]
     obtain⟨v,ca,hS,hc⟩:=AR (avb:=zE ι Θ) hA hz pb nb hi;refine⟨v,by simp[execOp,ho,Instr.loadAt,Instr.sureAddr,hv,ca],hS,?_⟩;cases agg with
     |true =>
      simp only[kD,if_true]at hl;split at hl
      ·injection hl with hl;subst hl;trivial
      ·cases hl
     |false =>
      simp only[kD,yr,if_false]at hl;obtain⟨u,hu,_,_,ha⟩:=ka.2 off y' hl;have h3:=hc rfl;rw[cell_of_row w b off cur ty (0,0) ia,hu]at h3;injection h3 with h3;subst h3;exact ha
  ·cases hr
 ·rename_i cs hy;rw [hy,AN] at hX;obtain ⟨b,off,hv,uh⟩:=hX;obtain ⟨us,hl,tc⟩:=gT uh;split at hr
  ·cases hr
  ·cases hi:bI agg z cs with
   |none=>rw[hi]at hr;cases hr
   |some x' =>
    rw[hi]at hr;injection hr with hr;injection hr with h1 h2;subst h1;subst h2;obtain⟨v,ca,hS,_⟩:=AR (avb:=zE ι Θ) hA hz (SF (ι:=ι) hl) (fun j u hu=>(tc j u hu).1) hi;exact⟨rfl,v,by simp[execOp,ho,Instr.loadAt,Instr.sureAddr,hv,ca],hS,trivial⟩
 ·rename_i cs hy;rw [hy] at hX;obtain ⟨b,off,hv,uh⟩:=hX;obtain ⟨us,hl,tc⟩:=fR uh;split at hr
  ·cases hr
  ·cases hi:bI agg z cs with
   |none=>rw[hi]at hr;cases hr
   |some x' =>
    rw[hi]at hr;injection hr with hr;injection hr with h1 h2;subst h1;subst h2;obtain⟨v,ca,hS,_⟩:=AR (avb:=zE ι Θ) hA hz (SF (ι:=ι) hl) (fun j u hu=>(tc j u hu).1) hi;exact⟨rfl,v,by simp[execOp,ho,Instr.loadAt,Instr.sureAddr,hv,ca],hS,trivial⟩
 ·cases hr
theorem bP (a b:ByteArray):(a.toList == b.toList)=decide (a=b):=by
 rw[ByteArray.toList_eq,ByteArray.toList_eq];obtain⟨⟨x⟩⟩:=a;obtain⟨⟨y⟩⟩:=b;rw[Bool.eq_iff_iff];simp
theorem CD {op:BinOp}{t t':TypeId}{X Y:Operand}{u v r:Value}(ho:o.op=.binOp op t X Y t')(hX:a.eval X=u)(hY:a.eval Y=v)(hu:u.oneCell'=true)(hn:u≠.nilIface)(hv:(Go.binOp op t u v).run P w=.ok r w):(execOp a.eval o).run P w=.ok (.value r) w:=by
 have hg:(eqGuard op t X Y u v).run P w=.ok () w:=by
  unfold eqGuard;cases u<;>first|exact absurd rfl hn|(simp[Value.oneCell']at hu;done)|(simp;done)|(split<;>simp;done)
 simp[execOp,ho,hX,hY,hg,hv]
theorem Bl (R:LD P O nt B F0 da w0 D s a w ι Θ){mx:Bool}{ts:Array TypeId}{X Y:Operand}{x y:KD}(hx:uA X=some x)(hy:uA Y=some y)(ho:o.op=.call { callee:=.builtin (if mx then .max else .min),args:=#[X,Y],argTypes:=ts }){v:AV}(hr:d8 mx (x.get s) (y.get s)=some v):
  BT P da a w ι Θ o ⟨v,.no⟩:=by
 have hX:=(R.uA hx).1;have hY:=(R.uA hy).1;unfold d8 at hr;split at hr
 ·rename_i k n k' n' e1 e2;rw [e1,QD] at hX;rw [e2,QD] at hY;split at hr
  ·rename_i hk;subst hk;injection hr with hr;subst hr;cases mx with
   |true =>
    have e:(if n' > n then n' else n)=max n n':=by rw[Int.max_def];split<;>split<;>omega
    exact⟨.int k (max n n'),by simp[execOp,ho,resolve,invoke,builtin,Builtin.max_,Builtin.max2,hX,hY,e],by simp[QD],trivial⟩
   |false =>
    have e:(if n'<n then n' else n)=min n n':=by rw[Int.min_def];split<;>split<;>omega
    exact⟨.int k (min n n'),by simp[execOp,ho,resolve,invoke,builtin,Builtin.min_,Builtin.min2,hX,hY,e],by simp[QD],trivial⟩
  ·cases hr
 ·cases hr
theorem Mm (R:LD P O nt B F0 da w0 D s a w ι Θ){op:BinOp}{t t':TypeId}{bl:Bool}(ht:bl=true->P.underlying t=some .bool){X Y:Operand}{x y:KD}(hx:uA X=some x)(hy:uA Y=some y)(ho:o.op=.binOp op t X Y t'){v:AV}(hr:NK op bl (x.get s) (y.get s)=some v):
  BT P da a w ι Θ o ⟨v,.no⟩:=by
 have hX:=(R.uA hx).1;have hY:=(R.uA hy).1;unfold NK at hr;split at hr
 ·rename_i k n k' n' e1 e2;rw [e1,QD] at hX;rw [e2,QD] at hY;by_cases je:op=.shl
  ·subst je;simp only at hr;split at hr
   ·rename_i h0;injection hr with hr;subst hr;exact⟨.int k (k.wrap (n*2 ^ shN k n')),CD ho hX hY rfl (by simp) (by simp[Go.binOp,Op.shift,shN,Int.not_lt.2 h0]),by rw[QD],trivial⟩
   ·cases hr
  by_cases hsr:op=.shr
  ·subst hsr;simp only at hr;split at hr
   ·rename_i h0;injection hr with hr;subst hr;exact⟨.int k (n.fdiv (2 ^ shN k n')),CD ho hX hY rfl (by simp) (by simp[Go.binOp,Op.shift,shN,Int.not_lt.2 h0]),by rw[QD],trivial⟩
   ·cases hr
  split at hr
  ·exact absurd rfl je
  ·exact absurd rfl hsr
  split at hr
  ·rename_i hk;subst hk;cases op <;> simp only at hr
   case and=>injection hr with hr;subst hr;exact⟨_,CD ho hX hY rfl (by simp) (by simp only[Go.binOp,ne_eq,not_true_eq_false,if_false];rfl),by rw[MT,QD],trivial⟩
   case or=>injection hr with hr;subst hr;exact⟨_,CD ho hX hY rfl (by simp) (by simp only[Go.binOp,ne_eq,not_true_eq_false,if_false];rfl),by rw[MT,QD],trivial⟩
   case xor=>injection hr with hr;subst hr;exact⟨_,CD ho hX hY rfl (by simp) (by simp only[Go.binOp,ne_eq,not_true_eq_false,if_false];rfl),by rw[MT,QD],trivial⟩
   case andNot=>injection hr with hr;subst hr;exact⟨_,CD ho hX hY rfl (by simp) (by simp only[Go.binOp,ne_eq,not_true_eq_false,if_false];rfl),by rw[MT,QD],trivial⟩
   case add=>injection hr with hr;subst hr;exact⟨.int k (k.wrap (n+n')),CD ho hX hY rfl (by simp) (by simp[Go.binOp,Op.intArith]),by rw[QD],trivial⟩
   case sub=>injection hr with hr;subst hr;exact⟨.int k (k.wrap (n-n')),CD ho hX hY rfl (by simp) (by simp[Go.binOp,Op.intArith]),by rw[QD],trivial⟩
   case mul=>injection hr with hr;subst hr;exact⟨.int k (k.wrap (n*n')),CD ho hX hY rfl (by simp) (by simp[Go.binOp,Op.intArith]),by rw[QD],trivial⟩
   case quo =>
    split at hr
    ·cases hr
    ·rename_i h0;injection hr with hr;subst hr;exact⟨.int k (k.wrap (n.tdiv n')),CD ho hX hY rfl (by simp) (by simp[Go.binOp,Op.intDiv,h0]),by rw[QD],trivial⟩
   case rem =>
    split at hr
    ·cases hr
    ·rename_i h0;injection hr with hr;subst hr;exact⟨.int k (n.tmod n'),CD ho hX hY rfl (by simp) (by simp[Go.binOp,Op.intDiv,h0]),by rw[QD],trivial⟩
   case eql=>injection hr with hr;subst hr;exact⟨.bool (n == n'),CD ho hX hY rfl (by simp) (by simp[Go.binOp,Op.intCmp]),ZD.2 (congrArg Value.bool (by first|rfl|(rw[Bool.eq_iff_iff];simp))),trivial⟩
   case neq=>injection hr with hr;subst hr;exact⟨.bool (n != n'),CD ho hX hY rfl (by simp) (by simp[Go.binOp,Op.intCmp]),ZD.2 (congrArg Value.bool (by first|rfl|(rw[Bool.eq_iff_iff];simp))),trivial⟩
   case lss=>injection hr with hr;subst hr;exact⟨.bool (decide (n<n')),CD ho hX hY rfl (by simp) (by simp[Go.binOp,Op.intCmp]),ZD.2 (congrArg Value.bool (by first|rfl|(rw[Bool.eq_iff_iff];simp))),trivial⟩
   case leq=>injection hr with hr;subst hr;exact⟨.bool (decide (n<=n')),CD ho hX hY rfl (by simp) (by simp[Go.binOp,Op.intCmp]),ZD.2 (congrArg Value.bool (by first|rfl|(rw[Bool.eq_iff_iff];simp))),trivial⟩
   case gtr=>injection hr with hr;subst hr;exact⟨.bool (decide (n > n')),CD ho hX hY rfl (by simp) (by simp[Go.binOp,Op.intCmp]),ZD.2 (congrArg Value.bool (by first|rfl|(rw[Bool.eq_iff_iff];simp))),trivial⟩
   case geq=>injection hr with hr;subst hr;exact⟨.bool (decide (n>=n')),CD ho hX hY rfl (by simp) (by simp[Go.binOp,Op.intCmp]),ZD.2 (congrArg Value.bool (by first|rfl|(rw[Bool.eq_iff_iff];simp))),trivial⟩
   all_goals cases hr
  ·cases hr
 ·rename_i n n' e1 e2;rw [e1,mI] at hX;rw [e2,mI] at hY;cases op <;> simp only at hr
  case add =>
   split at hr
   ·rename_i ib;injection hr with hr;subst hr;have hm:IntKind.i64.max=9223372036854775807:=by decide
    have:¬((n.size+n'.size:Nat):Int) > IntKind.i64.max:=by rw[hm];omega
    exact⟨.string (n++n'),CD ho hX hY rfl (by simp) (by simp only[Go.binOp,Op.stringOp,if_neg this];simp),by rw[mI],trivial⟩
   ·cases hr
  case eql=>injection hr with hr;subst hr;exact⟨.bool (n.toList == n'.toList),CD ho hX hY rfl (by simp) (by simp[Go.binOp,Op.stringOp]),ZD.2 (congrArg Value.bool (by first|rfl|(rw[bP]))),trivial⟩
  case neq=>injection hr with hr;subst hr;exact⟨.bool (!(n.toList == n'.toList)),CD ho hX hY rfl (by simp) (by simp[Go.binOp,Op.stringOp]),ZD.2 (congrArg Value.bool (by first|rfl|(rw[bP]))),trivial⟩
  case lss=>injection hr with hr;subst hr;exact⟨.bool (Op.bytesLess n.toList n'.toList),CD ho hX hY rfl (by simp) (by simp[Go.binOp,Op.stringOp]),ZD.2 (congrArg Value.bool (by first|rfl|(rw[bP]))),trivial⟩
  case gtr=>injection hr with hr;subst hr;exact⟨.bool (!(Op.bytesLess n.toList n'.toList||n.toList == n'.toList)),CD ho hX hY rfl (by simp) (by simp[Go.binOp,Op.stringOp]),by rw[ZD,bP],trivial⟩
  case leq=>injection hr with hr;subst hr;exact⟨.bool (Op.bytesLess n.toList n'.toList||n.toList == n'.toList),CD ho hX hY rfl (by simp) (by simp[Go.binOp,Op.stringOp]),by rw[ZD,bP],trivial⟩
  case geq=>injection hr with hr;subst hr;exact⟨.bool (!Op.bytesLess n.toList n'.toList),CD ho hX hY rfl (by simp) (by simp[Go.binOp,Op.stringOp]),by rw[ZD],trivial⟩
  all_goals cases hr
 ·rename_i n n' e1 e2;rw [e1,ZD] at hX;rw [e2,ZD] at hY;split at hr
  case isFalse=>cases hr
  rename_i hb;have hq:(Op.equal t (.bool n) (.bool n')).run P w=.ok (n == n') w:=run_equalIn_bool' w 9999 t n n' (ht hb);cases op<;>simp only at hr
  case eql=>injection hr with hr;subst hr;exact⟨.bool (n == n'),CD ho hX hY rfl (by simp) (by simp[Go.binOp,hq]),by rw[ZD],trivial⟩
  case neq=>injection hr with hr;subst hr;exact⟨.bool (!(n == n')),CD ho hX hY rfl (by simp) (by simp[Go.binOp,hq]),by rw[ZD],trivial⟩
  all_goals cases hr
 ·cases hr
end
end
section
open Go Go.RowKit
section
variable {P:Program} {O:XI} {nt B:Nat} {F0:FQ} {da:Av} {w0:World} {D:Nat->Prop} {s:OC} {a:Act} {w w':World} {ι:Ix} {Θ:jM} {o:Oper}
theorem KN {av:Av}:∀{cs:List AV}{b off:Nat}(k:Nat),IG av w cs b off->IG av w (cs.drop k) b (off+k)
 | [],_,_,k,_=>by simp[IG]
 |x::r,b,off,0,h=>h
 |x::r,b,off,k+1,h=>by
  simp only[IG]at h;rw[List.drop_succ_cons,show off+(k+1)=off+1+k from by omega];exact KN k h.2.2
theorem UM {av avb:Av}:∀{cs:List AV}{b off:Nat}(k:Nat),WE av avb w cs b off->WE av avb w (cs.drop k) b (off+k)
 | [],_,_,k,_=>by simp[WE]
 |x::r,b,off,0,h=>h
 |x::r,b,off,k+1,h=>by
  simp only[WE]at h;rw[List.drop_succ_cons,show off+(k+1)=off+1+k from by omega];exact UM k h.2.2
section
variable (R:LD P O nt B F0 da w0 D s a w ι Θ) {t:TypeId} {fs:Array Field} {f:Field} {i z:Nat}
include R t fs f i z
theorem Zp (ht:P.underlying t=some (.struct fs))(hf:fs[i]?=some f)(hz:fE P f.type=some (z+1)){X:Operand}{y:KD}(h:uA X=some y)(ho:o.op=.fieldAddr t X i)
  {call} {x:WC} {e:rF} (hr:(K.tB f.offset y).run call s=some (x,e)):e=.none/\BT P da a w ι Θ o x:=by
 have hX:=(R.uA h).1;have ca:∀b off,a.eval X=.pointer (some ⟨b,off,none⟩)->(execOp a.eval o).run P w=.ok (.value (.pointer (some ⟨b,off+f.offset,none⟩))) w:=fun b off hv=>by
  simp[execOp,ho,Instr.fieldAt,run_underlying ht,hf,hv,Instr.sureAddr,fieldPlace,EE hz,Addr.add_lit]
 simp only[K.run]at hr;split at hr
 ·rename_i t' n off hy;injection hr with hr;injection hr with h1 h2;subst h1;subst h2;rw[hy,lH]at hX;obtain⟨b,hb,hv⟩:=hX;exact⟨rfl,_,ca _ _ hv,⟨b,hb,rfl⟩,trivial⟩
 ·rename_i cs hy;injection hr with hr;injection hr with h1 h2;subst h1;subst h2;rw[hy,AN]at hX;obtain⟨b,off,hv,hc⟩:=hX;exact⟨rfl,_,ca _ _ hv,by rw[AN];exact⟨b,_,rfl,KN _ hc⟩,trivial⟩
 ·rename_i cs hy;injection hr with hr;injection hr with h1 h2;subst h1;subst h2;rw[hy]at hX;obtain⟨b,off,hv,hc⟩:=hX;exact⟨rfl,_,ca _ _ hv,⟨b,_,rfl,UM _ hc⟩,trivial⟩
 ·cases hr
theorem Xp {agg:Bool}(ht:P.underlying t=some (.struct fs))(hf:fs[i]?=some f)(hA:TL P f.type=some agg)(hz:fE P f.type=some z){X:Operand}{y:KD}(h:uA X=some y)(ho:o.op=.field t X i)
  {call} {x:WC} {e:rF} (hr:(K.field agg f.offset z y).run call s=some (x,e)):e=.none/\BT P da a w ι Θ o x:=by
 have hX:=(R.uA h).1;simp only[K.run]at hr;split at hr
 ·rename_i cs hy;rw [hy,T0] at hX;obtain ⟨us,hv,hc⟩:=hX;cases hl:bI agg z (cs.drop f.offset) with
  |none=>rw[hl]at hr;cases hr
  |some v =>
   rw[hl]at hr;injection hr with hr;injection hr with h1 h2;subst h1;subst h2;obtain⟨u,hu,hS⟩:=Lj (avb:=zE ι Θ) hA hz hc hl;exact⟨rfl,u,by simp[execOp,ho,Instr.field,run_underlying ht,hf,hv,asAgg,hu],hS,trivial⟩
 ·cases hr
end
theorem FN {v:AV}{n:Nat}(h:AU v=some n):∃k i,v=.int k i/\0<=i/\i.toNat=n:=by
 unfold AU at h;split at h
 ·rename_i k i;split at h
  ·injection h with h;exact⟨k,i,rfl,by assumption,h⟩
  ·cases h
 ·cases h
theorem Ga {av:Av}{l:List (List AV)}{b off sz k:Nat}{cs:List AV}(h:Rows av w l b off)(hu:∀c∈l,c.length=sz)(hk:l[k]?=some cs):IG av w cs b (off+k*sz):=by
 have h1:=KN (k*sz) (TH.1 h);rw[xS hu]at h1;have fa:k<l.length:=(yn.1 hk).1;have wb:l[k]=cs:=(yn.1 hk).2;rw[yc fa,yA,kN,wb]at h1;exact h1.1
theorem Jy {av avb:Av}{l:List (List AV)}{b off sz k:Nat}{cs:List AV}(h:ZN av avb w l b off)(hu:∀c∈l,c.length=sz)(hk:l[k]?=some cs):WE av avb w cs b (off+k*sz):=by
 have h1:=UM (k*sz) (BL.1 h);rw[xS hu]at h1;have fa:k<l.length:=(yn.1 hk).1;have wb:l[k]=cs:=(yn.1 hk).2;rw[yc fa,yA,gM,wb]at h1;exact h1.1
section
variable (R:LD P O nt B F0 da w0 D s a w ι Θ)
include R
theorem Cp {t e':TypeId}{z:Nat}(ht:P.underlying t=some (.slice e'))(hz:fE P e'=some z){X I:Operand}{y i:KD}(h:uA X=some y)(hi:uA I=some i)(ho:o.op=.indexAddr t X I)
  {call} {x:WC} {e:rF} (hr:(K.nA z y i).run call s=some (x,e)):e=.none/\BT P da a w ι Θ o x:=by
 have hX:=(R.uA h).1;have hI:=(R.uA hi).1;simp only[K.run]at hr;split at hr
 ·rename_i k hk;obtain⟨kk,n,sc,h0,hn⟩:=FN hk;rw[sc,QD]at hI;have ca:∀b off len cap,a.eval X=.slice (some ⟨b,off,none⟩) len cap->k<len->(execOp a.eval o).run P w=.ok (.value (.pointer (some ⟨b,off+k*z,none⟩))) w:=fun b off len cap hv fa=>by
   have hc:0<=n/\n<(len:Int):=⟨h0,by omega⟩;simp[execOp,ho,Instr.indexAt,run_underlying ht,hv,hI,asIntOf,hc,EE hz,Addr.add_lit,hn]
  split at hr
  ·rename_i nl l hy;rw [hy,XF] at hX;simp only [gG] at hX;obtain ⟨A,c,hv,hc,hu,wh,hs⟩:=hX;cases hl:l[k]? with
   |none=>rw[hl]at hr;cases hr
   |some cs =>
    rw[hl,J]at hr;split at hr
    ·rename_i uh;injection hr with hr;injection hr with h1 h2;subst h1;subst h2;have fa:k<l.length:=(yn.1 hl).1;have gc:cs∈l:=yQ hl;have hnf:nl=false:=by
      cases nl with
      |false=>rfl
      |true=>have:=(wh rfl).2.1;omega
     obtain⟨b,off,rfl,ka⟩:=(hs hnf).2 (by omega);exact⟨rfl,_,ca _ _ _ _ hv fa,by rw[AN];exact⟨b,_,rfl,Ga ka (fun c hc=>(hu c hc cs gc).trans uh) hl⟩,trivial⟩
    ·cases hr
  ·rename_i l hy;rw [hy] at hX;obtain ⟨a',c,hv,hc,hu,hs⟩:=hX;cases hl:l[k]? with
   |none=>rw[hl]at hr;cases hr
   |some cs =>
    rw[hl,J]at hr;split at hr
    ·rename_i uh;injection hr with hr;injection hr with h1 h2;subst h1;subst h2;have fa:k<l.length:=(yn.1 hl).1;have gc:cs∈l:=yQ hl;obtain⟨b,off,rfl,ka⟩:=hs (by omega);exact⟨rfl,_,ca _ _ _ _ hv fa,⟨b,_,rfl,Jy ka (fun c hc=>(hu c hc cs gc).trans uh) hl⟩,trivial⟩
    ·cases hr
  ·rename_i t' n' sz off ln cap hy;rw [hy,jJ] at hX;obtain ⟨b,hb,ib,_,_,_,hv⟩:=hX;split at hr
   ·rename_i fa;injection hr with hr;injection hr with h1 h2;subst h1;subst h2;obtain⟨fa,rfl⟩:=fa;exact⟨rfl,_,ca _ _ _ _ hv fa,⟨b,hb,rfl⟩,trivial⟩
   ·cases hr
  ·cases hr
 ·cases hr
theorem Lp {t e':TypeId}{n z:Nat}(ht:P.underlying t=some (.array n e'))(hz:fE P e'=some z){X I:Operand}{y i:KD}(h:uA X=some y)(hi:uA I=some i)(ho:o.op=.indexAddr t X I)
  {call} {x:WC} {e:rF} (hr:(K.pB n z y i).run call s=some (x,e)):e=.none/\BT P da a w ι Θ o x:=by
 have hX:=(R.uA h).1;have hI:=(R.uA hi).1;simp only[K.run]at hr;split at hr
 ·rename_i k hk;obtain ⟨kk,m,sc,h0,hn⟩:=FN hk;rw [sc,QD] at hI;split at hr
  ·rename_i fa;have ca:∀b off,a.eval X=.pointer (some ⟨b,off,none⟩)->(execOp a.eval o).run P w=.ok (.value (.pointer (some ⟨b,off+k*z,none⟩))) w:=fun b off hv=>by
    have hc:0<=m/\m<(n:Int):=⟨h0,by omega⟩;simp[execOp,ho,Instr.indexAt,run_underlying ht,hv,hI,asIntOf,hc,Instr.sureAddr,EE hz,Addr.add_lit,hn]
   split at hr
   ·rename_i t' n' off hy;injection hr with hr;injection hr with h1 h2;subst h1;subst h2;rw[hy,lH]at hX;obtain⟨b,hb,hv⟩:=hX;exact⟨rfl,_,ca _ _ hv,⟨b,hb,rfl⟩,trivial⟩
   ·rename_i cs hy;injection hr with hr;injection hr with h1 h2;subst h1;subst h2;rw[hy,AN]at hX;obtain⟨b,off,hv,hc⟩:=hX;exact⟨rfl,_,ca _ _ hv,by rw[AN];exact⟨b,_,rfl,KN _ hc⟩,trivial⟩
   ·rename_i cs hy;injection hr with hr;injection hr with h1 h2;subst h1;subst h2;rw[hy]at hX;obtain⟨b,off,hv,hc⟩:=hX;exact⟨rfl,_,ca _ _ hv,⟨b,_,rfl,UM _ hc⟩,trivial⟩
   ·cases hr
  ·cases hr
 ·cases hr
theorem Bp {t:TypeId}(ht:P.underlying t=some .string){X I:Operand}{y i:KD}(h:uA X=some y)(hi:uA I=some i)(ho:o.op=.index t X I)
  {call} {x:WC} {e:rF} (hr:(K.index y i).run call s=some (x,e)):e=.none/\BT P da a w ι Θ o x:=by
 have hX:=(R.uA h).1;have hI:=(R.uA hi).1;simp only[K.run]at hr;split at hr
 ·rename_i k b hk hy;obtain ⟨kk,n,sc,h0,hn⟩:=FN hk;rw [sc,QD] at hI;rw [hy,mI] at hX;cases hb:b[k]? with
  |none=>rw[hb]at hr;cases hr
  |some u =>
   rw[hb]at hr;injection hr with hr;injection hr with h1 h2;subst h1;subst h2;exact⟨rfl,.int .u8 u.toNat,by simp[execOp,ho,Instr.index,run_underlying ht,hX,hI,asIntOf,h0,hn,hb],by rw[QD],trivial⟩
 ·cases hr
end
theorem M2 {av:Av}:∀{xs:List AV}{us:List Value}(_:DI ι av w xs us){j:Nat}{x:AV},xs[j]?=some x->∃u,us[j]?=some u/\jR ι av w x u
 | [],_,_,_,_,hx=>by simp at hx
 |y::r,_,h,j,x,hx=>by
  simp only[DI]at h;obtain⟨u,oa,rfl,h0,h⟩:=h;cases j with
  |zero=>simp at hx;subst hx;exact⟨u,rfl,h0⟩
  |succ j=>exact M2 h (j:=j) (by simpa using hx)
theorem BI {av:Av}{x:AV}{u:Value}(h:gG av w x u):jR ι av w x u:=by
 cases x<;>first
  |(simp only[gG]at h;obtain⟨us,hv,hc⟩:=h;exact⟨us,hv,SF hc⟩)
  |exact PM (ι:=ι) h
theorem t3 {av:Av}:∀{xs:List AV}{us:List Value},WO av w xs us->DI ι av w xs us
 | [],_,h=>by simpa [WO,DI]using h
 |x::r,_,h=>by
  simp only[WO]at h;obtain⟨u,oa,rfl,h0,h⟩:=h;exact⟨u,oa,rfl,BI h0,t3 h⟩
theorem AM {av avb:Av}{x:AV}{u:Value}(h:gG av w x u):sD ι av avb w x u:=by
 cases x<;>first
  |exact h
  |(simp only[gG]at h;obtain⟨us,hv,hc⟩:=h;exact⟨us,hv,SF hc⟩)
  |(simp only[gG]at h;obtain⟨us,hv,hc⟩:=h;exact⟨us,hv,t3 hc⟩)
  |(simp[gG]at h;done)
theorem Gy {av avb:Av}{x:AV}{u:Value}(h:jR ι av w x u):sD ι av avb w x u:=by
 cases x<;>first
  |exact h
  |exact AM h
theorem NF {av avb:Av}{x:AV}{u:Value}(h:gD ι av w x u):sD ι av avb w x u:=by
 cases x<;>first|exact h|exact AM h
section
variable (R:LD P O nt B F0 da w0 D s a w ι Θ)
include R
theorem val_ext {i:Nat}{X:Operand}{y:KD}(h:uA X=some y)(ho:o.op=.extract X i)
  {call} {x:WC} {e:rF} (hr:(K.ext y i).run call s=some (x,e)):e=.none/\BT P da a w ι Θ o x:=by
 have hX:=(R.uA h).1;simp only[K.run]at hr;split at hr
 ·rename_i vs hy;rw [hy,Mj] at hX;obtain ⟨us,hv,hc⟩:=hX;cases hb:vs[i]? with
  |none=>rw[hb]at hr;cases hr
  |some u =>
   rw[hb]at hr;injection hr with hr;injection hr with h1 h2;subst h1;subst h2;obtain⟨u',hu,pb⟩:=M2 hc hb;have rp:us[i]?=some u':=by simpa using hu
   exact⟨rfl,u',by simp[execOp,ho,Instr.extract,hv,rp],Gy pb,trivial⟩
 ·cases hr
theorem Iw {X:Operand}{y:KD}(h:uA X=some y)(ho:o.op=.nilCheck X)
  {call} {x:WC} {e:rF} (hr:(K.AA y).run call s=some (x,e)):e=.none/\BT P da a w ι Θ o x:=by
 have hX:=(R.uA h).1;simp only[K.run]at hr;split at hr
 ·rename_i t n off hy;injection hr with hr;injection hr with h1 h2;subst h1;subst h2;rw[hy]at hX;obtain⟨b,hb,hv⟩:=lH.1 hX;exact⟨rfl,.pointer (some ⟨b,off,none⟩),by simp[execOp,ho,hv],by rw[lH];exact⟨b,hb,rfl⟩,trivial⟩
 ·rename_i cs hy;injection hr with hr;injection hr with h1 h2;subst h1;subst h2;rw[hy]at hX;obtain⟨b,off,hv,hc⟩:=AN.1 hX;exact⟨rfl,.pointer (some ⟨b,off,none⟩),by simp[execOp,ho,hv],by rw[AN];exact⟨b,off,rfl,hc⟩,trivial⟩
 ·rename_i cs hy;injection hr with hr;injection hr with h1 h2;subst h1;subst h2;rw[hy]at hX;obtain⟨b,off,hv,hc⟩:=hX;exact⟨rfl,.pointer (some ⟨b,off,none⟩),by simp[execOp,ho,hv],⟨b,off,rfl,hc⟩,trivial⟩
 ·cases hr
theorem Uy {t:TypeId}{str:Bool}(ht:if str then P.underlying t=some .string else ∃e,P.underlying t=some (.slice e)){X:Operand}{y:KD}(h:uA X=some y)(ho:o.op=.call { callee:=.builtin .len,args:=#[X],argTypes:=#[t] })
  {call} {x:WC} {e:rF} (hr:(K.len str y).run call s=some (x,e)):e=.none/\BT P da a w ι Θ o x:=by
 have hX:=(R.uA h).1;have je:∀A n c,str=false->a.eval X=.slice A n c->(execOp a.eval o).run P w=.ok (.value (.int .i64 n)) w:=fun A n c hs hv=>by
  subst hs;obtain⟨e',ht⟩:=ht;simp[execOp,ho,resolve,invoke,builtin,Builtin.len_,run_underlying ht,hv,goInt]
 simp only[K.run]at hr;split at hr
 ·rename_i nl l hy;rw [hy,XF] at hX;simp only [gG] at hX;obtain ⟨A,c,hv,_⟩:=hX;cases str with
  |true=>simp at hr
  |false =>
   simp only[yr,if_false]at hr;injection hr with hr;injection hr with h1 h2;subst h1;subst h2;exact⟨rfl,_,je _ _ _ rfl hv,by rw[QD],trivial⟩
 ·rename_i l hy;rw [hy] at hX;obtain ⟨A,c,hv,_⟩:=hX;cases str with
  |true=>simp at hr
  |false =>
   simp only[yr,if_false]at hr;injection hr with hr;injection hr with h1 h2;subst h1;subst h2;exact⟨rfl,_,je _ _ _ rfl hv,by rw[QD],trivial⟩
 ·rename_i t' n sz off ln cap hy;rw [hy,jJ] at hX;obtain ⟨b,_,_,_,_,_,hv⟩:=hX;cases str with
  |true=>simp at hr
  |false =>
   simp only[yr,if_false]at hr;injection hr with hr;injection hr with h1 h2;subst h1;subst h2;exact⟨rfl,_,je _ _ _ rfl hv,by rw[QD],trivial⟩
 ·rename_i b hy;rw [hy,mI] at hX;cases str with
  |false=>simp at hr
  |true =>
   simp only[if_true]at hr ht;injection hr with hr;injection hr with h1 h2;subst h1;subst h2;exact⟨rfl,.int .i64 b.size,by simp[execOp,ho,resolve,invoke,builtin,Builtin.len_,run_underlying ht,hX,goInt],by rw[QD],trivial⟩
 ·cases hr
theorem val_un {op:UnOp}{t:TypeId}{X:Operand}{y:KD}(h:uA X=some y)(ho:o.op=.unOp op t X)
  {call} {x:WC} {e:rF} (hr:(K.un op y).run call s=some (x,e)):e=.none/\BT P da a w ι Θ o x:=by
 have hX:=(R.uA h).1;simp only[K.run]at hr;split at hr
 ·rename_i b hy;injection hr with hr;injection hr with h1 h2;subst h1;subst h2;rw[hy,ZD]at hX;exact⟨rfl,.bool (!b),by simp[execOp,ho,Op.unary,hX],by rw[ZD],trivial⟩
 ·rename_i k n hy;injection hr with hr;injection hr with h1 h2;subst h1;subst h2;rw[hy,QD]at hX;exact⟨rfl,.int k (k.wrap (0-n)),by simp[execOp,ho,Op.unary,Op.intArith,hX],by rw[QD],trivial⟩
 ·cases hr
theorem j9 {k:Option IntKind}{t t':TypeId}(hk:match k with|some k=>(∃j,P.underlying t=some (.int j))/\P.underlying t'=some (.int k)|none=>P.underlying t=some .string/\P.underlying t'=some .string)
  {X:Operand} {y:KD} (h:uA X=some y) (ho:o.op=.convert t t' X) {call} {x:WC} {e:rF} (hr:(K.conv k y).run call s=some (x,e)):e=.none/\BT P da a w ι Θ o x:=by
 have hX:=(R.uA h).1;simp only[K.run]at hr;split at hr
 ·rename_i k' j n hy;injection hr with hr;injection hr with h1 h2;subst h1;subst h2;rw[hy,QD]at hX;obtain⟨⟨i,h1⟩,h2⟩:=hk;exact⟨rfl,.int k' (k'.wrap n),by simp[execOp,ho,Go.convert,run_underlying h1,run_underlying h2,Conv.intToInt,hX],by rw[QD],trivial⟩
 ·rename_i b hy;injection hr with hr;injection hr with h1 h2;subst h1;subst h2;rw[hy,mI]at hX;exact⟨rfl,.string b,by simp[execOp,ho,Go.convert,run_underlying hk.1,run_underlying hk.2,hX],by rw[mI],trivial⟩
 ·cases hr
end
end
end
section
open Go Go.RowKit
section
variable {P:Program} {O:XI} {nt B:Nat} {F0:FQ} {da:Av} {w0:World} {D:Nat->Prop} {s:OC} {a:Act} {w w':World} {ι:Ix} {Θ:jM} {o:Oper}
def OY (a:Act)(d:Nat):Option Operand->Option Value×Nat->Prop
 |none,(v,n)=>v=none/\n=d
 |some x,(v,n)=>v=some (a.eval x)/\∃k i,a.eval x=.int k i/\0<=i/\i.toNat=n
theorem gP {t e:TypeId}{z:Nat}(ht:P.underlying t=some (.slice e))(hz:fE P e=some z){A:Option Addr}{n c:Nat}{L H:Option Operand}{l h:Nat}(hl:OY a 0 L (L.map a.eval,l))(hh:OY a n H (H.map a.eval,h))(h1:l<=h)(h2:h<=c):
  (Instr.sliceAt t (.slice A n c) (L.map a.eval) (H.map a.eval) none).run P w=.ok (.slice (if c=l then A else A.map (·.add (l*z))) (h-l) (c-l)) w:=by
 cases L with
 |none =>
  obtain⟨_,rfl⟩:=hl;cases H with
  |none =>
   obtain⟨_,rfl⟩:=hh;simp[Instr.sliceAt,Instr.slice,Instr.sliceBounds,run_underlying ht,EE hz]
  |some x =>
   obtain⟨_,k,i,hx,h0,rfl⟩:=hh;have:0<=i/\i<=(c:Int):=⟨h0,by omega⟩;simp[Instr.sliceAt,Instr.slice,Instr.sliceBounds,Instr.sliceBound,run_underlying ht,EE hz,hx,asIntOf,this]
 |some y =>
  obtain⟨_,k',i',hy,cf,rfl⟩:=hl;cases H with
  |none =>
   obtain⟨_,rfl⟩:=hh;have:0<=i'/\i'<=(h:Int):=⟨cf,by omega⟩;simp[Instr.sliceAt,Instr.slice,Instr.sliceBounds,Instr.sliceBound,run_underlying ht,EE hz,hy,asIntOf,this]
  |some x =>
   obtain⟨_,k,i,hx,h0,rfl⟩:=hh;have h3:0<=i/\i<=(c:Int):=⟨h0,by omega⟩;have h4:0<=i'/\i'<=(i.toNat:Int):=⟨cf,by omega⟩;have h5:i'<=max i 0:=by omega
   simp[Instr.sliceAt,Instr.slice,Instr.sliceBounds,Instr.sliceBound,run_underlying ht,EE hz,hx,hy,asIntOf,h3,h4,h5]
theorem X0 {t:TypeId}(ht:P.underlying t=some .string){b:ByteArray}{L H:Option Operand}{l h:Nat}(hl:OY a 0 L (L.map a.eval,l))(hh:OY a b.size H (H.map a.eval,h))(h1:l<=h)(h2:h<=b.size):
  (Instr.sliceAt t (.string b) (L.map a.eval) (H.map a.eval) none).run P w=.ok (.string (b.extract l h)) w:=by
 cases L with
 |none =>
  obtain⟨_,rfl⟩:=hl;cases H with
  |none =>
   obtain⟨_,rfl⟩:=hh;simp[Instr.sliceAt,Instr.slice,Instr.sliceBounds,run_underlying ht]
  |some x =>
   obtain⟨_,k,i,hx,h0,rfl⟩:=hh;have:0<=i/\i<=(b.size:Int):=⟨h0,by omega⟩;simp[Instr.sliceAt,Instr.slice,Instr.sliceBounds,Instr.sliceBound,run_underlying ht,hx,asIntOf,this]
 |some y =>
  obtain⟨_,k',i',hy,cf,rfl⟩:=hl;cases H with
  |none =>
   obtain⟨_,rfl⟩:=hh;have:0<=i'/\i'<=(b.size:Int):=⟨cf,by omega⟩;simp[Instr.sliceAt,Instr.slice,Instr.sliceBounds,Instr.sliceBound,run_underlying ht,hy,asIntOf,this]
  |some x =>
   obtain⟨_,k,i,hx,h0,rfl⟩:=hh;have h3:0<=i/\i<=(b.size:Int):=⟨h0,by omega⟩;have h4:0<=i'/\i'<=(i.toNat:Int):=⟨cf,by omega⟩;have h5:i'<=max i 0:=by omega
   simp[Instr.sliceAt,Instr.slice,Instr.sliceBounds,Instr.sliceBound,run_underlying ht,hx,hy,asIntOf,h3,h4,h5]
theorem sM (R:LD P O nt B F0 da w0 D s a w ι Θ){L:Option Operand}{l:Option KD}(h:BX L=some l){d n:Nat}(hn:wM s d l=some n):OY a d L (L.map a.eval,n):=by
 cases L with
 |none =>
  injection h with h;subst h;injection hn with hn;exact⟨rfl,hn.symm⟩
 |some X =>
  simp only[BX]at h;cases hx:uA X with
  |none=>rw[hx]at h;cases h
  |some x =>
   rw[hx]at h;injection h with h;subst h;obtain⟨k,i,hi,h0,hn⟩:=FN hn;have:=(R.uA hx).1;rw[hi,QD]at this;exact⟨rfl,k,i,this,h0,hn⟩
theorem u9 {sz:Nat}{e:List (List AV)}(hu:∀c∈e,c.length=sz)(l h:Nat):((e.take h).drop l).flatten=(e.flatten.take (h*sz)).drop (l*sz):=by
 rw[<- xS (fun c hc=>hu c (List.mem_of_mem_take hc)) l];congr 1;clear l
 induction e generalizing h with
 |nil=>simp
 |cons c r ih =>
  cases h with
  |zero=>simp
  |succ h =>
   have hc:c.length=sz:=hu c (by simp);rw[List.take_succ_cons,yA,yA,List.take_append,hc,ih (fun c hc=>hu c (by simp[hc])),
    yB (l:=c) (by rw[hc,yu];omega),show(h+1)*sz-sz=h*sz from by rw[yu];omega]
theorem W9 {av:Av}{cs:List AV}{b off:Nat}(k:Nat)(h:IG av w cs b off):IG av w (cs.take k) b off:=by
 rw[<- yR k cs,kN]at h;exact h.1
theorem D6 {av avb:Av}{cs:List AV}{b off:Nat}(k:Nat)(h:WE av avb w cs b off):WE av avb w (cs.take k) b off:=by
 rw[<- yR k cs,gM]at h;exact h.1
theorem Iy (R:LD P O nt B F0 da w0 D s a w ι Θ){t:TypeId}{str:Bool}{z:Nat}(ht:if str then P.underlying t=some .string else ∃e,P.underlying t=some (.slice e)/\fE P e=some z){X:Operand}{L H:Option Operand}{x:KD}{l h:Option KD}(hx:uA X=some x)(hl:BX L=some l)(hh:BX H=some h)
  (ho:o.op=.slice t X L H none) {call} {y:WC} {e:rF} (hr:(K.slc str z x l h none).run call s=some (y,e)):e=.none/\BT P da a w ι Θ o y:=by
 have hX:=(R.uA hx).1;simp only[K.run]at hr;split at hr
 ·cases hr
 ·rename_i lo ey;have hL:=sM R hl ey;split at hr
  ·rename_i b e' hy;rw [hy,XF] at hX;simp only [gG] at hX;obtain ⟨A,c,hv,hc,hu,hn,hs⟩:=hX;split at hr
   ·rename_i hi ro;have hH:=sM R hh ro;split at hr
    ·rename_i aa;obtain ⟨h1,h2,h3,rfl⟩:=aa;injection hr with hr; injection hr with e1 e2; subst e1; subst e2;obtain ⟨el,sa,ht2⟩:=ht;have ra:∀ c∈e',c.length=z:=fun c hc=>by simpa using y6.1 h3 c hc
     have ca:=gP (w:=w) (A:=A) sa ht2 hL hH h1 (yt h2 hc);refine⟨rfl,.slice (if c=lo then A else A.map (·.add (lo*z))) (hi-lo) (c-lo),by simp only[execOp,ho,hv,Option.map_none,Sem.run_bind,ca,Result.andThen_ok,Sem.run_pure],?_,trivial⟩;simp only[XF,gG];have ja:((e'.take hi).drop lo).length=hi-lo:=by rw[List.length_drop,yM];omega
     refine⟨_,_,by rw[ja],by rw[ja];omega,fun x hx y hy=>(ra x (List.mem_of_mem_take (List.mem_of_mem_drop hx))).trans (ra y (List.mem_of_mem_take (List.mem_of_mem_drop hy))).symm,fun hb=>?_,fun hb=>?_⟩
     ·obtain⟨rfl,h0,rfl⟩:=hn hb;refine⟨by simp,by omega,by omega⟩
     ·obtain ⟨tn,tt⟩:=hs hb;by_cases ed:c=lo
      ·exact⟨fun _=>by omega,fun h0=>by omega⟩
      ·refine ⟨fun hA=>?_,fun h0=>?_⟩
       ·rw [if_neg ed] at hA;cases jl:A with
        |none=>have:=tn jl;omega
        |some a=>rw[jl]at hA;cases hA
       obtain⟨bb,off,rfl,ka⟩:=tt (by omega);refine⟨bb,off+lo*z,by rw[if_neg ed];simp only[yp,Addr.add_lit],?_⟩;rw[TH,u9 ra];exact KN _ (W9 _ (TH.1 ka))
    ·cases hr
   ·cases hr
  ·rename_i e' hy;rw [hy] at hX;obtain ⟨a',c,hv,hc,hu,hs⟩:=hX;split at hr
   ·rename_i hi ro;have hH:=sM R hh ro;split at hr
    ·rename_i aa;obtain ⟨h1,h2,h3,rfl⟩:=aa;injection hr with hr; injection hr with e1 e2; subst e1; subst e2;obtain ⟨el,sa,ht2⟩:=ht;have ra:∀ c∈e',c.length=z:=fun c hc=>by simpa using y6.1 h3 c hc
     have ca:=gP (w:=w) (A:=some a') sa ht2 hL hH h1 (yt h2 hc);refine⟨rfl,.slice (if c=lo then some a' else(some a').map (·.add (lo*z))) (hi-lo) (c-lo),by simp only[execOp,ho,hv,Option.map_none,Sem.run_bind,ca,Result.andThen_ok,Sem.run_pure],?_,trivial⟩;have ja:((e'.take hi).drop lo).length=hi-lo:=by rw[List.length_drop,yM];omega
     refine⟨if c=lo then a' else a'.add (lo*z),c-lo,by rw[ja];split<;>simp,by rw[ja];omega,fun x hx y hy=>(ra x (List.mem_of_mem_take (List.mem_of_mem_drop hx))).trans (ra y (List.mem_of_mem_take (List.mem_of_mem_drop hy))).symm,fun h0=>?_⟩;rw[if_neg (by omega)];obtain⟨bb,off,rfl,ka⟩:=hs (by omega);refine⟨bb,off+lo*z,by rw[Addr.add_lit],?_⟩;rw[BL,u9 ra];exact UM _ (D6 _ (BL.1 ka))
    ·cases hr
   ·cases hr
  ·rename_i t' n sz off ln cap hy;rw [hy,jJ] at hX;obtain ⟨b,hb,ib,cc,jf,hz,hv⟩:=hX;split at hr
   ·rename_i hi ro;have hH:=sM R hh ro;split at hr
    ·rename_i aa;obtain ⟨h1,h2,rfl,rfl⟩:=aa;obtain ⟨el,sa,ht2⟩:=ht;have ca:=gP (w:=w) (A:=some ⟨b,off,none⟩) sa ht2 hL hH h1 (yt h2 jf);have nh:(execOp a.eval o).run P w=.ok (.value (.slice (if cc=lo then some ⟨b,off,none⟩ else (some (⟨b,off,none⟩:Addr)).map (·.add (lo * sz))) (hi - lo) (cc - lo))) w:=by simp only [execOp,ho,hv,Option.map_none,Sem.run_bind,ca,Result.andThen_ok,Sem.run_pure]
     split at hr
     ·rename_i he;injection hr with hr;injection hr with e1 e2;subst e1;subst e2;refine⟨rfl,_,nh,?_,trivial⟩;rw[XF];simp only[gG,List.length_nil];refine⟨_,cc-lo,by rw[show hi-lo=0 from by omega],by omega,(fun x hx=>by cases hx),(fun h=>by cases h),fun _=>⟨fun h=>?_,fun h=>absurd h (Nat.lt_irrefl 0)⟩⟩;split at h<;>simp at h
     ·rename_i he;injection hr with hr; injection hr with e1 e2; subst e1; subst e2;refine ⟨rfl,_,nh,⟨b,hb,by omega,cc - lo,by omega,?_,?_⟩,trivial⟩
      ·have:off+lo*sz+(cc-lo)*sz=off+cc*sz:=by
        rw[Nat.add_assoc,<- Nat.add_mul];congr 2;omega
       rw[this];exact hz
      ·rw[if_neg (by omega)];simp[Addr.add_lit]
    ·cases hr
   ·cases hr
  ·rename_i b hy;rw [hy,mI] at hX;split at hr
   ·rename_i hi ro;have hH:=sM R hh ro;split at hr
    ·rename_i aa;obtain⟨h1,h2,rfl⟩:=aa;injection hr with hr;injection hr with e1 e2;subst e1;subst e2;have ca:=X0 (w:=w) ht hL hH h1 h2;exact⟨rfl,.string (b.extract lo hi),by simp only[execOp,ho,hX,Option.map_none,Sem.run_bind,ca,Result.andThen_ok,Sem.run_pure],by rw[mI],trivial⟩
    ·cases hr
   ·cases hr
  ·cases hr
theorem Uh {H:Option Operand}(h:isZ H=true):H=some (.const (.int .i64 0)):=by
 unfold isZ at h;split at h
 ·rw[of_decide_eq_true h]
 ·cases h
theorem val_slz (R:LD P O nt B F0 da w0 D s a w ι Θ){t e':TypeId}{z:Nat}(ht:P.underlying t=some (.slice e'))(hz:fE P e'=some z){X:Operand}{H M:Option Operand}(hH:isZ H=true)(hM:isZ M=true){x:KD}(hx:uA X=some x)
  (ho:o.op=.slice t X none H M) {call} {y:WC} {e:rF} (hr:(K.slz x).run call s=some (y,e)):e=.none/\BT P da a w ι Θ o y:=by
 have hX:=(R.uA hx).1;rw[Uh hH,Uh hM]at ho;have ca:∀(A:Option Addr)(n c:Nat),a.eval X=.slice A n c->(execOp a.eval o).run P w=.ok (.value (.slice A 0 0)) w:=fun A n c hv=>by
  have je:(Instr.sliceAt t (.slice A n c) none (some (.int .i64 0)) (some (.int .i64 0))).run P w=.ok (.slice A 0 0) w:=by simp[Instr.sliceAt,Instr.slice,Instr.sliceBounds,Instr.sliceBound,run_underlying ht,EE hz,asIntOf]
  have he:a.eval (.const (.int .i64 0))=.int .i64 0:=rfl;simp only[execOp,ho,hv,he,Option.map_none,yp,je,Sem.run_bind,Result.andThen_ok,Sem.run_pure]
 simp only[K.run]at hr;split at hr
 ·rename_i b l hy;injection hr with hr;injection hr with e1 e2;subst e1;subst e2;rw[hy,XF]at hX;simp only[gG]at hX;obtain⟨A,c,hv,hc,hu,hn,hs⟩:=hX;refine⟨rfl,_,ca _ _ _ hv,?_,⟨A,0,rfl⟩⟩;simp only[XF,gG,List.length_nil];exact⟨A,0,rfl,yg _,(fun x hx=>by cases hx),fun hb=>⟨(hn hb).1,trivial,rfl⟩,fun hb=>⟨fun _=>rfl,fun h0=>absurd h0 (Nat.lt_irrefl 0)⟩⟩
 ·rename_i l hy;injection hr with hr;injection hr with e1 e2;subst e1;subst e2;rw[hy]at hX;obtain⟨a',c,hv,hc,hu,hs⟩:=hX;refine⟨rfl,_,ca _ _ _ hv,?_,⟨_,0,rfl⟩⟩;simp only[XF,gG,List.length_nil];exact⟨_,0,rfl,yg _,(fun x hx=>by cases hx),(fun hb=>by cases hb),fun hb=>⟨fun _=>rfl,fun h0=>absurd h0 (Nat.lt_irrefl 0)⟩⟩
 ·rename_i t' n sz off ln cap hy;injection hr with hr;injection hr with e1 e2;subst e1;subst e2;rw[hy,jJ]at hX;obtain⟨b,hb,ib,cc,jf,hz',hv⟩:=hX;refine⟨rfl,_,ca _ _ _ hv,?_,⟨_,0,rfl⟩⟩;simp only[XF,gG,List.length_nil];exact⟨_,0,rfl,yg _,(fun x hx=>by cases hx),(fun hb=>by cases hb),fun hb=>⟨fun _=>rfl,fun h0=>absurd h0 (Nat.lt_irrefl 0)⟩⟩
 ·cases hr
end
end
section
open Go Go.RowKit
section
variable {P:Program} {O:XI} {nt B:Nat} {F0:FQ} {da:Av} {w0:World} {D:Nat->Prop} {s:OC} {a:Act} {w w':World} {ι:Ix} {Θ:jM} {o:Oper}
theorem Du (d:Nat){t e:TypeId}(ht:P.underlying t=some (.slice e))(A:Option Addr)(n c:Nat):(Op.equalIn (d+1) t (.slice A n c) (.slice none 0 0)).run P w=.ok A.isNone w:=by
 unfold Op.equalIn;simp only[Sem.run_bind,run_underlying ht,Result.andThen_ok];cases A<;>rfl
theorem Pc (d:Nat){t e:TypeId}(ht:P.underlying t=some (.pointer e))(A:Option Addr):(Op.equalIn (d+1) t (.pointer A) (.pointer none)).run P w=.ok A.isNone w:=by
 unfold Op.equalIn;simp only[Sem.run_bind,run_underlying ht,Result.andThen_ok];cases A<;>rfl
theorem fY (R:LD P O nt B F0 da w0 D s a w ι Θ){t t':TypeId}{neg ptr:Bool}(ht:if ptr then ∃e,P.underlying t=some (.pointer e)else ∃e,P.underlying t=some (.slice e)){X Y:Operand}{x y:KD}(hx:uA X=some x)(hy:uA Y=some y)
  (ho:o.op=.binOp (if neg then .neq else .eql) t X Y t') {call} {z:WC} {e:rF} (hr:(K.gC neg ptr x y).run call s=some (z,e)):e=.none/\BT P da a w ι Θ o z:=by
 have hX:=(R.uA hx).1;have hY:=(R.uA hy).1;have key:∀(u v:Value)(r:Bool),a.eval X=u->a.eval Y=v->u.oneCell'=true->u≠.nilIface->(∀op,(Go.binOp op t u v).run P w=(match op with|.eql=>(do pure (.bool (<- Op.equal t u v)):Sem Value)|.neq=>(do pure (.bool (!(<- Op.equal t u v))):Sem Value)|_=>Go.binOp op t u v).run P w)->(Op.equal t u v).run P w=.ok r w →
   (execOp a.eval o).run P w=.ok (.value (.bool (r != neg))) w:=fun u v r hu hv h1 hn hb he=>by
  cases neg with
  |false =>
   simp only[yr,if_false]at ho;have:=hb .eql;simp only[Sem.run_bind,he,Result.andThen_ok,Sem.run_pure]at this;rw[CD ho hu hv h1 hn this];simp
  |true =>
   simp only[if_true]at ho;have:=hb .neq;simp only[Sem.run_bind,he,Result.andThen_ok,Sem.run_pure]at this;rw[CD ho hu hv h1 hn this];simp
 have je:∀A n c,ptr=false->a.eval X=.slice A n c->a.eval Y=.slice none 0 0->(execOp a.eval o).run P w=.ok (.value (.bool (A.isNone != neg))) w:=fun A n c hp hu hv=>by
  subst hp;simp only[yr,if_false]at ht;obtain⟨e,ht⟩:=ht;exact key _ _ _ hu hv rfl (by simp) (fun op=>by cases op<;>simp[Go.binOp]) (Du 9999 ht A n c)
 have hpt:∀A,ptr=true->a.eval X=.pointer A->a.eval Y=.pointer none->(execOp a.eval o).run P w=.ok (.value (.bool (A.isNone != neg))) w:=fun A hp hu hv=>by
  subst hp;simp only[if_true]at ht;obtain⟨e,ht⟩:=ht;exact key _ _ _ hu hv rfl (by simp) (fun op=>by cases op<;>simp[Go.binOp]) (Pc 9999 ht A)
 have fin:∀{b:Bool},(execOp a.eval o).run P w=.ok (.value (.bool (b != neg))) w->BT P da a w ι Θ o ⟨.bool (b != neg),.no⟩:=fun h=>⟨_,h,by rw[ZD],trivial⟩
 simp only[K.run]at hr;split at hr
 ·rename_i l zj;rw [zj,XF] at hY;simp only [gG] at hY;obtain ⟨A,c,hv,_,_,hn,_⟩:=hY;obtain ⟨rfl,h0,rfl⟩:=hn trivial;rw [h0] at hv;cases hi:aX false (x.get s) with
  |none=>rw[hi]at hr;cases hr
  |some b =>
   rw[hi]at hr;injection hr with hr;injection hr with e1 e2;subst e1;subst e2;refine⟨rfl,fin ?_⟩;unfold aX at hi;split at hi<;>first|(exact absurd ‹false=true› (by decide))|skip
   ·rename_i l' _ ic;injection hi with hi;subst hi;rw[ic,XF]at hX;simp only[gG]at hX;obtain⟨A,c,hu,_,_,wg,uj⟩:=hX;have:=je _ _ _ rfl hu hv;rw[(wg trivial).1]at this;exact this
   ·rename_i l' _ ic;split at hi
    ·cases hi
    ·rename_i ua;injection hi with hi;subst hi;rw[ic,XF]at hX;simp only[gG]at hX;obtain⟨A,c,hu,_,_,wg,uj⟩:=hX;have:=je _ _ _ rfl hu hv;obtain⟨_,_,rfl,_⟩:=(uj trivial).2 (by cases l' with|nil=>simp at ua|cons=>simp);exact this
   ·rename_i l' _ ic;injection hi with hi;subst hi;rw[ic]at hX;obtain⟨a',c,hu,_⟩:=hX;exact je _ _ _ rfl hu hv
   ·rename_i ic;injection hi with hi;subst hi;rw[ic]at hX;obtain⟨b,_,_,_,_,_,hu⟩:=jJ.1 hX;exact je _ _ _ rfl hu hv
   ·cases hi
 ·rename_i zj;rw [zj,W4] at hY;cases hi:aX true (x.get s) with
  |none=>rw[hi]at hr;cases hr
  |some b =>
   rw[hi]at hr;injection hr with hr;injection hr with e1 e2;subst e1;subst e2;refine⟨rfl,fin ?_⟩;unfold aX at hi;split at hi<;>first|(exact absurd ‹true=false› (by decide))|skip
   ·rename_i ic;injection hi with hi;subst hi;rw[ic,W4]at hX;exact hpt _ rfl hX hY
   ·rename_i ic;injection hi with hi;subst hi;rw[ic]at hX;obtain⟨b,_,hu⟩:=lH.1 hX;exact hpt _ rfl hu hY
   ·rename_i ic;injection hi with hi;subst hi;rw[ic]at hX;obtain⟨b,off,hu,_⟩:=AN.1 hX;exact hpt _ rfl hu hY
   ·rename_i ic;injection hi with hi;subst hi;rw[ic]at hX;obtain⟨b,off,hu,_⟩:=hX;exact hpt _ rfl hu hY
   ·cases hi
 ·cases hr
def KindEq (P:Program)(d:Nat)(t:TypeId)(w:World):Nat->Value->Value->Prop
 |0,.int j a,.int j' b=>j=j'->(Op.equalIn (d+1) t (.int j a) (.int j' b)).run P w=.ok (decide (a=b)) w
 |1,.string a,.string b=>(Op.equalIn (d+1) t (.string a) (.string b)).run P w=.ok (decide (a=b)) w
 |2,.bool a,.bool b=>(Op.equalIn (d+1) t (.bool a) (.bool b)).run P w=.ok (decide (a=b)) w
 |_,_,_=>True
theorem o9 (d:Nat){t:TypeId}{k:Nat}(hk:C0 P t=some k){xs ys:Array Value}{i:Nat}{u v:Value}(hu:xs[i]?=some u)(hv:ys[i]?=some v):
  (part t xs i).run P w=.ok u w/\(part t ys i).run P w=.ok v w/\KindEq P d t w k u v:=by
 unfold C0 at hk;split at hk
 ·rename_i j ht _;injection hk with hk;subst hk;refine ⟨by simp [part,isAgg,run_underlying ht,hu],by simp [part,isAgg,run_underlying ht,hv],?_⟩;cases u <;> cases v <;> first | trivial | skip
  rename_i j1 a j2 b;rintro rfl;rw[run_equalIn_int w d t j1 j a b ht];rfl
 ·rename_i ht _;injection hk with hk;subst hk;refine ⟨by simp [part,isAgg,run_underlying ht,hu],by simp [part,isAgg,run_underlying ht,hv],?_⟩;cases u <;> cases v <;> first | trivial | skip
  rename_i a b;show(Op.equalIn (d+1) t (.string a) (.string b)).run P w=_;rw[run_equalIn_string w d t a b ht,bP]
 ·rename_i ht _;injection hk with hk;subst hk;refine ⟨by simp [part,isAgg,run_underlying ht,hu],by simp [part,isAgg,run_underlying ht,hv],?_⟩;cases u <;> cases v <;> first | trivial | skip
  rename_i a b;show(Op.equalIn (d+1) t (.bool a) (.bool b)).run P w=_;rw[run_equalIn_bool' w d t a b ht];cases a<;>cases b<;>rfl
 ·cases hk
theorem Uf {k:Nat}{ks:List Nat}{x y:AV}{xs ys:List AV}{r:Bool}(h:iN (k::ks) (x::xs) (y::ys)=some r){av:Av}{u v:Value}(hu:gD ι av w x u)(hv:gD ι av w y v)(d:Nat){t:TypeId}(hk:C0 P t=some k){us vs:Array Value}{i:Nat}(hi:us[i]?=some u)(hj:vs[i]?=some v):
  ∃b,(part t us i).run P w=.ok u w/\(part t vs i).run P w=.ok v w/\(Op.equalIn (d+1) t u v).run P w=.ok b w/\(if b then iN ks xs ys=some r else r=false):=by
 obtain⟨h1,h2,h3⟩:=o9 (w:=w) d hk hi hj;unfold iN at h;split at h
 ·rename_i e _ _;cases e
 ·rename_i j a r1 j' b r2 e1 e2 e3;injection e1 with e1 e1'; injection e2 with e2 e2'; injection e3 with e3 e3';subst e1; subst e1'; subst e2; subst e2'; subst e3; subst e3';simp only [gD,gG] at hu hv;subst hu; subst hv;split at h
  ·rename_i xu;refine ⟨_,h1,h2,h3 xu,?_⟩;by_cases zf:a=b
   ·rw[if_pos zf]at h;rw[if_pos (by simpa using zf)];exact h
   ·rw[if_neg zf]at h;injection h with h;rw[if_neg (by simpa using zf)];exact h.symm
  ·cases h
 ·rename_i a r1 b r2 e1 e2 e3;injection e1 with e1 e1'; injection e2 with e2 e2'; injection e3 with e3 e3';subst e1; subst e1'; subst e2; subst e2'; subst e3; subst e3';simp only [gD,gG] at hu hv;subst hu; subst hv;refine ⟨_,h1,h2,h3,?_⟩;by_cases zf:a=b
  ·rw[if_pos zf]at h;rw[if_pos (by simpa using zf)];exact h
  ·rw[if_neg zf]at h;injection h with h;rw[if_neg (by simpa using zf)];exact h.symm
 ·rename_i a r1 b r2 e1 e2 e3;injection e1 with e1 e1'; injection e2 with e2 e2'; injection e3 with e3 e3';subst e1; subst e1'; subst e2; subst e2'; subst e3; subst e3';simp only [gD,gG] at hu hv;subst hu; subst hv;refine ⟨_,h1,h2,h3,?_⟩;by_cases zf:a=b
  ·rw[if_pos zf]at h;rw[if_pos (by simpa using zf)];exact h
  ·rw[if_neg zf]at h;injection h with h;rw[if_neg (by simpa using zf)];exact h.symm
 ·cases h
theorem Er:∀{ks:List Nat}{xs ys:List AV}{r:Bool},iN ks xs ys=some r->ks≠[]->∃x ew y ys',xs=x::ew/\ys=y::ys'
 | [],_,_,_,h,h'=>absurd rfl h'
 |k::ks,xs,ys,r,h,_=>by
  cases xs with
  |nil=>simp[iN]at h
  |cons x xs =>
   cases ys with
   |nil=>unfold iN at h;split at h<;>simp_all
   |cons y ys=>exact⟨x,xs,y,ys,rfl,rfl⟩
theorem lS:∀{k1 k2:List Nat}{xs ys:List AV}{r:Bool},iN (k1++k2) xs ys=some r->∃r1,iN k1 (xs.take k1.length) (ys.take k1.length)=some r1/\(if r1 then iN k2 (xs.drop k1.length) (ys.drop k1.length)=some r else r=false)
 | [],k2,xs,ys,r,h=>⟨true,by simp[iN],by simpa using h⟩
 |k::k1,k2,xs,ys,r,h=>by
  obtain⟨x,ew,y,ys',rfl,rfl⟩:=Er h (by simp);simp only[yv]at h;simp only[yE,List.take_succ_cons,List.drop_succ_cons];unfold iN at h;split at h
  ·rename_i e _ _;cases e
  ·rename_i j a r1 j' b r2 e1 e2 e3;injection e1 with e1 e1'; injection e2 with e2 e2'; injection e3 with e3 e3';subst e1; subst e1'; subst e2; subst e2'; subst e3; subst e3';split at h
   ·rename_i xu;subst xu;split at h
    ·rename_i zf;simp only[iN,if_true,if_pos zf];exact lS h
    ·rename_i zf;injection h with h;exact⟨false,by simp[iN,zf],by simpa using h.symm⟩
   ·cases h
  ·rename_i a r1 b r2 e1 e2 e3;injection e1 with e1 e1'; injection e2 with e2 e2'; injection e3 with e3 e3';subst e1; subst e1'; subst e2; subst e2'; subst e3; subst e3';split at h
   ·rename_i zf;simp only[iN,if_pos zf];exact lS h
   ·rename_i zf;injection h with h;exact⟨false,by simp[iN,zf],by simpa using h.symm⟩
  ·rename_i a r1 b r2 e1 e2 e3;injection e1 with e1 e1'; injection e2 with e2 e2'; injection e3 with e3 e3';subst e1; subst e1'; subst e2; subst e2'; subst e3; subst e3';split at h
   ·rename_i zf;simp only[iN,if_pos zf];exact lS h
   ·rename_i zf;injection h with h;exact⟨false,by simp[iN,zf],by simpa using h.symm⟩
  ·cases h
def B4 (P:Program)(ι:Ix)(av:Av)(w:World)(n:Nat)(t:TypeId)(ks:List Nat):Prop :=
 ∀(d:Nat)(us vs:Array Value)(off:Nat)(xs ys:List AV)(r:Bool),iD ι av w xs ((us.toList.drop off).take ks.length)->iD ι av w ys ((vs.toList.drop off).take ks.length)->iN ks xs ys=some r →
  ∃a b,(part t us off).run P w=.ok a w/\(part t vs off).run P w=.ok b w/\(Op.equalIn (d+n) t a b).run P w=.ok r w
theorem OO {av:Av}{xs:List AV}{us:List Value}{off k m:Nat}(h:iD ι av w xs ((us.drop off).take (k+m))):iD ι av w (xs.take k) ((us.drop off).take k)/\iD ι av w (xs.drop k) ((us.drop (off+k)).take m):=by
 constructor
 ·have:=wI k h
  rwa [List.take_take,Nat.min_eq_left (Nat.le_add_right ..)]at this
 ·have:=xH k h
  rwa [List.drop_take,Nat.add_sub_cancel_left,List.drop_drop]at this
theorem uX {av:Av}{n:Nat}(ih:∀t ks,sJ P n t=some ks->B4 P ι av w n t ks)(d:Nat){us vs:Array Value}:∀{fs:List Field}{i:Nat}{ks:List Nat}{xs ys:List AV}{r:Bool},zS (sJ P n) i fs=some ks->iN ks xs ys=some r->iD ι av w xs ((us.toList.drop i).take ks.length)->iD ι av w ys ((vs.toList.drop i).take ks.length) →
  (Op.eqFields (d+n) us vs fs).run P w=.ok r w
 | [],i,ks,xs,ys,r,hk,h,_,_=>by
  injection hk with hk;subst hk;cases xs<;>cases ys<;>simp[iN]at h
  subst h;simp[Op.eqFields]
 |f::fs,i,ks,xs,ys,r,hk,h,hx,hy=>by
  unfold zS at hk;obtain⟨l,hl,hk⟩:=y5.1 hk;split at hk
  ·rename_i hn;obtain ⟨l',ck,rfl⟩:=ye.1 hk;obtain ⟨r1,h1,h2⟩:=lS h;rw [yC] at hx hy;obtain ⟨x1,x2⟩:=OO hx;obtain ⟨y1,y2⟩:=OO hy;obtain ⟨a,b,p1,p2,p3⟩:=ih _ _ hl d us vs i _ _ _ x1 y1 h1;unfold Op.eqFields;rw [if_pos hn.1,hn.2];simp only [Sem.run_bind,p1,p2,p3,Result.andThen_ok,Sem.run_ite];cases r1 with
   |true =>
    simp only[if_true]at h2;simp only[Bool.not_true,yr,if_false];exact uX ih d ck h2 x2 y2
   |false =>
    simp only[yr,if_false]at h2;simp[h2]
  ·cases hk
theorem qZ {av:Av}{n:Nat}{e:TypeId}{l:List Nat}(ih:B4 P ι av w n e l)(hc:P.cellsOf e=l.length)(d:Nat){us vs:Array Value}:∀{m i:Nat}{xs ys:List AV}{r:Bool},iN (yj m l).flatten xs ys=some r->iD ι av w xs ((us.toList.drop (i*l.length)).take (yj m l).flatten.length)->iD ι av w ys ((vs.toList.drop (i*l.length)).take (yj m l).flatten.length) →
  (Op.eqItems (d+n) e (P.cellsOf e) us vs (List.range' i m)).run P w=.ok r w
 |0,i,xs,ys,r,h,_,_=>by
  cases xs<;>cases ys<;>simp[iN]at h
  subst h;simp[Op.eqItems]
 |m+1,i,xs,ys,r,h,hx,hy=>by
  rw[List.replicate_succ,yA]at h hx hy;obtain⟨r1,h1,h2⟩:=lS h;rw[yC]at hx hy;obtain⟨x1,x2⟩:=OO hx;obtain⟨y1,y2⟩:=OO hy;rw[<- yu]at x2 y2;obtain⟨a,b,p1,p2,p3⟩:=ih d us vs (i*l.length) _ _ _ x1 y1 h1;rw[List.range'_succ];unfold Op.eqItems;rw[hc];simp only[Sem.run_bind,p1,p2,p3,Result.andThen_ok,Sem.run_ite];cases r1 with
  |true =>
   simp only[if_true]at h2;simp only[Bool.not_true,yr,if_false];have:=qZ ih hc d (m:=m) (i:=i+1) h2 x2 y2;rw[hc]at this;exact this
  |false =>
   simp only[yr,if_false]at h2;simp[h2]
theorem GT {t:TypeId}{z:Nat}(hA:TL P t=some true)(hz:fE P t=some z)(us:Array Value)(off:Nat):(part t us off).run P w=.ok (.agg (us.extract off (off+z))) w/\(us.extract off (off+z)).toList=(us.toList.drop off).take z :=
 ⟨by simp[part,uS hA,EE hz],by rw[Array.toList_extract,List.extract_eq_take_drop,Nat.add_sub_cancel_left]⟩
theorem QU {t:TypeId}{z:Nat}(h:fE P t=some z):∃i,P.info? t=some i:=by
 unfold fE at h;cases hh:P.info? t with
 |none=>rw[hh]at h;cases h
 |some i=>exact⟨i,rfl⟩
theorem KW {av:Av}{n:Nat}(ih:∀t ks,sJ P n t=some ks->B4 P ι av w n t ks)(d:Nat){t:TypeId}{ks:List Nat}(hk:sJ P (n+1) t=some ks)(hA:TL P t=some true){us vs:Array Value}{xs ys:List AV}{r:Bool}
  (hx:iD ι av w xs (us.toList.take ks.length)) (hy:iD ι av w ys (vs.toList.take ks.length)) (h:iN ks xs ys=some r):fE P t=some ks.length/\(Op.equalIn (d+n+1) t (.agg us) (.agg vs)).run P w=.ok r w:=by
 unfold sJ at hk;split at hk
 ·rename_i k ah;unfold TL at hA;unfold C0 at ah;split at ah<;>first|(cases ah;done)|(rename_i ht _;rw[ht]at hA;injection hA with hA;cases hA)|(rename_i ht;rw[ht]at hA;injection hA with hA;cases hA)
 ·split at hk
  ·rename_i m e ht;obtain ⟨l,hl,hk⟩:=y5.1 hk;split at hk
   ·rename_i hc;injection hk with hk;subst hk;obtain⟨i,hi⟩:=QU hc.2.1;refine⟨hc.2.2,?_⟩;have:=run_equalIn_array (P:=P) w (d+n) us vs ht hi;rw[List.range_eq_range']at this;exact this.trans (qZ (ih _ _ hl) hc.1 d h (by simpa using hx) (by simpa using hy))
   ·cases hk
  ·rename_i fs ht;split at hk
   ·cases hk
   ·rename_i tb;obtain ⟨l,hl,hk⟩:=y5.1 hk;split at hk
    ·rename_i hc;injection hk with hk;subst hk;refine ⟨hc,?_⟩;have hf:P.fieldsOf t=fs:=by simp [Program.fieldsOf,ht]
     have:=run_equalIn_struct (P:=P) w (d+n) t us vs (by rw[hf];exact ht) (by simpa using tb);rw[hf]at this;exact this.trans (uX ih d hl h (by simpa using hx) (by simpa using hy))
    ·cases hk
  ·cases hk
theorem NV {av:Av}:∀(n:Nat)(t:TypeId)(ks:List Nat),sJ P n t=some ks->B4 P ι av w n t ks
 |0,_,_,h=>by cases h
 |n+1,t,ks,hk=>by
  intro d us vs off xs ys r hx hy h;have jc:=hk;unfold sJ at hk;split at hk
  ·rename_i k ah;injection hk with hk;subst hk;obtain⟨x,ew,y,ys',rfl,rfl⟩:=Er h (by simp);obtain⟨u,oa,e1,hu,_,cj⟩:=hx;obtain⟨v,wt,e2,hv,_,wv⟩:=hy;have l1:oa=[]:=by
    have:=congrArg List.length e1;simp at this;exact yJ (by omega)
   have l2:wt=[]:=by
    have:=congrArg List.length e2;simp at this;exact yJ (by omega)
   have g1:us[off]?=some u:=by
    have:=congrArg (fun l=>l[0]?) e1;simpa [yI,yL]using this
   have g2:vs[off]?=some v:=by
    have:=congrArg (fun l=>l[0]?) e2;simpa [yI,yL]using this
   obtain⟨b,p1,p2,p3,p4⟩:=Uf (P:=P) h hu hv (d+n) ah g1 g2;refine⟨u,v,p1,p2,?_⟩;have:b=r:=by
    cases b with
    |true =>
     simp only[if_true]at p4;subst l1;subst l2;cases ew with
     |nil=>cases ys' with
      |nil=>simp[iN]at p4;exact p4.symm
      |cons=>simp[iN]at p4
     |cons=>simp[iN]at p4
    |false=>simpa using p4.symm
   rw[<- this];exact p3
  ·rename_i hnk;have hA:TL P t=some true:=by
    split at hk
    ·rename_i ht;simp[TL,ht]
    ·rename_i ht;simp[TL,ht]
    ·cases hk
   have:=KW (fun t ks h=>NV n t ks h) d jc hA (us:=us.extract off (off+ks.length)) (vs:=vs.extract off (off+ks.length)) (xs:=xs) (ys:=ys) (r:=r)
    (by rw[Array.toList_extract,List.extract_eq_take_drop,Nat.add_sub_cancel_left,List.take_take,Nat.min_self];exact hx)
    (by rw[Array.toList_extract,List.extract_eq_take_drop,Nat.add_sub_cancel_left,List.take_take,Nat.min_self];exact hy) h
   exact⟨_,_,(GT hA this.1 us off).1,(GT hA this.1 vs off).1,this.2⟩
theorem Ry (R:LD P O nt B F0 da w0 D s a w ι Θ){t t':TypeId}{neg:Bool}{ks:List Nat}(ht:dT P t=some ks){X Y:Operand}{x y:KD}(hx:uA X=some x)(hy:uA Y=some y)
  (ho:o.op=.binOp (if neg then .neq else .eql) t X Y t') {call} {z:WC} {e:rF} (hr:(K.iC neg ks x y).run call s=some (z,e)):e=.none/\BT P da a w ι Θ o z:=by
 have hX:=(R.uA hx).1;have hY:=(R.uA hy).1;simp only[K.run]at hr;split at hr
 ·rename_i xa ya ic zj;rw [ic,T0] at hX;rw [zj,T0] at hY;obtain ⟨us,hu,cj⟩:=hX;obtain ⟨vs,hv,wv⟩:=hY;cases hq:iN ks xa ya with
  |none=>rw[hq]at hr;cases hr
  |some r =>
   rw[hq]at hr;injection hr with hr;injection hr with e1 e2;subst e1;subst e2;unfold dT at ht;split at ht
   ·cases ht
   ·rename_i hg;have he:(Op.equal t (.agg us) (.agg vs)).run P w=.ok r w:=by
     have main:sJ P 8 t=some ks->TL P t=some true->(Op.equal t (.agg us) (.agg vs)).run P w=.ok r w:=fun hk hA =>
      by
       obtain⟨r1,h1,h2⟩:=lS (k1:=ks) (k2:=[]) (by simpa using hq);have e:r1=r:=by
        cases r1 with
        |true =>
         simp only[if_true]at h2;unfold iN at h2;split at h2<;>first|(injection h2)|(rename_i e _ _;cases e)|cases h2
        |false=>simpa using h2.symm
       subst e;exact(KW (fun t ks h=>NV 7 t ks h) 9992 hk hA (us:=us) (vs:=vs) (wI _ cj) (wI _ wv) h1).2
     split at ht
     ·rename_i kp;exact main ht (by simp[TL,kp])
     ·rename_i kp;exact main ht (by simp[TL,kp])
     ·cases ht
    have hgd:∀op,(eqGuard op t X Y (.agg us) (.agg vs)).run P w=.ok () w:=fun op=>by
     have:P.eqGuardType P.depth t=false:=by simpa using hg
     unfold eqGuard;cases op<;>simp[this]
    refine⟨rfl,.bool (r != neg),?_,by rw[ZD],trivial⟩;cases neg with
    |false =>
     simp only[yr,if_false]at ho;simp[execOp,ho,hu,hv,hgd,Go.binOp,he]
    |true =>
     simp only[if_true]at ho;simp[execOp,ho,hu,hv,hgd,Go.binOp,he]
 ·cases hr
end
end
section
open Go Go.RowKit
section
variable {P:Program} {O:XI} {nt B:Nat} {F0:FQ} {da:Av} {w0:World} {D:Nat->Prop} {s:OC} {a:Act} {w w':World} {ι:Ix} {Θ:jM} {o:Oper}
theorem iZ {av avb:Av}{x:AV}{v:Value}(h:sD ι av avb w x v)(hx:x.leaf=true):gD ι av w x v/\v.oneCell'=true:=by
 cases x<;>first
  |(simp[AV.leaf]at hx;done)
  |(refine⟨h,?_⟩;simp only[sD,gD,gG]at h;subst h;rfl)
  |(refine⟨h,?_⟩;obtain⟨b,_,rfl⟩:=h;rfl)
  |(refine⟨h,?_⟩;obtain⟨b,_,_,_,_,_,rfl⟩:=h;rfl)
  |(refine⟨h,?_⟩;simp only[sD,gD,gG]at h;obtain⟨b,off,rfl,_⟩:=h;rfl)
theorem Eu {av avb:Av}{x:AV}{v:Value}(h:sD ι av avb w x v)(hx:x.whole=true):iD ι av w x.cells v.cells.toList:=by
 cases x with
 |agg cs=>obtain⟨us,rfl,hc⟩:=h;exact hc
 |_ =>
  obtain⟨h1,h2⟩:=iZ h hx;cases v<;>first|exact⟨_,[],rfl,h1,h2,rfl⟩|(simp[Value.oneCell']at h2;done)
theorem c9 (off:Nat):∀(l:List Value)(k:Nat)(cells:Array Value),off+k+l.length<=cells.size →
  ((l.zipIdx k).foldl (fun cs (p:Value×Nat)=>cs.setIfInBounds (off+p.2) p.1) cells).toList=cells.toList.take (off+k)++l++cells.toList.drop (off+k+l.length)
 | [],k,cells,_=>by simp
 |v::l,k,cells,h=>by
  simp only[yE]at h;rw[List.zipIdx_cons,List.foldl_cons,c9 off l (k+1) _ (by simp;omega)];simp only[Array.toList_setIfInBounds,yE];have hk:off+k<cells.toList.length:=by simp;omega
  rw[show off+(k+1)=off+k+1 from by omega,List.take_succ_eq_append_getElem (by simpa using hk)];rw[List.take_set_of_le (yg _),List.getElem_set_self,List.drop_set_of_lt (by omega)];simp[List.append_assoc,show off+k+1+l.length=off+k+(l.length+1)from by omega]
theorem lU {pl:Nat->Option (Nat×Nat)}{av avb:Av}(gd:avb=avb):∀{ps:List (Nat×Operand)}{ys:List (Nat×KD)}{zs:List (Nat×Nat×KD)}{cs ds:List AV}{us:Array Value},
  (∀(X:Operand)(y:KD),uA X=some y->sD ι av avb w (y.get s) (a.eval X))->aA ps=some ys->ZR pl ys=some zs->(∀p∈zs,(p.2.2.get s).whole=true) →
  kU cs (zs.map fun p=>(p.1,p.2.1,(p.2.2.get s).cells))=some ds->iD ι av w cs us.toList->∃oa,Instr.fill pl us (ps.map fun p=>(p.1,a.eval p.2))=some oa/\iD ι av w ds oa.toList
 | [],ys,zs,cs,ds,us,_,hy,hz,_,hf,hc=>by
  injection hy with hy;subst hy;injection hz with hz;subst hz;injection hf with hf;subst hf;exact⟨us,rfl,hc⟩
 |(i,X)::ps,ys,zs,cs,ds,us,fb,hy,hz,hl,hf,hc=>by
  unfold aA at hy;split at hy
  ·rename_i x l hx hr;injection hy with hy; subst hy;unfold ZR at hz;split at hz
   ·rename_i off z l' hp py;injection hz with hz; subst hz;simp only [yk,kU] at hf;split at hf
    ·rename_i aa;have nb:=Eu (fb X x hx) (hl _ (yl));have ja:=HE nb;have hlu:=HE hc;simp only [yH] at ja hlu;have ra:(a.eval X).cells.size=z:=by rw [ja]; exact aa.1
     have hfold:((a.eval X).cells.zipIdx.foldl (fun cs (p:Value×Nat)=>cs.setIfInBounds (off+p.2) p.1) us).toList=us.toList.take off++(a.eval X).cells.toList++us.toList.drop (off+z):=by
      rw[<- Array.foldl_toList,Array.toList_zipIdx,c9 off _ 0 us (by simp[ra];omega)];simp[ra]
     have rb:iD ι av w (cs.take off++(x.get s).cells++cs.drop (off+z)) (((a.eval X).cells.zipIdx.foldl (fun cs (p:Value×Nat)=>cs.setIfInBounds (off+p.2) p.1) us)).toList:=by
      rw[hfold];exact xJ (xJ (wI off hc) nb) (xH (off+z) hc)
     obtain⟨oa,h1,h2⟩:=lU gd fb hr py (fun p hp=>hl p (ym _ hp)) hf rb;refine⟨oa,?_,h2⟩;simp only[yk,Instr.fill,hp];rw[if_neg (by simp[ra];omega)];exact h1
    ·cases hf
   ·cases hz
  ·cases hy
theorem G4 (R:LD P O nt B F0 da w0 D s a w ι Θ){t:TypeId}{ps:Array (Nat×Operand)}{ys:List (Nat×KD)}{zs:List (Nat×Nat×KD)}{zero:List AV}{pl:Nat->Option (Nat×Nat)}{z:Value}(xv:DM z.cells.toList=some zero)
  (hb:P.built t (ps.map fun(i,x)=>(i,a.eval x)).toList=Instr.fill pl z.cells (ps.map fun(i,x)=>(i,a.eval x)).toList) (hy:aA ps.toList=some ys) (hp:ZR pl ys=some zs) (ho:o.op=.build t ps)
  {call} {x:WC} {e:rF} (hr:(K.build zero zs).run call s=some (x,e)):e=.none/\BT P da a w ι Θ o x:=by
 simp only[K.run]at hr;split at hr
 ·rename_i mb;cases hf:kU zero (zs.map fun p=>(p.1,p.2.1,(p.2.2.get s).cells)) with
  |none=>rw[hf]at hr;cases hr
  |some ds =>
   rw[hf]at hr;injection hr with hr;injection hr with e1 e2;subst e1;subst e2;obtain⟨oa,h1,h2⟩:=lU (pl:=pl) (ι:=ι) (av:=uE da ι Θ) (avb:=zE ι Θ) (w:=w) (s:=s) (a:=a) rfl (fun X y h=>(R.uA h).1) hy hp (fun p hp=>by
    have:=y6.1 mb p hp;exact this) hf (TK xv _ _)
   have h3:P.built t (ps.map fun(i,x)=>(i,a.eval x)).toList=some oa:=by
    rw[hb,Array.toList_map];exact h1
   exact⟨rfl,.agg oa,by simp only[execOp,ho,Sem.run_bind,run_build w t _ oa h3,Result.andThen_ok,Sem.run_pure],⟨oa,rfl,h2⟩,trivial⟩
 ·cases hr
def Ix.add (ι:Ix)(d n b z:Nat):Ix:=⟨fun t' n'=>if t'=d/\n'=n then some b else ι t' n',ι.ob,fun b'=>if b'=b then z else ι.z b'⟩
section
variable (R:LD P O nt B F0 da w0 D s a w ι Θ)
include R
theorem LD.low {b o:Nat}(h:uE da ι Θ b o):b<w.heap.size:=by
 have h1:=R.kept.size;have h2:=R.base.1;rcases h with h|(⟨t,n,h⟩|⟨t,n,H,h,hb⟩)|⟨k,ow,h,rfl,_⟩
 ·have:=R.out _ _ h;omega
 ·exact(R.mine _ _ _ h).2.1
 ·exact((R.obs _ _ _ h).1 _ hb).2.1
 ·obtain⟨_,_,_,_,cur,h5,_⟩:=R.tok _ _ h;exact DC h5
theorem LD.eC:B<=w.heap.size:=by
 have h1:=R.kept.size;have h2:=R.base.1;omega
theorem LD.new {d:Nat}(hd:d<nt)(hD:¬D d){r:List WC}{cur:Array Value}(ty:TypeId)(ka:QF ι Θ (uE da ι Θ) w r cur){x:AV}{v:Value}
  (hx:∀ι':Ix,ι' d s.next=some w.heap.size->ι'.z w.heap.size=cur.size->sD ι' (uE da ι' Θ) (zE ι' Θ) (w.alloc (.cells cur ty)) x v) :
  ∃ι',LD P O nt B F0 da w0 (fun t=>D t\/t=d) ((s.setRow d s.next r).put (some d) ⟨x,.no⟩) (a.put (some d) v) (w.alloc (.cells cur ty)) ι' Θ:=by
 have bd:ι d s.next=none:=by
  cases h:ι d s.next with
  |none=>rfl
  |some b =>
   rcases(R.mine _ _ _ h).2.2 with h1|h1
   ·omega
   ·exact absurd h1.2 hD
 have ad:ι.ob d s.next=none:=by
  cases h:ι.ob d s.next with
  |none=>rfl
  |some b =>
   rcases(R.obs _ _ _ h).2 with h1|h1
   ·omega
   ·exact absurd h1.2 hD
 have nc:∀t n b,ι t n=some b->(ι.add d s.next w.heap.size cur.size) t n=some b:=fun t n b h=>by
  show(if t=d/\n=s.next then some w.heap.size else ι t n)=some b;split
  ·rename_i e;rw[e.1,e.2,bd]at h;cases h
  ·exact h
 have ee:∀t n b,(ι.add d s.next w.heap.size cur.size) t n=some b->b<w.heap.size->ι t n=some b:=fun t n b h hb=>by
  have h':(if t=d/\n=s.next then some w.heap.size else ι t n)=some b:=h;split at h'
  ·injection h' with h';omega
  ·exact h'
 have rb:(ι.add d s.next w.heap.size cur.size) d s.next=some w.heap.size:=by
  show(if d=d/\s.next=s.next then some w.heap.size else ι d s.next)=_;rw[if_pos ⟨rfl,rfl⟩]
 have jh:∀b o,b<w.heap.size->zE (ι.add d s.next w.heap.size cur.size) Θ b o->zE ι Θ b o:=fun b o hb h=>h.imp (fun h=>h.imp (fun⟨t,n,h⟩=>⟨t,n,ee t n b h hb⟩) id) id
 have hAx:∀b o,b<w.heap.size->uE da (ι.add d s.next w.heap.size cur.size) Θ b o->uE da ι Θ b o:=fun b o hb h=>h.imp id (jh b o hb)
 have df:∀b,b<w.heap.size->(w.alloc (.cells cur ty)).heap[b]?=w.heap[b]?:=fun b hb=>Below.heap_alloc w _ b hb
 have hA:aD (uE da ι Θ) (uE da (ι.add d s.next w.heap.size cur.size) Θ) w (w.alloc (.cells cur ty)):=aD.grown df hAx;have hB:aD (zE ι Θ) (zE (ι.add d s.next w.heap.size cur.size) Θ) w (w.alloc (.cells cur ty)):=aD.grown df jh;have rd:=R.eC;have ib:Ix.Le ι (ι.add d s.next w.heap.size cur.size):=⟨nc,fun t n b h=>by
  have:=(R.mine t n b h).2.1;show(if b=w.heap.size then cur.size else ι.z b)=ι.z b;rw[if_neg (by omega)]⟩
 have hzn:(ι.add d s.next w.heap.size cur.size).z w.heap.size=cur.size:=if_pos rfl;refine⟨ι.add d s.next w.heap.size cur.size,LD.put (s:=s.setRow d s.next r) ⟨R.defers,R.size,fun t=>sD.held ib hA hB _ _ (R.env t),R.ZB,fun t n r' hr=>?_,fun t n b h=>?_,fun t n t' n' b h h'=>?_,fun k o h=>?_,R.OA,fun k o t n h h'=>?_,R.out,fun p h=>⟨nc _ _ _ (R.pin p h).1,(R.pin p h).2.imp (fun g=>⟨g.1,(ib.z _ _ _ (R.pin p h).1).trans g.2⟩) id⟩,R.kept.alloc _,R.base,fun t n S h=>?_,fun t n H h=>?_,fun t=>sD.held ib hA hB _ _ (R.gen t),R.CA⟩ hd (hx _ rb hzn) trivial⟩
 ·simp only [OC.setRow] at hr;split at hr
  ·rename_i e;injection hr with hr;subst hr;refine⟨by show ι.ob t n=none;rw[e.1,e.2];exact ad,w.heap.size,cur,ty,by rw[e.1,e.2];exact rb,nT rfl,ka.held ib hA (fun _ _ h=>h),.inl rd,hzn.symm⟩
  ·obtain⟨h0,b,db,gl,h1,h2,h3,h4,h5⟩:=R.rows t n r' hr;exact⟨h0,b,db,gl,nc _ _ _ h1,(df b (DC h2)).trans h2,h3.held ib hA (fun _ _ h=>h),h4,h5.trans (ib.z _ _ _ h1).symm⟩
 ·have h':(if t=d/\n=s.next then some w.heap.size else ι t n)=some b:=h;split at h'
  ·rename_i e;injection h' with h';subst h';exact⟨.inl rd,by simp,.inr ⟨e.2,.inr e.1⟩⟩
  ·obtain⟨h2,h3,h4⟩:=R.mine t n b h';exact⟨h2,by simp;omega,h4.imp id fun⟨e,d⟩=>⟨e,.inl d⟩⟩
 ·have g:(if t=d/\n=s.next then some w.heap.size else ι t n)=some b:=h;have g':(if t'=d/\n'=s.next then some w.heap.size else ι t' n')=some b:=h';split at g <;> split at g'
  ·rename_i e e';exact⟨e.1.trans e'.1.symm,e.2.trans e'.2.symm⟩
  ·injection g with g;have:=(R.mine _ _ _ g').2.1;omega
  ·injection g' with g';have:=(R.mine _ _ _ g).2.1;omega
  ·exact R.inj t n t' n' b g g'
 ·obtain⟨h1,h2,h3,h4,db,h5,h6⟩:=R.tok k o h;exact⟨h1,h2,h3,h4,db,(df _ (DC h5)).trans h5,h6⟩
 ·obtain⟨_,_,_,_,db,h5,_⟩:=R.tok k o h;exact R.apart k o t n h (ee t n _ h' (DC h5))
 ·obtain⟨p,H,h1,h2,h3,h4⟩:=R.WA t n S h;exact⟨p,H,nc _ _ _ h1,h2,O.keep h3 (fun b hH=>df b (O.lt h3 hH)) (by simp),h4.keep (fun t n b H h g=>⟨nc _ _ _ h,H,g⟩) fun x hx=>(df _ (DC hx)).trans hx⟩
 ·obtain⟨h1,h2⟩:=R.obs t n H h;refine⟨fun b hb=>?_,h2.imp id fun⟨e,d⟩=>⟨e,.inl d⟩⟩;obtain⟨g1,g2,g3,g4⟩:=h1 b hb;exact⟨g1,by simp;omega,fun t' n' h'=>g3 t' n' (ee t' n' b h' g2),g4⟩
end
end
end
section
open Go Go.RowKit
section
variable {P:Program} {O:XI} {nt B:Nat} {F0:FQ} {da:Av} {w0:World} {D:Nat->Prop} {s:OC} {a:Act} {w w':World} {ι:Ix} {Θ:jM} {o:Oper}
def JF (P:Program)(O:XI)(nt B:Nat)(F0:FQ)(da:Av)(w0:World)(D:Nat->Prop)(s:OC)(a:Act)(w:World):Prop:=∃ι Θ,LD P O nt B F0 da w0 D s a w ι Θ
theorem QF.of {av:Av}:∀{r:List WC}{cur:List Value},iD ι av w (r.map (·.v)) cur->(∀(j:Nat)(x:WC)(u:Value),r[j]?=some x->cur[j]?=some u->TM Θ x.a u)->QF ι Θ av w r cur.toArray:=by
 intro r cur h ha;refine⟨by have:=HE h;simp at this;simp[this],fun j x hx=>?_⟩;obtain⟨u,hu,h1,hr⟩:=CL h (j:=j) (x:=x.v) (by simp[hx]);exact⟨u,by simpa using hu,h1,hr,ha j x u hx hu⟩
theorem Ij (R:LD P O nt B F0 da w0 D s a w ι Θ){t:TypeId}{zero:List AV}(hz:UL P t=some zero)(ho:o.op=.alloc t){d:Nat}(ba:o.dst=some d)(hd:d<nt)(hD:¬D d) {call} {xe:WC×rF} (hr:(K.alloc zero).run call s=some xe) {g} {s':OC} (he:JC.eff ⟨o.dst,.alloc zero,g⟩ s xe=some s') :
  ∃v w',(execOp a.eval o).run P w=.ok (.value v) w'/\JF P O nt B F0 da w0 (fun t=>D t\/t=d) s' (a.put o.dst v) w':=by
 obtain⟨z,i,hi,ul,ca,hl⟩:=UI hz w;simp only[K.run]at hr;injection hr with hr;subst hr;simp only[JC.eff,ba]at he;injection he with he;subst he;refine⟨.pointer (some ⟨w.heap.size,0,none⟩),w.alloc (.cells z.cells t),by simp[execOp,ho,Instr.alloc,ca,newVar,newRow],?_⟩;rw[ba];have pb:=TK (ι:=ι) hl (uE da ι Θ) w;have ka:QF ι Θ (uE da ι Θ) w (zero.map fun v=>⟨v,lD v⟩) z.cells.toList.toArray:=QF.of (by
  rw[y3,show((fun x:WC=>x.v) ∘ fun v=>(⟨v,lD v⟩:WC))=id from rfl,List.map_id];exact pb) (fun j x u hx hu=>by
  rw[yb]at hx;cases im:zero[j]? with
  |none=>rw[im]at hx;cases hx
  |some v =>
   rw[im]at hx;injection hx with hx;subst hx;obtain⟨u',rp,_,hr⟩:=CL pb im;rw[hu]at rp;injection rp with rp;subst rp;show TM Θ (lD v) u;unfold lD;split
   ·simp only[gD,gG]at hr;obtain⟨A,c,rfl,_,_,hn,_⟩:=hr;obtain⟨rfl,h0,rfl⟩:=hn trivial;exact⟨none,0,by rw[h0]⟩
   ·trivial)
 rw[yK]at ka;exact let⟨ι',h⟩:=R.new hd hD t ka (x:=.ptr d s.next 0) (v:=.pointer (some ⟨w.heap.size,0,none⟩)) (fun ι' h _=>⟨_,h,rfl⟩);⟨ι',Θ,h⟩
theorem Mb (R:LD P O nt B F0 da w0 D s a w ι Θ){t:TypeId}{z:Nat}{X:Operand}{x:KD}(hx:uA X=some x)(ho:o.op=.box t X){d:Nat}(ba:o.dst=some d)(hd:d<nt)(hD:¬D d) {call} {xe:WC×rF} (hr:(K.box z x).run call s=some xe) {g} {s':OC} (he:JC.eff ⟨o.dst,.box z x,g⟩ s xe=some s') :
  ∃v w',(execOp a.eval o).run P w=.ok (.value v) w'/\JF P O nt B F0 da w0 (fun t=>D t\/t=d) s' (a.put o.dst v) w':=by
 have hX:=R.uA hx;have ca:(execOp a.eval o).run P w=.ok (.value (.pointer (some ⟨w.heap.size,0,none⟩))) (w.alloc (.cells (a.eval X).cells t)):=by simp[execOp,ho,Instr.box,newVar,newRow]
 have key:∀(r:List WC),QF ι Θ (uE da ι Θ) w r (a.eval X).cells->JF P O nt B F0 da w0 (fun t=>D t\/t=d) ((s.setRow d s.next r).put (some d) ⟨.ptr d s.next 0,.no⟩) (a.put (some d) (.pointer (some ⟨w.heap.size,0,none⟩))) (w.alloc (.cells (a.eval X).cells t)):=fun r h =>
  let⟨ι',h⟩:=R.new hd hD t h (x:=.ptr d s.next 0) (v:=.pointer (some ⟨w.heap.size,0,none⟩)) (fun ι' h _=>⟨_,h,rfl⟩);⟨ι',Θ,h⟩
 simp only[K.run]at hr;split at hr
 ·rename_i cs hv;split at hr
  ·injection hr with hr;subst hr;simp only[JC.eff,ba]at he;injection he with he;subst he;refine⟨_,_,ca,?_⟩;rw[ba];refine key _ ?_;rw[hv]at hX;obtain⟨us,hu,hc⟩:=hX.1;rw[hu];have:=QF.of (Θ:=Θ) (r:=cs.map fun v=>(⟨v,.no⟩:WC)) (cur:=us.toList) (ι:=ι) (w:=w) (av:=uE da ι Θ) (by rw[y3,show((fun x:WC=>x.v) ∘ fun v=>(⟨v,.no⟩:WC))=id from rfl,List.map_id];exact hc) (fun j x u hx _=>by
    rw[yb]at hx;cases im:cs[j]? with
    |none=>rw[im]at hx;cases hx
    |some v=>rw[im]at hx;injection hx with hx;subst hx;trivial)
   simpa [Value.cells]using this
  ·cases hr
 ·rename_i hv;split at hr
  ·rename_i xq;injection hr with hr;subst hr;simp only[JC.eff,ba]at he;injection he with he;subst he;refine⟨_,_,ca,?_⟩;rw[ba];refine key _ ?_;obtain⟨h1,h2⟩:=iZ hX.1 xq;have hc:(a.eval X).cells=#[a.eval X]:=by
    generalize a.eval X=u at *
    cases u<;>first|rfl|(simp[Value.oneCell']at h2;done)
   rw[hc];refine⟨yg _,fun j y hy=>?_⟩;cases j with
   |zero =>
    simp only[List.getElem?_cons_zero]at hy;injection hy with hy;subst hy;exact⟨a.eval X,rfl,h2,h1,hX.2⟩
   |succ j=>simp at hy
  ·cases hr
theorem QS (zero:List Value)(av:Av){zs:List AV}(hz:iD ι av w zs zero)(c:Nat):iD ι av w (yj c zs).flatten (yj c zero).flatten:=by
 induction c with
 |zero=>simp[iD]
 |succ c ih=>rw[List.replicate_succ,List.replicate_succ,yA,yA];exact xJ hz ih
theorem mS (zero:Array Value)(c:Nat):((Array.range (c*zero.size)).map (zero[· % zero.size]!)).toList=(yj c zero.toList).flatten:=by
 apply List.ext_getElem?;intro j;have ja:(yj c zero.toList).flatten.length=c*zero.size:=by simp
 rcases Nat.lt_or_ge j (c*zero.size)with h|h
 ·have lb:0<zero.size:=by
   rcases yG zero.size with h0|h0
   ·rw[h0]at h;simp at h
   ·exact h0
  have hm:=Nat.mod_lt j lb;have e1:((Array.range (c*zero.size)).map (zero[· % zero.size]!)).toList[j]?=some zero[j%zero.size]:=by
   simp[h,hm]
  rw[e1];clear e1 ja
  induction c generalizing j with
  |zero=>simp at h
  |succ c ih =>
   rw[List.replicate_succ,yA];rcases Nat.lt_or_ge j zero.size with h1|h1
   ·rw[yU (by simpa using h1)];have:j%zero.size=j:=Nat.mod_eq_of_lt h1;simp[this,h1]
   ·rw [yN (by simpa using h1)];have h2:j - zero.size<c * zero.size:=by rw [yu] at h; omega
    have h3:(j-zero.size)%zero.size=j%zero.size:=by
     conv=>rhs;rw[show j=(j-zero.size)+zero.size from by omega,Nat.add_mod_right]
    have:=ih (j-zero.size) h2 (Nat.mod_lt _ lb);simp only[yH]at this ⊢;rw[<- this];simp[h3]
 ·rw[yV (by simpa using h),yV (by omega)]
theorem op_mks (R:LD P O nt B F0 da w0 D s a w ι Θ){t e:TypeId}{i:TypeInfo}{zero:List AV}(ht:P.underlying t=some (.slice e))(hi:P.info? e=some i)(hz:UL P e=some zero)(ra:zero.length=i.size){X Y:Operand}{x y:KD}(hx:uA X=some x)(hy:uA Y=some y)(ho:o.op=.makeSlice t X Y){d:Nat}(ba:o.dst=some d)(hd:d<nt)(hD:¬D d)
  {call} {xe:WC×rF} (hr:(K.wC i.size i.bytes zero x y).run call s=some xe) {g} {s':OC} (he:JC.eff ⟨o.dst,.wC i.size i.bytes zero x y,g⟩ s xe=some s') :
  ∃v w',(execOp a.eval o).run P w=.ok (.value v) w'/\JF P O nt B F0 da w0 (fun t=>D t\/t=d) s' (a.put o.dst v) w':=by
 obtain⟨z,i',sc,ul,ug,hl⟩:=UI hz w;rw[hi]at sc;injection sc with sc;subst sc;have hX:=(R.uA hx).1;have hY:=(R.uA hy).1;simp only[K.run]at hr;split at hr
 ·rename_i l c hln hcn;obtain ⟨k1,n1,h1,tw,iq⟩:=FN hln;obtain ⟨k2,n2,h2,h20,h21⟩:=FN hcn;rw [h1,QD] at hX;rw [h2,QD] at hY;split at hr
  ·rename_i aa;obtain⟨pt,md,eg,_⟩:=aa;injection hr with hr;subst hr;simp only[JC.eff,ba]at he;injection he with he;subst he;have ij:z.cells.size=i.size:=by
    have:=eI hl;simp only[yH]at this;omega
   have hc2:n2=(c:Int):=by omega
   have dx:(i.bytes:Int)*n2<=281474976710656:=by
    rw[hc2,<- Int.natCast_mul,Nat.mul_comm];omega
   have ui:madeCells z.cells (c*i.size)=(yj c z.cells.toList).flatten.toArray:=by
    have h:=mS z.cells c;rw[ij]at h;unfold madeCells;rw[<- ij]at h;rw[<- ij];have h':=congrArg List.toArray h;rw[yK]at h';exact h'
   have ca:(execOp a.eval o).run P w=.ok (.value (.slice (some ⟨w.heap.size,0,none⟩) l c)) (w.alloc (.cells (yj c z.cells.toList).flatten.toArray e)):=by
    have:=run_make (P:=P) w t e i z ht hi ul k1 k2 n1 n2 tw (by omega) dx (by omega);rw[iq,h21,ui]at this;simp[execOp,ho,hX,hY,this]
   refine⟨_,_,ca,?_⟩;rw[ba];have ka:QF ι Θ (uE da ι Θ) w ((yj c zero).flatten.map fun v=>(⟨v,.no⟩:WC)) (yj c z.cells.toList).flatten.toArray:=QF.of (by
    rw[y3,show((fun x:WC=>x.v) ∘ fun v=>(⟨v,.no⟩:WC))=id from rfl,List.map_id];exact QS _ _ (TK hl _ _) c) (fun j x u hx _=>by
    rw[yb]at hx;cases im:(yj c zero).flatten[j]? with
    |none=>rw[im]at hx;cases hx
    |some v=>rw[im]at hx;injection hx with hx;subst hx;trivial)
   exact let⟨ι',h⟩:=R.new hd hD e ka (x:=.ref d s.next i.size 0 l c) (v:=.slice (some ⟨w.heap.size,0,none⟩) l c) (fun ι' h hz=>⟨_,h,pt,c,yg _,by rw[hz,yy];simp[List.length_flatten,ij],rfl⟩);⟨ι',Θ,h⟩
  ·cases hr
 ·cases hr
end
end
section
open Go Go.RowKit
section
variable {P:Program} {O:XI} {nt B:Nat} {F0:FQ} {da:Av} {w0:World} {D:Nat->Prop} {s:OC} {a:Act} {w w':World} {ι:Ix} {Θ:jM} {o:Oper}
theorem LD.alloc (R:LD P O nt B F0 da w0 D s a w ι Θ)(ob:Obj):LD P O nt B F0 da w0 D s a (w.alloc ob) ι Θ :=
 R.grow (fun b hb=>Below.heap_alloc w _ b hb) (by simp) (R.kept.alloc _)
theorem cJ {av:Av}:∀{xs:List AV}{us:List Value},iD ι av w xs us->(∀x∈xs,x.iA=true)->JE av w xs us
 | [],_,h,_=>by simpa [JE,iD]using h
 |x::r,_,h,hf=>by
  simp only[iD]at h;obtain⟨u,oa,rfl,h0,h1,h⟩:=h;refine⟨u,oa,rfl,?_,h1,cJ h fun y hy=>hf y (ym _ hy)⟩;have hx:=hf x (yl);cases x<;>first|exact h0|(simp[AV.iA]at hx;done)
theorem SV (sz:Nat):∀(ps:List (Nat×KD))(k:Nat)(A Z:List AV),ps.map (·.1)=List.range' k ps.length->A.length=k*sz->Z.length=ps.length*sz->(∀p∈ps,(p.2.get s).cells.length=sz) →
  kU (A++Z) (ps.map fun p=>(p.1*sz,sz,(p.2.get s).cells))=some (A++(ps.map fun p=>(p.2.get s).cells).flatten)
 | [],k,A,Z,_,_,hz,_=>by
  have:Z=[]:=yJ (by simpa using hz);subst this;simp[kU]
 |(i,y)::ps,k,A,Z,hp,hA,hZ,hl=>by
  simp only[yk,yE,List.range'_succ]at hp;injection hp with h1 h2;subst h1;have hy:(y.get s).cells.length=sz:=hl (_,y) (yl);simp only[yE]at hZ;have hZ2:sz<=Z.length:=by rw[hZ,yu];omega
  simp only[yk,kU];rw[if_pos ⟨hy,by simp[hA];omega⟩];have e1:(A++Z).take (i*sz)=A:=by rw[<- hA];exact List.take_left
  have e2:(A++Z).drop (i*sz+sz)=Z.drop sz:=by rw[List.drop_append,<- hA,yf (by omega),yF];congr 1;omega
  rw[e1,e2];have:=SV sz ps (i+1) (A++(y.get s).cells) (Z.drop sz) h2 (by rw[yC,hA,hy,yu]) (by rw[List.length_drop,hZ,yu];omega) (fun p hp=>hl p (ym _ hp));rw[this];simp
theorem HT (sz:Nat):∀(ps:List (Nat×KD)),ZR (fun i=>some (i*sz,sz)) ps=some (ps.map fun p=>(p.1*sz,sz,p.2))
 | []=>rfl
 |(i,x)::r=>by simp[ZR,HT sz r]
theorem op_bsl (R:LD P O nt B F0 da w0 D s a w ι Θ){t e:TypeId}{n z:Nat}{zero:List AV}(ht:P.underlying t=some (.slice e))(hz:UL P e=some zero)(hs:fE P e=some z)(ra:zero.length=z)(lb:0<z)(ge:n*z<=16777216){ps:Array (Nat×Operand)}{ys:List (Nat×KD)}(hy:aA ps.toList=some ys)(ho:o.op=.buildSlice t n ps)
  {call} {x:WC} {ef:rF} (hr:(K.XA zero n ys).run call s=some (x,ef)):ef=.none/\∃v w',(execOp a.eval o).run P w=.ok (.value v) w'/\LD P O nt B F0 da w0 D s a w' ι Θ/\sD ι (uE da ι Θ) (zE ι Θ) w' x.v v/\TM Θ x.a v:=by
 obtain⟨zv,i',sc,ul,ug,hl⟩:=UI hz w;have hisz:i'.size=z:=by simp[fE,sc]at hs;exact hs
 have ij:zv.cells.size=z:=by
  have:=eI hl;simp only[yH]at this;omega
 simp only[K.run]at hr;split at hr
 ·rename_i aa;obtain⟨bg,mb⟩:=aa;injection hr with hr;injection hr with e1 e2;subst e1;subst e2;have zb:∀p∈ys,(p.2.get s).free=true/\(p.2.get s).cells.length=zero.length:=fun p hp=>by
   have:=y6.1 mb p hp;simpa using this
  have hn:ys.length=n:=by
   have:=congrArg List.length bg;simpa using this
  have ri:=SV (s:=s) z ys 0 [] (yj n zero).flatten (by rw[bg,List.range_eq_range',hn]) (by simp) (by simp[hn,ra]) (fun p hp=>by rw[(zb p hp).2,ra]);rw[yF,yF]at ri;have ez:∀p∈ys,(p.2.get s).whole=true:=fun p hp=>by
   have:=(zb p hp).1;generalize p.2.get s=v at this;cases v<;>first|rfl|(simp[AV.free,AV.iA]at this;done)
  have hp:=HT z ys;have ui:((Array.range (n*z)).map (((if n*z=0 then(#[]:Array Value)else zv.cells)[· % (if n*z=0 then(#[]:Array Value)else zv.cells).size]!))).toList=(yj n zv.cells.toList).flatten:=by
   rcases yG n with h0|h0
   ·subst h0;simp
   ·have:¬ n * z=0:=by have:=Nat.mul_pos h0 lb; omega
    simp only[if_neg this];rw[<- ij];exact mS zv.cells n
  obtain⟨oa,h1,h2⟩:=lU (pl:=fun i=>some (i*z,z)) (ι:=ι) (av:=uE da ι Θ) (avb:=zE ι Θ) (w:=w) (s:=s) (a:=a) rfl (fun X y h=>(R.uA h).1) hy hp (fun p hp=>by
   obtain⟨q,hq,rfl⟩:=yz.1 hp;exact ez q hq) (by rw[y3];exact ri) (us:=(Array.range (n*z)).map (((if n*z=0 then(#[]:Array Value)else zv.cells)[· % (if n*z=0 then(#[]:Array Value)else zv.cells).size]!))) (by
    rw[ui];exact QS _ _ (TK hl _ _) n)
  have ca:(execOp a.eval o).run P w=.ok (.value (.slice (some ⟨w.heap.size,0,none⟩) n n)) (w.alloc (.cells oa e)):=by
   have h3:Instr.fill (fun i=>some (i*z,z)) ((Array.range (n*z)).map (((if n*z=0 then(#[]:Array Value)else zv.cells)[· % (if n*z=0 then(#[]:Array Value)else zv.cells).size]!))) (ps.map fun(i,x)=>(i,a.eval x)).toList=some oa:=by
    rw[Array.toList_map];exact h1
   have ib:¬(n*z > 2 ^ 24):=by omega
   by_cases h0:n*z=0
   ·simp only[if_pos h0]at h3;simp only[execOp,ho,Instr.buildSlice,Sem.run_bind,run_underlying ht,Result.andThen_ok,EE hs,if_neg ib,if_pos h0,Sem.run_pure,h3,newRow,run_newObj_alloc]
   ·simp only[if_neg h0]at h3;simp only[execOp,ho,Instr.buildSlice,Sem.run_bind,run_underlying ht,Result.andThen_ok,EE hs,if_neg ib,if_neg h0,Sem.run_pure,ug,h3,newRow,run_newObj_alloc]
  refine⟨rfl,_,_,ca,R.alloc _,?_,⟨_,_,rfl⟩⟩;have R':=R.alloc (.cells oa e);have hA:aD (uE da ι Θ) (uE da ι Θ) w (w.alloc (.cells oa e)):=aD.grown (fun b hb=>Below.heap_alloc w _ b hb) fun _ _ _ h=>h
  rw[XF];simp only[gG];have ja:(ys.map fun p=>(p.2.get s).cells).length=n:=by simp[hn]
  refine⟨_,n,by rw[ja],by rw[ja];exact yg _,fun x hx y hy=>?_,(fun h=>by cases h),fun _=>⟨fun h=>(by cases h),fun _=>⟨w.heap.size,0,rfl,?_⟩⟩⟩
  ·obtain⟨p,hp,rfl⟩:=yz.1 hx;obtain⟨q,hq,rfl⟩:=yz.1 hy;rw[(zb p hp).2,(zb q hq).2]
  ·rw[TH];have oe:∀x∈(ys.map fun p=>(p.2.get s).cells).flatten,x.iA=true:=fun x hx=>by
    obtain⟨l,hl,hx⟩:=List.mem_flatten.1 hx;obtain⟨p,hp,rfl⟩:=yz.1 hl;have:=(zb p hp).1;generalize p.2.get s=v at this hx;cases v<;>first|(simp[AV.cells]at hx;subst hx;exact this)|exact y6.1 this x hx
   refine IM (JE.held hA _ _ (cJ h2 oe)) fun j u hu=>⟨?_,fun h=>?_⟩
   ·rw[yy,cell_of_row _ w.heap.size j oa e (0,0) (nT rfl)];simpa using hu
   ·have:=R.low h;omega
 ·cases hr
theorem Sm {t:TypeId}{z:Nat}(hz:fE P t=some z){b off:Nat}{cur:Array Value}{ty:TypeId}(hb:w.heap[b]?=some (.cells cur ty (0,0))){v:Value}(hv:v.cells.size=z)(ib:off+z<=cur.size)(h1:∀u∈v.cells.toList,u.oneCell'=true):
  (Instr.storeAt t (.pointer (some ⟨b,off,none⟩)) v).run P w=.ok () (w.setRow b (cur.toList.take off++v.cells.toList++cur.toList.drop (off+z)).toArray):=by
 have tb:=run_storeCells_at P b off ty v.cells.toList 0 cur w hb (by simp[hv];omega) h1;simp only[Nat.add_zero,yH,hv]at tb;simp[Instr.storeAt,Instr.sureAddr,storeVar,EE hz,hv,tb]
theorem LD.set (R:LD P O nt B F0 da w0 D s a w ι Θ){t n b:Nat}{cur:Array Value}{ty:TypeId}(hb:ι t n=some b)(zc:ι.ob t n=none)(ia:w.heap[b]?=some (.cells cur ty (0,0))){r:List WC}{new:Array Value}(ka:QF ι Θ (uE da ι Θ) w r new)(bh:B<=b\/F0.r b)(hnz:new.size=ι.z b):
  LD P O nt B F0 da w0 D (s.setRow t n r) a (w.setRow b new) ι Θ:=by
 have ua:∀b',b'≠b->(w.setRow b new).heap[b']?=w.heap[b']?:=fun b' h=>setRow_other w b b' new h
 have bc:(w.setRow b new).heap[b]?=some (.cells new ty (0,0)):=setRow_heap w b cur new ty (0,0) ia;have hB:aD (zE ι Θ) (zE ι Θ) w (w.setRow b new):=⟨fun b' o u hc hn=>by
  have:b'≠b:=fun e=>hn (.inl (.inl ⟨t,n,e▸hb⟩))
  exact⟨(World.cell?_of_block (w:=w) (a:=⟨b',o,none⟩) (ua b' this)).trans hc,hn⟩⟩
 have hA:aD (uE da ι Θ) (uE da ι Θ) w (w.setRow b new):=⟨fun b' o u hc hn=>by
  have:b'≠b:=fun e=>hn (.inr (.inl (.inl ⟨t,n,e▸hb⟩)))
  exact⟨(World.cell?_of_block (w:=w) (a:=⟨b',o,none⟩) (ua b' this)).trans hc,hn⟩⟩
 have ir:=R.mine t n b hb;refine⟨R.defers,R.size,fun t=>sD.held (Ix.Le.refl _) hA hB _ _ (R.env t),R.ZB,fun t' n' r' hr=>?_,fun t n b h=>?_,R.inj,fun k o h=>?_,R.OA,R.apart,R.out,R.pin,?_,R.base,fun t' n' S h=>?_,fun t n H h=>(R.obs t n H h).grow (by simp),fun t=>sD.held (Ix.Le.refl _) hA hB _ _ (R.gen t),R.CA⟩
 ·simp only [OC.setRow] at hr;split at hr
  ·rename_i e;injection hr with hr;subst hr;exact⟨by rw[e.1,e.2];exact zc,b,new,ty,by rw[e.1,e.2];exact hb,bc,ka.held (Ix.Le.refl _) hA (fun _ _ h=>h),bh,hnz⟩
  ·rename_i e;obtain ⟨h0,b',db,gl,h1,h2,h3,h4⟩:=R.rows t' n' r' hr;have:b'≠b:=fun e'=>e (R.inj _ _ _ _ _ (e' ▸ h1) hb)
   exact⟨h0,b',db,gl,h1,(ua b' this).trans h2,h3.held (Ix.Le.refl _) hA (fun _ _ h=>h),h4⟩
 ·obtain⟨h1,h2,h3⟩:=R.mine t n b h;exact⟨h1,by simpa using h2,h3⟩
 ·obtain ⟨h1,h2,h3,h4,db,h5,h6⟩:=R.tok k o h;have:o.g≠b:=fun e=>R.apart k o t n h (e ▸ hb)
  exact⟨h1,h2,h3,h4,db,(ua _ this).trans h5,h6⟩
 ·refine R.kept.setRow (fun fa=>?_) _;rcases ir.1 with h | h
  ·have:=R.base.1;omega
  ·exact h
 ·obtain⟨p,H,h1,h2,h3,h4⟩:=R.WA t' n' S h;have cn:∀b',H b'->b'≠b:=fun b' hH e=>by
   subst e;have:=((R.obs _ _ _ h2).1 _ hH).2.2.1 t n hb;rw[this.1,this.2,h2]at zc;cases zc
  exact⟨p,H,h1,h2,O.keep h3 (fun b' hH=>ua b' (cn b' hH)) (by simp),h4.keep (fun t n b H h g=>⟨h,H,g⟩) fun x hx=>(ua p (cn p (O.main h3))).trans hx⟩
theorem QF.splice {av:Av}{r:List WC}{cur:Array Value}(h:QF ι Θ av w r cur){off z:Nat}{m:List WC}{us:Array Value}(hm:QF ι Θ av w m us)(tc:us.size=m.length)(hz:m.length=z)(ib:off+z<=r.length):QF ι Θ av w (r.take off++m++r.drop (off+z)) (cur.toList.take off++us.toList++cur.toList.drop (off+z)).toArray:=by
 obtain⟨h1,h2⟩:=h;obtain⟨m1,m2⟩:=hm;have hl:r.length<=cur.toList.length:=by simpa using h1
 refine⟨by simp only[yC,yM,List.length_drop,List.size_toArray,yH,tc]at *;omega,fun j x hx=>?_⟩;have ht:(r.take off).length=off:=by rw[yM];omega
 have mz:(cur.toList.take off).length=off:=by rw[yM];omega
 simp only[List.getElem?_toArray];rcases Nat.lt_or_ge j off with hj|hj
 ·rw[List.append_assoc,yU (by omega),yI]at hx;rw[List.append_assoc,yU (by omega),yI];rw[if_pos hj]at hx ⊢;obtain⟨u,hu,h⟩:=h2 j x hx;exact⟨u,by simpa using hu,h⟩
 ·rcases Nat.lt_or_ge j (off + z) with hj2 | hj2
  ·rw[List.append_assoc,yN (by omega),yU (by omega),ht]at hx;rw[List.append_assoc,yN (by omega),yU (by simp[tc];omega),mz];obtain⟨u,hu,h⟩:=m2 _ x hx;exact⟨u,by simpa using hu,h⟩
  ·rw [List.append_assoc,yN (by omega),yN (by omega),ht,yL] at hx;rw [List.append_assoc,yN (by omega),yN (by simp [tc]; omega),mz,yL];obtain ⟨u,hu,h⟩:=h2 _ x hx;refine ⟨u,?_,h⟩;have:us.toList.length=m.length:=by simpa using tc
   rw[this];simpa using hu
theorem Dj (R:LD P O nt B F0 da w0 D s a w ι Θ){t:TypeId}{agg:Bool}{z:Nat}(hz:fE P t=some z)(hag:agg=true\/z=1){X Y:Operand}{x y:KD}(hx:uA X=some x)(hy:uA Y=some y)(ho:o.op=.store t X Y)(hd:∀d,o.dst=some d->d<nt){cl:Cl} {call} {xe:WC×rF} (hr:(K.store cl agg z x y).run call s=some xe) {g} {s':OC} (he:JC.eff ⟨o.dst,.store cl agg z x y,g⟩ s xe=some s') :
  ∃w',(execOp a.eval o).run P w=.ok .skip w'/\JF P O nt B F0 da w0 D s' (a.put o.dst undef) w':=by
 have hX:=(R.uA hx).1;have hY:=R.uA hy;simp only[K.run]at hr;split at hr
 ·rename_i t' n off ic;rw [ic,lH] at hX;obtain ⟨b,hb,hv⟩:=hX;split at hr
  ·cases hm:s.mem t' n with
   |none=>rw[hm]at hr;cases hr
   |some r =>
    rw[hm,J]at hr;cases hs:MC agg z off r (y.get s) (y.an s)with
    |none=>rw[hs]at hr;cases hr
    |some r' =>
     rw[hs]at hr;injection hr with hr;subst hr;simp only[JC.eff]at he;injection he with he;subst he;obtain⟨sf,b',cur,ty,na,ia,ka,bh,mh⟩:=R.rows t' n r hm;rw[hb]at na;injection na with na;subst na;have fin:∀(m:List WC)(us:Array Value),r'=r.take off++m++r.drop (off+z)->m.length=z->off+z<=r.length->(a.eval Y).cells=us->us.size=m.length->QF ι Θ (uE da ι Θ) w m us->∃w',(execOp a.eval o).run P w=.ok .skip w'/\JF P O nt B F0 da w0 D ((s.setRow t' n r').put o.dst ⟨.undef,.no⟩) (a.put o.dst undef) w':=fun m us h1 h2 h3 h4 h4' h5=>by
      have ra:(a.eval Y).cells.size=z:=by rw[h4,h4',h2]
      have aj:∀u∈(a.eval Y).cells.toList,u.oneCell'=true:=fun u hu=>by
       rw[h4]at hu;obtain⟨j,hj,rfl⟩:=yO hu;have fq:j<m.length:=by simp at hj;omega
       obtain⟨u',rp,h6,_⟩:=h5.2 j m[j] (y7 fq);have:us[j]?=some (us.toList[j]):=by simp at hj ⊢
       rw[this]at rp;injection rp with rp;rw[rp];exact h6
      have ca:=Sm (P:=P) hz ia ra (yt h3 ka.1) aj;refine⟨w.setRow b (cur.toList.take off++(a.eval Y).cells.toList++cur.toList.drop (off+z)).toArray,by simp only[execOp,ho,hv,Sem.run_bind,ca,Result.andThen_ok,Sem.run_pure],ι,Θ,LD.MA ?_ hd trivial trivial⟩;rw[h4];subst h1;exact R.set hb sf ia (ka.splice h5 h4' h2 h3) bh (by
       rw[<- mh];have h6:=ka.1;simp only[List.size_toArray,yC,yM,List.length_drop,yH];omega)
     cases agg with
     |true =>
      simp only[MC,if_true]at hs;split at hs
      ·rename_i cs zj;split at hs
       ·rename_i aa;injection hs with hs;rw[zj]at hY;obtain⟨us,hu,hc⟩:=hY.1;refine fin (cs.map (⟨·,.no⟩)) us hs.symm (by simpa using aa.1) aa.2 (by rw[hu];rfl) (by have:=HE hc;simpa using this) ?_;have:=QF.of (Θ:=Θ) (r:=cs.map fun v=>(⟨v,.no⟩:WC)) (cur:=us.toList) (ι:=ι) (w:=w) (av:=uE da ι Θ) (by rw[y3,show((fun x:WC=>x.v) ∘ fun v=>(⟨v,.no⟩:WC))=id from rfl,List.map_id];exact hc) (fun j x u hx _=>by
         rw[yb]at hx;cases im:cs[j]? with
         |none=>rw[im]at hx;cases hx
         |some v=>rw[im]at hx;injection hx with hx;subst hx;trivial)
        simpa using this
       ·cases hs
      ·cases hs
     |false =>
      have hz1:z=1:=by rcases hag with h|h;cases h;exact h
      subst hz1;simp only[MC,yr,if_false]at hs;split at hs
      ·rename_i aa;injection hs with hs;obtain⟨h1,h2⟩:=iZ hY.1 aa.1;have hc:(a.eval Y).cells=#[a.eval Y]:=by
        generalize a.eval Y=u at *
        cases u<;>first|rfl|(simp[Value.oneCell']at h2;done)
       refine fin [⟨y.get s,y.an s⟩] #[a.eval Y] ?_ rfl (by have:=aa.2;omega) hc rfl ⟨yg _,fun j x hx=>?_⟩
       ·rw[<- hs,List.set_eq_take_append_cons_drop,if_pos aa.2];simp
       ·cases j with
        |zero=>simp at hx;subst hx;exact⟨a.eval Y,rfl,h2,h1,hY.2⟩
        |succ j=>simp at hx
      ·cases hs
  ·cases hr
 ·cases hr
theorem WV {av:Av}:∀{xs:List AV}{us:List Value},iD ι av w xs us->∀u∈us,u.oneCell'=true
 | [],us,h,u,hu=>by simp only[iD]at h;subst h;cases hu
 |x::r,us,h,u,hu=>by
  simp only[iD]at h;obtain⟨u',oa,rfl,_,h1,h⟩:=h;rcases yh.1 hu with rfl|hu
  ·exact h1
  ·exact WV h u hu
theorem op_clr (R:LD P O nt B F0 da w0 D s a w ι Θ){t e:TypeId}{zero:List AV}(ht:P.underlying t=some (.slice e))(hz:UL P e=some zero){X:Operand}{x:KD}(hx:uA X=some x)(ho:o.op=.call { callee:=.builtin .clear,args:=#[X],argTypes:=#[t] })(hd:∀d,o.dst=some d->d<nt){cl:Cl} {call} {xe:WC×rF} (hr:(K.dC cl zero x).run call s=some xe) {g} {s':OC} (he:JC.eff ⟨o.dst,.dC cl zero x,g⟩ s xe=some s') :
  ∃v w',(execOp a.eval o).run P w=.ok (.value v) w'/\JF P O nt B F0 da w0 D s' (a.put o.dst v) w':=by
 obtain⟨z,i',sc,ul,ug,hl⟩:=UI hz w;have hX:=(R.uA hx).1;simp only[K.run]at hr;split at hr
 ·rename_i nl hy;rw[hy,XF]at hX;simp only[gG]at hX;obtain⟨A,c,hv,_⟩:=hX;injection hr with hr;subst hr;simp only[JC.eff]at he;injection he with he;subst he;refine⟨.tuple #[],w,?_,ι,Θ,R.MA hd trivial trivial⟩;cases A<;>simp[execOp,ho,resolve,invoke,builtin,Builtin.clear_,run_underlying ht,hv]
 ·rename_i t' n sz off ln cap hy;rw [hy] at hX;obtain ⟨b,hb,_,c,_,_,hv⟩:=hX;split at hr
  ·rename_i aa;obtain ⟨_,xv,hln⟩:=aa;cases hm:s.mem t' n with
   |none=>rw[hm]at hr;cases hr
   |some r =>
    rw[hm,J]at hr;unfold Tu at hr;split at hr
    ·rename_i ib;injection hr with hr;subst hr;simp only[JC.eff]at he;injection he with he;subst he;obtain⟨sf,b',cur,ty,na,ia,ka,bh,mh⟩:=R.rows t' n r hm;rw[hb]at na;injection na with na;subst na;have ij:z.cells.size=zero.length:=by
      have:=eI hl;simp only[yH]at this;omega
     have hzc:(Builtin.zeroCells z.cells ln).toList=(yj ln z.cells.toList).flatten:=mS z.cells ln;have iT:=QS (ι:=ι) (w:=w) z.cells.toList (uE da ι Θ) (TK hl _ _) ln;have ja:(yj ln z.cells.toList).flatten.length=ln*zero.length:=by simp[ij]
     have aj:∀u∈(yj ln z.cells.toList).flatten,u.oneCell'=true:=WV iT;have tb:=run_storeCells_at P b off ty (yj ln z.cells.toList).flatten 0 cur w ia (by have:=ka.1;omega) aj;simp only[Nat.add_zero,ja]at tb;obtain⟨m,rfl⟩:∃m,ln=m+1:=⟨ln-1,by omega⟩;have ca:(execOp a.eval o).run P w=.ok (.value (.tuple #[])) (w.setRow b (cur.toList.take off++(yj (m+1) z.cells.toList).flatten++cur.toList.drop (off+(m+1)*zero.length)).toArray):=by
      simp[execOp,ho,resolve,invoke,builtin,Builtin.clear_,run_underlying ht,hv,ug,hzc,tb]
     refine⟨_,_,ca,ι,Θ,LD.MA ?_ hd trivial trivial⟩;have pk:QF ι Θ (uE da ι Θ) w (HC (yj (m+1) zero)) (yj (m+1) z.cells.toList).flatten.toArray:=QF.of (by
      unfold HC;rw[y3,show((fun x:WC=>x.v) ∘ fun v=>(⟨v,.no⟩:WC))=id from rfl,List.map_id];exact iT) (fun j x u hx _=>by
      unfold HC at hx;rw[yb]at hx;cases im:(yj (m+1) zero).flatten[j]? with
      |none=>rw[im]at hx;cases hx
      |some v=>rw[im]at hx;injection hx with hx;subst hx;trivial)
     have ra:(yj (m+1) z.cells.toList).flatten.toArray.size=(HC (yj (m+1) zero)).length:=by simp[HC,ij]
     have hzl2:(HC (yj (m+1) zero)).length=(m+1)*zero.length:=by simp[HC]
     have:=ka.splice pk ra hzl2 ib;exact R.set hb sf ia this bh (by
      rw[<- mh];have h6:=ka.1;simp only[List.size_toArray,yC,yM,List.length_drop,yH,ja];omega)
    ·cases hr
  ·cases hr
 ·cases hr
end
end
section
section
variable {call:DD} {s s':OC}
def kY (s s':OC)(l:List KD):Prop:=∀o∈l,o.get s=o.get s'/\o.an s=o.an s'
def K.reads (k:K)(t:Nat):Prop:=match k.cl with
 |none=>False
 |some .RB=>False
 |some (.root r)=>t=r
 |some (.out L)=>L.contains t=false
 |some .any=>True
theorem Z7 {cl:Cl}(hm:cl.pA=true->∀t n,s.mem t n=s'.mem t n)(v:AV):PR s cl v=PR s' cl v:=by
 cases v<;>simp only[PR]
 split
 ·rename_i la;rw[hm la]
 ·rfl
theorem sQ {cl:Cl}(hm:cl.pA=true->∀t n,s.mem t n=s'.mem t n):∀(l:List AV),KF s cl l=KF s' cl l
 | []=>rfl
 |x::r=>by simp only[KF,Z7 hm x,sQ hm r]
section
variable {cl:Cl} (hm:cl.pA=true->∀ t n,s.mem t n=s'.mem t n) (eb:s.obj=s'.obj) (v:AV)
include cl hm eb v
theorem xT:EU s cl v=EU s' cl v:=by
 unfold EU;split
 ·split
  ·rename_i la;rw[hm la]
  ·rfl
 ·rfl
 ·rfl
 ·rw[eb]
 ·rfl
theorem K7:qI s cl v=qI s' cl v:=by
 have:=xT hm eb v;cases v<;>simp only[qI,sQ hm]<;>exact this
end
theorem RI {cl:Cl}(hm:cl.pA=true->∀t n,s.mem t n=s'.mem t n)(eb:s.obj=s'.obj):∀{xs:List KD},kY s s' xs->pG s cl xs=pG s' cl xs
 | [],_=>rfl
 |x::r,h=>by
  have h1:=h x (yl);have h2:=RI hm eb (xs:=r) fun o ho=>h o (ym _ ho)
  unfold pG;rw[h2,h1.1];rw[K7 hm eb]
theorem RU {cl:Cl}{t n:Nat}(hm:cl.pA=true->∀t n,s.mem t n=s'.mem t n)(eb:s.obj=s'.obj):∀{xs:List KD},kY s s' xs->SE s cl t n xs=SE s' cl t n xs
 | [],_=>rfl
 |x::r,h=>by
  have h1:=h x (yl);have h2:=RU (t:=t) (n:=n) hm eb (xs:=r) fun o ho=>h o (ym _ ho)
  unfold SE;rw[h2,h1.1];have:eH s cl t n (x.get s')=eH s' cl t n (x.get s'):=by
   unfold eH;split
   ·rfl
   ·rw[xT hm eb]
   ·rfl
   ·rw[xT hm eb]
  rw[this]
theorem mL {xs:List KD}(h:kY s s' xs):SI s xs=SI s' xs:=by
 induction xs with
 |nil=>rfl
 |cons x r ih =>
  have h1:=h x (yl);unfold SI at ih ⊢;rw[List.filterMap_cons,List.filterMap_cons,h1.1,ih fun o ho=>h o (ym _ ho)]
theorem ZM {cl:Cl}(hm:cl.pA=true->∀t n,s.mem t n=s'.mem t n)(v:AV):v.elems s cl=v.elems s' cl:=by
 cases v<;>simp only[AV.elems]
 split
 ·rename_i la;rw[hm la]
 ·rfl
theorem Xq {cl:Cl}(hm:cl.pA=true->∀t n,s.mem t n=s'.mem t n)(v:AV):v.nB s cl=v.nB s' cl:=by
 cases v<;>simp only[AV.nB]
 case ref t n sz off len c =>
  split
  ·rename_i h;rw[hm h t n]
  ·rfl
theorem aQ {d:Nat}{o:Option KD}(h:kY s s' o.toList):wM s d o=wM s' d o:=by
 cases o with
 |none=>rfl
 |some o=>simp only[wM];rw[(h o (by simp)).1]
theorem Bu {s s':OC}(hm:∀t n,s.mem t n=s'.mem t n)(v:AV):v.uB s=v.uB s':=by
 have e:s.mem=s'.mem:=funext fun t=>funext fun n=>hm t n
 have h1:∀v:AV,v.wB s=v.wB s':=fun v=>by cases v<;>simp only[AV.wB,e]
 have th:AV.wB s=AV.wB s':=funext h1;have h0:∀v:AV,v.DA s=v.DA s':=fun v=>by cases v<;>simp only[AV.DA,s6,e,th]
 have cf:AV.DA s=AV.DA s':=funext h0;cases v<;>simp only[AV.uB,h0,cf]
theorem RS (k:K)(h:kY s s' k.aA)(hm:∀t n,k.reads t->s.mem t n=s'.mem t n)(eb:nV k=true->s.obj=s'.obj):k.run call s=k.run call s':=by
 cases k with
 |mv x=>have h1:=h x (by simp[K.aA]);simp only[K.run,h1.1,h1.2]
 |pick c a b =>
  have h1:=h c (by simp[K.aA]);have h2:=h a (by simp[K.aA]);have h3:=h b (by simp[K.aA]);simp only[K.run,h1.1,h2.1,h2.2,h3.1,h3.2]
 |alloc z=>rfl
 |box z x=>have h1:=h x (by simp[K.aA]);simp only[K.run,h1.1,h1.2]
 |build z ps =>
  have h1:∀p∈ps,p.2.2.get s=p.2.2.get s':=fun p hp=>(h p.2.2 (yz.2 ⟨p,hp,rfl⟩)).1
  have e1:ps.all (fun p=>(p.2.2.get s).whole)=ps.all (fun p=>(p.2.2.get s').whole):=by
   rw[Bool.eq_iff_iff,y6,y6];exact⟨fun h p hp=>by rw[<- h1 p hp];exact h p hp,fun h p hp=>by rw[h1 p hp];exact h p hp⟩
  have e2:(ps.map fun p=>(p.1,p.2.1,(p.2.2.get s).cells))=ps.map fun p=>(p.1,p.2.1,(p.2.2.get s').cells):=yw fun p hp=>by rw[h1 p hp]
  simp only[K.run,e1,e2]
 |XA z n ps =>
  have h1:∀p∈ps,p.2.get s=p.2.get s':=fun p hp=>(h p.2 (yz.2 ⟨p,hp,rfl⟩)).1
  have e1:ps.all (fun p=>(p.2.get s).free&&decide ((p.2.get s).cells.length=z.length))=ps.all (fun p=>(p.2.get s').free&&decide ((p.2.get s').cells.length=z.length)):=by
   rw[Bool.eq_iff_iff,y6,y6];exact⟨fun h p hp=>by rw[<- h1 p hp];exact h p hp,fun h p hp=>by rw[h1 p hp];exact h p hp⟩
  have e2:(ps.map fun p=>(p.2.get s).cells)=ps.map fun p=>(p.2.get s').cells:=yw fun p hp=>by rw[h1 p hp]
  simp only[K.run,e1,e2]
 |load cl g z x =>
  have h1:=h x (by simp[K.aA]);simp only[K.run,h1.1];split
  ·rename_i t n off _;split
   ·rename_i la;rw [hm t n];cases cl with
    |any=>trivial
    |RB=>simp[Cl.cA]at la
    |root r=>simp[Cl.cA]at la;exact la.symm
    |out L=>show L.contains t=false;simpa [Cl.cA]using la
   ·rfl
  ·rfl
  ·rfl
  ·rfl
 |dC cl z x =>
  have h1:=h x (by simp[K.aA]);simp only[K.run,h1.1];split
  ·rfl
  ·rename_i t n sz off ln _ _;split
   ·rename_i la;have la:=la.1;rw [hm t n];cases cl with
    |any=>trivial
    |RB=>simp[Cl.cA]at la
    |root r=>simp[Cl.cA]at la;exact la.symm
    |out L=>show L.contains t=false;simpa [Cl.cA]using la
   ·rfl
  ·rfl
 |store cl g z x y =>
  have h1:=h x (by simp[K.aA]);have h2:=h y (by simp[K.aA]);simp only[K.run,h1.1,h2.1,h2.2];split
  ·rename_i t n off _;split
   ·rename_i la;rw [hm t n];cases cl with
    |any=>trivial
    |RB=>simp[Cl.cA]at la
    |root r=>simp[Cl.cA]at la;exact la.symm
    |out L=>show L.contains t=false;simpa [Cl.cA]using la
   ·rfl
  ·rfl
 |mm b x y=>have h1:=h x (by simp[K.aA]);have h2:=h y (by simp[K.aA]);simp only[K.run,h1.1,h2.1]
 |bin op b x y=>have h1:=h x (by simp[K.aA]);have h2:=h y (by simp[K.aA]);simp only[K.run,h1.1,h2.1]
 |iC n ks x y=>have h1:=h x (by simp[K.aA]);have h2:=h y (by simp[K.aA]);simp only[K.run,h1.1,h2.1]
 |gC n p x y=>have h1:=h x (by simp[K.aA]);have h2:=h y (by simp[K.aA]);simp only[K.run,h1.1,h2.1]
 |un op x=>have h1:=h x (by simp[K.aA]);simp only[K.run,h1.1]
 |conv o x=>have h1:=h x (by simp[K.aA]);simp only[K.run,h1.1]
 |BB x=>have h1:=h x (by simp[K.aA]);simp only[K.run,h1.1]
 |xB cl x =>
  have h1:=h x (by simp[K.aA]);have h3:=ZM (cl:=cl) (s:=s) (s':=s') (fun la t n=>hm t n (by cases cl<;>simp[Cl.pA]at la;trivial)) (x.get s');simp only[K.run,h1.1,h3]
 |PB cl l z x lo hi =>
  have h1:=h x (by simp[K.aA]);have h2:∀d,wM s d lo=wM s' d lo:=fun d=>aQ fun o ho=>h o (by simp only[K.aA,yh,yD];exact .inr (.inl ho))
  have h3:∀d,wM s d hi=wM s' d hi:=fun d=>aQ fun o ho=>h o (by simp only[K.aA,yh,yD];exact .inr (.inr ho))
  simp only[K.run,h1.1,h2,h3];split
  ·rename_i t n o _;cases hc:cl.pA with
   |true=>rw[hm t n (by cases cl<;>simp[Cl.pA]at hc;trivial)]
   |false =>
    simp only[yr,and_false,if_false];cases wM s' 0 lo<;>try rfl
    cases wM s' l hi<;>try rfl
    cases s.mem t n<;>cases s'.mem t n<;>rfl
  ·rfl
 |jC f xs =>
  have h1:∀x∈xs,x.get s=x.get s':=fun x hx=>(h x hx).1
  have e1:xs.all (fun x=>(x.get s).bB)=xs.all (fun x=>(x.get s').bB):=by
   rw[Bool.eq_iff_iff,y6,y6];exact⟨fun h p hp=>by rw[<- h1 p hp];exact h p hp,fun h p hp=>by rw[h1 p hp];exact h p hp⟩
  have e2:xs.map (·.get s)=xs.map (·.get s'):=yw h1;simp only[K.run,e1,e2]
 |RA cl x xs =>
  have h0:=h x (by simp[K.aA]);have hx:kY s s' xs:=fun o ho=>h o (by simp[K.aA,ho])
  have gv:cl.pA=true->∀t n,s.mem t n=s'.mem t n:=fun la t n=>hm t n (by cases cl<;>simp[Cl.pA]at la;trivial)
  have h1:=RI (cl:=cl) (s:=s) (s':=s') gv (eb rfl) (xs:=xs) hx;have h2:=mL (xs:=xs) hx;have h3:∀l,KF s cl l=KF s' cl l:=sQ gv;simp only[K.run,h0.1,h1,h2,h3]
 |dA cl f xs =>
  have gv:cl.pA=true->∀t n,s.mem t n=s'.mem t n:=fun la t n=>hm t n (by cases cl<;>simp[Cl.pA]at la;trivial)
  have h1:∀t n,SE s cl t n xs=SE s' cl t n xs:=fun t n=>RU gv (eb rfl) (xs:=xs) h
  have h2:JD s xs=JD s' xs:=by
   cases xs with
   |nil=>rfl
   |cons x r=>simp only[JD,(h x (by simp[K.aA])).1]
  simp only[K.run,h1,h2];split
  ·rename_i t n _;split
   ·rename_i la;rw[hm t n (by cases cl with
     |any=>trivial
     |RB=>simp[Cl.cA]at la
     |root r=>simp[Cl.cA]at la;exact la.symm
     |out L=>show L.contains t=false;simpa [Cl.cA]using la)]
   ·rfl
  ·rfl
 |lA nt x xs=>rfl
 |dB x=>rfl
 |slz x=>have h1:=h x (by simp[K.aA]);simp only[K.run,h1.1]
 |ent x=>have h1:=h x (by simp[K.aA]);simp only[K.run,h1.1,eb rfl]
 |kB x=>have h1:=h x (by simp[K.aA]);simp only[K.run,h1.1,eb rfl]
 |wC z b zs x y=>have h1:=h x (by simp[K.aA]);have h2:=h y (by simp[K.aA]);simp only[K.run,h1.1,h2.1]
 |slc st z x lo hi mx =>
  have h1:=h x (by simp[K.aA]);have h2:∀d,wM s d lo=wM s' d lo:=fun d=>aQ fun o ho=>h o (by simp only[K.aA,yh,yD];exact .inr (.inl ho))
  have h3:∀d,wM s d hi=wM s' d hi:=fun d=>aQ fun o ho=>h o (by simp only[K.aA,yh,yD];exact .inr (.inr (.inl ho)))
  simp only[K.run,h1.1,h2,h3]
 |tB f x=>have h1:=h x (by simp[K.aA]);simp only[K.run,h1.1]
 |field g f z x=>have h1:=h x (by simp[K.aA]);simp only[K.run,h1.1]
 |pB l z x i=>have h1:=h x (by simp[K.aA]);have h2:=h i (by simp[K.aA]);simp only[K.run,h1.1,h2.1]
 |nA z x i=>have h1:=h x (by simp[K.aA]);have h2:=h i (by simp[K.aA]);simp only[K.run,h1.1,h2.1]
 |index x i=>have h1:=h x (by simp[K.aA]);have h2:=h i (by simp[K.aA]);simp only[K.run,h1.1,h2.1]
 |ext x i=>have h1:=h x (by simp[K.aA]);simp only[K.run,h1.1]
 |call cl f xs =>
  have h1:=RI (cl:=cl) (s:=s) (s':=s') (fun la t n=>hm t n (by cases cl<;>simp[Cl.pA]at la;trivial)) (eb rfl) (xs:=xs) h;have h2:=mL (xs:=xs) h;simp only[K.run,h1,h2,eb rfl]
 |LA cl f z xs =>
  have h1:=RI (cl:=cl) (s:=s) (s':=s') (fun la t n=>hm t n (by cases cl<;>simp[Cl.pA]at la;trivial)) (eb rfl) (xs:=xs) h;have h2:=mL (xs:=xs) h;simp only[K.run,h1,h2,eb rfl]
 |iB cl f z xs =>
  have h1:=RI (cl:=cl) (s:=s) (s':=s') (fun la t n=>hm t n (by cases cl<;>simp[Cl.pA]at la;trivial)) (eb rfl) (xs:=xs) h;have h2:=mL (xs:=xs) h;simp only[K.run,h1,h2]
 |PA cl f z L x xs =>
  have hx:=h x yl;have kc:kY s s' xs:=fun o ho=>h o (ym _ ho)
  have h1:=RI (cl:=cl) (s:=s) (s':=s') (fun la t n=>hm t n (by cases cl<;>simp[Cl.pA]at la;trivial)) (eb rfl) kc;have h2:=mL kc;have h3:=ZM (cl:=cl) (s:=s) (s':=s') (fun la t n=>hm t n (by cases cl<;>simp[Cl.pA]at la;trivial));simp only[K.run,h1,h2,h3,hx.1,hx.2]
 |jB cl f xs =>
  by_cases la:cl.pA=true
  ·have ki:∀ t n,s.mem t n=s'.mem t n:=fun t n=>hm t n (by cases cl <;> simp [Cl.pA] at la; trivial)
   have e:(xs.map fun x=>(x.get s).uB s)=xs.map fun x=>(x.get s').uB s':=yw fun x hx=>by rw[(h x hx).1,Bu ki]
   simp only[K.run,e]
  ·simp[K.run,la]
 |len st x=>have h1:=h x (by simp[K.aA]);simp only[K.run,h1.1]
 |app cl e z b x y =>
  have h1:=h x (by simp[K.aA]);have h2:=h y (by simp[K.aA]);have h3:=ZM (cl:=cl) (s:=s) (s':=s') (fun la t n=>hm t n (by cases cl<;>simp[Cl.pA]at la;trivial)) (y.get s');simp only[K.run,h1.1,h1.2,h2.1,h3]
 |fC=>rfl
 |bad=>rfl
 |bC T e=>rfl
 |OB ok ty z x k=>have h1:=h x (by simp[K.aA]);have h2:=h k (by simp[K.aA]);simp only[K.run,h1.1,h2.1,eb rfl]
 |SB ty x k v=>have h1:=h x (by simp[K.aA]);have h2:=h k (by simp[K.aA]);have h3:=h v (by simp[K.aA]);simp only[K.run,h1.1,h2.1,h3.1,eb rfl]
 |LB x=>have h1:=h x (by simp[K.aA]);simp only[K.run,h1.1,eb rfl]
 |QB cl e z b x y =>
  have h1:=h x (by simp[K.aA]);have h2:=h y (by simp[K.aA]);have h3:∀v:AV,v.elems s cl=v.elems s' cl:=fun v=>ZM (cl:=cl) (s:=s) (s':=s') (fun la t n=>hm t n (by cases cl<;>simp[Cl.pA]at la;trivial)) v
  simp only[K.run,h1.1,h1.2,h2.1,h3]
 |sB cl e z b x y =>
  have h1:=h x (by simp[K.aA]);have h2:=h y (by simp[K.aA]);have h3:∀v:AV,v.elems s cl=v.elems s' cl:=fun v=>ZM (cl:=cl) (s:=s) (s':=s') (fun la t n=>hm t n (by cases cl<;>simp[Cl.pA]at la;trivial)) v
  simp only[K.run,h1.1,h1.2,h2.1,h3]
 |qB cl e z b x y =>
  have h1:=h x (by simp[K.aA]);have h2:=h y (by simp[K.aA]);have h3:∀v:AV,v.nB s cl=v.nB s' cl:=fun v=>Xq (cl:=cl) (s:=s) (s':=s') (fun la t n=>hm t n (by cases cl<;>simp[Cl.pA]at la;trivial)) v
  simp only[K.run,h1.1,h1.2,h2.1,h3]
 |AB sz z n ps =>
  have h1:∀p∈ps,p.2.get s=p.2.get s':=fun p hp=>(h p.2 (yz.2 ⟨p,hp,rfl⟩)).1
  have e1:ps.all (fun p=>(p.2.get s).whole&&decide ((p.2.get s).cells.length=z.length))=ps.all (fun p=>(p.2.get s').whole&&decide ((p.2.get s').cells.length=z.length)):=by
   rw[Bool.eq_iff_iff,y6,y6];exact⟨fun h p hp=>by rw[<- h1 p hp];exact h p hp,fun h p hp=>by rw[h1 p hp];exact h p hp⟩
  have e2:(ps.map fun p=>(p.2.get s).cells)=ps.map fun p=>(p.2.get s').cells:=yw fun p hp=>by rw[h1 p hp]
  simp only[K.run,e1,e2]
 |AA x=>have h1:=h x (by simp[K.aA]);simp only[K.run,h1.1]
structure C4 (f:An->An):Prop where
 no:f .no=.no
 ex:f .ex=.ex
 own:∀k e,f (.own k e)≠.ex
def OC.wA (s:OC)(f:An->An):OC:=⟨fun t=>⟨(s.env t).v,f (s.env t).a⟩,fun t n=>(s.mem t n).map (·.map fun x=>⟨x.v,f x.a⟩),s.next,s.obj,fun t=>⟨(s.gh t).v,f (s.gh t).a⟩⟩
def WC.wA (f:An->An)(x:WC):WC:=⟨x.v,f x.a⟩
def rF.wA (f:An->An):rF->rF
 |.new r=>.new (r.map (WC.wA f))
 |.set t n r=>.set t n (r.map (WC.wA f))
 |.zB t n S r=>.zB t n S (r.map (WC.wA f))
 |e=>e
theorem qD (f:An->An)(o:KD):o.get (s.wA f)=o.get s:=by cases o<;>rfl
theorem Fw {f:An->An}(hf:C4 f)(b:Bool)(a:An):OE b (f a)=f (OE b a):=by
 cases b with
 |true=>exact hf.ex.symm
 |false=>rfl
theorem Ju {f:An->An}(hf:C4 f)(b:Bool)(a:An):exB b (f a)=exB b a:=by
 unfold exB;rw[Fw hf];cases h:OE b a with
 |no=>rw[hf.no]
 |ex=>rw[hf.ex]
 |own k e =>
  cases h2:f (.own k e)with
  |ex=>exact absurd h2 (hf.own k e)
  |no=>rfl
  |own k' e'=>rfl
theorem cP {f:An->An}(hf:C4 f)(o:KD):o.an (s.wA f)=f (o.an s):=by
 cases o with
 |t n=>rfl
 |c v=>cases v<;>first|exact hf.no.symm|(rename_i b l;cases b;exact hf.no.symm;exact hf.ex.symm)
theorem UQ (f:An->An)(r:List WC)(sz off len:Nat):bH (r.map (WC.wA f)) sz off len=bH r sz off len:=by
 unfold bH;have h1:(r.map (WC.wA f)).all (fun x=>x.v.iA)=r.all (fun x=>x.v.iA):=by rw[List.all_map];rfl
 simp only[yo,h1];congr 1;congr 1;apply yw;intro i _;rw[<- List.map_drop,<- List.map_take,y3];rfl
theorem ER (f:An->An)(cl:Cl)(v:AV):v.elems (s.wA f) cl=v.elems s cl:=by
 cases v<;>simp only[AV.elems]
 rename_i t n sz off len cap;split
 ·simp only [OC.wA];cases s.mem t n with
  |none=>rfl
  |some r=>exact UQ f r sz off len
 ·rfl
theorem X7 (f:An->An)(cl:Cl)(v:AV):PR (s.wA f) cl v=PR s cl v:=by
 cases v<;>simp only[PR]
 rename_i t n off;split
 ·simp only [OC.wA];cases s.mem t n with
  |none=>rfl
  |some r =>
   simp only[yp,<- List.map_drop,List.all_map,y3];rfl
 ·rfl
theorem dQ (f:An->An)(cl:Cl):∀(l:List AV),KF (s.wA f) cl l=KF s cl l
 | []=>rfl
 |x::r=>by simp only[KF,X7 f cl x,dQ f cl r]
theorem cT (f:An->An)(cl:Cl)(v:AV):EU (s.wA f) cl v=EU s cl v:=by
 unfold EU;split
 ·rename_i t n sz off len cap;split
  ·simp only [OC.wA];cases s.mem t n with
   |none=>rfl
   |some r=>simp only[yp,J];rw[show(fun x:WC=>(⟨x.v,f x.a⟩:WC))=WC.wA f from rfl,UQ]
  ·rfl
 ·rfl
 ·rfl
 ·rfl
 ·rfl
theorem L7 (f:An->An)(cl:Cl)(v:AV):qI (s.wA f) cl v=qI s cl v:=by
 have:=cT (s:=s) f cl v;cases v<;>simp only[qI,dQ]<;>exact this
theorem TI (f:An->An)(cl:Cl):∀(xs:List KD),pG (s.wA f) cl xs=pG s cl xs
 | []=>rfl
 |x::r=>by
  unfold pG;rw[TI f cl r,qD];rw[L7]
theorem TU (f:An->An)(cl:Cl)(t n:Nat):∀(xs:List KD),SE (s.wA f) cl t n xs=SE s cl t n xs
 | []=>rfl
 |x::r=>by
  unfold SE;rw[TU f cl t n r,qD];have:eH (s.wA f) cl t n (x.get s)=eH s cl t n (x.get s):=by
   unfold eH;split
   ·rfl
   ·rw[cT]
   ·rfl
   ·rw[cT]
  rw[this]
theorem D0 (f:An->An)(xs:List KD):JD (s.wA f) xs=JD s xs:=by
 cases xs with
 |nil=>rfl
 |cons x r=>simp only[JD,qD]
theorem z9 {f:An->An}(hf:C4 f)(v:AV):f (lD v)=lD v:=by
 unfold lD;split
 ·exact hf.ex
 ·exact hf.no
theorem QL (f:An->An)(xs:List KD):SI (s.wA f) xs=SI s xs:=by
 unfold SI;simp only[qD]
theorem IY (f:An->An)(d:Nat)(o:Option KD):wM (s.wA f) d o=wM s d o:=by
 cases o with
 |none=>rfl
 |some o=>simp only[wM,qD]
theorem Xi (f:An->An)(hf:C4 f)(g:Bool)(z off:Nat)(r:List WC):kD g z off (r.map (WC.wA f))=(kD g z off r).map (WC.wA f):=by
 unfold kD;cases g with
 |true =>
  simp only[if_true,yo];split
  ·simp only[yp,WC.wA,hf.no,<- List.map_drop,<- List.map_take,y3];rfl
  ·rfl
 |false=>simp
theorem Gd (f:An->An)(hf:C4 f)(z:List AV)(off ln:Nat)(r:List WC):Tu z off ln (r.map (WC.wA f))=(Tu z off ln r).map (·.map (WC.wA f)):=by
 have h:(HC (yj ln z)).map (WC.wA f)=HC (yj ln z):=by
  unfold HC;rw[y3];refine yw fun v _=>?_
  simp[WC.wA,hf.no]
 unfold Tu;rw[yo];split
 ·simp only[yp,List.map_append,List.map_take,List.map_drop,h]
 ·rfl
theorem N8 (f:An->An)(hf:C4 f)(g:Bool)(z off:Nat)(r:List WC)(v:AV)(a:An):MC g z off (r.map (WC.wA f)) v (f a)=(MC g z off r v a).map (·.map (WC.wA f)):=by
 unfold MC;cases g with
 |true =>
  simp only[if_true,yo];cases v<;>try rfl
  simp only;split
  ·simp only[yp,List.map_append,List.map_take,List.map_drop,y3];congr 3;apply yw;intro x _;simp[WC.wA,hf.no]
  ·rfl
 |false =>
  simp only[yr,if_false,yo];split
  ·simp[WC.wA,List.map_set]
  ·rfl
theorem Nu (f:An->An)(v:AV):v.uB (s.wA f)=v.uB s:=by
 have hm:∀t n,(s.wA f).mem t n=(s.mem t n).map (·.map (WC.wA f)):=fun _ _=>rfl
 have hr:∀(r:List WC) sz off len,xO (r.map (WC.wA f)) sz off len=xO r sz off len:=fun r sz off len=>by
  simp only[xO,yo];congr 2;exact yw fun i _=>by
   rw[<- List.map_drop,<- List.map_take,y3];rfl
 have h1:∀v:AV,v.wB (s.wA f)=v.wB s:=fun v=>by
  cases v<;>simp only[AV.wB,hm]
  rename_i t n sz off len cap;cases s.mem t n with
  |none=>rfl
  |some r=>simp only[yp,J,UQ]
 have th:AV.wB (s.wA f)=AV.wB s:=funext h1;have h0:∀v:AV,v.DA (s.wA f)=v.DA s:=fun v=>by
  cases v<;>simp only[AV.DA,hm]
  rename_i t n sz off len cap;cases s.mem t n with
  |none=>rfl
  |some r=>simp only[yp,J,UQ,s6,hr,th]
 have cf:AV.DA (s.wA f)=AV.DA s:=funext h0;cases v<;>simp only[AV.uB,h0,cf]
theorem Lo {f:An->An}(hf:C4 f)(k:K)(hk:Ta k=false):k.run call (s.wA f)=(k.run call s).map fun p=>(p.1.wA f,p.2.wA f):=by
  cases k with
  |mv x=>simp[K.run,qD,cP hf,WC.wA,rF.wA]
  |lA nt x xs=>rfl
  |dB x=>rfl
  | slz x =>
    simp only[K.run,qD];split<;>simp[WC.wA,rF.wA,hf.ex]
  | ent x =>
    simp only[K.run,qD,show(s.wA f).obj=s.obj from rfl];split
    · split
      · split
        · split
          · split
            · split<;>simp[WC.wA,rF.wA,hf.no]
            · rfl
          · rfl
        · rfl
      · rfl
    · rfl
  | kB x =>
    simp only[K.run,qD,show(s.wA f).obj=s.obj from rfl];split
    · split<;>simp[WC.wA,rF.wA,hf.no]
    · rfl
  | pick c a b =>
    simp only[K.run,qD,cP hf];split
    · rename_i t _
      cases t<;>simp[WC.wA,rF.wA]
    · rfl
  | alloc z =>
    simp only[K.run,yp,WC.wA,rF.wA,hf.no,y3];congr 3;apply yw;intro v _;simp only[Function.comp,WC.wA,lD];split<;>simp[hf.no,hf.ex]
  | box z x =>
    simp only[K.run,qD,cP hf];split
    · split
      · simp[WC.wA,rF.wA,hf.no,Function.comp_def]
      · rfl
    · split
      · simp[WC.wA,rF.wA,hf.no]
      · rfl
  | build z ps =>
    simp only[K.run,qD];split
    · rw [Option.map_map]
      congr 1;funext cs;simp[WC.wA,rF.wA,hf.no]
    · rfl
  | XA z n ps =>
    simp only[K.run,qD];split
    · simp[WC.wA,rF.wA,hf.ex]
    · rfl
  | load cl g z x =>
    simp only[K.run,qD];split
    · rename_i t n off _
      split
      · simp only [OC.wA]
        cases s.mem t n with
        |none=>rfl
        | some r =>
          simp only[yp,J];rw[show(fun x:WC=>(⟨x.v,f x.a⟩:WC))=WC.wA f from rfl,Xi f hf];cases kD g z off r<;>rfl
      · rfl
    · split
      · rfl
      · rename_i cs _ _ _
        cases bI g z cs<;>simp[WC.wA,rF.wA,hf.no]
    · split
      · rfl
      · rename_i cs _ _ _
        cases bI g z cs<;>simp[WC.wA,rF.wA,hf.no]
    · rfl
  | dC cl z x =>
    simp only[K.run,qD];split
    · simp[WC.wA,rF.wA,hf.no]
    · rename_i t n sz off ln _ _
      split
      · simp only [OC.wA]
        cases s.mem t n with
        |none=>rfl
        | some r =>
          simp only[yp,J];rw[show(fun x:WC=>(⟨x.v,f x.a⟩:WC))=WC.wA f from rfl,Gd f hf];cases Tu z off ln r<;>simp[WC.wA,rF.wA,hf.no]
      · rfl
    · rfl
  | store cl g z x y =>
    simp only[K.run,qD,cP hf];split
    · rename_i t n off _
      split
      · simp only [OC.wA]
        cases s.mem t n with
        |none=>rfl
        | some r =>
          simp only[yp,J];rw[show(fun x:WC=>(⟨x.v,f x.a⟩:WC))=WC.wA f from rfl,N8 f hf];cases MC g z off r (y.get s) (y.an s)<;>simp[WC.wA,rF.wA,hf.no]
      · rfl
    · rfl
  |mm b x y=>simp only[K.run,qD];cases d8 b (x.get s) (y.get s)<;>simp[WC.wA,rF.wA,hf.no]
  |bin op b x y=>simp only[K.run,qD];cases NK op b (x.get s) (y.get s)<;>simp[WC.wA,rF.wA,hf.no]
  | iC n ks x y =>
    simp only[K.run,qD];split
    · rename_i a b _ _
      cases iN ks a b<;>simp[WC.wA,rF.wA,hf.no]
    · rfl
  | gC n p x y =>
    simp only[K.run,qD];split
    · cases aX false (x.get s)<;>simp[WC.wA,rF.wA,hf.no]
    · cases aX true (x.get s)<;>simp[WC.wA,rF.wA,hf.no]
    · rfl
  |un op x=>simp only[K.run,qD];split<;>simp[WC.wA,rF.wA,hf.no]
  |conv o x=>simp only[K.run,qD];split<;>simp[WC.wA,rF.wA,hf.no]
  |BB x=>simp only[K.run,qD];split<;>simp[WC.wA,rF.wA,hf.no]
  | xB cl x =>
    simp only[K.run,qD,ER];split
    · rename_i l _
      cases bytesOf l<;>simp[WC.wA,rF.wA,hf.no]
    · rfl
  | PB cl l z x lo hi =>
    simp only[K.run,qD,IY];split
    · rename_i t n o _
      simp only[OC.wA];cases wM s 0 lo<;>try rfl
      cases wM s l hi<;>try rfl
      cases s.mem t n with
      |none=>rfl
      | some r =>
        simp only[yp,yo];split
        · split<;>simp[WC.wA,rF.wA,hf.no]
        · rfl
    · rfl
  | jC g xs =>
    simp only[K.run,qD];split<;>simp[WC.wA,rF.wA,hf.no]
  | RA cl x xs =>
    simp only[K.run,qD,TI,QL,dQ];split
    · split
      · rename_i vs ws _ _ _
        rename_i g cs _ _ _ _ _ _;cases call _ _ none with
        |none=>rfl
        | some r =>
          simp only[J];split
          · split<;>simp[WC.wA,rF.wA,hf.no]
          · rfl
      · rfl
    · rfl
  | dA cl g xs =>
    simp only[K.run,TU,D0];split
    · rename_i t n _
      split
      · simp only [OC.wA]
        cases s.mem t n with
        |none=>rfl
        | some r =>
          simp only[yp];cases SE s cl t n xs with
          |none=>rfl
          | some vs =>
            simp only[List.all_map,y3,yo];have e1:r.all ((fun x:WC=>x.v.iA) ∘ fun x=>(⟨x.v,f x.a⟩:WC))=r.all (fun x=>x.v.iA):=rfl;have e2:r.map ((fun x:WC=>x.v) ∘ fun x=>(⟨x.v,f x.a⟩:WC))=r.map (·.v):=rfl;rw[e1,e2];split
            · cases call g (.undef :: .undef :: vs) (some (.agg (r.map (·.v)))) with
              |none=>rfl
              | some q =>
                simp only[J];split
                · split<;>simp[WC.wA,rF.wA,hf.no,Function.comp_def,z9 hf]
                · rfl
            · rfl
      · rfl
    · rfl
  | wC z b zs x y =>
    simp only[K.run,qD];split
    · split
      · simp only [yp,WC.wA,rF.wA,hf.no,y3]
        congr 3;apply yw;intro v _;simp[WC.wA,hf.no]
      · rfl
    · rfl
  | slc st z x lo hi mx =>
    simp only[K.run,qD,IY];split
    · rfl
    · split
      · rfl
      · split<;>first
          |rfl
          | (split
             · split<;>(try split)<;>simp[WC.wA,rF.wA,hf.no]
             · rfl)
  |tB o x=>simp only[K.run,qD];split<;>simp[WC.wA,rF.wA,hf.no]
  | field g o z x =>
    simp only[K.run,qD];split
    · rename_i cs _
      cases bI g z (cs.drop o)<;>simp[WC.wA,rF.wA,hf.no]
    · rfl
  | pB l z x i =>
    simp only[K.run,qD];split
    · split
      · split<;>simp[WC.wA,rF.wA,hf.no]
      · rfl
    · rfl
  | nA z x i =>
    simp only[K.run,qD];split
    · split
      · rename_i k _ _ _ l _
        cases l[k]? with
        |none=>rfl
        |some cs=>simp only[J];split<;>simp[WC.wA,rF.wA,hf.no]
      · rename_i k _ _ l _
        cases l[k]? with
        |none=>rfl
        |some cs=>simp only[J];split<;>simp[WC.wA,rF.wA,hf.no]
      · split<;>simp[WC.wA,rF.wA,hf.no]
      · rfl
    · rfl
  | index x i =>
    simp only[K.run,qD];split
    · rename_i k b _ _
      cases b[k]?<;>simp[WC.wA,rF.wA,hf.no]
    · rfl
  | ext x i =>
    simp only[K.run,qD];split
    · rename_i vs _
      cases vs[i]?<;>simp[WC.wA,rF.wA,hf.no]
    · rfl
  | call cl g xs =>
    simp only[K.run,TI,QL];cases pG s cl xs with
    |none=>rfl
    | some vs =>
      simp only[J];split
      · cases call g vs none with
        |none=>rfl
        | some r =>
          simp only[J];split
          · split<;>simp[WC.wA,rF.wA,hf.no]
          · split<;>simp[WC.wA,rF.wA,hf.no]
      · rename_i t n _
        simp only[show(s.wA f).obj=s.obj from rfl];cases call g vs (s.obj t n)with
        |none=>rfl
        | some r =>
          simp only[J];split
          · rfl
          · split<;>simp[WC.wA,rF.wA,hf.no]
      · rfl
  | LA cl g z xs =>
    simp only[K.run,TI,QL];cases pG s cl xs with
    |none=>rfl
    | some vs =>
      simp only[J];split
      · rename_i t n _
        simp only[show(s.wA f).obj=s.obj from rfl];cases call g (.undef::vs) (s.obj t n)with
        |none=>rfl
        | some r =>
          simp only[J];split
          · split
            · split
              · simp[WC.wA,rF.wA,hf.no]
              · simp[WC.wA,rF.wA,hf.no,HC,Function.comp_def]
            · rfl
          · rfl
      · rfl
  | iB cl g z xs =>
    simp only[K.run,TI,QL];split
    · rename_i vs _ _
      cases call g (.undef::vs) none with
      |none=>rfl
      | some r =>
        simp only[J];split
        · rename_i b l
          split
          · split
            · simp[WC.wA,rF.wA,hf.ex]
            · split
              · rfl
              · simp[WC.wA,rF.wA,hf.no,HC,Function.comp_def]
          · rfl
        · rfl
    · rfl
  | PA cl g z L x xs =>
    simp only[K.run,TI,QL,qD,ER,cP hf,Ju hf];split
    · rename_i vs _ _
      split
      · split
        · split
          · rename_i l _
            split
            · cases call g (.undef :: .sl false l :: vs) (some (.int .i64 z)) with
              |none=>rfl
              | some r =>
                simp only[J];split
                · split
                  · simp[WC.wA,rF.wA,hf.no,HC,Function.comp_def]
                  · rfl
                · rfl
            · rfl
          · rfl
        · rename_i b _
          split
          · cases call g (.undef :: .sl b [] :: vs) (some (.int .i64 z)) with
            |none=>rfl
            | some r =>
              simp only[J];split
              · split
                · simp[WC.wA,rF.wA,hf.no,HC,Function.comp_def]
                · rfl
              · rfl
          · rfl
        · rfl
      · rfl
    · rfl
  | jB cl g xs =>
    have e:(xs.map fun x=>(x.get (s.wA f)).uB (s.wA f))=xs.map fun x=>(x.get s).uB s:=yw fun x _=>by rw[qD,Nu]
    simp only[K.run,e];split
    · cases call g (xs.map fun x=>(x.get s).uB s) none with
      |none=>rfl
      | some r =>
        simp only[J];split
        · split<;>simp[WC.wA,rF.wA,hf.no]
        · rfl
    · rfl
  |len st x=>simp only[K.run,qD];split<;>(try split)<;>simp[WC.wA,rF.wA,hf.no]
  |app cl e z b x y=>simp[Ta]at hk
  |fC=>simp[K.run,WC.wA,rF.wA,hf.no]
  |bad=>simp[K.run]
  |bC T e=>simp[K.run,WC.wA,rF.wA,hf.no]
  | OB ok ty z x k =>
    simp only[K.run,qD,show(s.wA f).obj=s.obj from rfl];split
    · split
      · split<;>simp[WC.wA,rF.wA,hf.no]
      · rfl
    · rfl
  | SB ty x k v =>
    simp only[K.run,qD,show(s.wA f).obj=s.obj from rfl];split
    · split
      · split<;>simp[WC.wA,rF.wA,hf.no]
      · rfl
    · rfl
  | LB x =>
    simp only[K.run,qD,show(s.wA f).obj=s.obj from rfl];split
    · split<;>simp[WC.wA,rF.wA,hf.no]
    · rfl
  | QB cl e z b x y =>
    simp only[K.run,qD,cP hf,ER];split
    · split
      · rename_i bb _ _ _ _ _
        rw[Fw hf];cases hx:OE bb (x.an s)with
        |no=>simp[hf.no]
        | ex =>
          simp only[hf.ex];split
          · simp[WC.wA,rF.wA,hf.ex]
          · simp[WC.wA,rF.wA,hf.no,Function.comp_def,HC]
        | own k e =>
          simp only;have:=hf.own k e;split
          · contradiction
          · rfl
      · rfl
    · rfl
  |sB cl e z b x y=>simp[Ta]at hk
  |qB cl e z b x y=>simp[Ta]at hk
  | AB sz z n ps =>
    simp only[K.run,qD];split
    · simp[WC.wA,rF.wA,hf.no,Function.comp_def,HC]
    · rfl
  |AA x=>simp only[K.run,qD];split<;>simp[WC.wA,rF.wA,hf.no]
end
end
section
open Go Go.RowKit
section
variable {P:Program} {O:XI} {nt B:Nat} {F0:FQ} {da:Av} {w0:World} {D:Nat->Prop} {s:OC} {a:Act} {w w':World} {ι:Ix} {Θ:jM} {o:Oper}
theorem D9 {α:Type}(sz:Nat):∀(len:Nat)(L:List α),len*sz<=L.length->((List.range len).map fun i=>(L.drop (i*sz)).take sz).flatten=L.take (len*sz)
 |0,L,_=>by simp
 |len+1,L,h=>by
  have h1:len*sz<=L.length:=by rw[yu]at h;omega
  rw[y0,List.map_append,List.flatten_append,D9 sz len L h1];simp only[yk,yq,yA,List.flatten_nil,List.append_nil];rw[yu,List.take_add]
theorem kJ {av:Av}{r:List WC}{cur:Array Value}(ka:QF ι Θ av w r cur){b:Nat}{ty:TypeId}(hb:w.heap[b]?=some (.cells cur ty (0,0))){sz off len:Nat}{m:List (List AV)}(h:bH r sz off len=some m):
  m.length=len/\(∀c∈m,c.length=sz)/\∃us,JE av w m.flatten us/\∀(j:Nat)(u:Value),us[j]?=some u->w.cell? ⟨b,off+j,none⟩=some u:=by
 unfold bH at h;split at h
 ·rename_i hc;injection h with h;subst h;have oe:∀x∈r.map (·.v),x.iA=true:=fun x hx=>by
   obtain⟨y,hy,rfl⟩:=yz.1 hx;exact y6.1 hc.2 y hy
  have si:((List.range len).map fun i=>((r.drop (off+i*sz)).take sz).map (·.v)).flatten=((r.map (·.v)).drop off).take (len*sz):=by
   rw[<- D9 sz len _ (by simp;omega)];congr 1;apply yw;intro i _;rw[List.drop_drop,List.map_take,List.map_drop]
  have pb:=wI (len*sz) (xH off ka.rep);refine⟨by simp,fun c zp=>?_,((cur.toList.take r.length).drop off).take (len*sz),?_,fun j u hu=>?_⟩
  ·obtain ⟨i,hi,rfl⟩:=yz.1 zp;have sc:i<len:=by simpa using hi
   have:(i+1)*sz<=len*sz:=yS _ sc;rw[yu]at this;simp;omega
  ·rw[si];exact cJ pb fun x hx=>oe x (List.mem_of_mem_drop (List.mem_of_mem_take hx))
  ·rw [cell_of_row w b (off + j) cur ty (0,0) hb];rw [yI] at hu;split at hu
   ·rw [yL,yI] at hu;split at hu
    ·simpa using hu
    ·cases hu
   ·cases hu
 ·cases h
theorem oO (R:LD P O nt B F0 da w0 D s a w ι Θ){v:Value}{y:AV}(hY:sD ι (uE da ι Θ) (zE ι Θ) w y v){cl:Cl}{m:List (List AV)}(h:y.elems s cl=some m){sz:Nat}(lb:0<sz)(ra:∀c∈m,c.length=sz):
  ∃us,JE (uE da ι Θ) w m.flatten us/\Sl (fun _=>False) w sz v m.length us:=by
 have pq:m.flatten.length=m.length*sz:=by
  clear h hY
  induction m with
  |nil=>simp
  |cons c r ih=>rw[yA,yC,ra c (by simp),ih (fun c hc=>ra c (by simp[hc])),yE,yu];omega
 have ja:∀{av:Av}{us:List Value},JE av w m.flatten us->us.length=m.length*sz:=fun h=>by
  have:=HE (SF (ι:=ι) h);omega
 cases y with
 |sl nil l =>
  injection h with h;subst h;rw[XF]at hY;simp only[gG]at hY;obtain⟨A,c,hv,hc,_,hn,hs⟩:=hY;rcases yG l.length with h0|h0
  ·have:l=[]:=yJ h0;subst this;exact⟨[],rfl,by simp,A,c,hv,hc,fun h=>by simp at h⟩
  ·cases nil with
   |true=>have:=(hn rfl).2.1;omega
   |false =>
    obtain⟨b,off,rfl,ka⟩:=(hs rfl).2 h0;obtain⟨us,hl,tc⟩:=gT (TH.1 ka);refine⟨us,hl,ja hl,_,c,hv,hc,fun _=>⟨b,off,rfl,?_,fun h=>h,fun j u hu=>(tc j u hu).1⟩⟩;have hp:0<us.length:=by rw[ja hl];exact Nat.mul_pos h0 lb
    exact MG (tc 0 us[0] (y7 hp)).1
 |bl l =>
  injection h with h;subst h;obtain⟨a',c,hv,hc,_,hs⟩:=hY;rcases yG l.length with h0|h0
  ·have:l=[]:=yJ h0;subst this;exact⟨[],rfl,by simp,some a',c,hv,hc,fun h=>by simp at h⟩
  ·obtain ⟨b,off,rfl,ka⟩:=hs h0;obtain ⟨us,hl,tc⟩:=fR (BL.1 ka);refine ⟨us,hl,ja hl,_,c,hv,hc,fun _=>⟨b,off,rfl,?_,fun h=>h,fun j u hu=>(tc j u hu).1⟩⟩;have hp:0<us.length:=by rw [ja hl]; exact Nat.mul_pos h0 lb
   exact MG (tc 0 us[0] (y7 hp)).1
 |ref t n sz' off len cap =>
  simp only[AV.elems]at h;split at h
  ·cases hm:s.mem t n with
   |none=>rw[hm]at h;cases h
   |some r =>
    rw[hm,J]at h;obtain⟨b,hb,ib,cc,jf,_,hv⟩:=jJ.1 hY;obtain⟨sf,b',cur,ty,na,ia,ka,_⟩:=R.rows t n r hm;rw[hb]at na;injection na with na;subst na;obtain⟨h1,h2,us,hl,tc⟩:=kJ ka ia h;subst h1;exact⟨us,hl,ja hl,_,cc,hv,yt ib jf,fun _=>⟨b,off,rfl,DC ia,fun h=>h,tc⟩⟩
  ·cases h
 |_=>simp[AV.elems]at h
theorem eS {av:Av}{r:List WC}{cur:Array Value}(ka:QF ι Θ av w r cur){b:Nat}{ty:TypeId}(hb:w.heap[b]?=some (.cells cur ty (0,0))){sz off len:Nat}{m:List (List AV)}(h:xO r sz off len=some m):
  m.length=len/\(∀c∈m,c.length=sz)/\∃us,iD ι av w m.flatten us/\∀(j:Nat)(u:Value),us[j]?=some u->w.cell? ⟨b,off+j,none⟩=some u:=by
 unfold xO at h;split at h
 ·rename_i hc;injection h with h;subst h;have si:((List.range len).map fun i=>((r.drop (off+i*sz)).take sz).map (·.v)).flatten=((r.map (·.v)).drop off).take (len*sz):=by
   rw[<- D9 sz len _ (by simp;omega)];congr 1;apply yw;intro i _;rw[List.drop_drop,List.map_take,List.map_drop]
  have pb:=wI (len*sz) (xH off ka.rep);refine⟨by simp,fun c zp=>?_,((cur.toList.take r.length).drop off).take (len*sz),?_,fun j u hu=>?_⟩
  ·obtain ⟨i,hi,rfl⟩:=yz.1 zp;have sc:i<len:=by simpa using hi
   have:(i+1)*sz<=len*sz:=yS _ sc;rw[yu]at this;simp;omega
  ·rw[si];exact pb
  ·rw [cell_of_row w b (off + j) cur ty (0,0) hb];rw [yI] at hu;split at hu
   ·rw [yL,yI] at hu;split at hu
    ·simpa using hu
    ·cases hu
   ·cases hu
 ·cases h
theorem It (R:LD P O nt B F0 da w0 D s a w ι Θ){v:Value}{y:AV}(hY:sD ι (uE da ι Θ) (zE ι Θ) w y v){cl:Cl}{m:List (List AV)}(h:y.nB s cl=some m){sz:Nat}(lb:0<sz)(ra:∀c∈m,c.length=sz):
  ∃us,iD ι (uE da ι Θ) w m.flatten us/\Sl (fun _=>False) w sz v m.length us:=by
 have pq:m.flatten.length=m.length*sz:=by
  clear h hY
  induction m with
  |nil=>simp
  |cons c r ih=>rw[yA,yC,ra c (by simp),ih (fun c hc=>ra c (by simp[hc])),yE,yu];omega
 have ja:∀{av:Av}{us:List Value},iD ι av w m.flatten us->us.length=m.length*sz:=fun h=>by
  have:=HE h;omega
 have old:∀(hm:y.elems s cl=some m),∃us,iD ι (uE da ι Θ) w m.flatten us/\Sl (fun _=>False) w sz v m.length us:=fun hm=>by
  obtain⟨us,h1,h2⟩:=oO R hY hm lb ra;exact⟨us,SF h1,h2⟩
 cases y with
 |sl nil l=>exact old h
 |bl l=>exact old h
 |ref t n sz' off len cap =>
  simp only[AV.nB]at h;split at h
  ·cases hm:s.mem t n with
   |none=>rw[hm]at h;cases h
   |some r =>
    rw[hm,J]at h;obtain⟨b,hb,ib,cc,jf,_,hv⟩:=jJ.1 hY;obtain⟨sf,b',cur,ty,na,ia,ka,_⟩:=R.rows t n r hm;rw[hb]at na;injection na with na;subst na;obtain⟨h1,h2,us,hl,tc⟩:=eS ka ia h;subst h1;exact⟨us,hl,ja hl,_,cc,hv,yt ib jf,fun _=>⟨b,off,rfl,DC ia,fun h=>h,tc⟩⟩
  ·cases h
 |_=>simp[AV.nB]at h
theorem N6 {t e:TypeId}{i:TypeInfo}{z:Value}(ht:P.underlying t=some (.slice e))(hi:P.info? e=some i)(ty:TypeId){g n c:Nat}{cur:Array Value}(hg:w.heap[g]?=some (.cells cur e (0,0)))(te:cur.size=c*i.size)(_hz:i.zero=some z)
  {src:Value} {m:Nat} {news:List Value} (hs:Sl (fun _=>False) w i.size src m news) (h1:∀u∈news,u.oneCell'=true) (ib:n+m<=c) :
  (Builtin.append_ #[t,t] ty #[.slice (some ⟨g,0,none⟩) n c,src]).run P w=.ok (.slice (some ⟨g,0,none⟩) (n+m) c) (w.setRow g (cur.toList.take (n*i.size)++news++cur.toList.drop (n*i.size+news.length)).toArray):=by
 obtain⟨hl,A,c',rfl,hc,nb⟩:=hs;have wa:n*i.size+news.length<=cur.size:=by rw[hl,te,<- Nat.add_mul];exact yS _ ib
 cases A with
 |none =>
  have hm:m=0:=by
   rcases yG m with h|h
   ·exact h
   ·obtain⟨b,off,hA,_⟩:=nb h;cases hA
  subst hm;have dv:news=[]:=yJ (by simpa using hl);subst dv;simp only[Nat.add_zero]at ib;have xr:w.setRow g (cur.toList.take (n*i.size)++[]++cur.toList.drop (n*i.size+([]:List Value).length)).toArray=w:=by
   simp only[List.append_nil,List.length_nil,Nat.add_zero,yR,yK];exact setRow_self w g cur e (0,0) hg
  rw[xr];simp[Builtin.append_,run_underlying ht,sizeOf,typeInfo,hi,Builtin.lenOf,Builtin.firstCells,ib,storeCells]
 |some a =>
  refine run_append_room (P:=P) w t ty e i ht hi g n c cur hg a m c' news hl (fun j u hu=>?_) h1 ib wa;have hm:0<m:=by
   rcases yG m with h|h
   ·subst h;have:=(yn.1 hu).1;omega
   ·exact h
  obtain⟨b,off,hA,_,_,ed⟩:=nb hm;injection hA with hA;subst hA;rw[Addr.add_lit];exact ed j u hu
theorem qX {t e:TypeId}{i:TypeInfo}(ht:P.underlying t=some (.slice e))(hi:P.info? e=some i)(ty:TypeId){A:Option Addr}{n c:Nat}(ib:n<=c){src:Value}{news:List Value}(hs:Sl (fun _=>False) w i.size src 0 news):
  (Builtin.append_ #[t,t] ty #[.slice A n c,src]).run P w=.ok (.slice A n c) w:=by
 obtain⟨hl,A',c',rfl,hc,nb⟩:=hs;cases A'<;>cases A<;>simp[Builtin.append_,run_underlying ht,sizeOf,typeInfo,hi,Builtin.lenOf,Builtin.firstCells,ib,storeCells,loadCells,loadCellsFrom]
def Zg (w:World)(xs news:List Value)(z:Value)(e:TypeId)(need c:Nat):World:=w.drew.alloc (.cells (xs.toArray++news.toArray++Builtin.zeroCells z.cells (grownCap w need c e-need)) e)
theorem MW {t e:TypeId}{i:TypeInfo}{z:Value}(ht:P.underlying t=some (.slice e))(hi:P.info? e=some i)(hz:i.zero=some z)(ty:TypeId){A:Option Addr}{n c:Nat}{xs:List Value}(kc:xs.length=n*i.size)(hA:A=none->n=0/\c=0)(hx:∀a,A=some a->∀j u,xs[j]?=some u->w.cell? (a.add j)=some u)
  {src:Value} {m:Nat} {news:List Value} (hs:Sl (fun _=>False) w i.size src m news) (fa:c<n+m) (hnc:n<=c) (zz:n+m<=140737488355328) (md:(n+m)*i.bytes<=140737488355328) :
  (Builtin.append_ #[t,t] ty #[.slice A n c,src]).run P w=.ok (.slice (some ⟨w.heap.size,0,none⟩) (n+m) (grownCap w (n+m) c e)) (Zg w xs news z e (n+m) c):=by
 obtain⟨hl,A',c',rfl,hc,nb⟩:=hs;have hm:0<m:=by omega
 obtain⟨b,off,rfl,_,_,ed⟩:=nb hm;have td:∀j u,news[j]?=some u->w.cell? ((⟨b,off,none⟩:Addr).add j)=some u:=fun j u hu=>by rw[Addr.add_lit];exact ed j u hu
 cases A with
 |none =>
  obtain⟨rfl,rfl⟩:=hA rfl;have gg:xs=[]:=yJ (by simpa using kc);subst gg;have:=run_append_nil (P:=P) w t ty e i z ht hi hz ⟨b,off,none⟩ m c' news hl td hm (by omega) (by rw[yy]at md;omega);simpa [Zg]using this
 |some a =>
  exact run_append_grow (P:=P) w t ty e i z ht hi hz a n c xs kc (hx a rfl) ⟨b,off,none⟩ m c' news hl td fa (by omega) (growslice_fits (by omega) md)
section
variable (R:LD P O nt B F0 da w0 D s a w ι Θ)
include R
theorem LD.fam (Θ':jM)(f:An->An)(gd:∀b o,zE ι Θ' b o->zE ι Θ b o)(cw:∀A v,TM Θ A v->TM Θ' (f A) v)
  (tok:∀k o,Θ' k=some o->B<=o.g/\0<o.sz/\o.n<=o.c/\o.c<=maxLen/\∃cur,w.heap[o.g]?=some (.cells cur o.e (0,0))/\(cur.size=o.c*o.sz/\fE P o.e=some o.sz)) (OA:∀k k' o o',Θ' k=some o->Θ' k'=some o'->o.g=o'.g->k=k') (apart:∀k o t n,Θ' k=some o->ι t n≠some o.g)
  (qC:∀k o t n H,Θ' k=some o->ι.ob t n=some H->¬H o.g) :
  LD P O nt B F0 da w0 D (s.wA f) a w ι Θ':=by
 have hB:aD (zE ι Θ) (zE ι Θ') w w:=aD.less gd;have hA:aD (uE da ι Θ) (uE da ι Θ') w w:=aD.less fun b o h=>h.imp id (gd b o)
 refine⟨R.defers,R.size,fun t=>sD.held (Ix.Le.refl _) hA hB _ _ (R.env t),fun t=>cw _ _ (R.ZB t),fun t n r hr=>?_,R.mine,R.inj,tok,OA,apart,R.out,R.pin,R.kept,R.base,R.WA,fun t n H h=>?_,fun t=>sD.held (Ix.Le.refl _) hA hB _ _ (R.gen t),fun t=>cw _ _ (R.CA t)⟩
 ·simp only [OC.wA] at hr;cases hm:s.mem t n with
  |none=>rw[hm]at hr;cases hr
  |some r0 =>
   rw[hm]at hr;injection hr with hr;subst hr;obtain⟨h0,b,cur,ty,h1,h2,⟨h3,h4⟩,h8⟩:=R.rows t n r0 hm;refine⟨h0,b,cur,ty,h1,h2,⟨by simpa using h3,fun j x hx=>?_⟩,h8⟩;rw[yb]at hx;cases hj:r0[j]? with
   |none=>rw[hj]at hx;cases hx
   |some y =>
    rw[hj]at hx;injection hx with hx;subst hx;obtain⟨u,hu,h5,h6,h7⟩:=h4 j y hj;exact⟨u,hu,h5,gD.held (Ix.Le.refl _) hA _ _ h6,cw _ _ h7⟩
 ·obtain⟨h1,h2⟩:=R.obs t n H h;exact⟨fun b hb=>let⟨g1,g2,g3,_,g5⟩:=h1 b hb;⟨g1,g2,g3,fun k o hk e=>qC k o t n H hk h (e▸hb),g5⟩,h2⟩
theorem LD.spare {k:Nat}{ow:Ow}(hk:Θ k=some ow){cur new:Array Value}(te:w.heap[ow.g]?=some (.cells cur ow.e (0,0)))(ra:new.size=cur.size)(ff:∀j,j<ow.n*ow.sz->new[j]?=cur[j]?):
  LD P O nt B F0 da w0 D s a (w.setRow ow.g new) ι Θ:=by
 have ua:∀b',b'≠ow.g->(w.setRow ow.g new).heap[b']?=w.heap[b']?:=fun b' h=>setRow_other w ow.g b' new h
 have bc:(w.setRow ow.g new).heap[ow.g]?=some (.cells new ow.e (0,0)):=setRow_heap w ow.g cur new ow.e (0,0) te;have fe:∀b o u,w.cell? ⟨b,o,none⟩=some u->(b=ow.g->o<ow.n*ow.sz)->(w.setRow ow.g new).cell? ⟨b,o,none⟩=some u:=fun b o u hc fa=>by
  by_cases hb:b=ow.g
  ·subst hb;rw[cell_of_row _ ow.g o new ow.e (0,0) bc,ff o (fa rfl),<- cell_of_row w ow.g o cur ow.e (0,0) te];exact hc
  ·exact(World.cell?_of_block (w:=w) (a:=⟨b,o,none⟩) (ua b hb)).trans hc
 have hB:aD (zE ι Θ) (zE ι Θ) w (w.setRow ow.g new):=⟨fun b o u hc hn=>⟨fe b o u hc fun e=>by
  rcases Nat.lt_or_ge o (ow.n*ow.sz)with h|h
  ·exact h
  ·exact absurd (.inr ⟨k,ow,hk,e.symm,h⟩) hn,hn⟩⟩
 have hA:aD (uE da ι Θ) (uE da ι Θ) w (w.setRow ow.g new):=⟨fun b o u hc hn=>⟨fe b o u hc fun e=>by
  rcases Nat.lt_or_ge o (ow.n*ow.sz)with h|h
  ·exact h
  ·exact absurd (.inr (.inr ⟨k,ow,hk,e.symm,h⟩)) hn,hn⟩⟩
 refine⟨R.defers,R.size,fun t=>sD.held (Ix.Le.refl _) hA hB _ _ (R.env t),R.ZB,fun t n r hr=>?_,fun t n b h=>?_,R.inj,fun j o h=>?_,R.OA,R.apart,R.out,R.pin,?_,R.base,fun t n S h=>?_,fun t n H h=>(R.obs t n H h).grow (by simp),fun t=>sD.held (Ix.Le.refl _) hA hB _ _ (R.gen t),R.CA⟩
 ·obtain ⟨h0,b,db,ty,h1,h2,h3,h8⟩:=R.rows t n r hr;have:b≠ow.g:=fun e=>R.apart k ow t n hk (e ▸ h1)
  exact⟨h0,b,db,ty,h1,(ua b this).trans h2,h3.held (Ix.Le.refl _) hA (fun _ _ h=>h),h8⟩
 ·obtain⟨h1,h2,h3⟩:=R.mine t n b h;exact⟨h1,by simpa using h2,h3⟩
 ·obtain ⟨h1,h2,h3,h4,db,h5,h6⟩:=R.tok j o h;by_cases hg:o.g=ow.g
  ·have:=R.OA _ _ _ _ h hk hg;subst this;rw[hk]at h;injection h with h;subst h;rw[te]at h5;injection h5 with h5;injection h5 with h5;subst h5;exact⟨h1,h2,h3,h4,new,bc,ra.trans h6.1,h6.2⟩
  ·exact⟨h1,h2,h3,h4,db,(ua _ hg).trans h5,h6⟩
 ·have:=(R.tok k ow hk).1;have hb:=R.base.1;exact R.kept.setRow (fun fa=>by omega) _
 ·obtain ⟨p,H,h1,h2,h3,h4⟩:=R.WA t n S h;have cn:∀ b',H b'->b'≠ow.g:=fun b' hH e=>(((R.obs _ _ _ h2).1 _ hH).2.2.2.1 k ow hk) e.symm
  exact⟨p,H,h1,h2,O.keep h3 (fun b' hH=>ua b' (cn b' hH)) (by simp),h4.keep (fun t n b H h g=>⟨h,H,g⟩) fun x hx=>(ua p (cn p (O.main h3))).trans hx⟩
theorem LD.fresh {d:Nat}(hd:Θ d=none){cur:Array Value}{e:TypeId}{n c sz:Nat}(te:cur.size=c*sz)(ra:0<sz)(hn:n<=c)(hc:c<=maxLen)(htz:fE P e=some sz):
  LD P O nt B F0 da w0 D s a (w.drew.alloc (.cells cur e)) ι (fun j=>if j=d then some ⟨w.heap.size,n,c,sz,e⟩else Θ j):=by
 have df:∀b,b<w.heap.size->(w.drew.alloc (.cells cur e)).heap[b]?=w.heap[b]?:=fun b hb=>Below.heap_alloc w.drew _ b hb
 have jh:∀b o,b<w.heap.size->zE ι (fun j=>if j=d then some ⟨w.heap.size,n,c,sz,e⟩else Θ j) b o->zE ι Θ b o:=fun b o hb h=>h.imp id fun⟨k,ow,h,h1,h2⟩=>by
  by_cases e:k=d
  ·simp only[if_pos e]at h;injection h with h;subst h;simp only at h1;omega
  ·simp only[if_neg e]at h;exact⟨k,ow,h,h1,h2⟩
 have hB:aD (zE ι Θ) (zE ι (fun j=>if j=d then some ⟨w.heap.size,n,c,sz,e⟩else Θ j)) w (w.drew.alloc (.cells cur e)):=aD.grown df jh;have hA:aD (uE da ι Θ) (uE da ι (fun j=>if j=d then some ⟨w.heap.size,n,c,sz,e⟩else Θ j)) w (w.drew.alloc (.cells cur e)):=aD.grown df fun b o hb h=>h.imp id (jh b o hb)
 have hΘ:∀k o,Θ k=some o->(fun j=>if j=d then some ⟨w.heap.size,n,c,sz,e⟩else Θ j) k=some o:=fun k o h=>by
  by_cases e:k=d
  ·subst e;rw[hd]at h;cases h
  ·simp only[if_neg e];exact h
 have cw:∀A v,TM Θ A v->TM (fun j=>if j=d then some ⟨w.heap.size,n,c,sz,e⟩else Θ j) A v:=fun A v h=>by
  cases A with
  |no=>trivial
  |ex=>exact h
  |own k e'=>exact h.imp id fun⟨ow,h1,h2⟩=>⟨ow,hΘ _ _ h1,h2⟩
 have pg:w.heap.size<=(w.drew.alloc (.cells cur e)).heap.size:=by
  have:(w.drew.alloc (.cells cur e)).heap.size=w.drew.heap.size+1:=World.size_alloc _ _;have h4:w.drew.heap.size=w.heap.size:=rfl;omega
 refine⟨R.defers,R.size,fun t=>sD.held (Ix.Le.refl _) hA hB _ _ (R.env t),fun t=>cw _ _ (R.ZB t),fun t n r hr=>?_,fun t n b h=>?_,R.inj,fun j o h=>?_,fun k k' o o' h h' hg=>?_,fun k o t n h h'=>?_,R.out,R.pin,R.kept.drew.alloc _,R.base,fun t n S h=>?_,fun t n H h=>?_,fun t=>sD.held (Ix.Le.refl _) hA hB _ _ (R.gen t),fun t=>cw _ _ (R.CA t)⟩
 ·obtain⟨h0,b,db,ty,h1,h2,h3,h8⟩:=R.rows t n r hr;exact⟨h0,b,db,ty,h1,(df b (DC h2)).trans h2,h3.held (Ix.Le.refl _) hA hΘ,h8⟩
 ·obtain⟨h1,h2,h3⟩:=R.mine t n b h;exact⟨h1,by omega,h3⟩
 ·by_cases e':j=d
  ·simp only[if_pos e']at h;injection h with h;subst h;exact⟨R.eC,ra,hn,hc,cur,nT rfl,te,htz⟩
  ·simp only[if_neg e']at h;obtain⟨h1,h2,h3,h4,db,h5,h6⟩:=R.tok j o h;exact⟨h1,h2,h3,h4,db,(df _ (DC h5)).trans h5,h6⟩
 ·by_cases e1:k=d <;> by_cases e2:k'=d
  ·rw[e1,e2]
  ·simp only[if_pos e1]at h;simp only[if_neg e2]at h';injection h with h;subst h;obtain⟨_,_,_,_,db,h5,_⟩:=R.tok _ _ h';have:=DC h5;simp only at hg;omega
  ·simp only[if_neg e1]at h;simp only[if_pos e2]at h';injection h' with h';subst h';obtain⟨_,_,_,_,db,h5,_⟩:=R.tok _ _ h;have:=DC h5;simp only at hg;omega
  ·simp only[if_neg e1]at h;simp only[if_neg e2]at h';exact R.OA _ _ _ _ h h' hg
 ·by_cases e':k=d
  ·simp only[if_pos e']at h;injection h with h;subst h;have:=(R.mine _ _ _ h').2.1;simp only at this;omega
  ·simp only[if_neg e']at h;exact R.apart k o t n h h'
 ·obtain⟨p,H,h1,h2,h3,h4⟩:=R.WA t n S h;exact⟨p,H,h1,h2,O.keep h3 (fun b' hH=>df b' (O.lt h3 hH)) pg,h4.keep (fun t n b H h g=>⟨h,H,g⟩) fun x hx=>(df _ (DC hx)).trans hx⟩
 ·obtain ⟨h1,h2⟩:=R.obs t n H h;refine ⟨fun b hb=>?_,h2⟩;obtain ⟨g1,g2,g3,g4,g5⟩:=h1 b hb;refine ⟨g1,by omega,g3,fun k o hk=>?_,g5⟩;by_cases e':k=d
  ·simp only[if_pos e']at hk;injection hk with hk;subst hk;simp only;omega
  ·simp only[if_neg e']at hk;exact g4 k o hk
end
end
end
end Go.Proofs.YthnefkpplcmjdaaGreat
