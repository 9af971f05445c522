/- A machine over plain values: what a function's code computes where nothing but its own new memory is written. Definitions only; no function of the program. -/
import Derived.Calls
import Derived.Orders
import Derived.Below
import Derived.Scope
namespace Go.Proofs.Ytinpinjjdkilpaa
open Go
/-- Plain values. sl: a slice that nobody writes to, by its elements' cells; ptr, ref: into memory of the call's own (slot, count, offset); ip: into memory that nobody writes to; bp, bl: into memory that nobody writes to while the call lasts. -/
inductive AV where
  | int (k : IntKind) (n : Int)
  | bool (b : Bool)
  | str (s : ByteArray)
  | nilP
  | ptr (t n off : Nat)
  | ip (cs : List AV)
  | bp (cs : List AV)
  | sl (nil : Bool) (l : List (List AV))
  | bl (l : List (List AV))
  | ref (t n sz off len cap : Nat)
  | agg (cs : List AV)
  | tup (vs : List AV)
  | undef
  deriving Inhabited
/-- may be appended to: no; exact: its capacity is its length, or it is nil; own: it is the one slice of its family that reaches to the end of what is used -/
inductive An where
  | no
  | ex
  | own (k : Nat) (e : TypeId)
structure Slot where
  v : AV
  a : An
inductive Opd where
  | t (n : Nat)
  | c (v : AV)
  deriving Inhabited
/-- what is known of an address: nothing; it lies in memory that nobody writes to; it lies in the box that slot t made -/
inductive Cl where
  | any
  | imm
  | root (t : Nat)
inductive K where
  | mv (x : Opd)
  | pick (c a b : Opd)
  | alloc (zero : List AV)
  | box (size : Nat) (x : Opd)
  | build (zero : List AV) (parts : List (Nat × Nat × Opd))
  | bsl (zero : List AV) (n : Nat) (parts : List (Nat × Opd))
  | load (cl : Cl) (agg : Bool) (size : Nat) (x : Opd)
  | store (cl : Cl) (agg : Bool) (size : Nat) (x y : Opd)
  | bin (op : BinOp) (bl : Bool) (x y : Opd)
  | eqa (neg : Bool) (ks : List Nat) (x y : Opd)
  | eqn (neg ptr : Bool) (x y : Opd)
  | un (op : UnOp) (x : Opd)
  | conv (k : Option IntKind) (x : Opd)
  | mks (size bytes : Nat) (zero : List AV) (len cap : Opd)
  | slc (str : Bool) (size : Nat) (x : Opd) (lo hi mx : Option Opd)
  | faddr (off : Nat) (x : Opd)
  | field (agg : Bool) (off size : Nat) (x : Opd)
  | iaddr (size : Nat) (x i : Opd)
  | index (x i : Opd)
  | ext (x : Opd) (i : Nat)
  | call (cl : Cl) (f : Nat) (xs : List Opd)
  | len (str : Bool) (x : Opd)
  | app (cl : Cl) (e : TypeId) (size bytes : Nat) (x y : Opd)
  | nilchk (x : Opd)
  deriving Inhabited
instance : Inhabited Cl := ⟨.any⟩
structure OpC where
  dst : Option Nat
  op : K
  guard : Option (Nat × Bool)
inductive C where
  | skip
  | seq (a b : C)
  | reg (ops : List OpC)
  | cond (c : Opd) (t e : C)
  | block (id : Nat) (b : C)
  | loop (b : C)
  | exit (id : Nat)
  | ret
inductive Ex where
  | nrm
  | exit (id : Nat)
  | ret
structure MSt where
  env : Nat → Slot
  mem : Nat → Nat → Option (List Slot)
  next : Nat
  obj : Nat → Nat → Option AV
def An.strip (k : Nat) : An → An
  | .own j e => if j = k then .no else .own j e
  | a => a
def Slot.strip (k : Nat) (x : Slot) : Slot := ⟨x.v, x.a.strip k⟩
def MSt.strip (s : MSt) (k : Nat) : MSt := ⟨fun t => (s.env t).strip k, fun t n => (s.mem t n).map (·.map (Slot.strip k)), s.next, s.obj⟩
def MSt.stripA (s : MSt) : An → MSt
  | .own k _ => s.strip k
  | _ => s
def MSt.put (s : MSt) (d : Option Nat) (x : Slot) : MSt := match d with
  | some d => { s with env := fun t => if t = d then x else s.env t }
  | none => s
def MSt.setRow (s : MSt) (t n : Nat) (r : List Slot) : MSt := { s with mem := fun t' n' => if t' = t ∧ n' = n then some r else s.mem t' n' }
def MSt.setObj (s : MSt) (t n : Nat) (S : AV) : MSt := { s with obj := fun t' n' => if t' = t ∧ n' = n then some S else s.obj t' n' }
def Opd.get (s : MSt) : Opd → AV
  | .t n => (s.env n).v
  | .c v => v
def Opd.an (s : MSt) : Opd → An
  | .t n => (s.env n).a
  | .c (.sl true _) => .ex
  | .c _ => .no
def AV.cells : AV → List AV
  | .agg cs => cs
  | v => [v]
/-- fits into one cell of memory -/
def AV.leaf : AV → Bool
  | .agg _ | .tup _ | .bp _ | .bl _ | .undef => false
  | _ => true
/-- may be a part of a struct -/
def AV.whole : AV → Bool
  | .agg _ => true
  | v => v.leaf
/-- may lie in a slice: no address of the call's own, none that is lent -/
def AV.free0 : AV → Bool
  | .ptr .. | .bp _ | .bl _ | .ref .. | .undef | .agg _ | .tup _ => false
  | _ => true
def AV.free : AV → Bool
  | .agg cs => cs.all AV.free0
  | v => v.free0
/-- what a row holds, by elements of sz cells -/
def rowEls (row : List Slot) (sz off len : Nat) : Option (List (List AV)) :=
  if off + len * sz ≤ row.length ∧ row.all (fun x => x.v.free0) then some ((List.range len).map fun i => ((row.drop (off + i * sz)).take sz).map (·.v)) else none
def Cl.okMem : Cl → Bool
  | .any => true
  | _ => false
def AV.elems (s : MSt) (cl : Cl) : AV → Option (List (List AV))
  | .sl _ l => some l
  | .bl l => some l
  | .ref t n sz off len _ => if cl.okMem then (s.mem t n).bind fun r => rowEls r sz off len else none
  | _ => none
def natOf : AV → Option Nat
  | .int _ n => if 0 ≤ n then some n.toNat else none
  | _ => none
def endC (s : MSt) (d : Nat) : Option Opd → Option Nat
  | none => some d
  | some o => natOf (o.get s)
def fillC (cells : List AV) : List (Nat × Nat × List AV) → Option (List AV)
  | [] => some cells
  | (off, size, v) :: r => if v.length = size ∧ off + size ≤ cells.length then fillC (cells.take off ++ v ++ cells.drop (off + size)) r else none
def binC (op : BinOp) (bl : Bool) : AV → AV → Option AV
  | .int k a, .int k' b => if k = k' then (match op with
    | .add => some (.int k (k.wrap (a + b)))
    | .sub => some (.int k (k.wrap (a - b)))
    | .mul => some (.int k (k.wrap (a * b)))
    | .quo => if b = 0 then none else some (.int k (k.wrap (a.tdiv b)))
    | .rem => if b = 0 then none else some (.int k (a.tmod b))
    | .eql => some (.bool (decide (a = b)))
    | .neq => some (.bool (!decide (a = b)))
    | .lss => some (.bool (decide (a < b)))
    | .leq => some (.bool (decide (a ≤ b)))
    | .gtr => some (.bool (decide (b < a)))
    | .geq => some (.bool (decide (b ≤ a)))
    | _ => none) else none
  | .str a, .str b => match op with
    | .add => if a.size + b.size ≤ 9223372036854775807 then some (.str (a ++ b)) else none
    | .eql => some (.bool (decide (a = b)))
    | .neq => some (.bool (!decide (a = b)))
    | .lss => some (.bool (Op.bytesLess a.toList b.toList))
    | .gtr => some (.bool (!(Op.bytesLess a.toList b.toList || decide (a = b))))
    | .leq => some (.bool (Op.bytesLess a.toList b.toList || decide (a = b)))
    | .geq => some (.bool (!Op.bytesLess a.toList b.toList))
    | _ => none
  | .bool a, .bool b => if bl then (match op with
    | .eql => some (.bool (a == b))
    | .neq => some (.bool (!(a == b)))
    | _ => none) else none
  | _, _ => none
/-- cells that are alike: numbers (0), letters (1), truth (2) -/
def eqC : List Nat → List AV → List AV → Option Bool
  | [], [], [] => some true
  | 0 :: ks, .int k a :: r, .int k' b :: r' => if k = k' then (if a = b then eqC ks r r' else some false) else none
  | 1 :: ks, .str a :: r, .str b :: r' => if a = b then eqC ks r r' else some false
  | 2 :: ks, .bool a :: r, .bool b :: r' => if a = b then eqC ks r r' else some false
  | _, _, _ => none
def isNil : Bool → AV → Option Bool
  | false, .sl true _ => some true
  | false, .sl false l => if l.isEmpty then none else some false
  | false, .bl _ => some false
  | false, .ref .. => some false
  | true, .nilP => some true
  | true, .ptr .. => some false
  | true, .ip _ => some false
  | true, .bp _ => some false
  | _, _ => none
inductive Eff where
  | none
  | new (r : List Slot)
  | set (t n : Nat) (r : List Slot)
  | app (a : An) (k : Nat)
  | obj (t n : Nat) (S : AV)
  | mk (S : AV)
def Cl.okPtr : Cl → Nat → Bool
  | .any, _ => true
  | .imm, _ => false
  | .root r, t => r == t
def loadC (agg : Bool) (size off : Nat) (row : List Slot) : Option Slot :=
  if agg then (if off + size ≤ row.length then some ⟨.agg (((row.drop off).take size).map (·.v)), .no⟩ else none)
  else row[off]?
def loadI (agg : Bool) (size : Nat) (cs : List AV) : Option AV :=
  if agg then (if size ≤ cs.length then some (.agg (cs.take size)) else none) else cs[0]?
/-- what is handed to a call -/
def lend (s : MSt) (cl : Cl) : AV → Option AV
  | .ref t n sz off len _ => if cl.okMem then ((s.mem t n).bind fun r => rowEls r sz off len).map .bl else none
  | .bl l => some (.bl l)
  | .bp l => some (.bp l)
  | .ptr t n off => if off = 0 ∧ cl.okMem ∧ (s.obj t n).isSome then some (.ptr 0 0 0) else none
  | v => if v.free then some v else none
/-- the objects among the arguments -/
def objsOf (s : MSt) (xs : List Opd) : List (Nat × Nat) := xs.filterMap fun x => match x.get s with
  | .ptr t n _ => some (t, n)
  | _ => none
def lendAll (s : MSt) (cl : Cl) : List Opd → Option (List AV)
  | [] => some []
  | x :: r => match lend s cl (x.get s), lendAll s cl r with
    | some v, some vs => some (v :: vs)
    | _, _ => none
def AV.back : AV → Bool
  | .tup vs => vs.all AV.free
  | v => v.free
/-- an object's address -/
def AV.isObj : AV → Bool
  | .ptr 0 0 0 => true
  | _ => false
/-- what a call that makes an object gives back -/
def AV.backN : AV → Bool
  | .tup vs => vs.all fun v => v.free || v.isObj
  | v => v.isObj
def AV.named (d n : Nat) : AV → AV
  | .tup vs => .tup (vs.map fun v => if v.isObj then .ptr d n 0 else v)
  | v => if v.isObj then .ptr d n 0 else v
abbrev RV := AV × Option AV
abbrev CallT := Nat → List AV → Option AV → Option RV
abbrev LpT := C → MSt → (Ex → MSt → Option RV) → Option RV
def setRowC (agg : Bool) (size off : Nat) (row : List Slot) (x : AV) (a : An) : Option (List Slot) :=
  if agg then match x with
    | .agg cs => if cs.length = size ∧ off + size ≤ row.length then some (row.take off ++ cs.map (⟨·, .no⟩) ++ row.drop (off + size)) else none
    | _ => none
  else if x.leaf ∧ off < row.length then some (row.set off ⟨x, a⟩) else none
/-- what a cell of new memory may be appended to -/
def zeroAn : AV → An
  | .sl true _ => .ex
  | _ => .no
def K.run (call : CallT) (s : MSt) : K → Option (Slot × Eff)
  | .mv x => some (⟨x.get s, x.an s⟩, .none)
  | .pick c a b => match c.get s with
    | .bool t => some (if t then ⟨a.get s, a.an s⟩ else ⟨b.get s, b.an s⟩, .none)
    | _ => none
  | .alloc zero => some (⟨.ptr 0 0 0, .no⟩, .new (zero.map fun v => ⟨v, zeroAn v⟩))
  | .box size x => match x.get s with
    | .agg cs => if cs.length = size then some (⟨.ptr 0 0 0, .no⟩, .new (cs.map (⟨·, .no⟩))) else none
    | v => if v.leaf then some (⟨.ptr 0 0 0, .no⟩, .new [⟨v, x.an s⟩]) else none
  | .build zero parts => if parts.all (fun p => (p.2.2.get s).whole) then
      (fillC zero (parts.map fun p => (p.1, p.2.1, (p.2.2.get s).cells))).map fun cs => (⟨.agg cs, .no⟩, .none) else none
  | .bsl zero n parts => if parts.map (·.1) = List.range n ∧ parts.all (fun p => (p.2.get s).free && decide ((p.2.get s).cells.length = zero.length)) then
      some (⟨.sl false (parts.map fun p => (p.2.get s).cells), .ex⟩, .none) else none
  | .load cl agg size x => match x.get s with
    | .ptr t n off => if cl.okPtr t then ((s.mem t n).bind (loadC agg size off)).map fun x => (x, .none) else none
    | .ip cs => match cl with
      | .root _ => none
      | _ => (loadI agg size cs).map fun v => (⟨v, .no⟩, .none)
    | .bp cs => match cl with
      | .root _ => none
      | _ => (loadI agg size cs).map fun v => (⟨v, .no⟩, .none)
    | _ => none
  | .store cl agg size x y => match x.get s with
    | .ptr t n off => if cl.okPtr t then ((s.mem t n).bind fun r => setRowC agg size off r (y.get s) (y.an s)).map fun r => (⟨.undef, .no⟩, .set t n r) else none
    | _ => none
  | .bin op t x y => (binC op t (x.get s) (y.get s)).map fun v => (⟨v, .no⟩, .none)
  | .eqa neg ks x y => match x.get s, y.get s with
    | .agg a, .agg b => (eqC ks a b).map fun t => (⟨.bool (t != neg), .no⟩, .none)
    | _, _ => none
  | .eqn neg ptr x y => match ptr, y.get s with
    | false, .sl true _ => (isNil false (x.get s)).map fun t => (⟨.bool (t != neg), .no⟩, .none)
    | true, .nilP => (isNil true (x.get s)).map fun t => (⟨.bool (t != neg), .no⟩, .none)
    | _, _ => none
  | .un op x => match op, x.get s with
    | .not, .bool b => some (⟨.bool (!b), .no⟩, .none)
    | .neg, .int k n => some (⟨.int k (k.wrap (0 - n)), .no⟩, .none)
    | _, _ => none
  | .conv k x => match k, x.get s with
    | some k, .int _ n => some (⟨.int k (k.wrap n), .no⟩, .none)
    | none, .str b => some (⟨.str b, .no⟩, .none)
    | _, _ => none
  | .mks size bytes zero ln cap => match natOf (ln.get s), natOf (cap.get s) with
    | some l, some c => if l ≤ c ∧ c * bytes ≤ 140737488355328 ∧ c ≤ 140737488355328 ∧ zero.length = size then some (⟨.ref 0 0 size 0 l c, .no⟩, .new ((List.replicate c zero).flatten.map (⟨·, .no⟩))) else none
    | _, _ => none
  | .slc str size x lo hi mx => match mx with
    | some _ => none
    | none =>
      match endC s 0 lo with
      | none => none
      | some l => match x.get s with
        | .sl b e => match endC s e.length hi with
          | some h => if l ≤ h ∧ h ≤ e.length ∧ e.all (·.length == size) ∧ str = false then some (⟨.sl b ((e.take h).drop l), .no⟩, .none) else none
          | _ => none
        | .bl e => match endC s e.length hi with
          | some h => if l ≤ h ∧ h ≤ e.length ∧ e.all (·.length == size) ∧ str = false then some (⟨.bl ((e.take h).drop l), .no⟩, .none) else none
          | _ => none
        | .ref t n sz off ln cap => match endC s ln hi with
          | some h => if l ≤ h ∧ h ≤ cap ∧ sz = size ∧ str = false then some (⟨.ref t n sz (if cap = l then off else off + l * sz) (h - l) (cap - l), .no⟩, .none) else none
          | _ => none
        | .str b => match endC s b.size hi with
          | some h => if l ≤ h ∧ h ≤ b.size ∧ str = true then some (⟨.str (b.extract l h), .no⟩, .none) else none
          | _ => none
        | _ => none
  | .faddr off x => match x.get s with
    | .ptr t n o => some (⟨.ptr t n (o + off), .no⟩, .none)
    | .ip cs => some (⟨.ip (cs.drop off), .no⟩, .none)
    | .bp cs => some (⟨.bp (cs.drop off), .no⟩, .none)
    | _ => none
  | .field agg off size x => match x.get s with
    | .agg cs => (loadI agg size (cs.drop off)).map fun v => (⟨v, .no⟩, .none)
    | _ => none
  | .iaddr size x i => match natOf (i.get s) with
    | some k => match x.get s with
      | .sl _ l => l[k]?.bind fun cs => if cs.length = size then some (⟨.ip cs, .no⟩, .none) else none
      | .bl l => l[k]?.bind fun cs => if cs.length = size then some (⟨.bp cs, .no⟩, .none) else none
      | .ref t n sz off ln _ => if k < ln ∧ sz = size then some (⟨.ptr t n (off + k * sz), .no⟩, .none) else none
      | _ => none
    | none => none
  | .index x i => match natOf (i.get s), x.get s with
    | some k, .str b => b[k]?.map fun u => (⟨.int .u8 u.toNat, .no⟩, .none)
    | _, _ => none
  | .ext x i => match x.get s with
    | .tup vs => vs[i]?.map fun v => (⟨v, .no⟩, .none)
    | _ => none
  | .call cl f xs => (lendAll s cl xs).bind fun vs => match objsOf s xs with
    | [] => (call f vs none).bind fun r => match r.2 with
      | none => if r.1.back then some (⟨r.1, .no⟩, .none) else none
      | some S => if r.1.backN ∧ cl.okMem then some (⟨r.1, .no⟩, .mk S) else none
    | [(t, n)] => (call f vs (s.obj t n)).bind fun r => match r.2 with
      | none => none
      | some S => if r.1.back ∧ (s.obj t n).isSome then some (⟨r.1, .no⟩, .obj t n S) else none
    | _ => none
  | .len str x => match x.get s with
    | .sl _ l => if str then none else some (⟨.int .i64 l.length, .no⟩, .none)
    | .bl l => if str then none else some (⟨.int .i64 l.length, .no⟩, .none)
    | .ref _ _ _ _ ln _ => if str then none else some (⟨.int .i64 ln, .no⟩, .none)
    | .str b => if str then some (⟨.int .i64 b.size, .no⟩, .none) else none
    | _ => none
  | .app cl e size bytes x y => match x.get s, (y.get s).elems s cl with
    | .sl b l, some m => if (l.length + m.length) * bytes ≤ 140737488355328 ∧ l.length + m.length ≤ 140737488355328 ∧ (l ++ m).all (·.length == size) then
        (match x.an s with
        | .no => none
        | .own k e' => if e' = e then some (⟨.sl (b && m.isEmpty) (l ++ m), .own 0 e⟩, .app (.own k e') 0) else none
        | .ex => some (⟨.sl (b && m.isEmpty) (l ++ m), .own 0 e⟩, .app .ex 0)) else none
    | _, _ => none
  | .nilchk x => match x.get s with
    | .ptr t n o => some (⟨.ptr t n o, .no⟩, .none)
    | .ip cs => some (⟨.ip cs, .no⟩, .none)
    | .bp cs => some (⟨.bp cs, .no⟩, .none)
    | _ => none
/-- one operation; none: it can't be told -/
def OpC.eff (o : OpC) (s : MSt) : Slot × Eff → Option MSt
  | (x, .none) => some (s.put o.dst x)
  | (x, .new r) => match o.dst with
    | none => none
    | some d => some ((s.setRow d s.next r).put (some d) ⟨match x.v with | .ref _ _ sz off l c => .ref d s.next sz off l c | _ => .ptr d s.next 0, .no⟩)
  | (_, .set t n r) => some ((s.setRow t n r).put o.dst ⟨.undef, .no⟩)
  | (x, .app a _) => match o.dst with
    | none => none
    | some d => some (((s.stripA a).strip d).put (some d) ⟨x.v, match x.a with | .own _ e => .own d e | a => a⟩)
  | (x, .obj t n S) => some ((s.setObj t n S).put o.dst x)
  | (x, .mk S) => match o.dst with
    | none => none
    | some d => some ((s.setObj d s.next S).put (some d) ⟨x.v.named d s.next, .no⟩)
def OpC.step (call : CallT) (o : OpC) (s : MSt) : Option MSt :=
  match o.guard with
  | none => (o.op.run call s).bind (o.eff s)
  | some (t, want) => match (s.env t).v with
    | .bool b => if b = want then (o.op.run call s).bind (o.eff s) else some (s.put o.dst ⟨.tup [], .no⟩)
    | .tup [] => some (s.put o.dst ⟨.tup [], .no⟩)
    | _ => none
def runOps (call : CallT) : List OpC → MSt → Option MSt
  | [], s => some s
  | o :: r, s => (o.step call s).bind (runOps call r)
def C.run (call : CallT) (lp : LpT) : C → MSt → (Ex → MSt → Option RV) → Option RV
  | .skip, s, k => k .nrm s
  | .seq a b, s, k => a.run call lp s fun e s => match e with
    | .nrm => b.run call lp s k
    | e => k e s
  | .reg ops, s, k => match runOps call ops s with
    | some s => k .nrm { s with next := s.next + 1 }
    | none => none
  | .cond c t e, s, k => match c.get s with
    | .bool b => if b then t.run call lp s k else e.run call lp s k
    | _ => none
  | .block id b, s, k => b.run call lp s fun e s => match e with
    | .exit j => if j = id then k .nrm s else k (.exit j) s
    | e => k e s
  | .loop b, s, k => lp b s k
  | .exit id, s, k => k (.exit id) s
  | .ret, s, k => k .ret s
inductive ResC where
  | tmp (t : Nat)
  | cell (t : Nat) (agg : Bool) (size : Nat)
structure FnC where
  code : C
  res : List ResC
  np : Nat
def resC (s : MSt) : List ResC → Option (List AV)
  | [] => some []
  | .tmp t :: r => (resC s r).map ((s.env t).v :: ·)
  | .cell t agg size :: r => match (s.env t).v with
    | .ptr t n off => ((s.mem t n).bind (loadC agg size off)).bind fun x => (resC s r).map (x.v :: ·)
    | _ => none
def pack : List AV → AV
  | [v] => v
  | vs => .tup vs
/-- the result that is an object: its place in memory -/
def objAt : List AV → Option (Nat × Nat)
  | [] => none
  | .ptr t n 0 :: _ => some (t, n)
  | _ :: r => objAt r
/-- the object named as its callers name it -/
def unname (t n : Nat) : AV → AV
  | .ptr t' n' o => if t' = t ∧ n' = n ∧ o = 0 then .ptr 0 0 0 else .undef
  | v => v
def finV (S0 : Option AV) (s : MSt) (vs : List AV) : Option RV :=
  match S0 with
  | some _ => if vs.all AV.free then (s.obj 0 0).map fun S => (pack vs, some S) else none
  | none => if vs.all AV.free then some (pack vs, none) else match objAt vs with
    | some (t, n) => match s.obj t n with
      | some S => if (vs.map (unname t n)).all (fun v => v.free || v.isObj) then some (pack (vs.map (unname t n)), some S) else none
      | none => none
    | none => none
def fin (f : FnC) (S0 : Option AV) : Ex → MSt → Option RV
  | .exit _, _ => none
  | _, s => (resC s f.res).bind (finV S0 s)
def MSt.init (args : List AV) (S0 : Option AV) : MSt := ⟨fun t => ⟨args.getD t .undef, .no⟩, fun _ _ => none, 1, fun t n => if t = 0 ∧ n = 0 then S0 else none⟩
/-- a round of a loop -/
def again (lp : LpT) (b : C) (k : Ex → MSt → Option RV) : Ex → MSt → Option RV
  | .nrm, s => lp b s k
  | e, s => k e s
mutual
def callN (T : Nat → Option FnC) (ext : CallT) : Nat → CallT
  | 0, f, args, S0 => match T f with
    | none => ext f args S0
    | some _ => none
  | n + 1, f, args, S0 => match T f with
    | none => ext f args S0
    | some c => if args.length = c.np then c.code.run (callN T ext n) (lpN T ext n) (MSt.init args S0) (fin c S0) else none
def lpN (T : Nat → Option FnC) (ext : CallT) : Nat → LpT
  | 0, _, _, _ => none
  | n + 1, b, s, k => b.run (callN T ext n) (lpN T ext n) s (again (lpN T ext n) b k)
end
end Go.Proofs.Ytinpinjjdkilpaa
