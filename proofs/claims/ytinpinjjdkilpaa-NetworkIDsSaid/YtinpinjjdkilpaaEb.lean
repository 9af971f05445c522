/- From a function's code to the machine's code: definitions only. -/
import Derived.Test.YtinpinjjdkilpaaEa
namespace Go.Proofs.Ytinpinjjdkilpaa
open Go
def avOf : Value → Option AV
  | .int k n => some (.int k n)
  | .bool b => some (.bool b)
  | .string s => some (.str s)
  | .pointer none => some .nilP
  | .slice none 0 0 => some (.sl true [])
  | _ => none
def avAll : List Value → Option (List AV)
  | [] => some []
  | v :: r => match avOf v, avAll r with
    | some x, some l => some (x :: l)
    | _, _ => none
/-- a constant, an aggregate of constants too -/
def avC : Value → Option AV
  | .agg cs => (avAll cs.toList).map .agg
  | v => avOf v
def opd : Operand → Option Opd
  | .tmp t => some (.t t)
  | .const v => (avC v).map .c
  | _ => none
section
variable (P : Program)
def tAgg (t : TypeId) : Option Bool := (P.underlying t).map fun | .struct _ => true | .array .. => true | _ => false
def tSize (t : TypeId) : Option Nat := (P.info? t).map (·.size)
def tZero (t : TypeId) : Option (List AV) := ((P.info? t).bind (·.zero)).bind fun z => avAll z.cells.toList
def tScal (t : TypeId) : Bool := match P.underlying t with | some (.int _) => true | some .string => true | some .bool => true | _ => false
def opds : List (Nat × Operand) → Option (List (Nat × Opd))
  | [] => some []
  | (i, x) :: r => match opd x, opds r with
    | some x, some l => some ((i, x) :: l)
    | _, _ => none
def opdL : List Operand → Option (List Opd)
  | [] => some []
  | x :: r => match opd x, opdL r with
    | some x, some l => some (x :: l)
    | _, _ => none
/-- an operand that may be missing -/
def opdO : Option Operand → Option (Option Opd)
  | none => some none
  | some x => (opd x).map some
def placed (pl : Nat → Option (Nat × Nat)) : List (Nat × Opd) → Option (List (Nat × Nat × Opd))
  | [] => some []
  | (i, x) :: r => match pl i, placed pl r with
    | some (off, z), some l => some ((off, z, x) :: l)
    | _, _ => none
def tKind (t : TypeId) : Option Nat := match P.underlying t, tSize P t with
  | some (.int _), some 1 => some 0
  | some .string, some 1 => some 1
  | some .bool, some 1 => some 2
  | _, _ => none
def fieldKinds (i : Nat) : List Field → Option (List Nat)
  | [] => some []
  | f :: r => match tKind P f.type, fieldKinds (i + 1) r with
    | some k, some l => if f.name ≠ "_" ∧ f.offset = i then some (k :: l) else none
    | _, _ => none
/-- a struct or an array of cells that are numbers, letters or truth, one cell each -/
def tFlat (t : TypeId) : Option (List Nat) := if P.eqGuardType P.depth t then none else match P.underlying t with
  | some (.array n e) => (tKind P e).map fun k => List.replicate n k
  | some (.struct fs) => if P.stoodInHeld t then none else fieldKinds P 0 fs.toList
  | _ => none
def compOp (cl : Cl) (o : Go.Op) : Option K :=
  match o with
  | .move x | .assign x => (opd x).map .mv
  | .pick c a b => match opd c, opd a, opd b with
    | some c, some a, some b => some (.pick c a b)
    | _, _, _ => none
  | .alloc e => (tZero P e).map .alloc
  | .box e x => match tSize P e, opd x with
    | some z, some x => some (.box z x)
    | _, _ => none
  | .build t ps => match P.underlying t, tZero P t, opds ps.toList with
    | some (.struct fs), some z, some ps => (match fs.toList.mapM (fun f => (P.info? f.type).map fun i => (f.offset, i.size)) with
      | some pl => (placed (pl.toArray[·]?) ps).map (.build z)
      | none => none)
    | some (.array _ e), some z, some ps => (match P.info? e with
      | some ie => (placed (fun i => some (i * ie.size, ie.size)) ps).map (.build z)
      | none => none)
    | _, _, _ => none
  | .buildSlice t n ps => match P.underlying t, opds ps.toList with
    | some (.slice e), some ps => match tZero P e, tSize P e with
      | some z, some k => if z.length = k ∧ 0 < k ∧ n * k ≤ 16777216 then some (.bsl z n ps) else none
      | _, _ => none
    | _, _ => none
  | .load t x => match tAgg P t, tSize P t, opd x with
    | some a, some z, some x => some (.load cl a z x)
    | _, _, _ => none
  | .store t x y => match tAgg P t, tSize P t, opd x, opd y with
    | some a, some z, some x, some y => if a || z == 1 then some (.store cl a z x y) else none
    | _, _, _, _ => none
  | .binOp op t x y _ => match opd x, opd y with
    | some x, some y => if tScal P t then some (.bin op (match P.underlying t with | some .bool => true | _ => false) x y) else
      match op with
      | .eql => (match P.underlying t with
        | some (.slice _) => some (.eqn false false x y)
        | some (.pointer _) => some (.eqn false true x y)
        | _ => (tFlat P t).map fun ks => .eqa false ks x y)
      | .neq => (match P.underlying t with
        | some (.slice _) => some (.eqn true false x y)
        | some (.pointer _) => some (.eqn true true x y)
        | _ => (tFlat P t).map fun ks => .eqa true ks x y)
      | _ => none
    | _, _ => none
  | .unOp op t x => if tScal P t then (opd x).map (.un op) else none
  | .convert s d x => match P.underlying s, P.underlying d, opd x with
    | some (.int _), some (.int k), some x => some (.conv (some k) x)
    | some .string, some .string, some x => some (.conv none x)
    | _, _, _ => none
  | .makeSlice t l c => match P.underlying t, opd l, opd c with
    | some (.slice e), some l, some c => match tZero P e, P.info? e with
      | some z, some i => if z.length = i.size ∧ 0 < i.size then some (.mks i.size i.bytes z l c) else none
      | _, _ => none
    | _, _, _ => none
  | .slice t x l h m => match opd x, opdO l, opdO h, opdO m with
    | some x, some l, some h, some m => match P.underlying t with
      | some .string => some (.slc true 1 x l h m)
      | some (.slice e) => (tSize P e).map fun k => .slc false k x l h m
      | _ => none
    | _, _, _, _ => none
  | .fieldAddr t x i => match P.underlying t, opd x with
    | some (.struct fs), some x => match fs[i]? with
      | some f => match tSize P f.type with
        | some (_ + 1) => some (.faddr f.offset x)
        | _ => none
      | none => none
    | _, _ => none
  | .field t x i => match P.underlying t, opd x with
    | some (.struct fs), some x => match fs[i]? with
      | some f => match tAgg P f.type, tSize P f.type with
        | some a, some z => some (.field a f.offset z x)
        | _, _ => none
      | none => none
    | _, _ => none
  | .indexAddr t x i => match P.underlying t, opd x, opd i with
    | some (.slice e), some x, some i => (tSize P e).map fun k => .iaddr k x i
    | _, _, _ => none
  | .index t x i => match P.underlying t, opd x, opd i with
    | some .string, some x, some i => some (.index x i)
    | _, _, _ => none
  | .extract x i => (opd x).map fun x => .ext x i
  | .nilCheck x => (opd x).map .nilchk
  | .call { callee := .value (.func f), args := xs, .. } => (opdL xs.toList).map (.call cl f)
  | .call { callee := .builtin .len, args := xs, argTypes := ts } => match opdL xs.toList, ts.toList with
    | some [x], [t] => (match P.underlying t with
      | some .string => some (.len true x)
      | some (.slice _) => some (.len false x)
      | _ => none)
    | _, _ => none
  | .call { callee := .builtin .append, args := xs, argTypes := ts } => match opdL xs.toList, ts.toList with
    | some [x, y], [t, t'] => if t = t' then match P.underlying t with
      | some (.slice e) => match P.info? e, tZero P e with
        | some i, some z => if z.length = i.size ∧ 0 < i.size then some (.app cl e i.size i.bytes x y) else none
        | _, _ => none
      | _ => none else none
    | _, _ => none
  | _ => none
/-- the slot whose box an address lies in, as far as the text of the region tells -/
def rootOf (boxes : List Nat) (ops : List Oper) : Nat → Operand → Option Nat
  | 0, _ => none
  | n + 1, .tmp t => if boxes.contains t then some t else
    match ops.find? (fun o => o.dst == some t) with
    | some o => match o.op with
      | .fieldAddr _ x _ => rootOf boxes ops n x
      | .move x => rootOf boxes ops n x
      | _ => none
    | none => none
  | _ + 1, _ => none
def isS : K → Bool
  | .store .. => true
  | _ => false
def isA : K → Bool
  | .alloc _ | .box .. | .mks .. => true
  | _ => false
def isO : K → Bool
  | .call .. => true
  | _ => false
def isT : K → Bool
  | .app .. => true
  | _ => false
/-- what is known of the memory that an operation reads or writes; none: it does neither -/
def K.cl : K → Option Cl
  | .load cl .. => some cl
  | .store cl .. => some cl
  | .call cl .. => some cl
  | .app cl .. => some cl
  | _ => none
/-- two operations whose order does not matter -/
def okPair (a b : OpC) : Bool :=
  (!isT a.op || !isT b.op) && (!isO a.op || !isO b.op) &&
  (match a.op.cl, b.op.cl with
    | some c, some d => !(isS a.op || isS b.op) || (match c, d with
      | .imm, _ => true
      | _, .imm => true
      | .root r, .root r' => r != r'
      | _, _ => false)
    | _, _ => true) &&
  (!isA a.op || (match b.op.cl with | none => true | some .imm => true | some (.root r) => a.dst != some r | some .any => false)) &&
  (!isA b.op || (match a.op.cl with | none => true | some .imm => true | some (.root r) => b.dst != some r | some .any => false)) &&
  (!isA a.op || !isA b.op || a.dst != b.dst)
/-- what must come before each operation, in bits -/
def befores (ops : List Oper) : List Nat :=
  (ops.foldl (fun acc o => acc.push (o.after.foldl (fun s e => if Region.binds .any e then s ||| 2 ^ e.on ||| acc.getD e.on 0 else s) 0)) (#[] : Array Nat)).toList
def K.opds : K → List Opd
  | .mv x | .box _ x | .load _ _ _ x | .un _ x | .conv _ x | .faddr _ x | .field _ _ _ x | .ext x _ | .len _ x | .nilchk x => [x]
  | .pick c a b => [c, a, b]
  | .alloc _ => []
  | .build _ ps => ps.map (·.2.2)
  | .bsl _ _ ps => ps.map (·.2)
  | .store _ _ _ x y | .bin _ _ x y | .eqa _ _ x y | .eqn _ _ x y | .mks _ _ _ x y | .iaddr _ x y | .index x y | .app _ _ _ _ x y => [x, y]
  | .slc _ _ x lo hi mx => x :: (lo.toList ++ (hi.toList ++ mx.toList))
  | .call _ _ xs => xs
/-- slots that an operation looks at -/
def OpC.looks (o : OpC) : List Nat := o.op.opds.filterMap (fun | .t n => some n | _ => none) ++ (match o.guard with | some (t, _) => [t] | none => [])
def OpC.clear (a b : OpC) : Bool := match a.dst with
  | some d => !b.looks.contains d && b.dst != some d
  | none => true
def apartC (a b : OpC) : Bool := a.clear b && b.clear a
def edgesOf (o : Oper) : List Nat := o.after.toList.filterMap fun e => if Region.binds .any e then some e.on else none
/-- the bits say no more than the edges -/
def bfOk (ops : List Oper) (bf : List Nat) : Bool := (List.range ops.length).all fun i => match ops[i]? with
  | some o => (edgesOf o).all (fun e => decide (e < i)) && (List.range i).all fun r => !(bf.getD i 0).testBit r || (edgesOf o).any fun e => e == r || (decide (r < e) && (bf.getD e 0).testBit r)
  | none => false
def drawOk (ops : List Oper) (cs : List OpC) : Bool :=
  let bf := befores ops
  bfOk ops bf && (List.range ops.length).all fun j => (List.range j).all fun i =>
    (bf.getD j 0).testBit i || (match cs[i]?, cs[j]? with
      | some x, some y => apartC x y && okPair x y
      | _, _ => false)
/-- what makes memory writes a slot of its own -/
def freshOk (cs : List OpC) : Bool := (List.range cs.length).all fun j => match cs[j]? with
  | some y => !(isA y.op || isO y.op) || (List.range cs.length).all fun i => i == j || (match cs[i]? with | some x => x.dst != y.dst | none => false)
  | none => false
/-- an operation's claim in a region that draws its order -/
def claim (boxes : List Nat) (ops : List Oper) (draw : Bool) (o : Oper) : Cl :=
  if !draw then .any else
  if ops.any (fun o => match o.op with | .store .. => true | .alloc _ => true | .box .. => true | .makeSlice .. => true | _ => false) then
    match o.op with
    | .load _ x => (match rootOf boxes ops 10 x with | some t => .root t | none => .imm)
    | .store _ x _ => (match rootOf boxes ops 10 x with | some t => .root t | none => .any)
    | _ => .imm
  else .any
def dstOk (nt : Nat) : Option Nat → Bool
  | some d => decide (d < nt)
  | none => true
def compOps (boxes : List Nat) (nt : Nat) (all : List Oper) (draw : Bool) : List Oper → Option (List OpC)
  | [] => some []
  | o :: r => match compOp P (claim boxes all draw o) o.op, compOps boxes nt all draw r with
    | some k, some l =>
      if dstOk nt o.dst then
        match o.guard with
        | none => some (⟨o.dst, k, none⟩ :: l)
        | some (g, want) => match (all[g]?).bind (·.dst) with
          | some t => some (⟨o.dst, k, some (t, want)⟩ :: l)
          | none => none
      else none
    | _, _ => none
def comp (boxes : List Nat) (nt : Nat) : Code → Option C
  | .skip => some .skip
  | .seq a b => match comp boxes nt a, comp boxes nt b with
    | some a, some b => some (.seq a b)
    | _, _ => none
  | .region _ ops draw => match compOps P boxes nt ops.toList draw ops.toList with
    | some cs => if freshOk cs && (!draw || drawOk ops.toList cs) then some (.reg cs) else none
    | none => none
  | .cond c t e => match opd c, comp boxes nt t, comp boxes nt e with
    | some c, some t, some e => some (.cond c t e)
    | _, _, _ => none
  | .block id b => (comp boxes nt b).map (.block id)
  | .loop b => (comp boxes nt b).map .loop
  | .exit id => some (.exit id)
  | .scope b => comp boxes nt b
  | .ret => some .ret
  | _ => none
/-- slots that hold a box's address -/
def boxesOf : Code → List Nat
  | .seq a b => boxesOf a ++ boxesOf b
  | .region _ ops _ => ops.toList.filterMap fun o => match o.op with | .alloc _ => o.dst | .box .. => o.dst | _ => none
  | .cond _ t e => boxesOf t ++ boxesOf e
  | .block _ b => boxesOf b
  | .loop b => boxesOf b
  | .scope b => boxesOf b
  | _ => []
def compRes : List ResultVar → Option (List ResC)
  | [] => some []
  | .tmp t :: r => (compRes r).map (.tmp t :: ·)
  | .cell t ty :: r => match tAgg P ty, tSize P ty, compRes r with
    | some a, some z, some l => some (.cell t a z :: l)
    | _, _, _ => none
def compF (fn : Func) : Option FnC := match fn.body with
  | none => none
  | some b => match comp P (boxesOf b) fn.ntmps b, compRes P fn.results.toList with
    | some c, some r => if fn.nfree = 0 ∧ fn.params.size ≤ fn.ntmps then some ⟨c, r, fn.params.size⟩ else none
    | _, _ => none
end
end Go.Proofs.Ytinpinjjdkilpaa
