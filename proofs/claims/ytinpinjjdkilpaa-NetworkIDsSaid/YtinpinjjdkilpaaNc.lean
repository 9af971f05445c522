/- few and the law of the numbers, on the machine. -/
import Derived.Test.YtinpinjjdkilpaaNb
namespace Go.Proofs.Ytinpinjjdkilpaa
open Go Go.RowKit
def c16_1 : C := .seq (.reg [⟨(.some 11), (.bin .lss .false (.t 10) (.t 9)), .none⟩]) (.seq (.cond (.t 11) .skip (.exit 0)) (.seq (.block 1 (.seq (.reg [⟨(.some 12), (.iaddr 6 (.t 8) (.t 10)), .none⟩, ⟨(.some 13), (.load .any .true 6 (.t 12)), .none⟩, ⟨(.some 7), (.alloc [(.int .u8 0), (.int .i64 0), (.int .i64 0), (.int .i64 0), (.str (ByteArray.mk #[])), (.bool .false)]), .none⟩, ⟨.none, (.store .any .true 6 (.t 7) (.t 13)), .none⟩]) (.reg [⟨(.some 14), (.mv (.t 5)), .none⟩, ⟨(.some 15), (.faddr 4 (.t 7)), .none⟩, ⟨(.some 16), (.load .any .false 1 (.t 15)), .none⟩, ⟨(.some 17), (.len .true (.t 16)), .none⟩, ⟨(.some 18), (.bin .add .false (.t 14) (.t 17)), .none⟩, ⟨(.some 5), (.mv (.t 18)), .none⟩]))) (.reg [⟨(.some 19), (.bin .add .false (.t 10) (.c (.int .i64 1))), .none⟩, ⟨(.some 10), (.mv (.t 19)), .none⟩])))
def c16 : FnC := ⟨(.seq (.reg [⟨(.some 4), (.mv (.c (.bool .false))), .none⟩]) (.seq (.reg [⟨(.some 5), (.mv (.c (.int .i64 0))), .none⟩]) (.seq (.seq (.reg [⟨(.some 8), (.mv (.t 0)), .none⟩, ⟨(.some 9), (.len .false (.t 8)), .none⟩, ⟨(.some 10), (.mv (.c (.int .i64 0))), .none⟩]) (.block 0 (.loop c16_1))) (.seq (.reg [⟨(.some 20), (.mv (.t 0)), .none⟩, ⟨(.some 21), (.len .false (.t 20)), .none⟩, ⟨(.some 22), (.mv (.t 1)), .none⟩, ⟨(.some 23), (.bin .leq .false (.t 21) (.t 22)), .none⟩, ⟨(.some 24), (.mv (.t 23)), .none⟩, ⟨(.some 25), (.mv (.t 5)), (.some (24, .true))⟩, ⟨(.some 26), (.bin .leq .false (.t 25) (.c (.int .i64 300))), (.some (24, .true))⟩, ⟨(.some 27), (.pick (.t 24) (.t 26) (.c (.bool .false))), .none⟩, ⟨(.some 4), (.mv (.t 27)), .none⟩]) .ret)))), [(.tmp 4)], 2⟩
def opC (o : Op) : List AV := [.int .u8 o.kind, .int .i64 o.a, .int .i64 o.b, .int .i64 o.id, .str o.data, .bool o.cut]
def opsA (nl : Bool) (l : List Op) : AV := .sl nl (l.map opC)
/-- the letters of all data, as the code adds them -/
def fewS (n : Int) : List Op → Int
  | [] => n
  | o :: r => fewS (IntKind.i64.wrap (n + o.data.size)) r
def fewB (l : List Op) (most : Int) : Bool := decide ((l.length : Int) ≤ most) && decide (fewS 0 l ≤ 300)
set_option maxRecDepth 10000
set_option linter.unusedSimpArgs false
theorem few_lp {T : Nat → Option FnC} {ext : CallT} (nl : Bool) (L : List Op) (r : RV) (k : Ex → MSt → Option RV) (v0 v1 : Slot) (hlen : L.length ≤ 9223372036854775807)
    (hk : ∀ s : MSt, (s.env 0) = v0 → (s.env 1) = v1 → (s.env 5).v = .int .i64 (fewS 0 L) → k (.exit 0) s = some r) :
    ∀ (n i : Nat) (m : Int), i + n = L.length → fewS m (L.drop i) = fewS 0 L → ∀ s : MSt, (s.env 10).v = .int .i64 i → (s.env 9).v = .int .i64 L.length → (s.env 8).v = opsA nl L → (s.env 0) = v0 → (s.env 1) = v1 → (s.env 5).v = .int .i64 m → evL T ext c16_1 s k = some r := by
  intro n
  induction n with
  | zero =>
    intro i m hi hm s e10 e9 e8 e0 e1 e5
    obtain rfl : i = L.length := by omega
    refine evL_intro ?_
    simp [c16_1, C.run, runOps, OpC.step, OpC.eff, K.run, MSt.put, MSt.setObj, Opd.get, Opd.an, MSt.init, MSt.setRow, setRowC, AV.leaf, AV.whole, AV.cells, binC, eqC, natOf, loadC, loadI, Cl.okPtr, Cl.okMem, fillC, fin, finV, objAt, unname, resC, AV.free, AV.free0, AV.back, AV.backN, AV.isObj, AV.named, pack, lendAll, lend, objsOf, again, e10, e9]
    refine hk _ (by simpa using e0) (by simpa using e1) ?_
    simp only [List.drop_length, fewS] at hm
    simp [e5, hm]
  | succ n ih =>
    intro i m hi hm s e10 e9 e8 e0 e1 e5
    have hlt : i < L.length := by omega
    have hw : IntKind.i64.wrap ((i : Int) + 1) = ((i + 1 : Nat) : Int) := by rw [IntWalk.i64_in _ (by omega)]; rfl
    rw [List.drop_eq_getElem_cons hlt] at hm
    refine evL_intro ?_
    simp [c16_1, C.run, runOps, OpC.step, OpC.eff, K.run, MSt.put, MSt.setObj, Opd.get, Opd.an, MSt.init, MSt.setRow, setRowC, AV.leaf, AV.whole, AV.cells, binC, eqC, natOf, loadC, loadI, Cl.okPtr, Cl.okMem, fillC, fin, finV, objAt, unname, resC, AV.free, AV.free0, AV.back, AV.backN, AV.isObj, AV.named, pack, lendAll, lend, objsOf, again, e10, e9, e8, e5, hlt, opsA, opC, hw]
    refine ih (i + 1) (IntKind.i64.wrap (m + (L[i]).data.size)) (by omega) hm _ ?_ ?_ ?_ ?_ ?_ ?_ <;> simp [e10, e9, e8, e5, e0, e1, hw, opsA, opC]
theorem few_ev {T : Nat → Option FnC} {ext : CallT} (hT : T 16 = some c16) (nl : Bool) (L : List Op) (most : Int) (hlen : L.length ≤ 9223372036854775807) : evC T ext 16 [opsA nl L, .int .i64 most] none = some (.bool (fewB L most), none) := by
  refine evC_intro c16 hT rfl ?_
  simp [c16, C.run, runOps, OpC.step, OpC.eff, K.run, MSt.put, MSt.setObj, Opd.get, Opd.an, MSt.init, MSt.setRow, setRowC, AV.leaf, AV.whole, AV.cells, binC, eqC, natOf, loadC, loadI, Cl.okPtr, Cl.okMem, fillC, fin, finV, objAt, unname, resC, AV.free, AV.free0, AV.back, AV.backN, AV.isObj, AV.named, pack, lendAll, lend, objsOf, again, opsA]
  refine few_lp nl L _ _ ⟨opsA nl L, .no⟩ ⟨.int .i64 most, .no⟩ hlen (fun s h0 h1 h5 => ?_) L.length 0 0 (by simp) rfl _ ?_ ?_ ?_ ?_ ?_ ?_ <;> try (simp [opsA]; done)
  by_cases hl : (L.length : Int) ≤ most <;> simp [C.run, runOps, OpC.step, OpC.eff, K.run, MSt.put, MSt.setObj, Opd.get, Opd.an, MSt.init, MSt.setRow, setRowC, AV.leaf, AV.whole, AV.cells, binC, eqC, natOf, loadC, loadI, Cl.okPtr, Cl.okMem, fillC, fin, finV, objAt, unname, resC, AV.free, AV.free0, AV.back, AV.backN, AV.isObj, AV.named, pack, lendAll, lend, objsOf, again, h0, h1, h5, opsA, fewB, hl]
end Go.Proofs.Ytinpinjjdkilpaa
