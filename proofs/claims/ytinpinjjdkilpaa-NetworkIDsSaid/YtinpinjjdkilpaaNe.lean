/- sheavelaw48.NetworkIDs: for every input it returns true and leaves its input as it was. No condition. -/
import Derived.Test.YtinpinjjdkilpaaNd
import Derived.Test.YtinpinjjdkilpaaEy
import Derived.Test.YtinpinjjdkilpaaXk
namespace Go.Proofs.Ytinpinjjdkilpaa
open Go Go.RowKit Go.ChangeShapes Go.WideShapes Go.ChangeAt
set_option maxRecDepth 10000
set_option linter.unusedSimpArgs false
section
variable {T : Nat → Option FnC}
theorem awake_ev (hT : T 11 = none) : evC T netExt 11 [] none = some (.bool true, none) := evC_ext hT (by simp [netExt])
theorem begin_ev (hT : T 17 = none) (k : Int) (h : 0 ≤ k ∧ k ≤ 255) : evC T netExt 17 [.int .u8 k] none = some (.tup [.ptr 0 0 0, .agg [.int .i64 (newSt (1 + k % 5)).n, .int .i64 (newSt (1 + k % 5)).next, .sl true [], .sl true []], .bool true], some (encN (newNet (1 + k % 5)))) := evC_ext hT (by simp [netExt, h])
theorem ids_ev (h1 : T 11 = none) (h2 : T 17 = none) (h3 : T 19 = none) (h4 : T 14 = none) (h5 : T 16 = some c16) (h6 : T 7 = some c7)
    (k : Int) (hk : 0 ≤ k ∧ k ≤ 255) (nl : Bool) (L : List Op) (hlen : L.length ≤ 9223372036854775807) (hok : ∀ o ∈ L, o.ok) : evC T netExt 7 [.int .u8 k, opsA nl L] none = some (.bool true, none) := by
  have ha := awake_ev h1
  have hb := begin_ev h2 k hk
  have hf := few_ev (ext := netExt) h5 nl L 30 hlen
  refine evC_intro c7 h6 rfl ?_
  cases hfb : fewB L 30 with
  | false =>
    rw [hfb] at hf
    simp only [opsA] at hf
    simp [c7, C.run, runOps, OpC.step, OpC.eff, K.run, MSt.put, MSt.setObj, Opd.get, Opd.an, MSt.init, MSt.setRow, setRowC, AV.leaf, AV.whole, AV.cells, binC, eqC, natOf, loadC, loadI, Cl.okPtr, Cl.okMem, fillC, fin, finV, objAt, unname, resC, AV.free, AV.free0, AV.back, AV.backN, AV.isObj, AV.named, pack, lendAll, lend, objsOf, again, ha, hf, opsA]
  | true =>
    have hL : L.length ≤ 30 := by
      simp only [fewB, Bool.and_eq_true, decide_eq_true_eq] at hfb
      omega
    rw [hfb] at hf
    simp only [opsA] at hf
    simp [c7, C.run, runOps, OpC.step, OpC.eff, K.run, MSt.put, MSt.setObj, Opd.get, Opd.an, MSt.init, MSt.setRow, setRowC, AV.leaf, AV.whole, AV.cells, binC, eqC, natOf, loadC, loadI, Cl.okPtr, Cl.okMem, fillC, fin, finV, objAt, unname, resC, AV.free, AV.free0, AV.back, AV.backN, AV.isObj, AV.named, pack, lendAll, lend, objsOf, again, ha, hf, hb, opsA]
    refine ids_out h3 h4 nl L (by omega) hok 3 _ _ (fun s => ?_) L.length 0 (newNet (1 + k % 5)) (by simp) (Net.Inv.new _) (by simp [newNet]) _ ?_ ?_ ?_ ?_ ?_ ?_ <;> simp [newNet, opsA, C.run, runOps, OpC.step, OpC.eff, K.run, MSt.put, MSt.setObj, Opd.get, Opd.an, MSt.init, MSt.setRow, setRowC, AV.leaf, AV.whole, AV.cells, binC, eqC, natOf, loadC, loadI, Cl.okPtr, Cl.okMem, fillC, fin, finV, objAt, unname, resC, AV.free, AV.free0, AV.back, AV.backN, AV.isObj, AV.named, pack, lendAll, lend, objsOf, again]
end
end Go.Proofs.Ytinpinjjdkilpaa
