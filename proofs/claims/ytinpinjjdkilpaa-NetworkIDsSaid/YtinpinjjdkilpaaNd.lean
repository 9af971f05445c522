/- The law of the numbers, on the machine. -/
import Derived.Test.YtinpinjjdkilpaaNc
namespace Go.Proofs.Ytinpinjjdkilpaa
open Go Go.RowKit
def c7_1 : C := .seq (.reg [⟨(.some 65), (.bin .lss .false (.t 64) (.t 63)), .none⟩]) (.seq (.cond (.t 65) .skip (.exit 2)) (.seq (.block 3 (.seq (.reg [⟨(.some 66), (.iaddr 4 (.t 62) (.t 64)), .none⟩, ⟨(.some 67), (.load .any .true 4 (.t 66)), .none⟩, ⟨(.some 14), (.alloc [(.int .i64 0), (.int .i64 0), (.int .i64 0), (.str (ByteArray.mk #[]))]), .none⟩, ⟨.none, (.store .any .true 4 (.t 14) (.t 67)), .none⟩]) (.seq (.seq (.reg [⟨(.some 68), (.faddr 0 (.t 14)), .none⟩, ⟨(.some 69), (.load .any .false 1 (.t 68)), .none⟩, ⟨(.some 70), (.mv (.t 12)), .none⟩, ⟨(.some 71), (.bin .leq .false (.t 69) (.t 70)), .none⟩]) (.cond (.t 71) (.seq (.reg [⟨(.some 4), (.mv (.c (.bool .false))), .none⟩]) .ret) .skip)) (.reg [⟨(.some 72), (.faddr 0 (.t 14)), .none⟩, ⟨(.some 73), (.load .any .false 1 (.t 72)), .none⟩, ⟨(.some 12), (.mv (.t 73)), .none⟩])))) (.reg [⟨(.some 74), (.bin .add .false (.t 64) (.c (.int .i64 1))), .none⟩, ⟨(.some 64), (.mv (.t 74)), .none⟩])))
def c7_2 : C := .seq (.reg [⟨(.some 34), (.bin .lss .false (.t 33) (.t 32)), .none⟩]) (.seq (.cond (.t 34) .skip (.exit 0)) (.seq (.block 1 (.seq (.reg [⟨(.some 35), (.iaddr 6 (.t 31) (.t 33)), .none⟩, ⟨(.some 36), (.load .any .true 6 (.t 35)), .none⟩, ⟨(.some 10), (.alloc [(.int .u8 0), (.int .i64 0), (.int .i64 0), (.int .i64 0), (.str (ByteArray.mk #[])), (.bool .false)]), .none⟩, ⟨.none, (.store .any .true 6 (.t 10) (.t 36)), .none⟩]) (.seq (.reg [⟨(.some 37), (.mv (.t 5)), .none⟩, ⟨(.some 38), (.load .any .true 6 (.t 10)), .none⟩, ⟨(.some 39), (.call .any 19 [(.t 37), (.t 38)]), .none⟩, ⟨(.some 11), (.alloc [(.int .i64 0), (.int .i64 0), (.int .i64 0), (.int .i64 0), (.str (ByteArray.mk #[])), (.int .i64 0), (.int .i64 0)]), .none⟩, ⟨.none, (.store .any .true 7 (.t 11) (.t 39)), .none⟩]) (.seq (.seq (.reg [⟨(.some 40), (.faddr 6 (.t 11)), .none⟩, ⟨(.some 41), (.load .any .false 1 (.t 40)), .none⟩, ⟨(.some 42), (.bin .eql .false (.t 41) (.c (.int .i64 0))), .none⟩, ⟨(.some 43), (.mv (.t 42)), .none⟩, ⟨(.some 44), (.faddr 0 (.t 10)), (.some (43, .true))⟩, ⟨(.some 45), (.load .any .false 1 (.t 44)), (.some (43, .true))⟩, ⟨(.some 46), (.bin .rem .false (.t 45) (.c (.int .u8 6))), (.some (43, .true))⟩, ⟨(.some 47), (.bin .eql .false (.t 46) (.c (.int .u8 0))), (.some (43, .true))⟩, ⟨(.some 48), (.mv (.t 47)), (.some (43, .true))⟩, ⟨(.some 49), (.faddr 0 (.t 10)), (.some (48, .false))⟩, ⟨(.some 50), (.load .any .false 1 (.t 49)), (.some (48, .false))⟩, ⟨(.some 51), (.bin .rem .false (.t 50) (.c (.int .u8 6))), (.some (48, .false))⟩, ⟨(.some 52), (.bin .eql .false (.t 51) (.c (.int .u8 3))), (.some (48, .false))⟩, ⟨(.some 53), (.pick (.t 48) (.c (.bool .true)) (.t 52)), (.some (43, .true))⟩, ⟨(.some 54), (.pick (.t 43) (.t 53) (.c (.bool .false))), .none⟩]) (.cond (.t 54) (.seq (.seq (.reg [⟨(.some 55), (.faddr 0 (.t 11)), .none⟩, ⟨(.some 56), (.load .any .false 1 (.t 55)), .none⟩, ⟨(.some 57), (.mv (.t 8)), .none⟩, ⟨(.some 58), (.bin .neq .false (.t 56) (.t 57)), .none⟩]) (.cond (.t 58) (.seq (.reg [⟨(.some 4), (.mv (.c (.bool .false))), .none⟩]) .ret) .skip)) (.reg [⟨(.some 59), (.mv (.t 8)), .none⟩, ⟨(.some 60), (.bin .add .false (.t 59) (.c (.int .i64 1))), .none⟩, ⟨(.some 8), (.mv (.t 60)), .none⟩])) .skip)) (.seq (.reg [⟨(.some 12), (.mv (.c (.int .i64 0))), .none⟩]) (.seq (.reg [⟨(.some 61), (.mv (.t 5)), .none⟩, ⟨(.some 62), (.call .any 14 [(.t 61)]), .none⟩, ⟨(.some 63), (.len .false (.t 62)), .none⟩, ⟨(.some 64), (.mv (.c (.int .i64 0))), .none⟩]) (.block 2 (.loop c7_1)))))))) (.reg [⟨(.some 75), (.bin .add .false (.t 33) (.c (.int .i64 1))), .none⟩, ⟨(.some 33), (.mv (.t 75)), .none⟩])))
def c7 : FnC := ⟨(.seq (.reg [⟨(.some 4), (.mv (.c (.bool .false))), .none⟩]) (.seq (.seq (.reg [⟨(.some 15), (.call .any 11 []), .none⟩, ⟨(.some 16), (.un .not (.t 15)), .none⟩, ⟨(.some 17), (.mv (.t 16)), .none⟩, ⟨(.some 18), (.mv (.t 1)), (.some (17, .false))⟩, ⟨(.some 19), (.call .any 16 [(.t 18), (.c (.int .i64 30))]), (.some (17, .false))⟩, ⟨(.some 20), (.un .not (.t 19)), (.some (17, .false))⟩, ⟨(.some 21), (.pick (.t 17) (.c (.bool .true)) (.t 20)), .none⟩]) (.cond (.t 21) (.seq (.reg [⟨(.some 22), (.call .any 11 []), .none⟩, ⟨(.some 4), (.mv (.t 22)), .none⟩]) .ret) .skip)) (.seq (.reg [⟨(.some 24), (.mv (.t 0)), .none⟩, ⟨(.some 25), (.call .any 17 [(.t 24)]), .none⟩, ⟨(.some 23), (.mv (.t 25)), .none⟩, ⟨(.some 26), (.ext (.t 23) 0), .none⟩, ⟨(.some 27), (.ext (.t 23) 1), .none⟩, ⟨(.some 28), (.ext (.t 23) 2), .none⟩, ⟨(.some 6), (.alloc [(.int .i64 0), (.int .i64 0), (.sl .true []), (.sl .true [])]), .none⟩, ⟨(.some 5), (.mv (.t 26)), .none⟩, ⟨.none, (.store .any .true 4 (.t 6) (.t 27)), .none⟩, ⟨(.some 7), (.mv (.t 28)), .none⟩]) (.seq (.seq (.reg [⟨(.some 29), (.mv (.t 7)), .none⟩, ⟨(.some 30), (.un .not (.t 29)), .none⟩]) (.cond (.t 30) (.seq (.reg [⟨(.some 4), (.mv (.c (.bool .false))), .none⟩]) .ret) .skip)) (.seq (.reg [⟨(.some 8), (.mv (.c (.int .i64 1))), .none⟩]) (.seq (.seq (.reg [⟨(.some 31), (.mv (.t 1)), .none⟩, ⟨(.some 32), (.len .false (.t 31)), .none⟩, ⟨(.some 33), (.mv (.c (.int .i64 0))), .none⟩]) (.block 0 (.loop c7_2))) (.seq (.reg [⟨(.some 4), (.mv (.c (.bool .true))), .none⟩]) .ret))))))), [(.tmp 4)], 2⟩
set_option maxRecDepth 10000
set_option linter.unusedSimpArgs false
section
variable {T : Nat → Option FnC}
/-- what the inner loop keeps -/
def Kp7 (s0 s : MSt) : Prop := s.env 5 = s0.env 5 ∧ s.env 8 = s0.env 8 ∧ s.env 31 = s0.env 31 ∧ s.env 32 = s0.env 32 ∧ s.env 33 = s0.env 33 ∧ s.obj = s0.obj
theorem ids_in (l : List Pkt) (hlen : l.length ≤ 100) (hasc : l.Pairwise fun p q => p.id < q.id) (r : RV) (k : Ex → MSt → Option RV) (s0 : MSt) (hk : ∀ s, Kp7 s0 s → k (.exit 2) s = some r) :
    ∀ (n j : Nat) (b : Int), j + n = l.length → (∀ h : j < l.length, b < (l[j]).id) → ∀ s : MSt, (s.env 64).v = .int .i64 j → (s.env 63).v = .int .i64 l.length → (s.env 62).v = pksA l → (s.env 12).v = .int .i64 b → Kp7 s0 s → evL T netExt c7_1 s k = some r := by
  intro n
  induction n with
  | zero =>
    intro j b hj hb s e64 e63 e62 e12 hK
    obtain rfl : j = l.length := by omega
    refine evL_intro ?_
    simp [c7_1, C.run, runOps, OpC.step, OpC.eff, K.run, MSt.put, MSt.setObj, Opd.get, Opd.an, MSt.init, MSt.setRow, setRowC, AV.leaf, AV.whole, AV.cells, binC, eqC, natOf, loadC, loadI, Cl.okPtr, Cl.okMem, fillC, fin, finV, objAt, unname, resC, AV.free, AV.free0, AV.back, AV.backN, AV.isObj, AV.named, pack, lendAll, lend, objsOf, again, e64, e63]
    exact hk _ (by simpa [Kp7] using hK)
  | succ n ih =>
    intro j b hj hb s e64 e63 e62 e12 hK
    have hlt : j < l.length := by omega
    have hw : IntKind.i64.wrap ((j : Int) + 1) = ((j + 1 : Nat) : Int) := by rw [IntWalk.i64_in _ (by omega)]; rfl
    have hle : ¬ (l[j]).id ≤ b := by have := hb hlt; omega
    refine evL_intro ?_
    simp [c7_1, C.run, runOps, OpC.step, OpC.eff, K.run, MSt.put, MSt.setObj, Opd.get, Opd.an, MSt.init, MSt.setRow, setRowC, AV.leaf, AV.whole, AV.cells, binC, eqC, natOf, loadC, loadI, Cl.okPtr, Cl.okMem, fillC, fin, finV, objAt, unname, resC, AV.free, AV.free0, AV.back, AV.backN, AV.isObj, AV.named, pack, lendAll, lend, objsOf, again, e64, e63, e62, e12, hlt, pksA, Pkt.cv, hw, hle]
    refine ih (j + 1) (l[j]).id (by omega) (fun h => List.pairwise_iff_getElem.1 hasc j (j + 1) hlt h (by omega)) _ ?_ ?_ ?_ ?_ ?_ <;> first | (simp [e64, e63, e62, e12, hw, pksA]; done) | (simpa [Kp7] using hK)
/-- a call of do -/
theorem do_ev (hT : T 19 = none) (S : Net) (hI : S.Inv) (hlast : S.last ≤ 1000000) (o : Op) (ho : o.ok) : evC T netExt 19 [.ptr 0 0 0, .agg (opC o)] (some (encN S)) = some (resA (S.exec o).2, some (encN (S.exec o).1)) := by
  refine evC_ext hT ?_
  have h1 := hI.len
  have h2 := hI.last
  have h3 : S.l.length ≤ 100 ∧ 0 ≤ S.last ∧ S.last ≤ 1000000 ∧ 0 ≤ o.kind ∧ o.kind ≤ 255 := ⟨by omega, h2, hlast, ho.1, ho.2⟩
  simp [netExt, opC, decN_enc, h3]
theorem pending_ev (hT : T 14 = none) (S : Net) (hI : S.Inv) : evC T netExt 14 [.ptr 0 0 0] (some (encN S)) = some (pksA S.l, some (encN S)) := by
  refine evC_ext hT ?_
  have h1 := hI.len
  have h3 : S.l.length ≤ 100 := by omega
  simp [netExt, decN_enc, h3]
theorem ids_out (hT1 : T 19 = none) (hT2 : T 14 = none) (nl : Bool) (L : List Op) (hlen : L.length ≤ 1000) (hok : ∀ o ∈ L, o.ok) (m : Nat) (r : RV) (k : Ex → MSt → Option RV) (hk : ∀ s, k (.exit 0) s = some r) :
    ∀ (n i : Nat) (S : Net), i + n = L.length → S.Inv → S.last ≤ i → ∀ s : MSt, (s.env 33).v = .int .i64 i → (s.env 32).v = .int .i64 L.length → (s.env 31).v = opsA nl L → (s.env 8).v = .int .i64 (S.last + 1) → (s.env 5).v = .ptr 25 m 0 → s.obj 25 m = some (encN S) → evL T netExt c7_2 s k = some r := by
  intro n
  induction n with
  | zero =>
    intro i S hi hI hl s e33 e32 e31 e8 e5 ob
    obtain rfl : i = L.length := by omega
    refine evL_intro ?_
    simp [c7_2, C.run, runOps, OpC.step, OpC.eff, K.run, MSt.put, MSt.setObj, Opd.get, Opd.an, MSt.init, MSt.setRow, setRowC, AV.leaf, AV.whole, AV.cells, binC, eqC, natOf, loadC, loadI, Cl.okPtr, Cl.okMem, fillC, fin, finV, objAt, unname, resC, AV.free, AV.free0, AV.back, AV.backN, AV.isObj, AV.named, pack, lendAll, lend, objsOf, again, e33, e32]
    exact hk _
  | succ n ih =>
    intro i S hi hI hl s e33 e32 e31 e8 e5 ob
    have hlt : i < L.length := by omega
    have hw : IntKind.i64.wrap ((i : Int) + 1) = ((i + 1 : Nat) : Int) := by rw [IntWalk.i64_in _ (by omega)]; rfl
    have ho := hok _ (List.getElem_mem hlt)
    have hdo := do_ev hT1 S hI (by omega) L[i] ho
    have hI' := (Net.exec_inv hI L[i]).1
    have hl' := Net.exec_last hI L[i]
    have hpe := pending_ev hT2 (S.exec L[i]).1 hI'
    obtain ⟨_, hu, hv⟩ := Net.exec_inv hI L[i]
    have ht : (L[i]).kind.tmod 6 = (L[i]).kind % 6 := Int.tmod_eq_emod_of_nonneg ho.1
    have hw2 : IntKind.i64.wrap (S.last + 1 + 1) = S.last + 1 + 1 := IntWalk.i64_in _ (by have := hI.last; omega)
    simp only [opC, resA] at hdo
    have hids : ∀ h : 0 < (S.exec L[i]).1.l.length, (0 : Int) < ((S.exec L[i]).1.l[0]).id := fun h => by have := (hI'.ids _ (List.getElem_mem h)).1; omega
    have hlen' : (S.exec L[i]).1.l.length ≤ 100 := by have := hI'.len; omega
    have hcase : ((S.exec L[i]).2.e = 0 ∧ (L[i]).kind % 6 = 0 ∧ (S.exec L[i]).2.id = S.last + 1 ∧ (S.exec L[i]).1.last = S.last + 1) ∨ ((S.exec L[i]).2.e = 0 ∧ ¬ (L[i]).kind % 6 = 0 ∧ (L[i]).kind % 6 = 3 ∧ (S.exec L[i]).2.id = S.last + 1 ∧ (S.exec L[i]).1.last = S.last + 1) ∨ ((S.exec L[i]).2.e = 0 ∧ ¬ (L[i]).kind % 6 = 0 ∧ ¬ (L[i]).kind % 6 = 3 ∧ (S.exec L[i]).1.last = S.last) ∨ (¬ (S.exec L[i]).2.e = 0 ∧ (S.exec L[i]).1.last = S.last) := by
      by_cases he : (S.exec L[i]).2.e = 0
      · by_cases c0 : (L[i]).kind % 6 = 0
        · exact .inl ⟨he, c0, ((hu (.inl c0)).1 he).1, ((hu (.inl c0)).1 he).2⟩
        · by_cases c3 : (L[i]).kind % 6 = 3
          · exact .inr (.inl ⟨he, c0, c3, ((hu (.inr c3)).1 he).1, ((hu (.inr c3)).1 he).2⟩)
          · exact .inr (.inr (.inl ⟨he, c0, c3, hv (fun h => h.elim c0 c3)⟩))
      · refine .inr (.inr (.inr ⟨he, ?_⟩))
        by_cases c : (L[i]).kind % 6 = 0 ∨ (L[i]).kind % 6 = 3
        · exact (hu c).2 he
        · exact hv c
    refine evL_intro ?_
    rcases hcase with ⟨he, c0, hid', hS⟩ | ⟨he, c0, c3, hid', hS⟩ | ⟨he, c0, c3, hS⟩ | ⟨he, hS⟩
    · simp [c7_2, C.run, runOps, OpC.step, OpC.eff, K.run, MSt.put, MSt.setObj, Opd.get, Opd.an, MSt.init, MSt.setRow, setRowC, AV.leaf, AV.whole, AV.cells, binC, eqC, natOf, loadC, loadI, Cl.okPtr, Cl.okMem, fillC, fin, finV, objAt, unname, resC, AV.free, AV.free0, AV.back, AV.backN, AV.isObj, AV.named, pack, lendAll, lend, objsOf, again, e33, e32, e31, e5, hlt, opsA, opC, ob, hdo, hpe, pksA, ht, e8, hw2, he, c0, hid']
      refine ids_in (S.exec L[i]).1.l hlen' hI'.asc r _ _ (fun s1 hK => ?_) (S.exec L[i]).1.l.length 0 0 (by simp) hids _ ?_ ?_ ?_ ?_ ⟨rfl, rfl, rfl, rfl, rfl, rfl⟩ <;> try (simp [pksA]; done)
      obtain ⟨k5, k8, k31, k32, k33, kob⟩ := hK
      simp [C.run, runOps, OpC.step, OpC.eff, K.run, MSt.put, MSt.setObj, Opd.get, Opd.an, MSt.init, MSt.setRow, setRowC, AV.leaf, AV.whole, AV.cells, binC, eqC, natOf, loadC, loadI, Cl.okPtr, Cl.okMem, fillC, fin, finV, objAt, unname, resC, AV.free, AV.free0, AV.back, AV.backN, AV.isObj, AV.named, pack, lendAll, lend, objsOf, again, k33, e33, hw]
      refine ih (i + 1) (S.exec L[i]).1 (by omega) hI' (by omega) _ ?_ ?_ ?_ ?_ ?_ ?_ <;> simp [k5, k8, k31, k32, k33, kob, hw, e33, e32, e31, e8, e5, opsA, hS]
    · simp [c7_2, C.run, runOps, OpC.step, OpC.eff, K.run, MSt.put, MSt.setObj, Opd.get, Opd.an, MSt.init, MSt.setRow, setRowC, AV.leaf, AV.whole, AV.cells, binC, eqC, natOf, loadC, loadI, Cl.okPtr, Cl.okMem, fillC, fin, finV, objAt, unname, resC, AV.free, AV.free0, AV.back, AV.backN, AV.isObj, AV.named, pack, lendAll, lend, objsOf, again, e33, e32, e31, e5, hlt, opsA, opC, ob, hdo, hpe, pksA, ht, e8, hw2, he, c0, c3, hid']
      refine ids_in (S.exec L[i]).1.l hlen' hI'.asc r _ _ (fun s1 hK => ?_) (S.exec L[i]).1.l.length 0 0 (by simp) hids _ ?_ ?_ ?_ ?_ ⟨rfl, rfl, rfl, rfl, rfl, rfl⟩ <;> try (simp [pksA]; done)
      obtain ⟨k5, k8, k31, k32, k33, kob⟩ := hK
      simp [C.run, runOps, OpC.step, OpC.eff, K.run, MSt.put, MSt.setObj, Opd.get, Opd.an, MSt.init, MSt.setRow, setRowC, AV.leaf, AV.whole, AV.cells, binC, eqC, natOf, loadC, loadI, Cl.okPtr, Cl.okMem, fillC, fin, finV, objAt, unname, resC, AV.free, AV.free0, AV.back, AV.backN, AV.isObj, AV.named, pack, lendAll, lend, objsOf, again, k33, e33, hw]
      refine ih (i + 1) (S.exec L[i]).1 (by omega) hI' (by omega) _ ?_ ?_ ?_ ?_ ?_ ?_ <;> simp [k5, k8, k31, k32, k33, kob, hw, e33, e32, e31, e8, e5, opsA, hS]
    · simp [c7_2, C.run, runOps, OpC.step, OpC.eff, K.run, MSt.put, MSt.setObj, Opd.get, Opd.an, MSt.init, MSt.setRow, setRowC, AV.leaf, AV.whole, AV.cells, binC, eqC, natOf, loadC, loadI, Cl.okPtr, Cl.okMem, fillC, fin, finV, objAt, unname, resC, AV.free, AV.free0, AV.back, AV.backN, AV.isObj, AV.named, pack, lendAll, lend, objsOf, again, e33, e32, e31, e5, hlt, opsA, opC, ob, hdo, hpe, pksA, ht, e8, hw2, he, c0, c3]
      refine ids_in (S.exec L[i]).1.l hlen' hI'.asc r _ _ (fun s1 hK => ?_) (S.exec L[i]).1.l.length 0 0 (by simp) hids _ ?_ ?_ ?_ ?_ ⟨rfl, rfl, rfl, rfl, rfl, rfl⟩ <;> try (simp [pksA]; done)
      obtain ⟨k5, k8, k31, k32, k33, kob⟩ := hK
      simp [C.run, runOps, OpC.step, OpC.eff, K.run, MSt.put, MSt.setObj, Opd.get, Opd.an, MSt.init, MSt.setRow, setRowC, AV.leaf, AV.whole, AV.cells, binC, eqC, natOf, loadC, loadI, Cl.okPtr, Cl.okMem, fillC, fin, finV, objAt, unname, resC, AV.free, AV.free0, AV.back, AV.backN, AV.isObj, AV.named, pack, lendAll, lend, objsOf, again, k33, e33, hw]
      refine ih (i + 1) (S.exec L[i]).1 (by omega) hI' (by omega) _ ?_ ?_ ?_ ?_ ?_ ?_ <;> simp [k5, k8, k31, k32, k33, kob, hw, e33, e32, e31, e8, e5, opsA, hS]
    · simp [c7_2, C.run, runOps, OpC.step, OpC.eff, K.run, MSt.put, MSt.setObj, Opd.get, Opd.an, MSt.init, MSt.setRow, setRowC, AV.leaf, AV.whole, AV.cells, binC, eqC, natOf, loadC, loadI, Cl.okPtr, Cl.okMem, fillC, fin, finV, objAt, unname, resC, AV.free, AV.free0, AV.back, AV.backN, AV.isObj, AV.named, pack, lendAll, lend, objsOf, again, e33, e32, e31, e5, hlt, opsA, opC, ob, hdo, hpe, pksA, ht, e8, hw2, he]
      refine ids_in (S.exec L[i]).1.l hlen' hI'.asc r _ _ (fun s1 hK => ?_) (S.exec L[i]).1.l.length 0 0 (by simp) hids _ ?_ ?_ ?_ ?_ ⟨rfl, rfl, rfl, rfl, rfl, rfl⟩ <;> try (simp [pksA]; done)
      obtain ⟨k5, k8, k31, k32, k33, kob⟩ := hK
      simp [C.run, runOps, OpC.step, OpC.eff, K.run, MSt.put, MSt.setObj, Opd.get, Opd.an, MSt.init, MSt.setRow, setRowC, AV.leaf, AV.whole, AV.cells, binC, eqC, natOf, loadC, loadI, Cl.okPtr, Cl.okMem, fillC, fin, finV, objAt, unname, resC, AV.free, AV.free0, AV.back, AV.backN, AV.isObj, AV.named, pack, lendAll, lend, objsOf, again, k33, e33, hw]
      refine ih (i + 1) (S.exec L[i]).1 (by omega) hI' (by omega) _ ?_ ?_ ?_ ?_ ?_ ?_ <;> simp [k5, k8, k31, k32, k33, kob, hw, e33, e32, e31, e8, e5, opsA, hS]
end
end Go.Proofs.Ytinpinjjdkilpaa
