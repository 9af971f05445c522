/- The operations, one by one: allocation, stores, slices that are built. -/
import Derived.Test.YtinpinjjdkilpaaEj
namespace Go.Proofs.Ytinpinjjdkilpaa
open Go Go.RowKit
section
variable {P : Program} {O : Objs} {nt B : Nat} {F0 : Own} {av0 : Av} {w0 : World} {D : Nat → Prop} {s : MSt} {a : Act} {w w' : World} {ι : Ix} {Θ : Fam} {o : Oper}
def RelE (P : Program) (O : Objs) (nt B : Nat) (F0 : Own) (av0 : Av) (w0 : World) (D : Nat → Prop) (s : MSt) (a : Act) (w : World) : Prop := ∃ ι Θ, Rel P O nt B F0 av0 w0 D s a w ι Θ
theorem RowOk.of {av : Av} : ∀ {r : List Slot} {cur : List Value}, RepCL ι av w (r.map (·.v)) cur → (∀ (j : Nat) (x : Slot) (u : Value), r[j]? = some x → cur[j]? = some u → AnOk Θ x.a u) → RowOk ι Θ av w r cur.toArray := by
  intro r cur h ha
  refine ⟨by have := RepCL_length h; simpa using this, fun j x hx => ?_⟩
  obtain ⟨u, hu, h1, hr⟩ := RepCL_get h (j := j) (x := x.v) (by simp [hx])
  exact ⟨u, by simpa using hu, h1, hr, ha j x u hx hu⟩
theorem op_alloc (R : Rel P O nt B F0 av0 w0 D s a w ι Θ) {t : TypeId} {zero : List AV} (hz : tZero P t = some zero) (ho : o.op = .alloc t) {d : Nat} (hdst : o.dst = some d) (hd : d < nt) (hD : ¬ D d) {call} {xe : Slot × Eff} (hr : (K.alloc zero).run call s = some xe) {g} {s' : MSt} (he : OpC.eff ⟨o.dst, .alloc zero, g⟩ s xe = some s') :
    ∃ v w', (execOp a.eval o).run P w = .ok (.value v) w' ∧ RelE P O nt B F0 av0 w0 (fun t => D t ∨ t = d) s' (a.put o.dst v) w' := by
  obtain ⟨z, i, hi, hiz, hrun, hl⟩ := tZero_run hz w
  simp only [K.run] at hr
  injection hr with hr
  subst hr
  simp only [OpC.eff, hdst] at he
  injection he with he
  subst he
  refine ⟨.pointer (some ⟨w.heap.size, 0, none⟩), w.alloc (.cells z.cells t), by simp [execOp, ho, Instr.alloc, hrun, newVar, newRow], ?_⟩
  rw [hdst]
  have hrep := avAll_rep (ι := ι) hl (avA av0 ι Θ) w
  have hrow : RowOk ι Θ (avA av0 ι Θ) w (zero.map fun v => ⟨v, zeroAn v⟩) z.cells.toList.toArray := RowOk.of (by
    rw [List.map_map, show ((fun x : Slot => x.v) ∘ fun v => (⟨v, zeroAn v⟩ : Slot)) = id from rfl, List.map_id]
    exact hrep) (fun j x u hx hu => by
    rw [List.getElem?_map] at hx
    cases hzj : zero[j]? with
    | none => rw [hzj] at hx; cases hx
    | some v =>
      rw [hzj] at hx
      injection hx with hx
      subst hx
      obtain ⟨u', hu', _, hr⟩ := RepCL_get hrep hzj
      rw [hu] at hu'
      injection hu' with hu'
      subst hu'
      show AnOk Θ (zeroAn v) u
      unfold zeroAn
      split
      · simp only [RepC, Rep] at hr
        obtain ⟨A, c, rfl, _, _, hn, _⟩ := hr
        obtain ⟨rfl, h0, rfl⟩ := hn trivial
        exact ⟨none, 0, by rw [h0]⟩
      · trivial)
  rw [Array.toArray_toList] at hrow
  exact let ⟨ι', h⟩ := R.new hd hD t hrow (x := .ptr d s.next 0) (v := .pointer (some ⟨w.heap.size, 0, none⟩)) (fun ι' h => ⟨_, h, rfl⟩); ⟨ι', Θ, h⟩
theorem op_boxE (R : Rel P O nt B F0 av0 w0 D s a w ι Θ) {t : TypeId} {z : Nat} {X : Operand} {x : Opd} (hx : opd X = some x) (ho : o.op = .box t X) {d : Nat} (hdst : o.dst = some d) (hd : d < nt) (hD : ¬ D d) {call} {xe : Slot × Eff} (hr : (K.box z x).run call s = some xe) {g} {s' : MSt} (he : OpC.eff ⟨o.dst, .box z x, g⟩ s xe = some s') :
    ∃ v w', (execOp a.eval o).run P w = .ok (.value v) w' ∧ RelE P O nt B F0 av0 w0 (fun t => D t ∨ t = d) s' (a.put o.dst v) w' := by
  have hX := R.opd hx
  have hrun : (execOp a.eval o).run P w = .ok (.value (.pointer (some ⟨w.heap.size, 0, none⟩))) (w.alloc (.cells (a.eval X).cells t)) := by simp [execOp, ho, Instr.box, newVar, newRow]
  have key : ∀ (r : List Slot), RowOk ι Θ (avA av0 ι Θ) w r (a.eval X).cells → RelE P O nt B F0 av0 w0 (fun t => D t ∨ t = d) ((s.setRow d s.next r).put (some d) ⟨.ptr d s.next 0, .no⟩) (a.put (some d) (.pointer (some ⟨w.heap.size, 0, none⟩))) (w.alloc (.cells (a.eval X).cells t)) := fun r h =>
    let ⟨ι', h⟩ := R.new hd hD t h (x := .ptr d s.next 0) (v := .pointer (some ⟨w.heap.size, 0, none⟩)) (fun ι' h => ⟨_, h, rfl⟩); ⟨ι', Θ, h⟩
  simp only [K.run] at hr
  split at hr
  · rename_i cs hv
    split at hr
    · injection hr with hr
      subst hr
      simp only [OpC.eff, hdst] at he
      injection he with he
      subst he
      refine ⟨_, _, hrun, ?_⟩
      rw [hdst]
      refine key _ ?_
      rw [hv] at hX
      obtain ⟨us, hu, hc⟩ := hX.1
      rw [hu]
      have := RowOk.of (Θ := Θ) (r := cs.map fun v => (⟨v, .no⟩ : Slot)) (cur := us.toList) (ι := ι) (w := w) (av := avA av0 ι Θ) (by rw [List.map_map, show ((fun x : Slot => x.v) ∘ fun v => (⟨v, .no⟩ : Slot)) = id from rfl, List.map_id]; exact hc) (fun j x u hx _ => by
        rw [List.getElem?_map] at hx
        cases hzj : cs[j]? with
        | none => rw [hzj] at hx; cases hx
        | some v => rw [hzj] at hx; injection hx with hx; subst hx; trivial)
      simpa [Value.cells] using this
    · cases hr
  · rename_i hv
    split at hr
    · rename_i hleaf
      injection hr with hr
      subst hr
      simp only [OpC.eff, hdst] at he
      injection he with he
      subst he
      refine ⟨_, _, hrun, ?_⟩
      rw [hdst]
      refine key _ ?_
      obtain ⟨h1, h2⟩ := leaf_rep hX.1 hleaf
      have hc : (a.eval X).cells = #[a.eval X] := by
        generalize a.eval X = u at *
        cases u <;> first | rfl | (simp [Value.oneCell'] at h2; done)
      rw [hc]
      refine ⟨rfl, fun j y hy => ?_⟩
      cases j with
      | zero =>
        simp only [List.getElem?_cons_zero] at hy
        injection hy with hy
        subst hy
        exact ⟨a.eval X, rfl, h2, h1, hX.2⟩
      | succ j => simp at hy
    · cases hr
theorem range_rep (zero : List Value) (av : Av) {zs : List AV} (hz : RepCL ι av w zs zero) (c : Nat) : RepCL ι av w (List.replicate c zs).flatten (List.replicate c zero).flatten := by
  induction c with
  | zero => simp [RepCL]
  | succ c ih => rw [List.replicate_succ, List.replicate_succ, List.flatten_cons, List.flatten_cons]; exact RepCL_append hz ih
theorem range_mod (zero : Array Value) (c : Nat) : ((Array.range (c * zero.size)).map (zero[· % zero.size]!)).toList = (List.replicate c zero.toList).flatten := by
  apply List.ext_getElem?
  intro j
  have hlen : (List.replicate c zero.toList).flatten.length = c * zero.size := by simp
  rcases Nat.lt_or_ge j (c * zero.size) with h | h
  · have hpos : 0 < zero.size := by
      rcases Nat.eq_zero_or_pos zero.size with h0 | h0
      · rw [h0] at h; simp at h
      · exact h0
    have hm := Nat.mod_lt j hpos
    have e1 : ((Array.range (c * zero.size)).map (zero[· % zero.size]!)).toList[j]? = some zero[j % zero.size] := by
      simp [h, hm]
    rw [e1]
    clear e1 hlen
    induction c generalizing j with
    | zero => simp at h
    | succ c ih =>
      rw [List.replicate_succ, List.flatten_cons]
      rcases Nat.lt_or_ge j zero.size with h1 | h1
      · rw [List.getElem?_append_left (by simpa using h1)]
        have : j % zero.size = j := Nat.mod_eq_of_lt h1
        simp [this, h1]
      · rw [List.getElem?_append_right (by simpa using h1)]
        have h2 : j - zero.size < c * zero.size := by rw [Nat.succ_mul] at h; omega
        have h3 : (j - zero.size) % zero.size = j % zero.size := by
          conv => rhs; rw [show j = (j - zero.size) + zero.size from by omega, Nat.add_mod_right]
        have := ih (j - zero.size) h2 (Nat.mod_lt _ hpos)
        simp only [Array.length_toList] at this ⊢
        rw [← this]
        simp [h3]
  · rw [List.getElem?_eq_none (by simpa using h), List.getElem?_eq_none (by omega)]
theorem op_mks (R : Rel P O nt B F0 av0 w0 D s a w ι Θ) {t e : TypeId} {i : TypeInfo} {zero : List AV} (ht : P.underlying t = some (.slice e)) (hi : P.info? e = some i) (hz : tZero P e = some zero) (hsz : zero.length = i.size) {X Y : Operand} {x y : Opd} (hx : opd X = some x) (hy : opd Y = some y) (ho : o.op = .makeSlice t X Y) {d : Nat} (hdst : o.dst = some d) (hd : d < nt) (hD : ¬ D d)
    {call} {xe : Slot × Eff} (hr : (K.mks i.size i.bytes zero x y).run call s = some xe) {g} {s' : MSt} (he : OpC.eff ⟨o.dst, .mks i.size i.bytes zero x y, g⟩ s xe = some s') :
    ∃ v w', (execOp a.eval o).run P w = .ok (.value v) w' ∧ RelE P O nt B F0 av0 w0 (fun t => D t ∨ t = d) s' (a.put o.dst v) w' := by
  obtain ⟨z, i', hi', hiz, hzrun, hl⟩ := tZero_run hz w
  rw [hi] at hi'
  injection hi' with hi'
  subst hi'
  have hX := (R.opd hx).1
  have hY := (R.opd hy).1
  simp only [K.run] at hr
  split at hr
  · rename_i l c hln hcn
    obtain ⟨k1, n1, h1, h10, h11⟩ := natOf_int hln
    obtain ⟨k2, n2, h2, h20, h21⟩ := natOf_int hcn
    rw [h1, repS_int] at hX
    rw [h2, repS_int] at hY
    split at hr
    · rename_i hcond
      obtain ⟨hlc, hbytes, hcap, _⟩ := hcond
      injection hr with hr
      subst hr
      simp only [OpC.eff, hdst] at he
      injection he with he
      subst he
      have hzs : z.cells.size = i.size := by
        have := avAll_length hl
        simp only [Array.length_toList] at this
        omega
      have hc2 : n2 = (c : Int) := by omega
      have hb2 : (i.bytes : Int) * n2 ≤ 281474976710656 := by
        rw [hc2, ← Int.natCast_mul, Nat.mul_comm]
        omega
      have hmade : madeCells z.cells (c * i.size) = (List.replicate c z.cells.toList).flatten.toArray := by
        have h := range_mod z.cells c
        rw [hzs] at h
        unfold madeCells
        rw [← hzs] at h
        rw [← hzs]
        have h' := congrArg List.toArray h
        rw [Array.toArray_toList] at h'
        exact h'
      have hrun : (execOp a.eval o).run P w = .ok (.value (.slice (some ⟨w.heap.size, 0, none⟩) l c)) (w.alloc (.cells (List.replicate c z.cells.toList).flatten.toArray e)) := by
        have := run_make (P := P) w t e i z ht hi hiz k1 k2 n1 n2 h10 (by omega) hb2 (by omega)
        rw [h11, h21, hmade] at this
        simp [execOp, ho, hX, hY, this]
      refine ⟨_, _, hrun, ?_⟩
      rw [hdst]
      have hrow : RowOk ι Θ (avA av0 ι Θ) w ((List.replicate c zero).flatten.map fun v => (⟨v, .no⟩ : Slot)) (List.replicate c z.cells.toList).flatten.toArray := RowOk.of (by
        rw [List.map_map, show ((fun x : Slot => x.v) ∘ fun v => (⟨v, .no⟩ : Slot)) = id from rfl, List.map_id]
        exact range_rep _ _ (avAll_rep hl _ _) c) (fun j x u hx _ => by
        rw [List.getElem?_map] at hx
        cases hzj : (List.replicate c zero).flatten[j]? with
        | none => rw [hzj] at hx; cases hx
        | some v => rw [hzj] at hx; injection hx with hx; subst hx; trivial)
      exact let ⟨ι', h⟩ := R.new hd hD e hrow (x := .ref d s.next i.size 0 l c) (v := .slice (some ⟨w.heap.size, 0, none⟩) l c) (fun ι' h => ⟨_, h, hlc, rfl⟩); ⟨ι', Θ, h⟩
    · cases hr
  · cases hr
end
end Go.Proofs.Ytinpinjjdkilpaa
