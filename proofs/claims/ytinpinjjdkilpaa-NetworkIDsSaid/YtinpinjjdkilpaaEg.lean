/- The operations, one by one: addresses, parts, slices, tests. -/
import Derived.Test.YtinpinjjdkilpaaEf
import Derived.Laws.Tables
namespace Go.Proofs.Ytinpinjjdkilpaa
open Go Go.RowKit
section
variable {P : Program} {O : Objs} {nt B : Nat} {F0 : Own} {av0 : Av} {w0 : World} {D : Nat → Prop} {s : MSt} {a : Act} {w w' : World} {ι : Ix} {Θ : Fam} {o : Oper}
theorem Cells_drop {av : Av} : ∀ {cs : List AV} {b off : Nat} (k : Nat), Cells av w cs b off → Cells av w (cs.drop k) b (off + k)
  | [], _, _, k, _ => by simp [Cells]
  | x :: r, b, off, 0, h => h
  | x :: r, b, off, k + 1, h => by
    simp only [Cells] at h
    rw [List.drop_succ_cons, show off + (k + 1) = off + 1 + k from by omega]
    exact Cells_drop k h.2.2
theorem CellsB_drop {av avb : Av} : ∀ {cs : List AV} {b off : Nat} (k : Nat), CellsB av avb w cs b off → CellsB av avb w (cs.drop k) b (off + k)
  | [], _, _, k, _ => by simp [CellsB]
  | x :: r, b, off, 0, h => h
  | x :: r, b, off, k + 1, h => by
    simp only [CellsB] at h
    rw [List.drop_succ_cons, show off + (k + 1) = off + 1 + k from by omega]
    exact CellsB_drop k h.2.2
theorem val_faddr (R : Rel P O nt B F0 av0 w0 D s a w ι Θ) {t : TypeId} {fs : Array Field} {f : Field} {i z : Nat} (ht : P.underlying t = some (.struct fs)) (hf : fs[i]? = some f) (hz : tSize P f.type = some (z + 1)) {X : Operand} {y : Opd} (h : opd X = some y) (ho : o.op = .fieldAddr t X i)
    {call} {x : Slot} {e : Eff} (hr : (K.faddr f.offset y).run call s = some (x, e)) : e = .none ∧ Val P av0 a w ι Θ o x := by
  have hX := (R.opd h).1
  have hrun : ∀ b off, a.eval X = .pointer (some ⟨b, off, none⟩) → (execOp a.eval o).run P w = .ok (.value (.pointer (some ⟨b, off + f.offset, none⟩))) w := fun b off hv => by
    simp [execOp, ho, Instr.fieldAt, run_underlying ht, hf, hv, Instr.sureAddr, fieldPlace, tSize_run hz, Addr.add_lit]
  simp only [K.run] at hr
  split at hr
  · rename_i t' n off hy
    injection hr with hr; injection hr with h1 h2; subst h1; subst h2
    rw [hy, repS_ptr] at hX
    obtain ⟨b, hb, hv⟩ := hX
    exact ⟨rfl, _, hrun _ _ hv, ⟨b, hb, rfl⟩, trivial⟩
  · rename_i cs hy
    injection hr with hr; injection hr with h1 h2; subst h1; subst h2
    rw [hy, repS_ip] at hX
    obtain ⟨b, off, hv, hc⟩ := hX
    exact ⟨rfl, _, hrun _ _ hv, by rw [repS_ip]; exact ⟨b, _, rfl, Cells_drop _ hc⟩, trivial⟩
  · rename_i cs hy
    injection hr with hr; injection hr with h1 h2; subst h1; subst h2
    rw [hy] at hX
    obtain ⟨b, off, hv, hc⟩ := hX
    exact ⟨rfl, _, hrun _ _ hv, ⟨b, _, rfl, CellsB_drop _ hc⟩, trivial⟩
  · cases hr
theorem val_field (R : Rel P O nt B F0 av0 w0 D s a w ι Θ) {t : TypeId} {fs : Array Field} {f : Field} {i z : Nat} {agg : Bool} (ht : P.underlying t = some (.struct fs)) (hf : fs[i]? = some f) (hA : tAgg P f.type = some agg) (hz : tSize P f.type = some z) {X : Operand} {y : Opd} (h : opd X = some y) (ho : o.op = .field t X i)
    {call} {x : Slot} {e : Eff} (hr : (K.field agg f.offset z y).run call s = some (x, e)) : e = .none ∧ Val P av0 a w ι Θ o x := by
  have hX := (R.opd h).1
  simp only [K.run] at hr
  split at hr
  · rename_i cs hy
    rw [hy, repS_agg] at hX
    obtain ⟨us, hv, hc⟩ := hX
    cases hl : loadI agg z (cs.drop f.offset) with
    | none => rw [hl] at hr; cases hr
    | some v =>
      rw [hl] at hr
      injection hr with hr; injection hr with h1 h2; subst h1; subst h2
      obtain ⟨u, hu, hS⟩ := part_run (avb := avB ι Θ) hA hz hc hl
      exact ⟨rfl, u, by simp [execOp, ho, Instr.field, run_underlying ht, hf, hv, asAgg, hu], hS, trivial⟩
  · cases hr
theorem natOf_int {v : AV} {n : Nat} (h : natOf v = some n) : ∃ k i, v = .int k i ∧ 0 ≤ i ∧ i.toNat = n := by
  unfold natOf at h
  split at h
  · rename_i k i
    split at h
    · injection h with h; exact ⟨k, i, rfl, by assumption, h⟩
    · cases h
  · cases h
theorem Rows_get {av : Av} {l : List (List AV)} {b off sz k : Nat} {cs : List AV} (h : Rows av w l b off) (hu : ∀ c ∈ l, c.length = sz) (hk : l[k]? = some cs) : Cells av w cs b (off + k * sz) := by
  have h1 := Cells_drop (k * sz) (Rows_flat.1 h)
  rw [flat_drop hu] at h1
  have hlt : k < l.length := (List.getElem?_eq_some_iff.1 hk).1
  have hkk : l[k] = cs := (List.getElem?_eq_some_iff.1 hk).2
  rw [List.drop_eq_getElem_cons hlt, List.flatten_cons, Cells_append, hkk] at h1
  exact h1.1
theorem RowsB_get {av avb : Av} {l : List (List AV)} {b off sz k : Nat} {cs : List AV} (h : RowsB av avb w l b off) (hu : ∀ c ∈ l, c.length = sz) (hk : l[k]? = some cs) : CellsB av avb w cs b (off + k * sz) := by
  have h1 := CellsB_drop (k * sz) (RowsB_flat.1 h)
  rw [flat_drop hu] at h1
  have hlt : k < l.length := (List.getElem?_eq_some_iff.1 hk).1
  have hkk : l[k] = cs := (List.getElem?_eq_some_iff.1 hk).2
  rw [List.drop_eq_getElem_cons hlt, List.flatten_cons, CellsB_append, hkk] at h1
  exact h1.1
theorem val_iaddr (R : Rel P O nt B F0 av0 w0 D s a w ι Θ) {t e' : TypeId} {z : Nat} (ht : P.underlying t = some (.slice e')) (hz : tSize P e' = some z) {X I : Operand} {y i : Opd} (h : opd X = some y) (hi : opd I = some i) (ho : o.op = .indexAddr t X I)
    {call} {x : Slot} {e : Eff} (hr : (K.iaddr z y i).run call s = some (x, e)) : e = .none ∧ Val P av0 a w ι Θ o x := by
  have hX := (R.opd h).1
  have hI := (R.opd hi).1
  simp only [K.run] at hr
  split at hr
  · rename_i k hk
    obtain ⟨kk, n, hi', h0, hn⟩ := natOf_int hk
    rw [hi', repS_int] at hI
    have hrun : ∀ b off len cap, a.eval X = .slice (some ⟨b, off, none⟩) len cap → k < len → (execOp a.eval o).run P w = .ok (.value (.pointer (some ⟨b, off + k * z, none⟩))) w := fun b off len cap hv hlt => by
      have hc : 0 ≤ n ∧ n < (len : Int) := ⟨h0, by omega⟩
      simp [execOp, ho, Instr.indexAt, run_underlying ht, hv, hI, asIntOf, hc, tSize_run hz, Addr.add_lit, hn]
    split at hr
    · rename_i nl l hy
      rw [hy, repS_sl] at hX
      simp only [Rep] at hX
      obtain ⟨A, c, hv, hc, hu, hn0, hs⟩ := hX
      cases hl : l[k]? with
      | none => rw [hl] at hr; cases hr
      | some cs =>
        rw [hl, Option.bind_some] at hr
        split at hr
        · rename_i hcs
          injection hr with hr; injection hr with h1 h2; subst h1; subst h2
          have hlt : k < l.length := (List.getElem?_eq_some_iff.1 hl).1
          have hmem : cs ∈ l := List.mem_of_getElem? hl
          have hnf : nl = false := by
            cases nl with
            | false => rfl
            | true => have := (hn0 rfl).2.1; omega
          obtain ⟨b, off, rfl, hrow⟩ := (hs hnf).2 (by omega)
          exact ⟨rfl, _, hrun _ _ _ _ hv hlt, by rw [repS_ip]; exact ⟨b, _, rfl, Rows_get hrow (fun c hc => (hu c hc cs hmem).trans hcs) hl⟩, trivial⟩
        · cases hr
    · rename_i l hy
      rw [hy] at hX
      obtain ⟨a', c, hv, hc, hu, hs⟩ := hX
      cases hl : l[k]? with
      | none => rw [hl] at hr; cases hr
      | some cs =>
        rw [hl, Option.bind_some] at hr
        split at hr
        · rename_i hcs
          injection hr with hr; injection hr with h1 h2; subst h1; subst h2
          have hlt : k < l.length := (List.getElem?_eq_some_iff.1 hl).1
          have hmem : cs ∈ l := List.mem_of_getElem? hl
          obtain ⟨b, off, rfl, hrow⟩ := hs (by omega)
          exact ⟨rfl, _, hrun _ _ _ _ hv hlt, ⟨b, _, rfl, RowsB_get hrow (fun c hc => (hu c hc cs hmem).trans hcs) hl⟩, trivial⟩
        · cases hr
    · rename_i t' n' sz off ln cap hy
      rw [hy, repS_ref] at hX
      obtain ⟨b, hb, hle, hv⟩ := hX
      split at hr
      · rename_i hlt
        injection hr with hr; injection hr with h1 h2; subst h1; subst h2
        obtain ⟨hlt, rfl⟩ := hlt
        exact ⟨rfl, _, hrun _ _ _ _ hv hlt, ⟨b, hb, rfl⟩, trivial⟩
      · cases hr
    · cases hr
  · cases hr
theorem val_index (R : Rel P O nt B F0 av0 w0 D s a w ι Θ) {t : TypeId} (ht : P.underlying t = some .string) {X I : Operand} {y i : Opd} (h : opd X = some y) (hi : opd I = some i) (ho : o.op = .index t X I)
    {call} {x : Slot} {e : Eff} (hr : (K.index y i).run call s = some (x, e)) : e = .none ∧ Val P av0 a w ι Θ o x := by
  have hX := (R.opd h).1
  have hI := (R.opd hi).1
  simp only [K.run] at hr
  split at hr
  · rename_i k b hk hy
    obtain ⟨kk, n, hi', h0, hn⟩ := natOf_int hk
    rw [hi', repS_int] at hI
    rw [hy, repS_str] at hX
    cases hb : b[k]? with
    | none => rw [hb] at hr; cases hr
    | some u =>
      rw [hb] at hr
      injection hr with hr; injection hr with h1 h2; subst h1; subst h2
      exact ⟨rfl, .int .u8 u.toNat, by simp [execOp, ho, Instr.index, run_underlying ht, hX, hI, asIntOf, h0, hn, hb], by rw [repS_int], trivial⟩
  · cases hr
theorem RepCT_get {av : Av} : ∀ {xs : List AV} {us : List Value} (_ : RepCT ι av w xs us) {j : Nat} {x : AV}, xs[j]? = some x → ∃ u, us[j]? = some u ∧ RepC ι av w x u
  | [], _, _, _, _, hx => by simp at hx
  | y :: r, _, h, j, x, hx => by
    simp only [RepCT] at h
    obtain ⟨u, us', rfl, h0, h⟩ := h
    cases j with
    | zero => simp at hx; subst hx; exact ⟨u, rfl, h0⟩
    | succ j => exact RepCT_get h (j := j) (by simpa using hx)
theorem RepCT_ofT {av : Av} : ∀ {xs : List AV} {us : List Value}, RepT av w xs us → RepCT ι av w xs us
  | [], _, h => by simpa [RepT, RepCT] using h
  | x :: r, _, h => by
    simp only [RepT] at h
    obtain ⟨u, us', rfl, h0, h⟩ := h
    exact ⟨u, us', rfl, RepC_of_rep h0, RepCT_ofT h⟩
theorem Rep_to_S {av avb : Av} {x : AV} {u : Value} (h : Rep av w x u) : RepS ι av avb w x u := by
  cases x <;> first
    | exact h
    | (simp only [Rep] at h; obtain ⟨us, hv, hc⟩ := h; exact ⟨us, hv, RepCL_ofL hc⟩)
    | (simp only [Rep] at h; obtain ⟨us, hv, hc⟩ := h; exact ⟨us, hv, RepCT_ofT hc⟩)
    | (simp [Rep] at h; done)
theorem RepC_to_S' {av avb : Av} {x : AV} {u : Value} (h : RepC ι av w x u) : RepS ι av avb w x u := by
  cases x <;> first | exact h | exact Rep_to_S h
theorem val_ext (R : Rel P O nt B F0 av0 w0 D s a w ι Θ) {i : Nat} {X : Operand} {y : Opd} (h : opd X = some y) (ho : o.op = .extract X i)
    {call} {x : Slot} {e : Eff} (hr : (K.ext y i).run call s = some (x, e)) : e = .none ∧ Val P av0 a w ι Θ o x := by
  have hX := (R.opd h).1
  simp only [K.run] at hr
  split at hr
  · rename_i vs hy
    rw [hy, repS_tup] at hX
    obtain ⟨us, hv, hc⟩ := hX
    cases hb : vs[i]? with
    | none => rw [hb] at hr; cases hr
    | some u =>
      rw [hb] at hr
      injection hr with hr; injection hr with h1 h2; subst h1; subst h2
      obtain ⟨u', hu, hrep⟩ := RepCT_get hc hb
      have hu' : us[i]? = some u' := by simpa using hu
      exact ⟨rfl, u', by simp [execOp, ho, Instr.extract, hv, hu'], RepC_to_S' hrep, trivial⟩
  · cases hr
theorem val_nilchk (R : Rel P O nt B F0 av0 w0 D s a w ι Θ) {X : Operand} {y : Opd} (h : opd X = some y) (ho : o.op = .nilCheck X)
    {call} {x : Slot} {e : Eff} (hr : (K.nilchk y).run call s = some (x, e)) : e = .none ∧ Val P av0 a w ι Θ o x := by
  have hX := (R.opd h).1
  simp only [K.run] at hr
  split at hr
  · rename_i t n off hy
    injection hr with hr; injection hr with h1 h2; subst h1; subst h2
    rw [hy] at hX
    obtain ⟨b, hb, hv⟩ := repS_ptr.1 hX
    exact ⟨rfl, .pointer (some ⟨b, off, none⟩), by simp [execOp, ho, hv], by rw [repS_ptr]; exact ⟨b, hb, rfl⟩, trivial⟩
  · rename_i cs hy
    injection hr with hr; injection hr with h1 h2; subst h1; subst h2
    rw [hy] at hX
    obtain ⟨b, off, hv, hc⟩ := repS_ip.1 hX
    exact ⟨rfl, .pointer (some ⟨b, off, none⟩), by simp [execOp, ho, hv], by rw [repS_ip]; exact ⟨b, off, rfl, hc⟩, trivial⟩
  · rename_i cs hy
    injection hr with hr; injection hr with h1 h2; subst h1; subst h2
    rw [hy] at hX
    obtain ⟨b, off, hv, hc⟩ := hX
    exact ⟨rfl, .pointer (some ⟨b, off, none⟩), by simp [execOp, ho, hv], ⟨b, off, rfl, hc⟩, trivial⟩
  · cases hr
theorem val_len (R : Rel P O nt B F0 av0 w0 D s a w ι Θ) {t : TypeId} {str : Bool} (ht : if str then P.underlying t = some .string else ∃ e, P.underlying t = some (.slice e)) {X : Operand} {y : Opd} (h : opd X = some y) (ho : o.op = .call { callee := .builtin .len, args := #[X], argTypes := #[t] })
    {call} {x : Slot} {e : Eff} (hr : (K.len str y).run call s = some (x, e)) : e = .none ∧ Val P av0 a w ι Θ o x := by
  have hX := (R.opd h).1
  have hsl : ∀ A n c, str = false → a.eval X = .slice A n c → (execOp a.eval o).run P w = .ok (.value (.int .i64 n)) w := fun A n c hs hv => by
    subst hs
    obtain ⟨e', ht⟩ := ht
    simp [execOp, ho, resolve, invoke, builtin, Builtin.len_, run_underlying ht, hv, goInt]
  simp only [K.run] at hr
  split at hr
  · rename_i nl l hy
    rw [hy, repS_sl] at hX
    simp only [Rep] at hX
    obtain ⟨A, c, hv, _⟩ := hX
    cases str with
    | true => simp at hr
    | false =>
      simp only [Bool.false_eq_true, if_false] at hr
      injection hr with hr; injection hr with h1 h2; subst h1; subst h2
      exact ⟨rfl, _, hsl _ _ _ rfl hv, by rw [repS_int], trivial⟩
  · rename_i l hy
    rw [hy] at hX
    obtain ⟨A, c, hv, _⟩ := hX
    cases str with
    | true => simp at hr
    | false =>
      simp only [Bool.false_eq_true, if_false] at hr
      injection hr with hr; injection hr with h1 h2; subst h1; subst h2
      exact ⟨rfl, _, hsl _ _ _ rfl hv, by rw [repS_int], trivial⟩
  · rename_i t' n sz off ln cap hy
    rw [hy, repS_ref] at hX
    obtain ⟨b, _, _, hv⟩ := hX
    cases str with
    | true => simp at hr
    | false =>
      simp only [Bool.false_eq_true, if_false] at hr
      injection hr with hr; injection hr with h1 h2; subst h1; subst h2
      exact ⟨rfl, _, hsl _ _ _ rfl hv, by rw [repS_int], trivial⟩
  · rename_i b hy
    rw [hy, repS_str] at hX
    cases str with
    | false => simp at hr
    | true =>
      simp only [if_true] at hr ht
      injection hr with hr; injection hr with h1 h2; subst h1; subst h2
      exact ⟨rfl, .int .i64 b.size, by simp [execOp, ho, resolve, invoke, builtin, Builtin.len_, run_underlying ht, hX, goInt], by rw [repS_int], trivial⟩
  · cases hr
theorem val_un (R : Rel P O nt B F0 av0 w0 D s a w ι Θ) {op : UnOp} {t : TypeId} {X : Operand} {y : Opd} (h : opd X = some y) (ho : o.op = .unOp op t X)
    {call} {x : Slot} {e : Eff} (hr : (K.un op y).run call s = some (x, e)) : e = .none ∧ Val P av0 a w ι Θ o x := by
  have hX := (R.opd h).1
  simp only [K.run] at hr
  split at hr
  · rename_i b hy
    injection hr with hr; injection hr with h1 h2; subst h1; subst h2
    rw [hy, repS_bool] at hX
    exact ⟨rfl, .bool (!b), by simp [execOp, ho, Op.unary, hX], by rw [repS_bool], trivial⟩
  · rename_i k n hy
    injection hr with hr; injection hr with h1 h2; subst h1; subst h2
    rw [hy, repS_int] at hX
    exact ⟨rfl, .int k (k.wrap (0 - n)), by simp [execOp, ho, Op.unary, Op.intArith, hX], by rw [repS_int], trivial⟩
  · cases hr
theorem val_conv (R : Rel P O nt B F0 av0 w0 D s a w ι Θ) {k : Option IntKind} {t t' : TypeId} (hk : match k with | some k => (∃ j, P.underlying t = some (.int j)) ∧ P.underlying t' = some (.int k) | none => P.underlying t = some .string ∧ P.underlying t' = some .string)
    {X : Operand} {y : Opd} (h : opd X = some y) (ho : o.op = .convert t t' X) {call} {x : Slot} {e : Eff} (hr : (K.conv k y).run call s = some (x, e)) : e = .none ∧ Val P av0 a w ι Θ o x := by
  have hX := (R.opd h).1
  simp only [K.run] at hr
  split at hr
  · rename_i k' j n hy
    injection hr with hr; injection hr with h1 h2; subst h1; subst h2
    rw [hy, repS_int] at hX
    obtain ⟨⟨i, h1⟩, h2⟩ := hk
    exact ⟨rfl, .int k' (k'.wrap n), by simp [execOp, ho, Go.convert, run_underlying h1, run_underlying h2, Conv.intToInt, hX], by rw [repS_int], trivial⟩
  · rename_i b hy
    injection hr with hr; injection hr with h1 h2; subst h1; subst h2
    rw [hy, repS_str] at hX
    exact ⟨rfl, .string b, by simp [execOp, ho, Go.convert, run_underlying hk.1, run_underlying hk.2, hX], by rw [repS_str], trivial⟩
  · cases hr
end
end Go.Proofs.Ytinpinjjdkilpaa
