/- The operations, one by one: cuts, tests of aggregates, aggregates that are built. -/
import Derived.Test.YtinpinjjdkilpaaEg
namespace Go.Proofs.Ytinpinjjdkilpaa
open Go Go.RowKit
section
variable {P : Program} {O : Objs} {nt B : Nat} {F0 : Own} {av0 : Av} {w0 : World} {D : Nat → Prop} {s : MSt} {a : Act} {w w' : World} {ι : Ix} {Θ : Fam} {o : Oper}
/-- an end of a cut: given or not -/
def endOf (a : Act) (d : Nat) : Option Operand → Option Value × Nat → Prop
  | none, (v, n) => v = none ∧ n = d
  | some x, (v, n) => v = some (a.eval x) ∧ ∃ k i, a.eval x = .int k i ∧ 0 ≤ i ∧ i.toNat = n
theorem sliceAt_slice {t e : TypeId} {z : Nat} (ht : P.underlying t = some (.slice e)) (hz : tSize P e = some z) {A : Option Addr} {n c : Nat} {L H : Option Operand} {l h : Nat} (hl : endOf a 0 L (L.map a.eval, l)) (hh : endOf a n H (H.map a.eval, h)) (h1 : l ≤ h) (h2 : h ≤ c) :
    (Instr.sliceAt t (.slice A n c) (L.map a.eval) (H.map a.eval) none).run P w = .ok (.slice (if c = l then A else A.map (·.add (l * z))) (h - l) (c - l)) w := by
  cases L with
  | none =>
    obtain ⟨_, rfl⟩ := hl
    cases H with
    | none =>
      obtain ⟨_, rfl⟩ := hh
      simp [Instr.sliceAt, Instr.slice, Instr.sliceBounds, run_underlying ht, tSize_run hz]
    | some x =>
      obtain ⟨_, k, i, hx, h0, rfl⟩ := hh
      have : 0 ≤ i ∧ i ≤ (c : Int) := ⟨h0, by omega⟩
      simp [Instr.sliceAt, Instr.slice, Instr.sliceBounds, Instr.sliceBound, run_underlying ht, tSize_run hz, hx, asIntOf, this]
  | some y =>
    obtain ⟨_, k', i', hy, h0', rfl⟩ := hl
    cases H with
    | none =>
      obtain ⟨_, rfl⟩ := hh
      have : 0 ≤ i' ∧ i' ≤ (h : Int) := ⟨h0', by omega⟩
      simp [Instr.sliceAt, Instr.slice, Instr.sliceBounds, Instr.sliceBound, run_underlying ht, tSize_run hz, hy, asIntOf, this]
    | some x =>
      obtain ⟨_, k, i, hx, h0, rfl⟩ := hh
      have h3 : 0 ≤ i ∧ i ≤ (c : Int) := ⟨h0, by omega⟩
      have h4 : 0 ≤ i' ∧ i' ≤ (i.toNat : Int) := ⟨h0', by omega⟩
      have h5 : i' ≤ max i 0 := by omega
      simp [Instr.sliceAt, Instr.slice, Instr.sliceBounds, Instr.sliceBound, run_underlying ht, tSize_run hz, hx, hy, asIntOf, h3, h4, h5]
theorem sliceAt_string {t : TypeId} (ht : P.underlying t = some .string) {b : ByteArray} {L H : Option Operand} {l h : Nat} (hl : endOf a 0 L (L.map a.eval, l)) (hh : endOf a b.size H (H.map a.eval, h)) (h1 : l ≤ h) (h2 : h ≤ b.size) :
    (Instr.sliceAt t (.string b) (L.map a.eval) (H.map a.eval) none).run P w = .ok (.string (b.extract l h)) w := by
  cases L with
  | none =>
    obtain ⟨_, rfl⟩ := hl
    cases H with
    | none =>
      obtain ⟨_, rfl⟩ := hh
      simp [Instr.sliceAt, Instr.slice, Instr.sliceBounds, run_underlying ht]
    | some x =>
      obtain ⟨_, k, i, hx, h0, rfl⟩ := hh
      have : 0 ≤ i ∧ i ≤ (b.size : Int) := ⟨h0, by omega⟩
      simp [Instr.sliceAt, Instr.slice, Instr.sliceBounds, Instr.sliceBound, run_underlying ht, hx, asIntOf, this]
  | some y =>
    obtain ⟨_, k', i', hy, h0', rfl⟩ := hl
    cases H with
    | none =>
      obtain ⟨_, rfl⟩ := hh
      have : 0 ≤ i' ∧ i' ≤ (b.size : Int) := ⟨h0', by omega⟩
      simp [Instr.sliceAt, Instr.slice, Instr.sliceBounds, Instr.sliceBound, run_underlying ht, hy, asIntOf, this]
    | some x =>
      obtain ⟨_, k, i, hx, h0, rfl⟩ := hh
      have h3 : 0 ≤ i ∧ i ≤ (b.size : Int) := ⟨h0, by omega⟩
      have h4 : 0 ≤ i' ∧ i' ≤ (i.toNat : Int) := ⟨h0', by omega⟩
      have h5 : i' ≤ max i 0 := by omega
      simp [Instr.sliceAt, Instr.slice, Instr.sliceBounds, Instr.sliceBound, run_underlying ht, hx, hy, asIntOf, h3, h4, h5]
theorem rel_endOf (R : Rel P O nt B F0 av0 w0 D s a w ι Θ) {L : Option Operand} {l : Option Opd} (h : opdO L = some l) {d n : Nat} (hn : endC s d l = some n) : endOf a d L (L.map a.eval, n) := by
  cases L with
  | none =>
    injection h with h
    subst h
    injection hn with hn
    exact ⟨rfl, hn.symm⟩
  | some X =>
    simp only [opdO] at h
    cases hx : opd X with
    | none => rw [hx] at h; cases h
    | some x =>
      rw [hx] at h
      injection h with h
      subst h
      obtain ⟨k, i, hi, h0, hn⟩ := natOf_int hn
      have := (R.opd hx).1
      rw [hi, repS_int] at this
      exact ⟨rfl, k, i, this, h0, hn⟩
theorem sub_flat {sz : Nat} {e : List (List AV)} (hu : ∀ c ∈ e, c.length = sz) (l h : Nat) : ((e.take h).drop l).flatten = (e.flatten.take (h * sz)).drop (l * sz) := by
  rw [← flat_drop (fun c hc => hu c (List.mem_of_mem_take hc)) l]
  congr 1
  clear l
  induction e generalizing h with
  | nil => simp
  | cons c r ih =>
    cases h with
    | zero => simp
    | succ h =>
      have hc : c.length = sz := hu c (by simp)
      rw [List.take_succ_cons, List.flatten_cons, List.flatten_cons, List.take_append, hc, ih (fun c hc => hu c (by simp [hc])),
        List.take_of_length_le (l := c) (by rw [hc, Nat.succ_mul]; omega), show (h + 1) * sz - sz = h * sz from by rw [Nat.succ_mul]; omega]
theorem Cells_take {av : Av} {cs : List AV} {b off : Nat} (k : Nat) (h : Cells av w cs b off) : Cells av w (cs.take k) b off := by
  rw [← List.take_append_drop k cs, Cells_append] at h
  exact h.1
theorem CellsB_take {av avb : Av} {cs : List AV} {b off : Nat} (k : Nat) (h : CellsB av avb w cs b off) : CellsB av avb w (cs.take k) b off := by
  rw [← List.take_append_drop k cs, CellsB_append] at h
  exact h.1
theorem val_slc (R : Rel P O nt B F0 av0 w0 D s a w ι Θ) {t : TypeId} {str : Bool} {z : Nat} (ht : if str then P.underlying t = some .string else ∃ e, P.underlying t = some (.slice e) ∧ tSize P e = some z) {X : Operand} {L H : Option Operand} {x : Opd} {l h : Option Opd} (hx : opd X = some x) (hl : opdO L = some l) (hh : opdO H = some h)
    (ho : o.op = .slice t X L H none) {call} {y : Slot} {e : Eff} (hr : (K.slc str z x l h none).run call s = some (y, e)) : e = .none ∧ Val P av0 a w ι Θ o y := by
  have hX := (R.opd hx).1
  simp only [K.run] at hr
  split at hr
  · cases hr
  · rename_i lo hlo
    have hL := rel_endOf R hl hlo
    split at hr
    · rename_i b e' hy
      rw [hy, repS_sl] at hX
      simp only [Rep] at hX
      obtain ⟨A, c, hv, hc, hu, hn, hs⟩ := hX
      split at hr
      · rename_i hi hhi
        have hH := rel_endOf R hh hhi
        split at hr
        · rename_i hcond
          obtain ⟨h1, h2, h3, rfl⟩ := hcond
          injection hr with hr; injection hr with e1 e2; subst e1; subst e2
          obtain ⟨el, ht1, ht2⟩ := ht
          have hsz : ∀ c ∈ e', c.length = z := fun c hc => by simpa using List.all_eq_true.1 h3 c hc
          have hrun := sliceAt_slice (w := w) (A := A) ht1 ht2 hL hH h1 (Nat.le_trans h2 hc)
          refine ⟨rfl, .slice (if c = lo then A else A.map (·.add (lo * z))) (hi - lo) (c - lo), by simp only [execOp, ho, hv, Option.map_none, Sem.run_bind, hrun, Result.andThen_ok, Sem.run_pure], ?_, trivial⟩
          simp only [repS_sl, Rep]
          have hlen : ((e'.take hi).drop lo).length = hi - lo := by rw [List.length_drop, List.length_take]; omega
          refine ⟨_, _, by rw [hlen], by rw [hlen]; omega, fun x hx y hy => (hsz x (List.mem_of_mem_take (List.mem_of_mem_drop hx))).trans (hsz y (List.mem_of_mem_take (List.mem_of_mem_drop hy))).symm, fun hb => ?_, fun hb => ?_⟩
          · obtain ⟨rfl, h0, rfl⟩ := hn hb
            refine ⟨by simp, by omega, by omega⟩
          · obtain ⟨hs1, hs2⟩ := hs hb
            by_cases hcl : c = lo
            · exact ⟨fun _ => by omega, fun h0 => by omega⟩
            · refine ⟨fun hA => ?_, fun h0 => ?_⟩
              · rw [if_neg hcl] at hA
                cases hA0 : A with
                | none => have := hs1 hA0; omega
                | some a => rw [hA0] at hA; cases hA
              obtain ⟨bb, off, rfl, hrow⟩ := hs2 (by omega)
              refine ⟨bb, off + lo * z, by rw [if_neg hcl]; simp only [Option.map_some, Addr.add_lit], ?_⟩
              rw [Rows_flat, sub_flat hsz]
              exact Cells_drop _ (Cells_take _ (Rows_flat.1 hrow))
        · cases hr
      · cases hr
    · rename_i e' hy
      rw [hy] at hX
      obtain ⟨a', c, hv, hc, hu, hs⟩ := hX
      split at hr
      · rename_i hi hhi
        have hH := rel_endOf R hh hhi
        split at hr
        · rename_i hcond
          obtain ⟨h1, h2, h3, rfl⟩ := hcond
          injection hr with hr; injection hr with e1 e2; subst e1; subst e2
          obtain ⟨el, ht1, ht2⟩ := ht
          have hsz : ∀ c ∈ e', c.length = z := fun c hc => by simpa using List.all_eq_true.1 h3 c hc
          have hrun := sliceAt_slice (w := w) (A := some a') ht1 ht2 hL hH h1 (Nat.le_trans h2 hc)
          refine ⟨rfl, .slice (if c = lo then some a' else (some a').map (·.add (lo * z))) (hi - lo) (c - lo), by simp only [execOp, ho, hv, Option.map_none, Sem.run_bind, hrun, Result.andThen_ok, Sem.run_pure], ?_, trivial⟩
          have hlen : ((e'.take hi).drop lo).length = hi - lo := by rw [List.length_drop, List.length_take]; omega
          refine ⟨if c = lo then a' else a'.add (lo * z), c - lo, by rw [hlen]; split <;> simp, by rw [hlen]; omega, fun x hx y hy => (hsz x (List.mem_of_mem_take (List.mem_of_mem_drop hx))).trans (hsz y (List.mem_of_mem_take (List.mem_of_mem_drop hy))).symm, fun h0 => ?_⟩
          rw [if_neg (by omega)]
          obtain ⟨bb, off, rfl, hrow⟩ := hs (by omega)
          refine ⟨bb, off + lo * z, by rw [Addr.add_lit], ?_⟩
          rw [RowsB_flat, sub_flat hsz]
          exact CellsB_drop _ (CellsB_take _ (RowsB_flat.1 hrow))
        · cases hr
      · cases hr
    · rename_i t' n sz off ln cap hy
      rw [hy, repS_ref] at hX
      obtain ⟨b, hb, hle, hv⟩ := hX
      split at hr
      · rename_i hi hhi
        have hH := rel_endOf R hh hhi
        split at hr
        · rename_i hcond
          obtain ⟨h1, h2, rfl, rfl⟩ := hcond
          injection hr with hr; injection hr with e1 e2; subst e1; subst e2
          obtain ⟨el, ht1, ht2⟩ := ht
          have hrun := sliceAt_slice (w := w) (A := some ⟨b, off, none⟩) ht1 ht2 hL hH h1 h2
          refine ⟨rfl, .slice (if cap = lo then some ⟨b, off, none⟩ else (some (⟨b, off, none⟩ : Addr)).map (·.add (lo * sz))) (hi - lo) (cap - lo), by simp only [execOp, ho, hv, Option.map_none, Sem.run_bind, hrun, Result.andThen_ok, Sem.run_pure], ⟨b, hb, by omega, ?_⟩, trivial⟩
          split <;> simp [Addr.add_lit]
        · cases hr
      · cases hr
    · rename_i b hy
      rw [hy, repS_str] at hX
      split at hr
      · rename_i hi hhi
        have hH := rel_endOf R hh hhi
        split at hr
        · rename_i hcond
          obtain ⟨h1, h2, rfl⟩ := hcond
          injection hr with hr; injection hr with e1 e2; subst e1; subst e2
          have hrun := sliceAt_string (w := w) ht hL hH h1 h2
          exact ⟨rfl, .string (b.extract lo hi), by simp only [execOp, ho, hX, Option.map_none, Sem.run_bind, hrun, Result.andThen_ok, Sem.run_pure], by rw [repS_str], trivial⟩
        · cases hr
      · cases hr
    · cases hr
end
end Go.Proofs.Ytinpinjjdkilpaa
