/- Each operation that only computes, reads or makes nothing but a value: the model's run of it gives what the machine gives. -/
import Derived.Test.YtinpinjjdkilpaaEd
import Derived.Laws.Cells
namespace Go.Proofs.Ytinpinjjdkilpaa
open Go Go.RowKit
section
variable {P : Program} {O : Objs} {nt B : Nat} {F0 : Own} {av0 : Av} {w0 : World} {D : Nat → Prop} {s : MSt} {a : Act} {w w' : World} {ι : Ix} {Θ : Fam}
theorem tAgg_run {t : TypeId} {b : Bool} (h : tAgg P t = some b) (w : World) : (isAgg t).run P w = .ok b w := by
  unfold tAgg at h
  cases hu : P.underlying t with
  | none => rw [hu] at h; cases h
  | some d =>
    rw [hu] at h
    injection h with h
    subst h
    cases d <;> simp [isAgg, run_underlying hu]
theorem tSize_run {t : TypeId} {z : Nat} (h : tSize P t = some z) (w : World) : (sizeOf t).run P w = .ok z w := by
  unfold tSize at h
  cases hu : P.info? t with
  | none => rw [hu] at h; cases h
  | some d =>
    rw [hu] at h
    injection h with h
    subst h
    simp [sizeOf, typeInfo, hu]
theorem tZero_run {t : TypeId} {l : List AV} (h : tZero P t = some l) (w : World) : ∃ z i, P.info? t = some i ∧ i.zero = some z ∧ (zeroValue t).run P w = .ok z w ∧ avAll z.cells.toList = some l := by
  unfold tZero at h
  cases hu : P.info? t with
  | none => rw [hu] at h; cases h
  | some d =>
    rw [hu] at h
    cases hz : d.zero with
    | none => simp [hz] at h
    | some z =>
      simp only [Option.bind_some, hz] at h
      exact ⟨z, d, rfl, hz, by simp [zeroValue, typeInfo, hu, hz], h⟩
theorem avAll_length : ∀ {vs : List Value} {xs : List AV}, avAll vs = some xs → xs.length = vs.length
  | [], _, h => by injection h with h; subst h; rfl
  | v :: r, _, h => by
    unfold avAll at h
    cases hv : avOf v with
    | none => rw [hv] at h; cases h
    | some x =>
      rw [hv] at h
      cases hr : avAll r with
      | none => rw [hr] at h; cases h
      | some l => rw [hr] at h; injection h with h; subst h; simp [avAll_length hr]
/-- what an operation that turns nothing must give -/
def Val (P : Program) (av0 : Av) (a : Act) (w : World) (ι : Ix) (Θ : Fam) (o : Oper) (x : Slot) : Prop :=
  ∃ v, (execOp a.eval o).run P w = .ok (.value v) w ∧ RepS ι (avA av0 ι Θ) (avB ι Θ) w x.v v ∧ AnOk Θ x.a v
theorem repS_int {av avb : Av} {k : IntKind} {n : Int} {v : Value} : RepS ι av avb w (.int k n) v ↔ v = .int k n := by simp [RepS, RepC, Rep]
theorem repS_bool {av avb : Av} {b : Bool} {v : Value} : RepS ι av avb w (.bool b) v ↔ v = .bool b := by simp [RepS, RepC, Rep]
theorem repS_str {av avb : Av} {b : ByteArray} {v : Value} : RepS ι av avb w (.str b) v ↔ v = .string b := by simp [RepS, RepC, Rep]
theorem repS_nilP {av avb : Av} {v : Value} : RepS ι av avb w .nilP v ↔ v = .pointer none := by simp [RepS, RepC, Rep]
theorem repS_ptr {av avb : Av} {t n off : Nat} {v : Value} : RepS ι av avb w (.ptr t n off) v ↔ ∃ b, ι t n = some b ∧ v = .pointer (some ⟨b, off, none⟩) := Iff.rfl
theorem repS_ref {av avb : Av} {t n sz off len cap : Nat} {v : Value} : RepS ι av avb w (.ref t n sz off len cap) v ↔ ∃ b, ι t n = some b ∧ len ≤ cap ∧ v = .slice (some ⟨b, off, none⟩) len cap := Iff.rfl
theorem repS_ip {av avb : Av} {cs : List AV} {v : Value} : RepS ι av avb w (.ip cs) v ↔ ∃ b off, v = .pointer (some ⟨b, off, none⟩) ∧ Cells av w cs b off := by simp [RepS, RepC, Rep]
theorem repS_sl {av avb : Av} {nil : Bool} {l : List (List AV)} {v : Value} : RepS ι av avb w (.sl nil l) v ↔ Rep av w (.sl nil l) v := Iff.rfl
theorem repS_agg {av avb : Av} {cs : List AV} {v : Value} : RepS ι av avb w (.agg cs) v ↔ ∃ us, v = .agg us ∧ RepCL ι av w cs us.toList := Iff.rfl
theorem repS_tup {av avb : Av} {cs : List AV} {v : Value} : RepS ι av avb w (.tup cs) v ↔ ∃ us, v = .tuple us ∧ RepCT ι av w cs us.toList := Iff.rfl
theorem RepCL_length {av : Av} : ∀ {xs : List AV} {us : List Value}, RepCL ι av w xs us → us.length = xs.length
  | [], _, h => by simp only [RepCL] at h; subst h; rfl
  | x :: r, _, h => by
    simp only [RepCL] at h
    obtain ⟨u, us', rfl, _, _, h⟩ := h
    simp [RepCL_length h]
theorem RepCL_drop {av : Av} : ∀ {xs : List AV} {us : List Value} (n : Nat), RepCL ι av w xs us → RepCL ι av w (xs.drop n) (us.drop n)
  | [], _, n, h => by simp only [RepCL] at h; subst h; simp [RepCL]
  | x :: r, _, n, h => by
    cases n with
    | zero => exact h
    | succ n =>
      simp only [RepCL] at h
      obtain ⟨u, us', rfl, _, _, h⟩ := h
      exact RepCL_drop n h
theorem RepCL_take {av : Av} : ∀ {xs : List AV} {us : List Value} (n : Nat), RepCL ι av w xs us → RepCL ι av w (xs.take n) (us.take n)
  | [], _, n, h => by simp only [RepCL] at h; subst h; simp [RepCL]
  | x :: r, _, n, h => by
    cases n with
    | zero => simp [RepCL]
    | succ n =>
      simp only [RepCL] at h
      obtain ⟨u, us', rfl, h0, h1, h⟩ := h
      exact ⟨u, us'.take n, rfl, h0, h1, RepCL_take n h⟩
theorem RepCL_get {av : Av} : ∀ {xs : List AV} {us : List Value} (_ : RepCL ι av w xs us) {j : Nat} {x : AV}, xs[j]? = some x → ∃ u, us[j]? = some u ∧ u.oneCell' = true ∧ RepC ι av w x u
  | [], _, _, _, _, hx => by simp at hx
  | y :: r, _, h, j, x, hx => by
    simp only [RepCL] at h
    obtain ⟨u, us', rfl, h0, h1, h⟩ := h
    cases j with
    | zero => simp at hx; subst hx; exact ⟨u, rfl, h1, h0⟩
    | succ j => exact RepCL_get h (j := j) (by simpa using hx)
theorem RepCL_append {av : Av} : ∀ {xs ys : List AV} {us vs : List Value}, RepCL ι av w xs us → RepCL ι av w ys vs → RepCL ι av w (xs ++ ys) (us ++ vs)
  | [], _, _, _, h, h' => by simp only [RepCL] at h; subst h; exact h'
  | x :: r, _, _, _, h, h' => by
    simp only [RepCL] at h
    obtain ⟨u, us', rfl, h0, h1, h⟩ := h
    exact ⟨u, us' ++ _, rfl, h0, h1, RepCL_append h h'⟩
theorem RepCL_ofL {av : Av} : ∀ {xs : List AV} {us : List Value}, RepL av w xs us → RepCL ι av w xs us
  | [], _, h => by simpa [RepL, RepCL] using h
  | x :: r, _, h => by
    simp only [RepL] at h
    obtain ⟨u, us', rfl, h0, h1, h⟩ := h
    exact ⟨u, us', rfl, RepC_of_rep h0, h1, RepCL_ofL h⟩
theorem Cells_read {av : Av} : ∀ {cs : List AV} {b off : Nat}, Cells av w cs b off → ∃ us, RepL av w cs us ∧ ∀ (j : Nat) (u : Value), us[j]? = some u → w.cell? ⟨b, off + j, none⟩ = some u ∧ ¬ av b (off + j)
  | [], _, _, _ => ⟨[], rfl, fun j u h => by simp at h⟩
  | x :: r, b, off, h => by
    simp only [Cells] at h
    obtain ⟨⟨u, hc, hx, h1⟩, ha, hr⟩ := h
    obtain ⟨us, hl, hj⟩ := Cells_read hr
    refine ⟨u :: us, ⟨u, us, rfl, hx, h1, hl⟩, fun j v hv => ?_⟩
    cases j with
    | zero => simp at hv; subst hv; exact ⟨hc, ha⟩
    | succ j =>
      have := hj j v (by simpa using hv)
      rw [show off + (j + 1) = off + 1 + j from by omega]
      exact this
theorem CellsB_read {av avb : Av} : ∀ {cs : List AV} {b off : Nat}, CellsB av avb w cs b off → ∃ us, RepL av w cs us ∧ ∀ (j : Nat) (u : Value), us[j]? = some u → w.cell? ⟨b, off + j, none⟩ = some u ∧ ¬ avb b (off + j)
  | [], _, _, _ => ⟨[], rfl, fun j u h => by simp at h⟩
  | x :: r, b, off, h => by
    simp only [CellsB] at h
    obtain ⟨⟨u, hc, hx, h1⟩, ha, hr⟩ := h
    obtain ⟨us, hl, hj⟩ := CellsB_read hr
    refine ⟨u :: us, ⟨u, us, rfl, hx, h1, hl⟩, fun j v hv => ?_⟩
    cases j with
    | zero => simp at hv; subst hv; exact ⟨hc, ha⟩
    | succ j =>
      have := hj j v (by simpa using hv)
      rw [show off + (j + 1) = off + 1 + j from by omega]
      exact this
theorem Cells_mk {av : Av} : ∀ {cs : List AV} {us : List Value} {b off : Nat}, RepL av w cs us → (∀ (j : Nat) (u : Value), us[j]? = some u → w.cell? ⟨b, off + j, none⟩ = some u ∧ ¬ av b (off + j)) → Cells av w cs b off
  | [], _, _, _, _, _ => by simp [Cells]
  | x :: r, _, b, off, h, hj => by
    simp only [RepL] at h
    obtain ⟨u, us', rfl, h0, h1, h⟩ := h
    simp only [Cells]
    have h2 := hj 0 u rfl
    refine ⟨⟨u, h2.1, h0, h1⟩, h2.2, Cells_mk h fun j v hv => ?_⟩
    have := hj (j + 1) v (by simpa using hv)
    rw [show off + 1 + j = off + (j + 1) from by omega]
    exact this
theorem Cells_append {av : Av} : ∀ {cs ds : List AV} {b off : Nat}, Cells av w (cs ++ ds) b off ↔ Cells av w cs b off ∧ Cells av w ds b (off + cs.length)
  | [], ds, b, off => by simp [Cells]
  | x :: r, ds, b, off => by
    simp only [List.cons_append, Cells, Cells_append (cs := r), List.length_cons]
    rw [show off + (r.length + 1) = off + 1 + r.length from by omega]
    exact ⟨fun ⟨h1, h2, h3, h4⟩ => ⟨⟨h1, h2, h3⟩, h4⟩, fun ⟨⟨h1, h2, h3⟩, h4⟩ => ⟨h1, h2, h3, h4⟩⟩
theorem Rows_flat {av : Av} : ∀ {l : List (List AV)} {b off : Nat}, Rows av w l b off ↔ Cells av w l.flatten b off
  | [], b, off => by simp [Rows, Cells]
  | cs :: r, b, off => by
    simp only [Rows, List.flatten_cons, Cells_append, Rows_flat (l := r)]
theorem CellsB_append {av avb : Av} : ∀ {cs ds : List AV} {b off : Nat}, CellsB av avb w (cs ++ ds) b off ↔ CellsB av avb w cs b off ∧ CellsB av avb w ds b (off + cs.length)
  | [], ds, b, off => by simp [CellsB]
  | x :: r, ds, b, off => by
    simp only [List.cons_append, CellsB, CellsB_append (cs := r), List.length_cons]
    rw [show off + (r.length + 1) = off + 1 + r.length from by omega]
    exact ⟨fun ⟨h1, h2, h3, h4⟩ => ⟨⟨h1, h2, h3⟩, h4⟩, fun ⟨⟨h1, h2, h3⟩, h4⟩ => ⟨h1, h2, h3, h4⟩⟩
theorem RowsB_flat {av avb : Av} : ∀ {l : List (List AV)} {b off : Nat}, RowsB av avb w l b off ↔ CellsB av avb w l.flatten b off
  | [], b, off => by simp [RowsB, CellsB]
  | cs :: r, b, off => by
    simp only [RowsB, List.flatten_cons, CellsB_append, RowsB_flat (l := r)]
/-- elements of sz cells each -/
theorem flat_drop {sz : Nat} : ∀ {l : List (List AV)} (_ : ∀ c ∈ l, c.length = sz) (k : Nat), l.flatten.drop (k * sz) = (l.drop k).flatten
  | [], _, k => by simp
  | c :: r, h, k => by
    cases k with
    | zero => simp
    | succ k =>
      have hc : c.length = sz := h c (by simp)
      rw [List.flatten_cons, List.drop_succ_cons, List.drop_append, hc, show (k + 1) * sz - sz = k * sz from by rw [Nat.succ_mul]; omega,
        List.drop_eq_nil_of_le (by rw [hc, Nat.succ_mul]; omega), List.nil_append]
      exact flat_drop (fun c hc => h c (by simp [hc])) k
/-- part of a struct -/
theorem part_run {t : TypeId} {agg : Bool} {z : Nat} (hA : tAgg P t = some agg) (hz : tSize P t = some z) {av : Av} {cs : List AV} {us : Array Value} (h : RepCL ι av w cs us.toList) {off : Nat} {x : AV} {avb : Av}
    (hx : loadI agg z (cs.drop off) = some x) : ∃ v, (part t us off).run P w = .ok v w ∧ RepS ι av avb w x v := by
  cases agg with
  | true =>
    simp only [loadI, if_true] at hx
    split at hx
    · rename_i hle
      injection hx with hx
      subst hx
      refine ⟨.agg (us.extract off (off + z)), by simp [part, tAgg_run hA, tSize_run hz], _, rfl, ?_⟩
      have := RepCL_take z (RepCL_drop off h)
      have he : (us.extract off (off + z)).toList = (us.toList.drop off).take z := by
        rw [Array.toList_extract, List.extract_eq_take_drop, Nat.add_sub_cancel_left]
      rw [he]
      exact this
    · cases hx
  | false =>
    simp only [loadI, Bool.false_eq_true, if_false, List.getElem?_drop, Nat.add_zero] at hx
    obtain ⟨u, hu, h1, hr⟩ := RepCL_get h hx
    have hu' : us[off]? = some u := by simpa using hu
    refine ⟨u, by simp [part, tAgg_run hA, hu'], ?_⟩
    cases x <;> first | exact hr | (simp [RepC, Rep] at hr; obtain ⟨us', rfl, _⟩ := hr; simp [Value.oneCell'] at h1) | (simp [RepC, Rep] at hr)
end
end Go.Proofs.Ytinpinjjdkilpaa
