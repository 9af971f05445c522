/- The operations, one by one: aggregates that are built; new memory; stores. -/
import Derived.Test.YtinpinjjdkilpaaEi
namespace Go.Proofs.Ytinpinjjdkilpaa
open Go Go.RowKit
section
variable {P : Program} {O : Objs} {nt B : Nat} {F0 : Own} {av0 : Av} {w0 : World} {D : Nat → Prop} {s : MSt} {a : Act} {w w' : World} {ι : Ix} {Θ : Fam} {o : Oper}
theorem leaf_rep {av avb : Av} {x : AV} {v : Value} (h : RepS ι av avb w x v) (hx : x.leaf = true) : RepC ι av w x v ∧ v.oneCell' = true := by
  cases x <;> first
    | (simp [AV.leaf] at hx; done)
    | (refine ⟨h, ?_⟩; simp only [RepS, RepC, Rep] at h; subst h; rfl)
    | (refine ⟨h, ?_⟩; obtain ⟨b, _, rfl⟩ := h; rfl)
    | (refine ⟨h, ?_⟩; obtain ⟨b, _, _, rfl⟩ := h; rfl)
    | (refine ⟨h, ?_⟩; simp only [RepS, RepC, Rep] at h; obtain ⟨b, off, rfl, _⟩ := h; rfl)
theorem cells_rep {av avb : Av} {x : AV} {v : Value} (h : RepS ι av avb w x v) (hx : x.whole = true) : RepCL ι av w x.cells v.cells.toList := by
  cases x with
  | agg cs => obtain ⟨us, rfl, hc⟩ := h; exact hc
  | _ =>
    obtain ⟨h1, h2⟩ := leaf_rep h hx
    cases v <;> first | exact ⟨_, [], rfl, h1, h2, rfl⟩ | (simp [Value.oneCell'] at h2; done)
theorem zip_fold (off : Nat) : ∀ (l : List Value) (k : Nat) (cells : Array Value), off + k + l.length ≤ cells.size →
    ((l.zipIdx k).foldl (fun cs (p : Value × Nat) => cs.setIfInBounds (off + p.2) p.1) cells).toList = cells.toList.take (off + k) ++ l ++ cells.toList.drop (off + k + l.length)
  | [], k, cells, _ => by simp
  | v :: l, k, cells, h => by
    simp only [List.length_cons] at h
    rw [List.zipIdx_cons, List.foldl_cons, zip_fold off l (k + 1) _ (by simp; omega)]
    simp only [Array.toList_setIfInBounds, List.length_cons]
    have hk : off + k < cells.toList.length := by simp; omega
    rw [show off + (k + 1) = off + k + 1 from by omega, List.take_succ_eq_append_getElem (by simpa using hk)]
    rw [List.take_set_of_le (Nat.le_refl _), List.getElem_set_self, List.drop_set_of_lt (by omega)]
    simp [List.append_assoc, show off + k + 1 + l.length = off + k + (l.length + 1) from by omega]
theorem fill_run {pl : Nat → Option (Nat × Nat)} {av avb : Av} (hav : avb = avb) : ∀ {ps : List (Nat × Operand)} {ys : List (Nat × Opd)} {zs : List (Nat × Nat × Opd)} {cs ds : List AV} {us : Array Value},
    (∀ (X : Operand) (y : Opd), opd X = some y → RepS ι av avb w (y.get s) (a.eval X)) → opds ps = some ys → placed pl ys = some zs → (∀ p ∈ zs, (p.2.2.get s).whole = true) →
    fillC cs (zs.map fun p => (p.1, p.2.1, (p.2.2.get s).cells)) = some ds → RepCL ι av w cs us.toList → ∃ us', Instr.fill pl us (ps.map fun p => (p.1, a.eval p.2)) = some us' ∧ RepCL ι av w ds us'.toList
  | [], ys, zs, cs, ds, us, _, hy, hz, _, hf, hc => by
    injection hy with hy; subst hy
    injection hz with hz; subst hz
    injection hf with hf; subst hf
    exact ⟨us, rfl, hc⟩
  | (i, X) :: ps, ys, zs, cs, ds, us, hop, hy, hz, hl, hf, hc => by
    unfold opds at hy
    split at hy
    · rename_i x l hx hr
      injection hy with hy; subst hy
      unfold placed at hz
      split at hz
      · rename_i off z l' hp hr'
        injection hz with hz; subst hz
        simp only [List.map_cons, fillC] at hf
        split at hf
        · rename_i hcond
          have hcell := cells_rep (hop X x hx) (hl _ (List.mem_cons_self))
          have hlen := RepCL_length hcell
          have hlu := RepCL_length hc
          simp only [Array.length_toList] at hlen hlu
          have hsz : (a.eval X).cells.size = z := by rw [hlen]; exact hcond.1
          have hfold : ((a.eval X).cells.zipIdx.foldl (fun cs (p : Value × Nat) => cs.setIfInBounds (off + p.2) p.1) us).toList = us.toList.take off ++ (a.eval X).cells.toList ++ us.toList.drop (off + z) := by
            rw [← Array.foldl_toList, Array.toList_zipIdx, zip_fold off _ 0 us (by simp [hsz]; omega)]
            simp [hsz]
          have hnew : RepCL ι av w (cs.take off ++ (x.get s).cells ++ cs.drop (off + z)) (((a.eval X).cells.zipIdx.foldl (fun cs (p : Value × Nat) => cs.setIfInBounds (off + p.2) p.1) us)).toList := by
            rw [hfold]
            exact RepCL_append (RepCL_append (RepCL_take off hc) hcell) (RepCL_drop (off + z) hc)
          obtain ⟨us', h1, h2⟩ := fill_run hav hop hr hr' (fun p hp => hl p (List.mem_cons_of_mem _ hp)) hf hnew
          refine ⟨us', ?_, h2⟩
          simp only [List.map_cons, Instr.fill, hp]
          rw [if_neg (by simp [hsz]; omega)]
          exact h1
        · cases hf
      · cases hz
    · cases hy
theorem val_build (R : Rel P O nt B F0 av0 w0 D s a w ι Θ) {t : TypeId} {ps : Array (Nat × Operand)} {ys : List (Nat × Opd)} {zs : List (Nat × Nat × Opd)} {zero : List AV} {pl : Nat → Option (Nat × Nat)} {z : Value} (hzl : avAll z.cells.toList = some zero)
    (hb : P.built t (ps.map fun (i, x) => (i, a.eval x)).toList = Instr.fill pl z.cells (ps.map fun (i, x) => (i, a.eval x)).toList) (hy : opds ps.toList = some ys) (hp : placed pl ys = some zs) (ho : o.op = .build t ps)
    {call} {x : Slot} {e : Eff} (hr : (K.build zero zs).run call s = some (x, e)) : e = .none ∧ Val P av0 a w ι Θ o x := by
  simp only [K.run] at hr
  split at hr
  · rename_i hall
    cases hf : fillC zero (zs.map fun p => (p.1, p.2.1, (p.2.2.get s).cells)) with
    | none => rw [hf] at hr; cases hr
    | some ds =>
      rw [hf] at hr
      injection hr with hr; injection hr with e1 e2; subst e1; subst e2
      obtain ⟨us', h1, h2⟩ := fill_run (pl := pl) (ι := ι) (av := avA av0 ι Θ) (avb := avB ι Θ) (w := w) (s := s) (a := a) rfl (fun X y h => (R.opd h).1) hy hp (fun p hp => by
        have := List.all_eq_true.1 hall p hp
        exact this) hf (avAll_rep hzl _ _)
      have h3 : P.built t (ps.map fun (i, x) => (i, a.eval x)).toList = some us' := by
        rw [hb, Array.toList_map]
        exact h1
      exact ⟨rfl, .agg us', by simp only [execOp, ho, Sem.run_bind, run_build w t _ us' h3, Result.andThen_ok, Sem.run_pure], ⟨us', rfl, h2⟩, trivial⟩
  · cases hr
/-- new memory of the call's own -/
def Ix.add (ι : Ix) (d n b : Nat) : Ix := ⟨fun t' n' => if t' = d ∧ n' = n then some b else ι t' n', ι.ob⟩
theorem Rel.low (R : Rel P O nt B F0 av0 w0 D s a w ι Θ) {b o : Nat} (h : avA av0 ι Θ b o) : b < w.heap.size := by
  have h1 := R.kept.size
  have h2 := R.base
  rcases h with h | (⟨t, n, h⟩ | ⟨t, n, H, h, hb⟩) | ⟨k, ow, h, rfl, _⟩
  · have := R.out _ _ h; omega
  · exact (R.mine _ _ _ h).2.1
  · exact ((R.obs _ _ _ h).1 _ hb).2.1
  · obtain ⟨_, _, _, _, cur, h5, _⟩ := R.tok _ _ h
    exact lt_of_heap h5
theorem Rel.lowB (R : Rel P O nt B F0 av0 w0 D s a w ι Θ) : B ≤ w.heap.size := by
  have h1 := R.kept.size
  have h2 := R.base
  omega
theorem Rel.new (R : Rel P O nt B F0 av0 w0 D s a w ι Θ) {d : Nat} (hd : d < nt) (hD : ¬ D d) {r : List Slot} {cur : Array Value} (ty : TypeId) (hrow : RowOk ι Θ (avA av0 ι Θ) w r cur) {x : AV} {v : Value}
    (hx : ∀ ι' : Ix, ι' d s.next = some w.heap.size → RepS ι' (avA av0 ι' Θ) (avB ι' Θ) (w.alloc (.cells cur ty)) x v) :
    ∃ ι', Rel P O nt B F0 av0 w0 (fun t => D t ∨ t = d) ((s.setRow d s.next r).put (some d) ⟨x, .no⟩) (a.put (some d) v) (w.alloc (.cells cur ty)) ι' Θ := by
  have hfresh : ι d s.next = none := by
    cases h : ι d s.next with
    | none => rfl
    | some b =>
      rcases (R.mine _ _ _ h).2.2 with h1 | h1
      · omega
      · exact absurd h1.2 hD
  have hfresh' : ι.ob d s.next = none := by
    cases h : ι.ob d s.next with
    | none => rfl
    | some b =>
      rcases (R.obs _ _ _ h).2 with h1 | h1
      · omega
      · exact absurd h1.2 hD
  have hsub : ∀ t n b, ι t n = some b → (ι.add d s.next w.heap.size) t n = some b := fun t n b h => by
    show (if t = d ∧ n = s.next then some w.heap.size else ι t n) = some b
    split
    · rename_i e; rw [e.1, e.2, hfresh] at h; cases h
    · exact h
  have hold : ∀ t n b, (ι.add d s.next w.heap.size) t n = some b → b < w.heap.size → ι t n = some b := fun t n b h hb => by
    have h' : (if t = d ∧ n = s.next then some w.heap.size else ι t n) = some b := h
    split at h'
    · injection h' with h'; omega
    · exact h'
  have hnew : (ι.add d s.next w.heap.size) d s.next = some w.heap.size := by
    show (if d = d ∧ s.next = s.next then some w.heap.size else ι d s.next) = _
    rw [if_pos ⟨rfl, rfl⟩]
  have hBx : ∀ b o, b < w.heap.size → avB (ι.add d s.next w.heap.size) Θ b o → avB ι Θ b o := fun b o hb h => h.imp (fun h => h.imp (fun ⟨t, n, h⟩ => ⟨t, n, hold t n b h hb⟩) id) id
  have hAx : ∀ b o, b < w.heap.size → avA av0 (ι.add d s.next w.heap.size) Θ b o → avA av0 ι Θ b o := fun b o hb h => h.imp id (hBx b o hb)
  have hblk : ∀ b, b < w.heap.size → (w.alloc (.cells cur ty)).heap[b]? = w.heap[b]? := fun b hb => Below.heap_alloc w _ b hb
  have hA : Held (avA av0 ι Θ) (avA av0 (ι.add d s.next w.heap.size) Θ) w (w.alloc (.cells cur ty)) := Held.grown hblk hAx
  have hB : Held (avB ι Θ) (avB (ι.add d s.next w.heap.size) Θ) w (w.alloc (.cells cur ty)) := Held.grown hblk hBx
  have hBle := R.lowB
  refine ⟨ι.add d s.next w.heap.size, Rel.put (s := s.setRow d s.next r) ⟨R.defers, R.size, fun t => RepS.held hsub hA hB _ _ (R.env t), R.ann, fun t n r' hr => ?_, fun t n b h => ?_, fun t n t' n' b h h' => ?_, fun k o h => ?_, R.tinj, fun k o t n h h' => ?_, R.out, fun p h => hsub _ _ _ (R.pin p h), R.kept.alloc _, R.base, fun t n S h => ?_, fun t n H h => ?_⟩ hd (hx _ hnew) trivial⟩
  · simp only [MSt.setRow] at hr
    split at hr
    · rename_i e
      injection hr with hr
      subst hr
      refine ⟨by show ι.ob t n = none; rw [e.1, e.2]; exact hfresh', w.heap.size, cur, ty, by rw [e.1, e.2]; exact hnew, new_at rfl, hrow.held hsub hA (fun _ _ h => h)⟩
    · obtain ⟨h0, b, cur', ty', h1, h2, h3⟩ := R.rows t n r' hr
      exact ⟨h0, b, cur', ty', hsub _ _ _ h1, (hblk b (lt_of_heap h2)).trans h2, h3.held hsub hA (fun _ _ h => h)⟩
  · have h' : (if t = d ∧ n = s.next then some w.heap.size else ι t n) = some b := h
    split at h'
    · rename_i e
      injection h' with h'
      subst h'
      exact ⟨.inl hBle, by simp, .inr ⟨e.2, .inr e.1⟩⟩
    · obtain ⟨h2, h3, h4⟩ := R.mine t n b h'
      exact ⟨h2, by simp; omega, h4.imp id fun ⟨e, d⟩ => ⟨e, .inl d⟩⟩
  · have g : (if t = d ∧ n = s.next then some w.heap.size else ι t n) = some b := h
    have g' : (if t' = d ∧ n' = s.next then some w.heap.size else ι t' n') = some b := h'
    split at g <;> split at g'
    · rename_i e e'; exact ⟨e.1.trans e'.1.symm, e.2.trans e'.2.symm⟩
    · injection g with g; have := (R.mine _ _ _ g').2.1; omega
    · injection g' with g'; have := (R.mine _ _ _ g).2.1; omega
    · exact R.inj t n t' n' b g g'
  · obtain ⟨h1, h2, h3, h4, cur', h5, h6⟩ := R.tok k o h
    exact ⟨h1, h2, h3, h4, cur', (hblk _ (lt_of_heap h5)).trans h5, h6⟩
  · obtain ⟨_, _, _, _, cur', h5, _⟩ := R.tok k o h
    exact R.apart k o t n h (hold t n _ h' (lt_of_heap h5))
  · obtain ⟨p, H, h1, h2, h3⟩ := R.objs t n S h
    exact ⟨p, H, hsub _ _ _ h1, h2, O.keep h3 (fun b hH => hblk b (O.lt h3 hH)) (by simp)⟩
  · obtain ⟨h1, h2⟩ := R.obs t n H h
    refine ⟨fun b hb => ?_, h2.imp id fun ⟨e, d⟩ => ⟨e, .inl d⟩⟩
    obtain ⟨g1, g2, g3, g4⟩ := h1 b hb
    exact ⟨g1, by simp; omega, fun t' n' h' => g3 t' n' (hold t' n' b h' g2), g4⟩
end
end Go.Proofs.Ytinpinjjdkilpaa
