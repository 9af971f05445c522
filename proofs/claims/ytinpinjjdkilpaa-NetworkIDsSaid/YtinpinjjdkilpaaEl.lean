/- The operations, one by one: slices that are built, stores. -/
import Derived.Test.YtinpinjjdkilpaaEk
namespace Go.Proofs.Ytinpinjjdkilpaa
open Go Go.RowKit
section
variable {P : Program} {O : Objs} {nt B : Nat} {F0 : Own} {av0 : Av} {w0 : World} {D : Nat → Prop} {s : MSt} {a : Act} {w w' : World} {ι : Ix} {Θ : Fam} {o : Oper}
theorem Rel.alloc (R : Rel P O nt B F0 av0 w0 D s a w ι Θ) (ob : Obj) : Rel P O nt B F0 av0 w0 D s a (w.alloc ob) ι Θ :=
  R.grow (fun b hb => Below.heap_alloc w _ b hb) (by simp) (R.kept.alloc _)
theorem RepL_ofCL {av : Av} : ∀ {xs : List AV} {us : List Value}, RepCL ι av w xs us → (∀ x ∈ xs, x.free0 = true) → RepL av w xs us
  | [], _, h, _ => by simpa [RepL, RepCL] using h
  | x :: r, _, h, hf => by
    simp only [RepCL] at h
    obtain ⟨u, us', rfl, h0, h1, h⟩ := h
    refine ⟨u, us', rfl, ?_, h1, RepL_ofCL h fun y hy => hf y (List.mem_cons_of_mem _ hy)⟩
    have hx := hf x (List.mem_cons_self)
    cases x <;> first | exact h0 | (simp [AV.free0] at hx; done)
/-- parts laid one behind the other -/
theorem fill_flat (sz : Nat) : ∀ (ps : List (Nat × Opd)) (k : Nat) (A Z : List AV), ps.map (·.1) = List.range' k ps.length → A.length = k * sz → Z.length = ps.length * sz → (∀ p ∈ ps, (p.2.get s).cells.length = sz) →
    fillC (A ++ Z) (ps.map fun p => (p.1 * sz, sz, (p.2.get s).cells)) = some (A ++ (ps.map fun p => (p.2.get s).cells).flatten)
  | [], k, A, Z, _, _, hz, _ => by
    have : Z = [] := List.eq_nil_of_length_eq_zero (by simpa using hz)
    subst this
    simp [fillC]
  | (i, y) :: ps, k, A, Z, hp, hA, hZ, hl => by
    simp only [List.map_cons, List.length_cons, List.range'_succ] at hp
    injection hp with h1 h2
    subst h1
    have hy : (y.get s).cells.length = sz := hl (_, y) (List.mem_cons_self)
    simp only [List.length_cons] at hZ
    have hZ2 : sz ≤ Z.length := by rw [hZ, Nat.succ_mul]; omega
    simp only [List.map_cons, fillC]
    rw [if_pos ⟨hy, by simp [hA]; omega⟩]
    have e1 : (A ++ Z).take (i * sz) = A := by rw [← hA]; exact List.take_left
    have e2 : (A ++ Z).drop (i * sz + sz) = Z.drop sz := by rw [List.drop_append, ← hA, List.drop_eq_nil_of_le (by omega), List.nil_append]; congr 1; omega
    rw [e1, e2]
    have := fill_flat sz ps (i + 1) (A ++ (y.get s).cells) (Z.drop sz) h2 (by rw [List.length_append, hA, hy, Nat.succ_mul]) (by rw [List.length_drop, hZ, Nat.succ_mul]; omega) (fun p hp => hl p (List.mem_cons_of_mem _ hp))
    rw [this]
    simp
theorem placed_mul (sz : Nat) : ∀ (ps : List (Nat × Opd)), placed (fun i => some (i * sz, sz)) ps = some (ps.map fun p => (p.1 * sz, sz, p.2))
  | [] => rfl
  | (i, x) :: r => by simp [placed, placed_mul sz r]
theorem op_bsl (R : Rel P O nt B F0 av0 w0 D s a w ι Θ) {t e : TypeId} {n z : Nat} {zero : List AV} (ht : P.underlying t = some (.slice e)) (hz : tZero P e = some zero) (hs : tSize P e = some z) (hsz : zero.length = z) (hpos : 0 < z) (hmax : n * z ≤ 16777216) {ps : Array (Nat × Operand)} {ys : List (Nat × Opd)} (hy : opds ps.toList = some ys) (ho : o.op = .buildSlice t n ps)
    {call} {x : Slot} {ef : Eff} (hr : (K.bsl zero n ys).run call s = some (x, ef)) : ef = .none ∧ ∃ v w', (execOp a.eval o).run P w = .ok (.value v) w' ∧ Rel P O nt B F0 av0 w0 D s a w' ι Θ ∧ RepS ι (avA av0 ι Θ) (avB ι Θ) w' x.v v ∧ AnOk Θ x.a v := by
  obtain ⟨zv, i', hi', hiz, hzrun, hl⟩ := tZero_run hz w
  have hisz : i'.size = z := by simp [tSize, hi'] at hs; exact hs
  have hzs : zv.cells.size = z := by
    have := avAll_length hl
    simp only [Array.length_toList] at this
    omega
  simp only [K.run] at hr
  split at hr
  · rename_i hcond
    obtain ⟨hrange, hall⟩ := hcond
    injection hr with hr; injection hr with e1 e2; subst e1; subst e2
    have hall' : ∀ p ∈ ys, (p.2.get s).free = true ∧ (p.2.get s).cells.length = zero.length := fun p hp => by
      have := List.all_eq_true.1 hall p hp
      simpa using this
    have hn : ys.length = n := by
      have := congrArg List.length hrange
      simpa using this
    have hfill := fill_flat (s := s) z ys 0 [] (List.replicate n zero).flatten (by rw [hrange, List.range_eq_range', hn]) (by simp) (by simp [hn, hsz]) (fun p hp => by rw [(hall' p hp).2, hsz])
    rw [List.nil_append, List.nil_append] at hfill
    have hwhole : ∀ p ∈ ys, (p.2.get s).whole = true := fun p hp => by
      have := (hall' p hp).1
      generalize p.2.get s = v at this
      cases v <;> first | rfl | (simp [AV.free, AV.free0] at this; done)
    have hp := placed_mul z ys
    have hmade : ((Array.range (n * z)).map (((if n * z = 0 then (#[] : Array Value) else zv.cells)[· % (if n * z = 0 then (#[] : Array Value) else zv.cells).size]!))).toList = (List.replicate n zv.cells.toList).flatten := by
      rcases Nat.eq_zero_or_pos n with h0 | h0
      · subst h0; simp
      · have : ¬ n * z = 0 := by have := Nat.mul_pos h0 hpos; omega
        simp only [if_neg this]
        rw [← hzs]
        exact range_mod zv.cells n
    obtain ⟨us', h1, h2⟩ := fill_run (pl := fun i => some (i * z, z)) (ι := ι) (av := avA av0 ι Θ) (avb := avB ι Θ) (w := w) (s := s) (a := a) rfl (fun X y h => (R.opd h).1) hy hp (fun p hp => by
      obtain ⟨q, hq, rfl⟩ := List.mem_map.1 hp
      exact hwhole q hq) (by rw [List.map_map]; exact hfill) (us := (Array.range (n * z)).map (((if n * z = 0 then (#[] : Array Value) else zv.cells)[· % (if n * z = 0 then (#[] : Array Value) else zv.cells).size]!))) (by
        rw [hmade]
        exact range_rep _ _ (avAll_rep hl _ _) n)
    have hrun : (execOp a.eval o).run P w = .ok (.value (.slice (some ⟨w.heap.size, 0, none⟩) n n)) (w.alloc (.cells us' e)) := by
      have h3 : Instr.fill (fun i => some (i * z, z)) ((Array.range (n * z)).map (((if n * z = 0 then (#[] : Array Value) else zv.cells)[· % (if n * z = 0 then (#[] : Array Value) else zv.cells).size]!))) (ps.map fun (i, x) => (i, a.eval x)).toList = some us' := by
        rw [Array.toList_map]
        exact h1
      have hle : ¬ (n * z > 2 ^ 24) := by omega
      by_cases h0 : n * z = 0
      · simp only [if_pos h0] at h3
        simp only [execOp, ho, Instr.buildSlice, Sem.run_bind, run_underlying ht, Result.andThen_ok, tSize_run hs, if_neg hle, if_pos h0, Sem.run_pure, h3, newRow, run_newObj_alloc]
      · simp only [if_neg h0] at h3
        simp only [execOp, ho, Instr.buildSlice, Sem.run_bind, run_underlying ht, Result.andThen_ok, tSize_run hs, if_neg hle, if_neg h0, Sem.run_pure, hzrun, h3, newRow, run_newObj_alloc]
    refine ⟨rfl, _, _, hrun, R.alloc _, ?_, ⟨_, _, rfl⟩⟩
    have R' := R.alloc (.cells us' e)
    have hA : Held (avA av0 ι Θ) (avA av0 ι Θ) w (w.alloc (.cells us' e)) := Held.grown (fun b hb => Below.heap_alloc w _ b hb) fun _ _ _ h => h
    rw [repS_sl]
    simp only [Rep]
    have hlen : (ys.map fun p => (p.2.get s).cells).length = n := by simp [hn]
    refine ⟨_, n, by rw [hlen], by rw [hlen]; exact Nat.le_refl _, fun x hx y hy => ?_, (fun h => by cases h), fun _ => ⟨fun h => (by cases h), fun _ => ⟨w.heap.size, 0, rfl, ?_⟩⟩⟩
    · obtain ⟨p, hp, rfl⟩ := List.mem_map.1 hx
      obtain ⟨q, hq, rfl⟩ := List.mem_map.1 hy
      rw [(hall' p hp).2, (hall' q hq).2]
    · rw [Rows_flat]
      have hfree : ∀ x ∈ (ys.map fun p => (p.2.get s).cells).flatten, x.free0 = true := fun x hx => by
        obtain ⟨l, hl, hx⟩ := List.mem_flatten.1 hx
        obtain ⟨p, hp, rfl⟩ := List.mem_map.1 hl
        have := (hall' p hp).1
        generalize p.2.get s = v at this hx
        cases v <;> first | (simp [AV.cells] at hx; subst hx; exact this) | exact List.all_eq_true.1 this x hx
      refine Cells_mk (RepL.held hA _ _ (RepL_ofCL h2 hfree)) fun j u hu => ⟨?_, fun h => ?_⟩
      · rw [Nat.zero_add, cell_of_row _ w.heap.size j us' e (0, 0) (new_at rfl)]
        simpa using hu
      · have := R.low h
        omega
  · cases hr
theorem set_run {t : TypeId} {z : Nat} (hz : tSize P t = some z) {b off : Nat} {cur : Array Value} {ty : TypeId} (hb : w.heap[b]? = some (.cells cur ty (0, 0))) {v : Value} (hv : v.cells.size = z) (hle : off + z ≤ cur.size) (h1 : ∀ u ∈ v.cells.toList, u.oneCell' = true) :
    (Instr.storeAt t (.pointer (some ⟨b, off, none⟩)) v).run P w = .ok () (w.setRow b (cur.toList.take off ++ v.cells.toList ++ cur.toList.drop (off + z)).toArray) := by
  have hst := run_storeCells_at P b off ty v.cells.toList 0 cur w hb (by simp [hv]; omega) h1
  simp only [Nat.add_zero, Array.length_toList, hv] at hst
  simp [Instr.storeAt, Instr.sureAddr, storeVar, tSize_run hz, hv, hst]
theorem Rel.set (R : Rel P O nt B F0 av0 w0 D s a w ι Θ) {t n b : Nat} {cur : Array Value} {ty : TypeId} (hb : ι t n = some b) (hno : ι.ob t n = none) (hheap : w.heap[b]? = some (.cells cur ty (0, 0))) {r : List Slot} {new : Array Value} (hrow : RowOk ι Θ (avA av0 ι Θ) w r new) :
    Rel P O nt B F0 av0 w0 D (s.setRow t n r) a (w.setRow b new) ι Θ := by
  have hne : ∀ b', b' ≠ b → (w.setRow b new).heap[b']? = w.heap[b']? := fun b' h => setRow_other w b b' new h
  have hat : (w.setRow b new).heap[b]? = some (.cells new ty (0, 0)) := setRow_heap w b cur new ty (0, 0) hheap
  have hB : Held (avB ι Θ) (avB ι Θ) w (w.setRow b new) := ⟨fun b' o u hc hn => by
    have : b' ≠ b := fun e => hn (.inl (.inl ⟨t, n, e ▸ hb⟩))
    exact ⟨(World.cell?_of_block (w := w) (a := ⟨b', o, none⟩) (hne b' this)).trans hc, hn⟩⟩
  have hA : Held (avA av0 ι Θ) (avA av0 ι Θ) w (w.setRow b new) := ⟨fun b' o u hc hn => by
    have : b' ≠ b := fun e => hn (.inr (.inl (.inl ⟨t, n, e ▸ hb⟩)))
    exact ⟨(World.cell?_of_block (w := w) (a := ⟨b', o, none⟩) (hne b' this)).trans hc, hn⟩⟩
  have hmine := R.mine t n b hb
  refine ⟨R.defers, R.size, fun t => RepS.held (fun _ _ _ h => h) hA hB _ _ (R.env t), R.ann, fun t' n' r' hr => ?_, fun t n b h => ?_, R.inj, fun k o h => ?_, R.tinj, R.apart, R.out, R.pin, ?_, R.base, fun t' n' S h => ?_, fun t n H h => (R.obs t n H h).grow (by simp)⟩
  · simp only [MSt.setRow] at hr
    split at hr
    · rename_i e
      injection hr with hr
      subst hr
      exact ⟨by rw [e.1, e.2]; exact hno, b, new, ty, by rw [e.1, e.2]; exact hb, hat, hrow.held (fun _ _ _ h => h) hA (fun _ _ h => h)⟩
    · rename_i e
      obtain ⟨h0, b', cur', ty', h1, h2, h3⟩ := R.rows t' n' r' hr
      have : b' ≠ b := fun e' => e (R.inj _ _ _ _ _ (e' ▸ h1) hb)
      exact ⟨h0, b', cur', ty', h1, (hne b' this).trans h2, h3.held (fun _ _ _ h => h) hA (fun _ _ h => h)⟩
  · obtain ⟨h1, h2, h3⟩ := R.mine t n b h
    exact ⟨h1, by simpa using h2, h3⟩
  · obtain ⟨h1, h2, h3, h4, cur', h5, h6⟩ := R.tok k o h
    have : o.g ≠ b := fun e => R.apart k o t n h (e ▸ hb)
    exact ⟨h1, h2, h3, h4, cur', (hne _ this).trans h5, h6⟩
  · refine R.kept.setRow (fun hlt => ?_) _
    rcases hmine.1 with h | h
    · have := R.base; omega
    · exact h
  · obtain ⟨p, H, h1, h2, h3⟩ := R.objs t' n' S h
    refine ⟨p, H, h1, h2, O.keep h3 (fun b' hH => hne b' fun e => ?_) (by simp)⟩
    subst e
    have := ((R.obs _ _ _ h2).1 _ hH).2.2.1 t n hb
    rw [this.1, this.2, h2] at hno
    cases hno
theorem RowOk.splice {av : Av} {r : List Slot} {cur : Array Value} (h : RowOk ι Θ av w r cur) {off z : Nat} {m : List Slot} {us : Array Value} (hm : RowOk ι Θ av w m us) (hz : m.length = z) (hle : off + z ≤ r.length) : RowOk ι Θ av w (r.take off ++ m ++ r.drop (off + z)) (cur.toList.take off ++ us.toList ++ cur.toList.drop (off + z)).toArray := by
  obtain ⟨h1, h2⟩ := h
  obtain ⟨m1, m2⟩ := hm
  have hl : cur.toList.length = r.length := by simpa using h1
  refine ⟨by simp [hl, m1], fun j x hx => ?_⟩
  have ht : (r.take off).length = off := by rw [List.length_take]; omega
  have ht' : (cur.toList.take off).length = off := by rw [List.length_take]; omega
  simp only [List.getElem?_toArray]
  rcases Nat.lt_or_ge j off with hj | hj
  · rw [List.append_assoc, List.getElem?_append_left (by omega), List.getElem?_take] at hx
    rw [List.append_assoc, List.getElem?_append_left (by omega), List.getElem?_take]
    rw [if_pos hj] at hx ⊢
    obtain ⟨u, hu, h⟩ := h2 j x hx
    exact ⟨u, by simpa using hu, h⟩
  · rcases Nat.lt_or_ge j (off + z) with hj2 | hj2
    · rw [List.append_assoc, List.getElem?_append_right (by omega), List.getElem?_append_left (by omega), ht] at hx
      rw [List.append_assoc, List.getElem?_append_right (by omega), List.getElem?_append_left (by simp [m1]; omega), ht']
      obtain ⟨u, hu, h⟩ := m2 _ x hx
      exact ⟨u, by simpa using hu, h⟩
    · rw [List.append_assoc, List.getElem?_append_right (by omega), List.getElem?_append_right (by omega), ht, List.getElem?_drop] at hx
      rw [List.append_assoc, List.getElem?_append_right (by omega), List.getElem?_append_right (by simp [m1]; omega), ht', List.getElem?_drop]
      obtain ⟨u, hu, h⟩ := h2 _ x hx
      refine ⟨u, ?_, h⟩
      have : us.toList.length = m.length := by simpa using m1
      rw [this]
      simpa using hu
theorem op_store (R : Rel P O nt B F0 av0 w0 D s a w ι Θ) {t : TypeId} {agg : Bool} {z : Nat} (hz : tSize P t = some z) (hag : agg = true ∨ z = 1) {X Y : Operand} {x y : Opd} (hx : opd X = some x) (hy : opd Y = some y) (ho : o.op = .store t X Y) (hd : ∀ d, o.dst = some d → d < nt) {cl : Cl} {call} {xe : Slot × Eff} (hr : (K.store cl agg z x y).run call s = some xe) {g} {s' : MSt} (he : OpC.eff ⟨o.dst, .store cl agg z x y, g⟩ s xe = some s') :
    ∃ w', (execOp a.eval o).run P w = .ok .skip w' ∧ RelE P O nt B F0 av0 w0 D s' (a.put o.dst undef) w' := by
  have hX := (R.opd hx).1
  have hY := R.opd hy
  simp only [K.run] at hr
  split at hr
  · rename_i t' n off hxv
    rw [hxv, repS_ptr] at hX
    obtain ⟨b, hb, hv⟩ := hX
    split at hr
    · cases hm : s.mem t' n with
      | none => rw [hm] at hr; cases hr
      | some r =>
        rw [hm, Option.bind_some] at hr
        cases hs : setRowC agg z off r (y.get s) (y.an s) with
        | none => rw [hs] at hr; cases hr
        | some r' =>
          rw [hs] at hr
          injection hr with hr
          subst hr
          simp only [OpC.eff] at he
          injection he with he
          subst he
          obtain ⟨hnob, b', cur, ty, hb', hheap, hrow⟩ := R.rows t' n r hm
          rw [hb] at hb'
          injection hb' with hb'
          subst hb'
          have fin : ∀ (m : List Slot) (us : Array Value), r' = r.take off ++ m ++ r.drop (off + z) → m.length = z → off + z ≤ r.length → (a.eval Y).cells = us → RowOk ι Θ (avA av0 ι Θ) w m us → ∃ w', (execOp a.eval o).run P w = .ok .skip w' ∧ RelE P O nt B F0 av0 w0 D ((s.setRow t' n r').put o.dst ⟨.undef, .no⟩) (a.put o.dst undef) w' := fun m us h1 h2 h3 h4 h5 => by
            have hsz : (a.eval Y).cells.size = z := by rw [h4, h5.1, h2]
            have hone : ∀ u ∈ (a.eval Y).cells.toList, u.oneCell' = true := fun u hu => by
              rw [h4] at hu
              obtain ⟨j, hj, rfl⟩ := List.getElem_of_mem hu
              have hjm : j < m.length := by have := h5.1; simp at hj; omega
              obtain ⟨u', hu', h6, _⟩ := h5.2 j m[j] (List.getElem?_eq_getElem hjm)
              have : us[j]? = some (us.toList[j]) := by simp at hj ⊢
              rw [this] at hu'
              injection hu' with hu'
              rw [hu']
              exact h6
            have hrun := set_run (P := P) hz hheap hsz (by rw [hrow.1]; exact h3) hone
            refine ⟨w.setRow b (cur.toList.take off ++ (a.eval Y).cells.toList ++ cur.toList.drop (off + z)).toArray, by simp only [execOp, ho, hv, Sem.run_bind, hrun, Result.andThen_ok, Sem.run_pure], ι, Θ, Rel.putN ?_ hd trivial trivial⟩
            rw [h4]
            subst h1
            exact R.set hb hnob hheap (hrow.splice h5 h2 h3)
          cases agg with
          | true =>
            simp only [setRowC, if_true] at hs
            split at hs
            · rename_i cs hyv
              split at hs
              · rename_i hcond
                injection hs with hs
                rw [hyv] at hY
                obtain ⟨us, hu, hc⟩ := hY.1
                refine fin (cs.map (⟨·, .no⟩)) us hs.symm (by simpa using hcond.1) hcond.2 (by rw [hu]; rfl) ?_
                have := RowOk.of (Θ := Θ) (r := cs.map fun v => (⟨v, .no⟩ : Slot)) (cur := us.toList) (ι := ι) (w := w) (av := avA av0 ι Θ) (by rw [List.map_map, show ((fun x : Slot => x.v) ∘ fun v => (⟨v, .no⟩ : Slot)) = id from rfl, List.map_id]; exact hc) (fun j x u hx _ => by
                  rw [List.getElem?_map] at hx
                  cases hzj : cs[j]? with
                  | none => rw [hzj] at hx; cases hx
                  | some v => rw [hzj] at hx; injection hx with hx; subst hx; trivial)
                simpa using this
              · cases hs
            · cases hs
          | false =>
            have hz1 : z = 1 := by rcases hag with h | h; cases h; exact h
            subst hz1
            simp only [setRowC, Bool.false_eq_true, if_false] at hs
            split at hs
            · rename_i hcond
              injection hs with hs
              obtain ⟨h1, h2⟩ := leaf_rep hY.1 hcond.1
              have hc : (a.eval Y).cells = #[a.eval Y] := by
                generalize a.eval Y = u at *
                cases u <;> first | rfl | (simp [Value.oneCell'] at h2; done)
              refine fin [⟨y.get s, y.an s⟩] #[a.eval Y] ?_ rfl (by have := hcond.2; omega) hc ⟨rfl, fun j x hx => ?_⟩
              · rw [← hs, List.set_eq_take_append_cons_drop, if_pos hcond.2]
                simp
              · cases j with
                | zero => simp at hx; subst hx; exact ⟨a.eval Y, rfl, h2, h1, hY.2⟩
                | succ j => simp at hx
            · cases hs
    · cases hr
  · cases hr
end
end Go.Proofs.Ytinpinjjdkilpaa
