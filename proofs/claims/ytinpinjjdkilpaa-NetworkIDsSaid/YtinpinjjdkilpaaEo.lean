/- Calls; every operation. -/
import Derived.Test.YtinpinjjdkilpaaEn
namespace Go.Proofs.Ytinpinjjdkilpaa
open Go Go.RowKit
section
variable {P : Program} {O : Objs} {nt B : Nat} {F0 : Own} {av0 : Av} {w0 : World} {D : Nat → Prop} {s : MSt} {a : Act} {w w' : World} {ι : Ix} {Θ : Fam} {o : Oper}
/-- arguments -/
def RepA (ι : Ix) (av avl : Av) (w : World) : List AV → List Value → Prop
  | [], us => us = []
  | x :: r, us => ∃ u us', us = u :: us' ∧ RepS ι av avl w x u ∧ RepA ι av avl w r us'
def Ix.one (p : Nat) : Ix := ⟨fun t n => if t = 0 ∧ n = 0 then some p else .none, fun _ _ => .none⟩
/-- a result one of which is the object -/
def RepO (p : Nat) (av : Av) (w : World) (x : AV) (v : Value) : Prop := if x.isObj then v = .pointer (some ⟨p, 0, none⟩) else Rep av w x v
def RepOs (p : Nat) (av : Av) (w : World) : List AV → List Value → Prop
  | [], us => us = []
  | x :: r, us => ∃ u us', us = u :: us' ∧ RepO p av w x u ∧ RepOs p av w r us'
def RepN (p : Nat) (av : Av) (w : World) : AV → Value → Prop
  | .tup vs, v => ∃ us, v = .tuple us ∧ RepOs p av w vs us.toList
  | x, v => RepO p av w x v
/-- what a call of f gives, whatever the world: without an object; with one; one that is made -/
def CallOk (P : Program) (O : Objs) (f : FuncId) (args : List AV) (S0 : Option AV) (r : RV) : Prop :=
  (∀ xs w, (callFunc f xs).run P w = .ok (.enter f xs) w) ∧
  match S0, r.2 with
  | none, none => ∀ (av : Av) (w : World) (vs : List Value), (∀ b o, av b o → b < w.heap.size) → RepA Ix.none av (fun _ _ => False) w args vs →
    Calls P f vs.toArray w fun e w' => ∃ v, e = .returned v ∧ Rep av w' r.1 v ∧ Below w.heap.size w w'
  | some S, some S' => ∀ (av : Av) (w : World) (vs : List Value) (p : Nat) (H : Nat → Prop), (∀ b o, av b o → b < w.heap.size) → (∀ b o, H b → av b o) → O.at_ S H p w → RepA (Ix.one p) av (fun b _ => H b) w args vs →
    Calls P f vs.toArray w fun e w' => ∃ v H', e = .returned v ∧ Rep (fun b o => av b o ∨ H' b) w' r.1 v ∧ O.at_ S' H' p w' ∧ (∀ b, H' b → H b ∨ w.heap.size ≤ b) ∧ Keep H w w'
  | none, some S' => ∀ (av : Av) (w : World) (vs : List Value), (∀ b o, av b o → b < w.heap.size) → RepA Ix.none av (fun _ _ => False) w args vs →
    Calls P f vs.toArray w fun e w' => ∃ v p H', e = .returned v ∧ RepN p (fun b o => av b o ∨ H' b) w' r.1 v ∧ O.at_ S' H' p w' ∧ (∀ b, H' b → w.heap.size ≤ b) ∧ Below w.heap.size w w'
  | some _, none => True
theorem free_rep {ι' : Ix} {av avb avl : Av} {x : AV} {v : Value} (h : RepS ι av avb w x v) (hx : x.free = true) : RepS ι' av avl w x v := by
  cases x <;> first
    | exact h
    | (simp [AV.free, AV.free0] at hx; done)
    | (obtain ⟨us, hv, hc⟩ := h
       exact ⟨us, hv, RepCL_ofL (RepL_ofCL hc fun y hy => List.all_eq_true.1 hx y hy)⟩)
theorem CellsB_mk {av avb : Av} : ∀ {cs : List AV} {us : List Value} {b off : Nat}, RepL av w cs us → (∀ (j : Nat) (u : Value), us[j]? = some u → w.cell? ⟨b, off + j, none⟩ = some u ∧ ¬ avb b (off + j)) → CellsB av avb w cs b off
  | [], _, _, _, _, _ => by simp [CellsB]
  | x :: r, _, b, off, h, hj => by
    simp only [RepL] at h
    obtain ⟨u, us', rfl, h0, h1, h⟩ := h
    simp only [CellsB]
    have h2 := hj 0 u rfl
    refine ⟨⟨u, h2.1, h0, h1⟩, h2.2, CellsB_mk h fun j v hv => ?_⟩
    have := hj (j + 1) v (by simpa using hv)
    rw [show off + 1 + j = off + (j + 1) from by omega]
    exact this
theorem lend_rep (R : Rel P O nt B F0 av0 w0 D s a w ι Θ) {avl : Av} (havl : ∀ b o, avl b o → ∃ t n H, ι.ob t n = some H ∧ H b) {cl : Cl} {y x : AV} {v : Value} {ι' : Ix} (hY : RepS ι (avA av0 ι Θ) (avB ι Θ) w y v) (h : lend s cl y = some x) (hob : ∀ t n, y = .ptr t n 0 → ι' 0 0 = ι t n) : RepS ι' (avA av0 ι Θ) avl w x v := by
  have hB : ∀ b o, avl b o → avB ι Θ b o := fun b o h => .inl (.inr (havl b o h))
  unfold lend at h
  split at h
  · rename_i t n sz off len cap
    split at h
    · cases hm : s.mem t n with
      | none => rw [hm] at h; cases h
      | some r =>
        rw [hm, Option.bind_some] at h
        cases hr : rowEls r sz off len with
        | none => rw [hr] at h; cases h
        | some m =>
          rw [hr] at h
          injection h with h
          subst h
          obtain ⟨b, hb, hle, hv⟩ := repS_ref.1 hY
          obtain ⟨hno, b', cur, ty, hb', hheap, hrow⟩ := R.rows t n r hm
          rw [hb] at hb'
          injection hb' with hb'
          subst hb'
          obtain ⟨h1, h2, us, hl, hus⟩ := rowEls_read hrow hheap hr
          subst h1
          exact ⟨_, cap, hv, hle, fun c hc c' hc' => (h2 c hc).trans (h2 c' hc').symm, fun _ => ⟨b, off, rfl, RowsB_flat.2 (CellsB_mk hl fun j u hj => ⟨hus j u hj, fun h => by
            obtain ⟨t', n', H, ho, hH⟩ := havl _ _ h
            obtain ⟨e1, e2⟩ := ((R.obs _ _ _ ho).1 _ hH).2.2.1 _ _ hb
            rw [e1, e2, ho] at hno
            cases hno⟩)⟩⟩
    · cases h
  · injection h with h
    subst h
    obtain ⟨a', c, hv, hc, hu, hs⟩ := hY
    refine ⟨a', c, hv, hc, hu, fun h0 => ?_⟩
    obtain ⟨b, off, ha, hr⟩ := hs h0
    exact ⟨b, off, ha, RowsB.held (Held.refl _ _) (Held.less hB) _ _ _ hr⟩
  · injection h with h
    subst h
    obtain ⟨b, off, hv, hc⟩ := hY
    exact ⟨b, off, hv, CellsB.held (Held.refl _ _) (Held.less hB) _ _ _ hc⟩
  · rename_i t n off
    split at h
    · rename_i hc
      injection h with h
      subst h
      obtain ⟨h0, _, _⟩ := hc
      subst h0
      obtain ⟨b, hb, hv⟩ := repS_ptr.1 hY
      exact ⟨b, (hob t n rfl).trans hb, hv⟩
    · cases h
  · split at h
    · rename_i hf
      injection h with h
      subst h
      exact free_rep hY hf
    · cases h
theorem lendAll_rep (R : Rel P O nt B F0 av0 w0 D s a w ι Θ) {avl : Av} (havl : ∀ b o, avl b o → ∃ t n H, ι.ob t n = some H ∧ H b) {cl : Cl} {ι' : Ix} : ∀ {Xs : List Operand} {xs : List Opd} {vs : List AV}, opdL Xs = some xs → lendAll s cl xs = some vs → (∀ x ∈ xs, ∀ t n, x.get s = .ptr t n 0 → ι' 0 0 = ι t n) → RepA ι' (avA av0 ι Θ) avl w vs (Xs.map a.eval)
  | [], xs, vs, h, hl, _ => by
    injection h with h
    subst h
    injection hl with hl
    subst hl
    rfl
  | X :: Xs, xs, vs, h, hl, hob => by
    unfold opdL at h
    split at h
    · rename_i x l hx hr
      injection h with h
      subst h
      unfold lendAll at hl
      split at hl
      · rename_i v vs' hv hr'
        injection hl with hl
        subst hl
        exact ⟨_, _, rfl, lend_rep R havl (R.opd hx).1 hv (hob x (List.mem_cons_self)), lendAll_rep R havl hr hr' fun y hy => hob y (List.mem_cons_of_mem _ hy)⟩
      · cases hl
    · cases h
theorem named_rep {p d n : Nat} {ι' : Ix} {av avb : Av} {x : AV} {v : Value} (h : RepN p av w x v) (hp : ι' d n = some p) (hx : x.backN = true) : RepS ι' av avb w (x.named d n) v := by
  have one : ∀ {x : AV} {u : Value}, RepO p av w x u → RepC ι' av w (if x.isObj then .ptr d n 0 else x) u := fun {x u} h => by
    unfold RepO at h
    split at h
    · rename_i ho; rw [if_pos ho]; exact ⟨p, hp, h⟩
    · rename_i ho; rw [if_neg ho]; exact RepC_of_rep h
  have all : ∀ {xs : List AV} {us : List Value}, RepOs p av w xs us → RepCT ι' av w (xs.map fun v => if v.isObj then .ptr d n 0 else v) us := by
    intro xs
    induction xs with
    | nil => intro us h; simpa [RepOs, RepCT] using h
    | cons x r ih =>
      intro us h
      simp only [RepOs] at h
      obtain ⟨u, us', rfl, h0, h⟩ := h
      exact ⟨u, us', rfl, one h0, ih h⟩
  cases x with
  | tup vs =>
    obtain ⟨us, hv, hc⟩ := h
    exact ⟨us, hv, all hc⟩
  | ptr t' n' off =>
    have h1 := one (x := .ptr t' n' off) h
    have h2 : (AV.ptr t' n' off).isObj = true := hx
    simp only [h2, if_true] at h1
    show RepS ι' av avb w (if (AV.ptr t' n' off).isObj then .ptr d n 0 else .ptr t' n' off) v
    rw [if_pos h2]
    exact h1
  | _ => simp [AV.backN, AV.isObj] at hx
theorem RepO.held {p : Nat} {av av' : Av} {w w' : World} (h : Held av av' w w') {x : AV} {v : Value} (hr : RepO p av w x v) : RepO p av' w' x v := by
  unfold RepO at hr ⊢
  split at hr
  · rename_i ho; rw [if_pos ho]; exact hr
  · rename_i ho; rw [if_neg ho]; exact Rep.held h _ _ hr
theorem RepN.held {p : Nat} {av av' : Av} {w w' : World} (h : Held av av' w w') {x : AV} {v : Value} (hr : RepN p av w x v) : RepN p av' w' x v := by
  have all : ∀ {xs : List AV} {us : List Value}, RepOs p av w xs us → RepOs p av' w' xs us := by
    intro xs
    induction xs with
    | nil => intro us h; exact h
    | cons x r ih =>
      intro us h'
      simp only [RepOs] at h' ⊢
      obtain ⟨u, us', rfl, h0, h'⟩ := h'
      exact ⟨u, us', rfl, RepO.held h h0, ih h'⟩
  cases x <;> first | exact RepO.held h hr | (obtain ⟨us, hv, hc⟩ := hr; exact ⟨us, hv, all hc⟩)
theorem Rel.turnObj (R : Rel P O nt B F0 av0 w0 D s a w ι Θ) {t n p : Nat} {H H' : Nat → Prop} {S' : AV} (hp : ι t n = some p) (hob : ι.ob t n = some H) (hat : O.at_ S' H' p w') (hH : ∀ b, H' b → H b ∨ w.heap.size ≤ b) (hk : Keep H w w') :
    ∃ ι' : Ix, Rel P O nt B F0 av0 w0 D (s.setObj t n S') a w' ι' Θ ∧ Held (fun b o => avA av0 ι Θ b o ∨ H' b) (avA av0 ι' Θ) w' w' := by
  obtain ⟨hob1, hob2⟩ := R.obs t n H hob
  have hobq : ∀ t' n' H1, (if t' = t ∧ n' = n then some H' else ι.ob t' n') = some H1 → (t' = t ∧ n' = n ∧ H1 = H') ∨ (¬ (t' = t ∧ n' = n) ∧ ι.ob t' n' = some H1) := fun t' n' H1 h => by
    split at h
    · rename_i e; injection h with h; exact .inl ⟨e.1, e.2, h.symm⟩
    · rename_i e; exact .inr ⟨e, h⟩
  have hBx : ∀ b o, b < w.heap.size → avB ⟨ι.f, fun t' n' => if t' = t ∧ n' = n then some H' else ι.ob t' n'⟩ Θ b o → avB ι Θ b o := fun b o hb h => h.imp (fun h => h.imp id fun ⟨t', n', H1, h1, h2⟩ => by
    rcases hobq _ _ _ h1 with ⟨e1, e2, e3⟩ | ⟨_, h1⟩
    · subst e3
      rcases hH b h2 with h3 | h3
      · exact ⟨t, n, H, hob, h3⟩
      · omega
    · exact ⟨t', n', H1, h1, h2⟩) id
  have hcell : ∀ b o u, w.cell? ⟨b, o, none⟩ = some u → ¬ H b → w'.cell? ⟨b, o, none⟩ = some u := fun b o u hc hn => (World.cell?_of_block (w := w) (a := ⟨b, o, none⟩) (hk.block b (cell_lt hc) hn)).trans hc
  have hB : Held (avB ι Θ) (avB ⟨ι.f, fun t' n' => if t' = t ∧ n' = n then some H' else ι.ob t' n'⟩ Θ) w w' := ⟨fun b o u hc hn => ⟨hcell b o u hc fun h => hn (.inl (.inr ⟨t, n, H, hob, h⟩)), fun h => hn (hBx b o (cell_lt hc) h)⟩⟩
  have hA : Held (avA av0 ι Θ) (avA av0 ⟨ι.f, fun t' n' => if t' = t ∧ n' = n then some H' else ι.ob t' n'⟩ Θ) w w' := ⟨fun b o u hc hn => ⟨hcell b o u hc fun h => hn (.inr (.inl (.inr ⟨t, n, H, hob, h⟩))), fun h => hn (h.imp id (hBx b o (cell_lt hc)))⟩⟩
  have hBle := R.lowB
  have hsz := hk.size
  have henv : ∀ t1, RepS ⟨ι.f, fun t' n' => if t' = t ∧ n' = n then some H' else ι.ob t' n'⟩ (avA av0 ⟨ι.f, fun t' n' => if t' = t ∧ n' = n then some H' else ι.ob t' n'⟩ Θ) (avB ⟨ι.f, fun t' n' => if t' = t ∧ n' = n then some H' else ι.ob t' n'⟩ Θ) w' (s.env t1).v (a.tmps.getD t1 undef) := fun t1 => RepS.held (ι := ι) (ι' := ⟨ι.f, fun t' n' => if t' = t ∧ n' = n then some H' else ι.ob t' n'⟩) (fun _ _ _ h => h) hA hB _ _ (R.env t1)
  refine ⟨⟨ι.f, fun t' n' => if t' = t ∧ n' = n then some H' else ι.ob t' n'⟩, ⟨R.defers, R.size, henv, R.ann, fun t' n' r hr => ?_, fun t' n' b h => ?_, R.inj, fun k o h => ?_, R.tinj, R.apart, R.out, R.pin, ?_, R.base, fun t' n' S1 h => ?_, fun t' n' H1 h => ?_⟩, ?_⟩
  · obtain ⟨h0, b, cur, ty, h1, h2, h3⟩ := R.rows t' n' r hr
    have hne : ¬ (t' = t ∧ n' = n) := fun e => by rw [e.1, e.2, hob] at h0; cases h0
    have hbn : ¬ H b := fun hb => hne ((hob1 b hb).2.2.1 t' n' h1)
    exact ⟨by simp only [if_neg hne]; exact h0, b, cur, ty, h1, (hk.block b (lt_of_heap h2) hbn).trans h2, h3.held (fun _ _ _ h => h) hA (fun _ _ h => h)⟩
  · obtain ⟨h1, h2, h3⟩ := R.mine t' n' b h
    exact ⟨h1, by omega, h3⟩
  · obtain ⟨h1, h2, h3, h4, cur', h5, h6⟩ := R.tok k o h
    exact ⟨h1, h2, h3, h4, cur', (hk.block _ (lt_of_heap h5) (R.apob h hob)).trans h5, h6⟩
  · refine R.kept.trans hk fun i hi h => ?_
    have := R.base
    rcases (hob1 i h).1 with h1 | h1
    · omega
    · exact h1
  · simp only [MSt.setObj] at h
    split at h
    · rename_i e
      injection h with h
      subst h
      exact ⟨p, H', by rw [e.1, e.2]; exact hp, by simp only [if_pos e], hat⟩
    · rename_i e
      obtain ⟨p1, H1, h1, h2, h3⟩ := R.objs t' n' S1 h
      refine ⟨p1, H1, h1, by simp only [if_neg e]; exact h2, O.keep h3 (fun b hb => hk.block b (O.lt h3 hb) fun hb' => e ?_) hsz⟩
      have := (hob1 b hb').2.2.2.2 t' n' H1 h2 hb
      exact this
  · rcases hobq _ _ _ h with ⟨e1, e2, e3⟩ | ⟨e, h⟩
    · subst e1; subst e2; subst e3
      refine ⟨fun b hb => ?_, hob2⟩
      rcases hH b hb with h1 | h1
      · obtain ⟨g1, g2, g3, g4, g5⟩ := hob1 b h1
        refine ⟨g1, by omega, g3, g4, fun t1 n1 H2 h2 h3 => ?_⟩
        rcases hobq _ _ _ h2 with ⟨e1, e2, _⟩ | ⟨_, h2⟩
        · exact ⟨e1, e2⟩
        · exact g5 t1 n1 H2 h2 h3
      · refine ⟨.inl (by omega), O.lt hat hb, fun t1 n1 h2 => ?_, fun k o h2 e => ?_, fun t1 n1 H2 h2 h3 => ?_⟩
        · have := (R.mine _ _ _ h2).2.1; omega
        · obtain ⟨_, _, _, _, cur', h5, _⟩ := R.tok k o h2; have := lt_of_heap h5; omega
        · rcases hobq _ _ _ h2 with ⟨e1, e2, _⟩ | ⟨_, h2⟩
          · exact ⟨e1, e2⟩
          · have := ((R.obs _ _ _ h2).1 b h3).2.1; omega
    · obtain ⟨h1, h2⟩ := R.obs t' n' H1 h
      refine ⟨fun b hb => ?_, h2⟩
      obtain ⟨g1, g2, g3, g4, g5⟩ := h1 b hb
      refine ⟨g1, by omega, g3, g4, fun t1 n1 H2 h2 h3 => ?_⟩
      rcases hobq _ _ _ h2 with ⟨e1, e2, e3⟩ | ⟨_, h2⟩
      · subst e3
        rcases hH b h3 with h4 | h4
        · have := g5 t n H hob h4
          exact absurd ⟨this.1.symm, this.2.symm⟩ e
        · omega
      · exact g5 t1 n1 H2 h2 h3
  · refine Held.less fun b o h => ?_
    rcases h with h | h | h
    · exact .inl (.inl h)
    · rcases h with h | ⟨t1, n1, H2, h2, h3⟩
      · exact .inl (.inr (.inl (.inl h)))
      · rcases hobq _ _ _ h2 with ⟨_, _, e3⟩ | ⟨_, h2⟩
        · subst e3; exact .inr h3
        · exact .inl (.inr (.inl (.inr ⟨t1, n1, H2, h2, h3⟩)))
    · exact .inl (.inr (.inr h))
theorem Rel.newObj (R : Rel P O nt B F0 av0 w0 D s a w ι Θ) {d p : Nat} {H : Nat → Prop} {S : AV} (hb : Below w.heap.size w w') (hD : ¬ D d) (hat : O.at_ S H p w') (hH : ∀ b, H b → w.heap.size ≤ b) :
    ∃ ι' : Ix, Rel P O nt B F0 av0 w0 (fun t => D t ∨ t = d) (s.setObj d s.next S) a w' ι' Θ ∧ ι' d s.next = some p ∧ Held (fun b o => avA av0 ι Θ b o ∨ H b) (avA av0 ι' Θ) w' w' := by
  have hBle := R.lowB
  have hsz := hb.size
  have hpH := hH p (O.main hat)
  have hfresh : ι d s.next = none := by
    cases h : ι d s.next with
    | none => rfl
    | some b =>
      rcases (R.mine _ _ _ h).2.2 with h1 | h1
      · omega
      · exact absurd h1.2 hD
  have hfresh' : ι.ob d s.next = none := by
    cases h : ι.ob d s.next with
    | none => rfl
    | some b =>
      rcases (R.obs _ _ _ h).2 with h1 | h1
      · omega
      · exact absurd h1.2 hD
  have hmemn : s.mem d s.next = none := by
    cases h : s.mem d s.next with
    | none => rfl
    | some r => obtain ⟨_, b, cur, ty, h1, _⟩ := R.rows _ _ _ h; rw [hfresh] at h1; cases h1
  obtain ⟨ι', hι'⟩ : ∃ ι' : Ix, ι' = ⟨fun t' n' => if t' = d ∧ n' = s.next then some p else ι t' n', fun t' n' => if t' = d ∧ n' = s.next then some H else ι.ob t' n'⟩ := ⟨_, rfl⟩
  have hf : ∀ t' n' b, ι' t' n' = some b → (t' = d ∧ n' = s.next ∧ b = p) ∨ (¬ (t' = d ∧ n' = s.next) ∧ ι t' n' = some b) := fun t' n' b h => by
    subst hι'
    have h' : (if t' = d ∧ n' = s.next then some p else ι t' n') = some b := h
    split at h'
    · rename_i e; injection h' with h'; exact .inl ⟨e.1, e.2, h'.symm⟩
    · rename_i e; exact .inr ⟨e, h'⟩
  have ho : ∀ t' n' H1, ι'.ob t' n' = some H1 → (t' = d ∧ n' = s.next ∧ H1 = H) ∨ (¬ (t' = d ∧ n' = s.next) ∧ ι.ob t' n' = some H1) := fun t' n' H1 h => by
    subst hι'
    simp only at h
    split at h
    · rename_i e; injection h with h; exact .inl ⟨e.1, e.2, h.symm⟩
    · rename_i e; exact .inr ⟨e, h⟩
  have hsub : ∀ t n b, ι t n = some b → ι' t n = some b := fun t n b h => by
    subst hι'
    show (if t = d ∧ n = s.next then some p else ι t n) = some b
    split
    · rename_i e; rw [e.1, e.2, hfresh] at h; cases h
    · exact h
  have hsubo : ∀ t n H1, ¬ (t = d ∧ n = s.next) → ι.ob t n = H1 → ι'.ob t n = H1 := fun t n H1 e h => by
    subst hι'
    simp only [if_neg e]
    exact h
  have hnew : ι' d s.next = some p := by
    subst hι'
    show (if d = d ∧ s.next = s.next then some p else ι d s.next) = some p
    rw [if_pos ⟨rfl, rfl⟩]
  have hnewo : ι'.ob d s.next = some H := by subst hι'; simp
  clear hι'
  have hBx : ∀ b o, b < w.heap.size → avB ι' Θ b o → avB ι Θ b o := fun b o hbl h => h.imp (fun h => by
    rcases h with ⟨t', n', h⟩ | ⟨t', n', H1, h, h2⟩
    · rcases hf _ _ _ h with ⟨_, _, e⟩ | ⟨_, h⟩
      · omega
      · exact .inl ⟨t', n', h⟩
    · rcases ho _ _ _ h with ⟨_, _, e⟩ | ⟨_, h⟩
      · subst e; have := hH b h2; omega
      · exact .inr ⟨t', n', H1, h, h2⟩) id
  have hB : Held (avB ι Θ) (avB ι' Θ) w w' := Held.grown (fun b hb' => hb.block b hb') hBx
  have hA : Held (avA av0 ι Θ) (avA av0 ι' Θ) w w' := Held.grown (fun b hb' => hb.block b hb') fun b o hbl h => h.imp id (hBx b o hbl)
  refine ⟨ι', ⟨R.defers, R.size, fun t => RepS.held hsub hA hB _ _ (R.env t), R.ann, fun t' n' r hr => ?_, fun t' n' b h => ?_, fun t n t' n' b h h' => ?_, fun k o h => ?_, R.tinj, fun k o t n h h' => ?_, R.out, fun p h => hsub _ _ _ (R.pin p h), R.kept.trans_below hb, R.base, fun t' n' S1 h => ?_, fun t' n' H1 h => ?_⟩, hnew, ?_⟩
  · obtain ⟨h0, b, cur, ty, h1, h2, h3⟩ := R.rows t' n' r hr
    have hne : ¬ (t' = d ∧ n' = s.next) := fun e => by
      have hr' : s.mem t' n' = some r := hr
      rw [e.1, e.2, hmemn] at hr'; cases hr'
    exact ⟨hsubo _ _ _ hne h0, b, cur, ty, hsub _ _ _ h1, (hb.block b (lt_of_heap h2)).trans h2, h3.held hsub hA (fun _ _ h => h)⟩
  · rcases hf _ _ _ h with ⟨e1, e2, e⟩ | ⟨_, h⟩
    · subst e
      exact ⟨.inl (by omega), O.lt hat (O.main hat), .inr ⟨e2, .inr e1⟩⟩
    · obtain ⟨h1, h2, h3⟩ := R.mine t' n' b h
      exact ⟨h1, by omega, h3.imp id fun ⟨e, d⟩ => ⟨e, .inl d⟩⟩
  · rcases hf _ _ _ h with ⟨e1, e2, e⟩ | ⟨_, h⟩ <;> rcases hf _ _ _ h' with ⟨g1, g2, g⟩ | ⟨_, h'⟩
    · exact ⟨e1.trans g1.symm, e2.trans g2.symm⟩
    · have := (R.mine _ _ _ h').2.1; omega
    · have := (R.mine _ _ _ h).2.1; omega
    · exact R.inj t n t' n' b h h'
  · obtain ⟨h1, h2, h3, h4, cur', h5, h6⟩ := R.tok k o h
    exact ⟨h1, h2, h3, h4, cur', (hb.block _ (lt_of_heap h5)).trans h5, h6⟩
  · obtain ⟨_, _, _, _, cur', h5, _⟩ := R.tok k o h
    have hlt := lt_of_heap h5
    rcases hf _ _ _ h' with ⟨_, _, e⟩ | ⟨_, h'⟩
    · omega
    · exact R.apart k o t n h h'
  · simp only [MSt.setObj] at h
    split at h
    · rename_i e
      injection h with h
      subst h
      exact ⟨p, H, by rw [e.1, e.2]; exact hnew, by rw [e.1, e.2]; exact hnewo, hat⟩
    · rename_i e
      obtain ⟨p1, H1, h1, h2, h3⟩ := R.objs t' n' S1 h
      exact ⟨p1, H1, hsub _ _ _ h1, hsubo _ _ _ e h2, O.keep h3 (fun b hb' => hb.block b (O.lt h3 hb')) hsz⟩
  · rcases ho _ _ _ h with ⟨e1, e2, e⟩ | ⟨_, h⟩
    · subst e
      refine ⟨fun b hb' => ⟨.inl (by have := hH b hb'; omega), O.lt hat hb', fun t1 n1 h2 => ?_, fun k o h2 e => ?_, fun t1 n1 H2 h2 h3 => ?_⟩, .inr ⟨e2, .inr e1⟩⟩
      · have := hH b hb'
        rcases hf _ _ _ h2 with ⟨g1, g2, _⟩ | ⟨_, h2⟩
        · exact ⟨g1.trans e1.symm, g2.trans e2.symm⟩
        · have := (R.mine _ _ _ h2).2.1; omega
      · have := hH b hb'
        obtain ⟨_, _, _, _, cur', h5, _⟩ := R.tok k o h2; have := lt_of_heap h5; omega
      · have := hH b hb'
        rcases ho _ _ _ h2 with ⟨g1, g2, _⟩ | ⟨_, h2⟩
        · exact ⟨g1.trans e1.symm, g2.trans e2.symm⟩
        · have := ((R.obs _ _ _ h2).1 b h3).2.1; omega
    · obtain ⟨h1, h2⟩ := R.obs t' n' H1 h
      refine ⟨fun b hb' => ?_, h2.imp id fun ⟨e, d⟩ => ⟨e, .inl d⟩⟩
      obtain ⟨g1, g2, g3, g4, g5⟩ := h1 b hb'
      refine ⟨g1, by omega, fun t1 n1 h2 => ?_, g4, fun t1 n1 H2 h2 h3 => ?_⟩
      · rcases hf _ _ _ h2 with ⟨_, _, e⟩ | ⟨_, h2⟩
        · omega
        · exact g3 t1 n1 h2
      · rcases ho _ _ _ h2 with ⟨_, _, e⟩ | ⟨_, h2⟩
        · subst e; have := hH b h3; omega
        · exact g5 t1 n1 H2 h2 h3
  · refine Held.less fun b o h => ?_
    rcases h with h | h | h
    · exact .inl (.inl h)
    · rcases h with ⟨t', n', h⟩ | ⟨t', n', H1, h, h2⟩
      · rcases hf _ _ _ h with ⟨_, _, e⟩ | ⟨_, h⟩
        · subst e; exact .inr (O.main hat)
        · exact .inl (.inr (.inl (.inl ⟨t', n', h⟩)))
      · rcases ho _ _ _ h with ⟨_, _, e⟩ | ⟨_, h⟩
        · subst e; exact .inr h2
        · exact .inl (.inr (.inl (.inr ⟨t', n', H1, h, h2⟩)))
    · exact .inl (.inr (.inr h))
theorem op_call (R : Rel P O nt B F0 av0 w0 D s a w ι Θ) {call : CallT} (hcall : ∀ f args S r, call f args S = some r → CallOk P O f args S r) {f : FuncId} {Xs : Array Operand} {ts : Array TypeId} {xs : List Opd} (hx : opdL Xs.toList = some xs) (ho : o.op = .call { callee := .value (.func f), args := Xs, argTypes := ts }) (hd : ∀ d, o.dst = some d → d < nt) (hD : ∀ d, o.dst = some d → ¬ D d) {cl : Cl} {xe : Slot × Eff} (hr : (K.call cl f xs).run call s = some xe) {g} {s' : MSt} (he : OpC.eff ⟨o.dst, .call cl f xs, g⟩ s xe = some s')
    {Kn : Act → World → Prop} {Q : Exit → Act → World → Prop} (hK : ∀ a' w', RelE P O nt B F0 av0 w0 (fun t => D t ∨ o.dst = some t) s' a' w' → Kn a' w') : o.wp P a w Kn Q := by
  simp only [K.run] at hr
  obtain ⟨vs, hl, hr⟩ := Option.bind_eq_some_iff.1 hr
  have he0 : (Xs.toList.map a.eval).toArray = Xs.map a.eval := by rw [← Array.toList_map, Array.toArray_toList]
  have run : ∀ {S0 : Option AV} {r : RV}, CallOk P O f vs S0 r → (execOp a.eval o).run P w = .ok (.enter f (Xs.map a.eval)) w := fun h => by
    simp only [execOp, ho, resolve, Act.eval, Deferred.ofValue, Sem.run_bind, Sem.run_pure, Result.andThen_ok, invoke]
    have := h.1 (#[] ++ Xs.map a.eval ++ #[]) w
    simp only [Array.empty_append, Array.append_empty] at this ⊢
    exact this
  have hlow : ∀ b o, avA av0 ι Θ b o → b < w.heap.size := fun b o h => R.low h
  split at hr
  · rename_i hnob
    have nob : ∀ x ∈ xs, ∀ t n, x.get s = .ptr t n 0 → False := fun x hx t n h => by
      have : (t, n) ∈ objsOf s xs := List.mem_filterMap.2 ⟨x, hx, by rw [h]⟩
      rw [hnob] at this
      cases this
    have hargs := lendAll_rep (ι' := Ix.none) (avl := fun _ _ => False) R (fun _ _ h => h.elim) hx hl fun x hx t n h => (nob x hx t n h).elim
    obtain ⟨r, hc, hr⟩ := Option.bind_eq_some_iff.1 hr
    have hok := hcall f vs none r hc
    obtain ⟨r1, r2⟩ := r
    unfold Oper.wp
    rw [run hok, Oper.upon_enter]
    cases r2 with
    | none =>
      simp only at hr
      split at hr
      · injection hr with hr
        subst hr
        simp only [OpC.eff] at he
        injection he with he
        subst he
        have hC := hok.2 (avA av0 ι Θ) w _ hlow hargs
        rw [he0] at hC
        refine hC.mono ?_
        rintro e w' ⟨v, rfl, hv, hb⟩
        have R' : Rel P O nt B F0 av0 w0 D s a w' ι Θ := R.grow (fun b hb' => hb.block b hb') hb.size (R.kept.trans_below hb)
        exact hK _ _ ⟨ι, Θ, (R'.putN (x := ⟨_, .no⟩) hd (Rep_to_S hv) trivial).more fun _ h => .inl h⟩
      · cases hr
    | some S' =>
      simp only at hr
      split at hr
      · rename_i hback
        injection hr with hr
        subst hr
        simp only [OpC.eff] at he
        split at he
        · cases he
        · rename_i d hdst
          injection he with he
          subst he
          have hC := hok.2 (avA av0 ι Θ) w _ hlow hargs
          rw [he0] at hC
          refine hC.mono ?_
          rintro e w' ⟨v, p, H', rfl, hv, hat, hH, hb⟩
          obtain ⟨ι', R2, hι, hav⟩ := R.newObj (d := d) hb (hD d hdst) hat hH
          rw [hdst]
          refine hK _ _ ⟨ι', Θ, (R2.put (x := ⟨_, .no⟩) (hd d hdst) (named_rep (RepN.held hav hv) hι hback.1) trivial).more fun t h => h.imp id fun e => by rw [hdst, e]⟩
      · cases hr
  · rename_i t n hone
    obtain ⟨r, hc, hr⟩ := Option.bind_eq_some_iff.1 hr
    obtain ⟨r1, r2⟩ := r
    cases r2 with
    | none => cases hr
    | some S' =>
      simp only at hr
      split at hr
      · rename_i hcond
        injection hr with hr
        subst hr
        simp only [OpC.eff] at he
        injection he with he
        subst he
        obtain ⟨S, hS⟩ := Option.isSome_iff_exists.1 hcond.2
        rw [hS] at hc
        have hok := hcall f vs (some S) _ hc
        obtain ⟨p, H, hp, hob, hat⟩ := R.objs t n S hS
        have hargs := lendAll_rep (ι' := Ix.one p) (avl := fun b _ => H b) R (fun b _ h => ⟨t, n, H, hob, h⟩) hx hl fun x hx t' n' h => by
          have : (t', n') ∈ objsOf s xs := List.mem_filterMap.2 ⟨x, hx, by rw [h]⟩
          rw [hone] at this
          have := List.mem_singleton.1 this
          injection this with e1 e2
          rw [e1, e2, hp]
          rfl
        unfold Oper.wp
        rw [run hok, Oper.upon_enter]
        have hC := hok.2 (avA av0 ι Θ) w _ p H hlow (fun b o h => .inr (.inl (.inr ⟨t, n, H, hob, h⟩))) hat hargs
        rw [he0] at hC
        refine hC.mono ?_
        rintro e w' ⟨v, H', rfl, hv, hat', hH, hk⟩
        obtain ⟨ι', R', hav⟩ := R.turnObj hp hob hat' hH hk
        refine hK _ _ ⟨ι', Θ, (R'.putN (x := ⟨_, .no⟩) hd (Rep_to_S (Rep.held hav _ _ hv)) trivial).more fun _ h => .inl h⟩
      · cases hr
  · cases hr
end
end Go.Proofs.Ytinpinjjdkilpaa
