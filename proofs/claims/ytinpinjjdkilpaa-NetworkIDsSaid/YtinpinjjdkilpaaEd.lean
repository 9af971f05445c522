/- A state of the machine stands for an activation and a world. -/
import Derived.Test.YtinpinjjdkilpaaEc
namespace Go.Proofs.Ytinpinjjdkilpaa
open Go Go.RowKit
/-- the blocks that the caller gave away, and the object among them -/
structure Own where
  b : Nat → Prop
  p : Option Nat
instance : CoeFun Own (fun _ => Nat → Prop) := ⟨Own.b⟩
structure Ow where
  g : Nat
  n : Nat
  c : Nat
  sz : Nat
  e : TypeId
abbrev Fam := Nat → Option Ow
def Ix.has (ι : Ix) (b : Nat) : Prop := (∃ t n, ι t n = some b) ∨ ∃ t n H, ι.ob t n = some H ∧ H b
def avB (ι : Ix) (Θ : Fam) : Av := fun b o => ι.has b ∨ (∃ k ow, Θ k = some ow ∧ ow.g = b ∧ ow.n * ow.sz ≤ o)
def avA (av0 : Av) (ι : Ix) (Θ : Fam) : Av := fun b o => av0 b o ∨ avB ι Θ b o
def exV (v : Value) : Prop := ∃ A n, v = .slice A n n
def AnOk (Θ : Fam) : An → Value → Prop
  | .no, _ => True
  | .ex, v => exV v
  | .own k e, v => exV v ∨ ∃ ow, Θ k = some ow ∧ ow.e = e ∧ v = .slice (some ⟨ow.g, 0, none⟩) ow.n ow.c
def RowOk (ι : Ix) (Θ : Fam) (av : Av) (w : World) (r : List Slot) (cur : Array Value) : Prop :=
  cur.size = r.length ∧ ∀ (j : Nat) (x : Slot), r[j]? = some x → ∃ u, cur[j]? = some u ∧ u.oneCell' = true ∧ RepC ι av w x.v u ∧ AnOk Θ x.a u
/-- an object's blocks lie apart from all else -/
def ObOk (B : Nat) (F0 : Own) (D : Nat → Prop) (next : Nat) (w : World) (ι : Ix) (Θ : Fam) (t n : Nat) (H : Nat → Prop) : Prop :=
  (∀ b, H b → (B ≤ b ∨ F0 b) ∧ b < w.heap.size ∧ (∀ t' n', ι t' n' = some b → t' = t ∧ n' = n) ∧ (∀ k o, Θ k = some o → o.g ≠ b) ∧ ∀ t' n' H', ι.ob t' n' = some H' → H' b → t' = t ∧ n' = n) ∧ (n < next ∨ n = next ∧ D t)
structure Rel (P : Program) (O : Objs) (nt B : Nat) (F0 : Own) (av0 : Av) (w0 : World) (D : Nat → Prop) (s : MSt) (a : Act) (w : World) (ι : Ix) (Θ : Fam) : Prop where
  defers : a.defers = []
  size : a.tmps.size = nt
  env : ∀ t, RepS ι (avA av0 ι Θ) (avB ι Θ) w (s.env t).v (a.tmps.getD t undef)
  ann : ∀ t, AnOk Θ (s.env t).a (a.tmps.getD t undef)
  rows : ∀ t n r, s.mem t n = some r → ι.ob t n = none ∧ ∃ b cur ty, ι t n = some b ∧ w.heap[b]? = some (.cells cur ty (0, 0)) ∧ RowOk ι Θ (avA av0 ι Θ) w r cur
  mine : ∀ t n b, ι t n = some b → (B ≤ b ∨ F0 b) ∧ b < w.heap.size ∧ (n < s.next ∨ n = s.next ∧ D t)
  inj : ∀ t n t' n' b, ι t n = some b → ι t' n' = some b → t = t' ∧ n = n'
  tok : ∀ k o, Θ k = some o → B ≤ o.g ∧ 0 < o.sz ∧ o.n ≤ o.c ∧ o.c ≤ maxLen ∧ ∃ cur, w.heap[o.g]? = some (.cells cur o.e (0, 0)) ∧ (cur.size = o.c * o.sz ∧ tSize P o.e = some o.sz)
  tinj : ∀ k k' o o', Θ k = some o → Θ k' = some o' → o.g = o'.g → k = k'
  apart : ∀ k o t n, Θ k = some o → ι t n ≠ some o.g
  out : ∀ b o, av0 b o → b < B
  pin : ∀ p, F0.p = some p → ι 0 0 = some p
  kept : Keep F0.b w0 w
  base : B = w0.heap.size
  objs : ∀ t n S, s.obj t n = some S → ∃ p H, ι t n = some p ∧ ι.ob t n = some H ∧ O.at_ S H p w
  obs : ∀ t n H, ι.ob t n = some H → ObOk B F0 D s.next w ι Θ t n H
section
variable {P : Program} {O : Objs} {nt B : Nat} {F0 : Own} {av0 : Av} {w0 : World} {D : Nat → Prop} {s : MSt} {a : Act} {w w' : World} {ι : Ix} {Θ : Fam}
theorem cell_lt {w : World} {b o : Nat} {u : Value} (h : w.cell? ⟨b, o, none⟩ = some u) : b < w.heap.size := World.block_lt_of_cell? w ⟨b, o, none⟩ (by exact h)
/-- the world has grown: what was there is there -/
theorem Held.grown {av av' : Av} (hb : ∀ b, b < w.heap.size → w'.heap[b]? = w.heap[b]?) (ha : ∀ b o, b < w.heap.size → av' b o → av b o) : Held av av' w w' :=
  ⟨fun b o _ hc hn => ⟨(World.cell?_of_block (w := w) (a := ⟨b, o, none⟩) (hb b (cell_lt hc))).trans hc, fun h => hn (ha b o (cell_lt hc) h)⟩⟩
theorem RowOk.held {ι ι' : Ix} {Θ Θ' : Fam} {av av' : Av} {r : List Slot} {cur : Array Value} (h : RowOk ι Θ av w r cur) (hι : ∀ t n b, ι t n = some b → ι' t n = some b) (hh : Held av av' w w') (hΘ : ∀ k o, Θ k = some o → Θ' k = some o) : RowOk ι' Θ' av' w' r cur := by
  refine ⟨h.1, fun j x hx => ?_⟩
  obtain ⟨u, hu, h1, hr, ha⟩ := h.2 j x hx
  refine ⟨u, hu, h1, RepC.held hι hh _ _ hr, ?_⟩
  cases hxa : x.a with
  | no => trivial
  | ex => rw [hxa] at ha; exact ha
  | own k e =>
    rw [hxa] at ha
    rcases ha with ha | ⟨ow, h1, h2⟩
    · exact .inl ha
    · exact .inr ⟨ow, hΘ _ _ h1, h2⟩
theorem ObOk.grow {t n : Nat} {H : Nat → Prop} {next : Nat} (h : ObOk B F0 D next w ι Θ t n H) (hs : w.heap.size ≤ w'.heap.size) : ObOk B F0 D next w' ι Θ t n H :=
  ⟨fun b hb => let ⟨h1, h2, h3⟩ := h.1 b hb; ⟨h1, Nat.lt_of_lt_of_le h2 hs, h3⟩, h.2⟩
theorem Rel.grow (R : Rel P O nt B F0 av0 w0 D s a w ι Θ) (hb : ∀ b, b < w.heap.size → w'.heap[b]? = w.heap[b]?) (hs : w.heap.size ≤ w'.heap.size) (hw : Keep F0.b w0 w') : Rel P O nt B F0 av0 w0 D s a w' ι Θ := by
  have hA : Held (avA av0 ι Θ) (avA av0 ι Θ) w w' := Held.grown hb fun _ _ _ h => h
  have hB : Held (avB ι Θ) (avB ι Θ) w w' := Held.grown hb fun _ _ _ h => h
  refine ⟨R.defers, R.size, fun t => RepS.held (fun _ _ _ h => h) hA hB _ _ (R.env t), R.ann, fun t n r hr => ?_, fun t n b h => ?_, R.inj, fun k o h => ?_, R.tinj, R.apart, R.out, R.pin, hw, R.base, fun t n S h => ?_, fun t n H h => (R.obs t n H h).grow hs⟩
  · obtain ⟨h0, b, cur, ty, h1, h2, h3⟩ := R.rows t n r hr
    exact ⟨h0, b, cur, ty, h1, (hb b (lt_of_heap h2)).trans h2, h3.held (fun _ _ _ h => h) hA (fun _ _ h => h)⟩
  · obtain ⟨h1, h2, h3⟩ := R.mine t n b h
    exact ⟨h1, by omega, h3⟩
  · obtain ⟨h1, h2, h3, h4, cur, h5, h6⟩ := R.tok k o h
    exact ⟨h1, h2, h3, h4, cur, (hb _ (lt_of_heap h5)).trans h5, h6⟩
  · obtain ⟨p, H, h1, h2, h3⟩ := R.objs t n S h
    exact ⟨p, H, h1, h2, O.keep h3 (fun b hH => hb b (O.lt h3 hH)) hs⟩
theorem getD_put {a : Act} {d t : Nat} {v : Value} (hd : d < a.tmps.size) : (a.put (some d) v).tmps.getD t undef = if t = d then v else a.tmps.getD t undef := by
  simp only [Act.put, Array.getD_eq_getD_getElem?, Array.getElem?_setIfInBounds]
  by_cases h : d = t
  · subst h; simp [hd]
  · have h' : ¬ t = d := fun e => h e.symm
    simp [h, h']
theorem Rel.put (R : Rel P O nt B F0 av0 w0 D s a w ι Θ) {d : Nat} (hd : d < nt) {x : Slot} {v : Value} (hx : RepS ι (avA av0 ι Θ) (avB ι Θ) w x.v v) (ha : AnOk Θ x.a v) : Rel P O nt B F0 av0 w0 D (s.put (some d) x) (a.put (some d) v) w ι Θ := by
  have hd' : d < a.tmps.size := by rw [R.size]; exact hd
  refine ⟨R.defers, by simpa [Act.put] using R.size, fun t => ?_, fun t => ?_, R.rows, R.mine, R.inj, R.tok, R.tinj, R.apart, R.out, R.pin, R.kept, R.base, R.objs, R.obs⟩
  · rw [getD_put hd']
    simp only [MSt.put]
    by_cases h : t = d
    · simp only [if_pos h]; exact hx
    · simp only [if_neg h]; exact R.env t
  · rw [getD_put hd']
    simp only [MSt.put]
    by_cases h : t = d
    · simp only [if_pos h]; exact ha
    · simp only [if_neg h]; exact R.ann t
theorem Rel.putN (R : Rel P O nt B F0 av0 w0 D s a w ι Θ) {d : Option Nat} (hd : ∀ t, d = some t → t < nt) {x : Slot} {v : Value} (hx : RepS ι (avA av0 ι Θ) (avB ι Θ) w x.v v) (ha : AnOk Θ x.a v) : Rel P O nt B F0 av0 w0 D (s.put d x) (a.put d v) w ι Θ := by
  cases d with
  | none => exact R
  | some d => exact R.put (hd d rfl) hx ha
theorem Rel.more (R : Rel P O nt B F0 av0 w0 D s a w ι Θ) {D' : Nat → Prop} (h : ∀ t, D t → D' t) : Rel P O nt B F0 av0 w0 D' s a w ι Θ :=
  ⟨R.defers, R.size, R.env, R.ann, R.rows, fun t n b hb => let ⟨h1, h2, h3⟩ := R.mine t n b hb; ⟨h1, h2, h3.imp id fun ⟨e, d⟩ => ⟨e, h t d⟩⟩, R.inj, R.tok, R.tinj, R.apart, R.out, R.pin, R.kept, R.base, R.objs, fun t n H hb => ⟨(R.obs t n H hb).1, (R.obs t n H hb).2.imp id fun ⟨e, d⟩ => ⟨e, h t d⟩⟩⟩
/-- constants -/
theorem avOf_rep {v : Value} {x : AV} (h : avOf v = some x) (av : Av) (w : World) : Rep av w x v ∧ v.oneCell' = true ∧ x.leaf = true ∧ (∀ n l, x = .sl n l → n = true ∧ v = .slice none 0 0) := by
  unfold avOf at h
  split at h <;> first
    | (injection h with h; subst h; simp [Rep, Value.oneCell', AV.leaf]; done)
    | (cases h; done)
theorem RepS_of_rep {ι : Ix} {av avB : Av} {w : World} {x : AV} {v : Value} (h : Rep av w x v) (hx : x.leaf = true) : RepS ι av avB w x v := by
  cases x <;> first | exact h | (simp [AV.leaf] at hx; done) | (simp [Rep] at h; done)
theorem RepC_of_rep {ι : Ix} {av : Av} {w : World} {x : AV} {v : Value} (h : Rep av w x v) : RepC ι av w x v := by
  cases x <;> first | exact h | simp [Rep] at h
theorem avAll_rep {ι : Ix} : ∀ {vs : List Value} {xs : List AV} (_ : avAll vs = some xs) (av : Av) (w : World), RepCL ι av w xs vs
  | [], _, h, _, _ => by injection h with h; subst h; rfl
  | v :: r, _, h, av, w => by
    unfold avAll at h
    cases hv : avOf v with
    | none => rw [hv] at h; cases h
    | some x =>
      rw [hv] at h
      cases hr : avAll r with
      | none => rw [hr] at h; cases h
      | some l =>
        rw [hr] at h
        injection h with h
        subst h
        have h1 := avOf_rep hv av w
        exact ⟨v, r, rfl, RepC_of_rep h1.1, h1.2.1, avAll_rep hr av w⟩
theorem avC_rep {v : Value} {x : AV} (h : avC v = some x) (ι : Ix) (av avB : Av) (w : World) : RepS ι av avB w x v := by
  unfold avC at h
  split at h
  · rename_i cs
    cases hc : avAll cs.toList with
    | none => rw [hc] at h; cases h
    | some l =>
      rw [hc] at h
      injection h with h
      subst h
      exact ⟨cs, rfl, avAll_rep hc av w⟩
  · have := avOf_rep h av w
    exact RepS_of_rep this.1 this.2.2.1
theorem avC_nil {v : Value} {b : Bool} {l : List (List AV)} (h : avC v = some (.sl b l)) : b = true ∧ v = .slice none 0 0 := by
  unfold avC at h
  split at h
  · rename_i cs
    cases hc : avAll cs.toList with
    | none => rw [hc] at h; cases h
    | some l => rw [hc] at h; injection h with h; cases h
  · exact (avOf_rep h (fun _ _ => False) default).2.2.2 _ _ rfl
/-- operands -/
theorem Rel.opd (R : Rel P O nt B F0 av0 w0 D s a w ι Θ) {x : Operand} {y : Opd} (h : opd x = some y) : RepS ι (avA av0 ι Θ) (avB ι Θ) w (y.get s) (a.eval x) ∧ AnOk Θ (y.an s) (a.eval x) := by
  unfold Ytinpinjjdkilpaa.opd at h
  split at h
  · injection h with h
    subst h
    exact ⟨R.env _, R.ann _⟩
  · rename_i v
    cases hc : avC v with
    | none => rw [hc] at h; cases h
    | some x =>
      rw [hc] at h
      injection h with h
      subst h
      refine ⟨avC_rep hc _ _ _ _, ?_⟩
      cases x with
      | sl b l =>
        obtain ⟨rfl, hv⟩ := avC_nil hc
        exact ⟨none, 0, hv⟩
      | _ => trivial
  · cases h
end
end Go.Proofs.Ytinpinjjdkilpaa
