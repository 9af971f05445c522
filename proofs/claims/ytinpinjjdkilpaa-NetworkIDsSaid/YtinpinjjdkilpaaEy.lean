/- A statement's arguments as values of the machine. -/
import Derived.Test.YtinpinjjdkilpaaEx
import Derived.Carry
import Derived.ChangeOld
namespace Go.Proofs.Ytinpinjjdkilpaa
open Go Go.RowKit Go.ChangeShapes Go.WideShapes Go.Deep
def wholeT (P : Program) (t : TypeId) : Bool := match P.underlying t with
  | some (.struct _) | some (.array ..) => true
  | _ => false
/-- a value of a parameter's type -/
def ParTy (P : Program) (k : Nat) (t : TypeId) (a : AV) : Prop := ∃ sh, shOf P k t = some sh ∧ ((wholeT P t = true ∧ ∃ cs, a = .agg cs ∧ TyL sh cs) ∨ (wholeT P t = false ∧ TyL sh [a]))
def ArgsTy (P : Program) (k : Nat) : List TypeId → List AV → Prop
  | [], xs => xs = []
  | t :: ts, xs => ∃ a r, xs = a :: r ∧ ParTy P k t a ∧ ArgsTy P k ts r
section
variable {H : Type} {enc : TypeId × Value → H} {P : Program} {w : World} {base : Nat} {spare : Nat → Bool} {held : Bool}
theorem par_rep {k : Nat} {t : TypeId} {r : Reach} {b0 : Nat} {v : Value} {d : DataW H} {p : List MemPlace} (hs : (shOf P k t).isSome = true) (hv : Value.okWide P w r b0 t v) (h : DataW.Trod enc P w base spare held t v d p) :
    ∃ a, RepS Ix.none Av0 Av0 w a v ∧ ParTy P k t a := by
  obtain ⟨sh, hsh⟩ := Option.isSome_iff_exists.1 hs
  obtain ⟨fuel, hf⟩ := h
  obtain ⟨xs, h1, h2⟩ := trod_rep k t sh fuel _ _ hsh hf
  have one : ∀ (u : Value), v = u → v.cells.toList = [u] → (∃ c, sh = [c]) → wholeT P t = false → (∀ a, TyL sh [a] → a.leaf = true) → ∃ a, RepS Ix.none Av0 Av0 w a v ∧ ParTy P k t a := fun u hu hc ⟨c, hc'⟩ hw hleaf => by
    subst hc'
    have h2' := h2
    simp only [TyL] at h2
    obtain ⟨a, _, rfl, _, rfl⟩ := h2
    rw [hc] at h1
    simp only [RepL] at h1
    obtain ⟨u', _, e, h0, _, _⟩ := h1
    injection e with e
    subst e
    exact ⟨a, by rw [hu]; exact RepS_of_rep h0 (hleaf a h2'), [c], hsh, .inr ⟨hw, h2'⟩⟩
  cases k with
  | zero => cases hsh
  | succ k =>
    have hsh' := hsh
    unfold shOf at hsh'
    split at hsh'
    · rename_i ht
      injection hsh' with e
      obtain ⟨b, rfl⟩ := okWide_bool ht hv
      refine one _ rfl rfl ⟨_, e.symm⟩ (by simp [wholeT, ht]) fun a ha => ?_
      subst e
      simp only [TyL] at ha
      obtain ⟨_, _, e, hc, _⟩ := ha
      simp only [TyC] at hc
      obtain ⟨b', rfl⟩ := hc
      injection e with e
      subst e
      rfl
    · rename_i kk ht
      injection hsh' with e
      obtain ⟨b, rfl⟩ := okWide_int ht hv
      refine one _ rfl rfl ⟨_, e.symm⟩ (by simp [wholeT, ht]) fun a ha => ?_
      subst e
      simp only [TyL] at ha
      obtain ⟨_, _, e, hc, _⟩ := ha
      simp only [TyC] at hc
      obtain ⟨b', rfl, _⟩ := hc
      injection e with e
      subst e
      rfl
    · rename_i ht
      injection hsh' with e
      obtain ⟨b, rfl⟩ := okWide_string ht hv
      refine one _ rfl rfl ⟨_, e.symm⟩ (by simp [wholeT, ht]) fun a ha => ?_
      subst e
      simp only [TyL] at ha
      obtain ⟨_, _, e, hc, _⟩ := ha
      simp only [TyC] at hc
      obtain ⟨b', rfl, _⟩ := hc
      injection e with e
      subst e
      rfl
    · rename_i e' ht
      obtain ⟨l, _, hsh'⟩ := Option.bind_eq_some_iff.1 hsh'
      split at hsh'
      · injection hsh' with e
        obtain ⟨A, n, c, rfl⟩ := okWide_slice ht hv
        refine one _ rfl rfl ⟨_, e.symm⟩ (by simp [wholeT, ht]) fun a ha => ?_
        subst e
        simp only [TyL] at ha
        obtain ⟨_, _, e, hc, _⟩ := ha
        simp only [TyC] at hc
        obtain ⟨nl, els, rfl, _⟩ := hc
        injection e with e
        subst e
        rfl
      · cases hsh'
    · rename_i fs ht
      have : ∃ cs, v = .agg cs := by
        simp only [Value.okWide, ht] at hv
        obtain ⟨cs, hv, _⟩ := hv
        exact ⟨cs, hv⟩
      obtain ⟨cs, rfl⟩ := this
      exact ⟨.agg xs, ⟨cs, rfl, RepCL_ofL h1⟩, sh, hsh, .inl ⟨by simp [wholeT, ht], xs, rfl, h2⟩⟩
    · rename_i n' e' ht
      have : ∃ cs, v = .agg cs := by
        simp only [Value.okWide, ht] at hv
        obtain ⟨cs, hv, _⟩ := hv
        exact ⟨cs, hv⟩
      obtain ⟨cs, rfl⟩ := this
      exact ⟨.agg xs, ⟨cs, rfl, RepCL_ofL h1⟩, sh, hsh, .inl ⟨by simp [wholeT, ht], xs, rfl, h2⟩⟩
    · cases hsh'
theorem args_rep {k : Nat} {r : Reach} {b0 : Nat} : ∀ {ts : List TypeId} {vs : List Value} {ds : List (DataW H)} {p : List MemPlace}, DataW.TrodAll enc P w base spare held ts vs ds p → (∀ (j : Nat) t v, ts[j]? = some t → vs[j]? = some v → Value.okWide P w r b0 t v) → ts.all (fun t => (shOf P k t).isSome) = true →
    ∃ xs, RepA Ix.none Av0 Av0 w xs vs ∧ ArgsTy P k ts xs
  | [], vs, ds, p, h, _, _ => by
    cases vs with
    | nil => exact ⟨[], rfl, rfl⟩
    | cons => cases ds <;> exact h.elim
  | t :: ts, vs, ds, p, h, hv, hs => by
    obtain ⟨v, vs', d, ds', p', q', rfl, rfl, rfl, h0, h⟩ := trodAll_cons h
    simp only [List.all_cons, Bool.and_eq_true] at hs
    obtain ⟨a, h1, h2⟩ := par_rep hs.1 (hv 0 t v rfl rfl) h0
    obtain ⟨xs, h3, h4⟩ := args_rep h (fun j t' v' e e' => hv (j + 1) t' v' (by simpa using e) (by simpa using e')) hs.2
    exact ⟨a :: xs, ⟨v, vs', rfl, h1, h3⟩, a, xs, rfl, h2, h4⟩
/-- the arguments handed back, where all that lay there before lies there yet -/
theorem args_back (hl : laidOutB P = true) {W W' : World} (hb : Below W.heap.size W W') : ∀ {ts : List TypeId} {vs : List Value} {ds : List (DataW H)} {p : List MemPlace}, DataW.TrodAll enc P W 0 (fun _ => true) true ts vs ds p → ts.all (fun t => P.readableRec t && decide (t < P.types.size)) = true →
    DataW.TrodAll enc P W' 0 (fun b => decide (b < W.heap.size)) true ts vs ds p
  | [], vs, ds, p, h, _ => by
    cases vs with
    | nil => cases ds with
      | nil => exact h
      | cons => exact h.elim
    | cons => cases ds <;> exact h.elim
  | t :: ts, vs, ds, p, h, hs => by
    have hlt := DataW.TrodAll.lt h
    obtain ⟨v, vs', d, ds', p', q', rfl, rfl, rfl, h0, h⟩ := trodAll_cons h
    simp only [List.all_cons, Bool.and_eq_true, decide_eq_true_eq] at hs
    exact trodAll_cons_mk (Below.trod hl hs.1.1 hs.1.2 h0 hb fun x hx => hlt x (List.mem_append_left _ hx)) (args_back hl hb h hs.2)
end
end Go.Proofs.Ytinpinjjdkilpaa
