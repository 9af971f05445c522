/- A statement's arguments as values of the machine. -/
import Derived.Test.YtinpinjjdkilpaaMb
import Derived.Deep.Slices
import Derived.Deep.Fields
import Derived.ChangeSame
import Derived.OpenShut
import Derived.Carry
import Derived.ChangeOld
set_option linter.unusedSimpArgs false
set_option linter.unusedVariables false
set_option linter.unusedSectionVars false
/- Arguments: whatever a statement hands over reads as a value of the machine. -/
namespace Go.Proofs.Ytinpinjjdkilpaa
open Go Go.RowKit Go.ChangeShapes Go.WideShapes Go.Deep
/-- the kinds of cells of a type -/
inductive Cs where
  | int (k : IntKind)
  | bool
  | str
  | sl (l : List Cs)
def shArr (P : Program) (r : TypeId → Option (List Cs)) (t : TypeId) (n : Nat) (e : TypeId) : Option (List Cs) :=
  (r e).bind fun l => if l.length = P.cellsOf e ∧ n * l.length = P.cellsOf t then some (List.replicate n l).flatten else none
def shFs (P : Program) (r : TypeId → Option (List Cs)) : Nat → List Field → Option (List Cs)
  | _, [] => some []
  | off, f :: fs => (r f.type).bind fun l => if f.offset = off ∧ l.length = P.cellsOf f.type then (shFs P r (off + l.length) fs).map (l ++ ·) else none
def shOf (P : Program) : Nat → TypeId → Option (List Cs)
  | 0, _ => none
  | n + 1, t => match P.underlying t with
    | some .bool => some [.bool]
    | some (.int k) => some [.int k]
    | some .string => some [.str]
    | some (.slice e) => (shOf P n e).bind fun l => if l.length = P.cellsOf e ∧ 0 < l.length then some [.sl l] else none
    | some (.struct fs) => (shFs P (shOf P n) 0 fs.toList).bind fun l => if l.length = P.cellsOf t then some l else none
    | some (.array k e) => shArr P (shOf P n) t k e
    | _ => none
mutual
def TyC : Cs → AV → Prop
  | .int k, x => ∃ n, x = .int k n ∧ (Lit.int k n).wf = true
  | .bool, x => ∃ b, x = .bool b
  | .str, x => ∃ s, x = .str s ∧ s.size ≤ maxLen
  | .sl l, x => ∃ nl els, x = .sl nl els ∧ els.length ≤ maxLen ∧ ∀ av1 ∈ els, TyL l av1
def TyL : List Cs → List AV → Prop
  | [], av1 => av1 = []
  | c :: cs, av1 => ∃ a r, av1 = a :: r ∧ TyC c a ∧ TyL cs r
end
theorem TyL_length : ∀ {l : List Cs} {av1 : List AV}, TyL l av1 → av1.length = l.length
  | [], av1, h => by simp only [TyL] at h; subst h; rfl
  | c :: cs, av1, h => by
    simp only [TyL] at h
    obtain ⟨a, r, rfl, _, h⟩ := h
    simp [TyL_length h]
theorem TyL_append : ∀ {l m : List Cs} {av1 bs : List AV}, TyL l av1 → TyL m bs → TyL (l ++ m) (av1 ++ bs)
  | [], m, av1, bs, h, h' => by simp only [TyL] at h; subst h; exact h'
  | c :: cs, m, av1, bs, h, h' => by
    simp only [TyL] at h
    obtain ⟨a, r, rfl, h0, h⟩ := h
    exact ⟨a, r ++ bs, rfl, h0, TyL_append h h'⟩
section
variable {H : Type} {enc : TypeId × Value → H} {P : Program} {w : World} {base : Nat} {spare : Nat → Bool} {held : Bool}
theorem Rows_of {av : Av} {b sz : Nat} : ∀ {els : List (List AV)} {off : Nat}, (∀ av1 ∈ els, av1.length = sz) → (∀ (i : Nat) (av1 : List AV), els[i]? = some av1 → Cells av w av1 b (off + i * sz)) → Rows av w els b off
  | [], _, _, _ => by simp [Rows]
  | av1 :: r, off, hl, h => by
    simp only [Rows]
    have h0 := h 0 av1 rfl
    rw [Nat.zero_mul, Nat.add_zero] at h0
    refine ⟨h0, Rows_of (fun x hx => hl x (List.mem_cons_of_mem _ hx)) fun i x hx => ?_⟩
    have := h (i + 1) x (by simpa using hx)
    rw [hl av1 List.mem_cons_self, show off + sz + i * sz = off + (i + 1) * sz from by rw [Nat.succ_mul]; omega]
    exact this
abbrev Av0 : Av := fun _ _ => False
theorem RepL_nil_iff {av1 : List AV} : RepL Av0 w av1 [] → av1 = [] := fun h => by
  cases av1 with
  | nil => rfl
  | cons a r => simp only [RepL] at h; obtain ⟨_, _, h, _⟩ := h; cases h
theorem fields_rep {r : TypeId → Option (List Cs)} {cs : List Value}
    (ih : ∀ (t : TypeId) (sh : List Cs) (n : Nat) (cs : List Value) (x : DataW H × List MemPlace), r t = some sh → DataW.trod enc P w base spare held n t cs = some x → ∃ av1, RepL Av0 w av1 cs ∧ TyL sh av1) {n : Nat} :
    ∀ (fs : List Field) (off : Nat) (sh : List Cs), shFs P r off fs = some sh → off + sh.length = cs.length → (∀ f ∈ fs, ∃ x, DataW.trod enc P w base spare held n f.type ((cs.drop f.offset).take (P.cellsOf f.type)) = some x) → ∃ av1, RepL Av0 w av1 (cs.drop off) ∧ TyL sh av1
  | [], off, sh, h, hl, _ => by
    injection h with h
    subst h
    refine ⟨[], ?_, rfl⟩
    rw [List.drop_eq_nil_of_le (by simp at hl; omega)]
    rfl
  | f :: fs, off, sh, h, hl, hx => by
    unfold shFs at h
    obtain ⟨l, hr, h⟩ := Option.bind_eq_some_iff.1 h
    split at h
    · rename_i hc
      obtain ⟨ho, hcl⟩ := hc
      obtain ⟨sh', hs, rfl⟩ := Option.map_eq_some_iff.1 h
      obtain ⟨x, hx0⟩ := hx f List.mem_cons_self
      obtain ⟨av1, h1, h2⟩ := ih _ _ _ _ _ hr hx0
      obtain ⟨bs, h3, h4⟩ := fields_rep ih fs (off + l.length) sh' hs (by simp at hl; omega) fun g hg => hx g (List.mem_cons_of_mem _ hg)
      refine ⟨av1 ++ bs, ?_, TyL_append h2 h4⟩
      have : cs.drop off = (cs.drop off).take l.length ++ cs.drop (off + l.length) := by rw [← List.drop_drop, List.take_append_drop]
      rw [this]
      rw [ho, ← hcl] at h1
      exact RepL_append h1 h3
    · cases h
theorem array_rep {sz : Nat} {l : List Cs} {cs : List Value} (hl : l.length = sz) (f : ∀ i : Nat, i * sz < cs.length ∨ sz = 0 → ∃ av1, RepL Av0 w av1 ((cs.drop (i * sz)).take sz) ∧ TyL l av1) :
    ∀ (n i : Nat), (i + n) * sz = cs.length → ∃ av1, RepL Av0 w av1 (cs.drop (i * sz)) ∧ TyL (List.replicate n l).flatten av1
  | 0, i, h => by
    refine ⟨[], ?_, rfl⟩
    rw [List.drop_eq_nil_of_le (by simp at h; omega)]
    rfl
  | n + 1, i, h => by
    have h1 : (i + 1 + n) * sz = cs.length := by rw [← h]; congr 1; omega
    have hs : (i + 1) * sz = i * sz + sz := Nat.succ_mul i sz
    have hlt : i * sz < cs.length ∨ sz = 0 := by
      rcases Nat.eq_zero_or_pos sz with h0 | h0
      · exact .inr h0
      · have : (i + 1) * sz ≤ (i + (n + 1)) * sz := Nat.mul_le_mul_right _ (by omega)
        omega
    obtain ⟨av1, g1, g2⟩ := f i hlt
    obtain ⟨av2, g3, g4⟩ := array_rep hl f n (i + 1) h1
    refine ⟨av1 ++ av2, ?_, by rw [List.replicate_succ, List.flatten_cons]; exact TyL_append g2 g4⟩
    have : cs.drop (i * sz) = (cs.drop (i * sz)).take sz ++ cs.drop ((i + 1) * sz) := by rw [hs, ← List.drop_drop, List.take_append_drop]
    rw [this]
    exact RepL_append g1 g3
theorem trod_rep : ∀ (k : Nat) (t : TypeId) (sh : List Cs) (n : Nat) (cs : List Value) (x : DataW H × List MemPlace), shOf P k t = some sh → DataW.trod enc P w base spare held n t cs = some x → ∃ av1, RepL Av0 w av1 cs ∧ TyL sh av1
  | 0, _, _, _, _, _, h, _ => by cases h
  | k + 1, t, sh, n, cs, x, h, hx => by
    unfold shOf at h
    split at h
    · rename_i ht
      injection h with h
      subst h
      obtain ⟨b, rfl, _⟩ := DataW.trod_bool ht hx
      exact ⟨[.bool b], ⟨_, _, rfl, rfl, rfl, rfl⟩, _, _, rfl, ⟨b, rfl⟩, rfl⟩
    · rename_i kk ht
      injection h with h
      subst h
      obtain ⟨b, rfl, _, hw⟩ := DataW.trod_int ht hx
      exact ⟨[.int kk b], ⟨_, _, rfl, rfl, rfl, rfl⟩, _, _, rfl, ⟨b, rfl, hw⟩, rfl⟩
    · rename_i ht
      injection h with h
      subst h
      obtain ⟨b, rfl, _, hw⟩ := DataW.trod_string ht hx
      exact ⟨[.str b], ⟨_, _, rfl, rfl, rfl, rfl⟩, _, _, rfl, ⟨b, rfl, hw⟩, rfl⟩
    · rename_i e ht
      obtain ⟨l, hl, h⟩ := Option.bind_eq_some_iff.1 h
      split at h
      · rename_i hc
        injection h with h
        subst h
        rcases open_slice ht hx with ⟨rfl, _⟩ | ⟨a, len, cap, m, n', D, Pl, rfl, _, hle, hcm, hm, _, hi⟩
        · refine ⟨[.sl true []], ⟨_, _, rfl, ⟨none, 0, rfl, Nat.le_refl _, (fun _ h => by cases h), fun _ => ⟨rfl, rfl, rfl⟩, fun h => by cases h⟩, rfl, rfl⟩, _, _, rfl, ⟨true, [], rfl, Nat.zero_le _, (fun _ h => by cases h)⟩, rfl⟩
        · have hmle : len ≤ m := by rw [hm]; split <;> omega
          have hrow : ∀ i : Nat, ∃ av1 : List AV, i < len → (TyL l av1 ∧ ∃ us, RepL Av0 w av1 us ∧ us.length = P.cellsOf e ∧ ∀ j, j < P.cellsOf e → w.cell? ((a.add (i * P.cellsOf e)).add j) = us[j]?) := fun i => by
            by_cases hlt : i < len
            · obtain ⟨us, hc1, hc2⟩ := hi i (by omega)
              obtain ⟨av1, h1, h2⟩ := trod_rep k e l n' us _ hl hc2
              obtain ⟨_, g1, g2⟩ := World.cells?_some hc1
              exact ⟨av1, fun _ => ⟨h2, us, h1, g1, g2⟩⟩
            · exact ⟨[], fun h => absurd h hlt⟩
          have hrow' := Classical.axiomOfChoice hrow
          obtain ⟨f, hf⟩ := hrow'
          have hels : ∀ av1 ∈ (List.range len).map f, TyL l av1 := fun av1 ha => by
            obtain ⟨i, hi', rfl⟩ := List.mem_map.1 ha
            exact (hf i (List.mem_range.1 hi')).1
          have hlens : ∀ av1 ∈ (List.range len).map f, av1.length = P.cellsOf e := fun av1 ha => (TyL_length (hels av1 ha)).trans hc.1
          refine ⟨[.sl false ((List.range len).map f)], ⟨_, _, rfl, ⟨some a, cap, by simp, by simpa using hle, fun x hx y hy => (hlens x hx).trans (hlens y hy).symm, (fun h => by cases h), fun _ => ⟨fun h => (by cases h), fun h0 => ?_⟩⟩, rfl, rfl⟩, _, _, rfl, ⟨false, _, rfl, by simp; omega, hels⟩, rfl⟩
          have h0' : 0 < len := by simpa using h0
          have hpos : 0 < P.cellsOf e := by omega
          have hspot : ∃ b off, a = ⟨b, off, none⟩ := by
            obtain ⟨_, us, _, g1, g2⟩ := hf 0 h0'
            have g3 := g2 0 hpos
            simp only [Nat.zero_mul, Addr.add, if_true] at g3
            rw [List.getElem?_eq_getElem (by omega)] at g3
            obtain ⟨b, off, sp⟩ := a
            cases sp with
            | none => exact ⟨b, off, rfl⟩
            | some q =>
              simp only [World.cell?] at g3
              split at g3
              · simp at g3
              · cases g3
          obtain ⟨b, off, rfl⟩ := hspot
          refine ⟨b, off, rfl, Rows_of hlens fun i av1 hget => ?_⟩
          rw [List.getElem?_map] at hget
          obtain ⟨i', hi', rfl⟩ := Option.map_eq_some_iff.1 hget
          rw [List.getElem?_eq_some_iff] at hi'
          obtain ⟨hlt, he⟩ := hi'
          simp at hlt he
          subst he
          obtain ⟨_, us, g0, g1, g2⟩ := hf i hlt
          refine Cells_mk g0 fun j u hu => ⟨?_, fun h => h⟩
          have hj : j < P.cellsOf e := by rw [← g1]; exact (List.getElem?_eq_some_iff.1 hu).1
          have := g2 j hj
          rw [Addr.add_lit, Addr.add_lit, hu] at this
          exact this
      · cases h
    · rename_i fs ht
      obtain ⟨l, hl, h⟩ := Option.bind_eq_some_iff.1 h
      split at h
      · rename_i hc
        injection h with h
        subst h
        obtain ⟨xs, n', rfl, _, hlen, hxl, hf⟩ := DataW.trod_struct ht hx
        have := fields_rep (cs := cs) (n := n') (fun t sh n cs x => trod_rep k t sh n cs x) fs.toList 0 l hl (by omega) fun g hg => by
          obtain ⟨i, hi, he⟩ := List.getElem_of_mem hg
          have hi' : i < fs.size := by simpa using hi
          have h1 := hf i g (by rw [← he]; simp [hi'])
          exact ⟨xs[i]'(by omega), by rw [h1]; exact List.getElem?_eq_getElem (by omega)⟩
        simpa using this
      · cases h
    · rename_i n' e ht
      unfold shArr at h
      obtain ⟨l, hl, h⟩ := Option.bind_eq_some_iff.1 h
      split at h
      · rename_i hc
        injection h with h
        subst h
        obtain ⟨xs, m, rfl, _, hlen, hxl, hf⟩ := DataW.trod_array ht hx
        have hz : ∀ i, i < n' → ∃ av1, RepL Av0 w av1 ((cs.drop (i * P.cellsOf e)).take (P.cellsOf e)) ∧ TyL l av1 := fun i hi => by
          have h1 := hf i hi
          rw [List.getElem?_eq_getElem (by omega)] at h1
          exact trod_rep k e l m _ _ hl h1
        rcases Nat.eq_zero_or_pos l.length with h0 | h0
        · have hl0 : l = [] := List.eq_nil_of_length_eq_zero h0
          subst hl0
          have hcs : cs = [] := List.eq_nil_of_length_eq_zero (by rw [hlen, ← hc.2]; simp)
          subst hcs
          exact ⟨[], rfl, by simp [TyL]⟩
        · have := array_rep (cs := cs) hc.1 (fun i hi => hz i (by
            rcases hi with hi | hi
            · rw [hlen, ← hc.2, hc.1] at hi
              exact Nat.lt_of_mul_lt_mul_right hi
            · omega)) n' 0 (by rw [Nat.zero_add, hlen, ← hc.2, hc.1])
          simpa using this
      · cases h
    · cases h
end
end Go.Proofs.Ytinpinjjdkilpaa
/- A statement's arguments as values of the machine. -/
namespace Go.Proofs.Ytinpinjjdkilpaa
open Go Go.RowKit Go.ChangeShapes Go.WideShapes Go.Deep
def wholeT (P : Program) (t : TypeId) : Bool := match P.underlying t with
  | some (.struct _) | some (.array ..) => true
  | _ => false
/-- a value of a parameter's type -/
def ParTy (P : Program) (k : Nat) (t : TypeId) (a : AV) : Prop := ∃ sh, shOf P k t = some sh ∧ ((wholeT P t = true ∧ ∃ cs, a = .agg cs ∧ TyL sh cs) ∨ (wholeT P t = false ∧ TyL sh [a]))
def ArgsTy (P : Program) (k : Nat) : List TypeId → List AV → Prop
  | [], xs => xs = []
  | t :: ts, xs => ∃ a r, xs = a :: r ∧ ParTy P k t a ∧ ArgsTy P k ts r
section
variable {H : Type} {enc : TypeId × Value → H} {P : Program} {w : World} {base : Nat} {spare : Nat → Bool} {held : Bool}
theorem par_rep {k : Nat} {t : TypeId} {r : Reach} {b0 : Nat} {v : Value} {d : DataW H} {p : List MemPlace} (hs : (shOf P k t).isSome = true) (hv : Value.okWide P w r b0 t v) (h : DataW.Trod enc P w base spare held t v d p) :
    ∃ a, RepS Ix.none Av0 Av0 w a v ∧ ParTy P k t a := by
  obtain ⟨sh, hsh⟩ := Option.isSome_iff_exists.1 hs
  obtain ⟨fuel, hf⟩ := h
  obtain ⟨xs, h1, h2⟩ := trod_rep k t sh fuel _ _ hsh hf
  have one : ∀ (u : Value), v = u → v.cells.toList = [u] → (∃ c, sh = [c]) → wholeT P t = false → (∀ a, TyL sh [a] → a.leaf = true) → ∃ a, RepS Ix.none Av0 Av0 w a v ∧ ParTy P k t a := fun u hu hc ⟨c, hc'⟩ hw hleaf => by
    subst hc'
    have h2' := h2
    simp only [TyL] at h2
    obtain ⟨a, _, rfl, _, rfl⟩ := h2
    rw [hc] at h1
    simp only [RepL] at h1
    obtain ⟨u', _, e, h0, _, _⟩ := h1
    injection e with e
    subst e
    exact ⟨a, by rw [hu]; exact RepS_of_rep h0 (hleaf a h2'), [c], hsh, .inr ⟨hw, h2'⟩⟩
  cases k with
  | zero => cases hsh
  | succ k =>
    have hsh' := hsh
    unfold shOf at hsh'
    split at hsh'
    · rename_i ht
      injection hsh' with e
      obtain ⟨b, rfl⟩ := okWide_bool ht hv
      refine one _ rfl rfl ⟨_, e.symm⟩ (by simp [wholeT, ht]) fun a ha => ?_
      subst e
      simp only [TyL] at ha
      obtain ⟨_, _, e, hc, _⟩ := ha
      simp only [TyC] at hc
      obtain ⟨b', rfl⟩ := hc
      injection e with e
      subst e
      rfl
    · rename_i kk ht
      injection hsh' with e
      obtain ⟨b, rfl⟩ := okWide_int ht hv
      refine one _ rfl rfl ⟨_, e.symm⟩ (by simp [wholeT, ht]) fun a ha => ?_
      subst e
      simp only [TyL] at ha
      obtain ⟨_, _, e, hc, _⟩ := ha
      simp only [TyC] at hc
      obtain ⟨b', rfl, _⟩ := hc
      injection e with e
      subst e
      rfl
    · rename_i ht
      injection hsh' with e
      obtain ⟨b, rfl⟩ := okWide_string ht hv
      refine one _ rfl rfl ⟨_, e.symm⟩ (by simp [wholeT, ht]) fun a ha => ?_
      subst e
      simp only [TyL] at ha
      obtain ⟨_, _, e, hc, _⟩ := ha
      simp only [TyC] at hc
      obtain ⟨b', rfl, _⟩ := hc
      injection e with e
      subst e
      rfl
    · rename_i e' ht
      obtain ⟨l, _, hsh'⟩ := Option.bind_eq_some_iff.1 hsh'
      split at hsh'
      · injection hsh' with e
        obtain ⟨A, n, c, rfl⟩ := okWide_slice ht hv
        refine one _ rfl rfl ⟨_, e.symm⟩ (by simp [wholeT, ht]) fun a ha => ?_
        subst e
        simp only [TyL] at ha
        obtain ⟨_, _, e, hc, _⟩ := ha
        simp only [TyC] at hc
        obtain ⟨nl, els, rfl, _⟩ := hc
        injection e with e
        subst e
        rfl
      · cases hsh'
    · rename_i fs ht
      have : ∃ cs, v = .agg cs := by
        simp only [Value.okWide, ht] at hv
        obtain ⟨cs, hv, _⟩ := hv
        exact ⟨cs, hv⟩
      obtain ⟨cs, rfl⟩ := this
      exact ⟨.agg xs, ⟨cs, rfl, RepCL_ofL h1⟩, sh, hsh, .inl ⟨by simp [wholeT, ht], xs, rfl, h2⟩⟩
    · rename_i n' e' ht
      have : ∃ cs, v = .agg cs := by
        simp only [Value.okWide, ht] at hv
        obtain ⟨cs, hv, _⟩ := hv
        exact ⟨cs, hv⟩
      obtain ⟨cs, rfl⟩ := this
      exact ⟨.agg xs, ⟨cs, rfl, RepCL_ofL h1⟩, sh, hsh, .inl ⟨by simp [wholeT, ht], xs, rfl, h2⟩⟩
    · cases hsh'
theorem args_rep {k : Nat} {r : Reach} {b0 : Nat} : ∀ {ts : List TypeId} {vs : List Value} {ds : List (DataW H)} {p : List MemPlace}, DataW.TrodAll enc P w base spare held ts vs ds p → (∀ (j : Nat) t v, ts[j]? = some t → vs[j]? = some v → Value.okWide P w r b0 t v) → ts.all (fun t => (shOf P k t).isSome) = true →
    ∃ xs, RepA Ix.none Av0 Av0 w xs vs ∧ ArgsTy P k ts xs
  | [], vs, ds, p, h, _, _ => by
    cases vs with
    | nil => exact ⟨[], rfl, rfl⟩
    | cons => cases ds <;> exact h.elim
  | t :: ts, vs, ds, p, h, hv, hs => by
    obtain ⟨v, vs', d, ds', p', q', rfl, rfl, rfl, h0, h⟩ := trodAll_cons h
    simp only [List.all_cons, Bool.and_eq_true] at hs
    obtain ⟨a, h1, h2⟩ := par_rep hs.1 (hv 0 t v rfl rfl) h0
    obtain ⟨xs, h3, h4⟩ := args_rep h (fun j t' v' e e' => hv (j + 1) t' v' (by simpa using e) (by simpa using e')) hs.2
    exact ⟨a :: xs, ⟨v, vs', rfl, h1, h3⟩, a, xs, rfl, h2, h4⟩
/-- the arguments handed back, where all that lay there before lies there yet -/
theorem args_back (hl : laidOutB P = true) {W W' : World} (hb : Below W.heap.size W W') : ∀ {ts : List TypeId} {vs : List Value} {ds : List (DataW H)} {p : List MemPlace}, DataW.TrodAll enc P W 0 (fun _ => true) true ts vs ds p → ts.all (fun t => P.readableRec t && decide (t < P.types.size)) = true →
    DataW.TrodAll enc P W' 0 (fun b => decide (b < W.heap.size)) true ts vs ds p
  | [], vs, ds, p, h, _ => by
    cases vs with
    | nil => cases ds with
      | nil => exact h
      | cons => exact h.elim
    | cons => cases ds <;> exact h.elim
  | t :: ts, vs, ds, p, h, hs => by
    have hlt := DataW.TrodAll.lt h
    obtain ⟨v, vs', d, ds', p', q', rfl, rfl, rfl, h0, h⟩ := trodAll_cons h
    simp only [List.all_cons, Bool.and_eq_true, decide_eq_true_eq] at hs
    exact trodAll_cons_mk (Below.trod hl hs.1.1 hs.1.2 h0 hb fun x hx => hlt x (List.mem_append_left _ hx)) (args_back hl hb h hs.2)
end
end Go.Proofs.Ytinpinjjdkilpaa
