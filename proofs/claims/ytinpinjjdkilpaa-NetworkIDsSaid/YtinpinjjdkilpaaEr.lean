/- Operations whose order does not matter may change places. -/
import Derived.Test.YtinpinjjdkilpaaEq
namespace Go.Proofs.Ytinpinjjdkilpaa
open Go
section
variable {call : CallT} {s s' s1 s2 : MSt}
/-- what an operation does to a state but for its own slot -/
inductive Tr where
  | id
  | row (t n : Nat) (r : List Slot)
  | an (A : An) (d : Nat)
  | obj (t n : Nat) (S : AV)
def Tr.ap : Tr → MSt → MSt
  | .id, s => s
  | .row t n r, s => s.setRow t n r
  | .an A d, s => (s.stripA A).strip d
  | .obj t n S, s => s.setObj t n S
def Tr.f : Tr → An → An
  | .an A d, x => match A with
    | .own k _ => (x.strip k).strip d
    | _ => x.strip d
  | _, x => x
theorem Tr.ends (T : Tr) : Ends T.f := by
  cases T with
  | an A d => cases A <;> exact ⟨rfl, rfl⟩
  | _ => exact ⟨rfl, rfl⟩
theorem Tr.ap_an (A : An) (d : Nat) (s : MSt) : (Tr.an A d).ap s = s.mapAn (Tr.an A d).f := by
  cases A with
  | own k e => simp [Tr.ap, MSt.stripA, MSt.strip, MSt.mapAn, Slot.strip, Tr.f, Function.comp_def]
  | no => rfl
  | ex => rfl
def OpC.runG (call : CallT) (o : OpC) (s : MSt) : Option (Slot × Eff) :=
  match o.guard with
  | none => o.op.run call s
  | some (t, want) => match (s.env t).v with
    | .bool b => if b = want then o.op.run call s else some (⟨.tup [], .no⟩, .none)
    | .tup [] => some (⟨.tup [], .no⟩, .none)
    | _ => none
def OpC.effT (o : OpC) (next : Nat) : Slot × Eff → Option (Tr × Slot)
  | (x, .none) => some (.id, x)
  | (x, .new r) => match o.dst with
    | none => none
    | some d => some (.row d next r, ⟨match x.v with | .ref _ _ sz off l c => .ref d next sz off l c | _ => .ptr d next 0, .no⟩)
  | (_, .set t n r) => some (.row t n r, ⟨.undef, .no⟩)
  | (x, .app a _) => match o.dst with
    | none => none
    | some d => some (.an a d, ⟨x.v, match x.a with | .own _ e => .own d e | a => a⟩)
  | (x, .obj t n S) => some (.obj t n S, x)
  | (x, .mk S) => match o.dst with
    | none => none
    | some d => some (.obj d next S, ⟨x.v.named d next, .no⟩)
theorem step_eq (o : OpC) (s : MSt) : o.step call s = (o.runG call s).bind fun p => (o.effT s.next p).map fun q => (q.1.ap s).put o.dst q.2 := by
  have h : ∀ p, o.eff s p = (o.effT s.next p).map fun q => (q.1.ap s).put o.dst q.2 := by
    rintro ⟨x, e⟩
    cases e with
    | none => rfl
    | new r => simp only [OpC.eff, OpC.effT]; cases o.dst <;> rfl
    | set t n r => rfl
    | app a k => simp only [OpC.eff, OpC.effT]; cases o.dst <;> rfl
    | obj t n S => rfl
    | mk S => simp only [OpC.eff, OpC.effT]; cases o.dst <;> rfl
  have hf : o.eff s = fun p => (o.effT s.next p).map fun q => (q.1.ap s).put o.dst q.2 := funext h
  unfold OpC.step OpC.runG
  rw [← hf]
  cases o.guard with
  | none => rfl
  | some p =>
    obtain ⟨t, want⟩ := p
    simp only
    generalize (s.env t).v = y
    cases y with
    | bool b => simp only; split <;> rfl
    | tup l => cases l <;> rfl
    | _ => rfl
theorem run_eff (k : K) {x : Slot} {e : Eff} (h : k.run call s = some (x, e)) : match e with
    | .none => True
    | .new _ => isA k = true
    | .set t _ _ => isS k = true ∧ (k.cl = some .any ∨ k.cl = some (.root t))
    | .app _ _ => isT k = true
    | .obj _ _ _ => isO k = true
    | .mk _ => isO k = true := by
  have hn : e = .none → (match e with
    | .none => True
    | .new _ => isA k = true
    | .set t _ _ => isS k = true ∧ (k.cl = some .any ∨ k.cl = some (.root t))
    | .app _ _ => isT k = true
    | .obj _ _ _ => isO k = true
    | .mk _ => isO k = true) := fun h => by subst h; trivial
  cases k with
  | alloc z => simp only [K.run] at h; injection h with h; injection h with _ h; subst h; rfl
  | box z x =>
    simp only [K.run] at h
    split at h <;> split at h <;> first | (cases h; done) | (injection h with h; injection h with _ h; subst h; rfl)
  | mks z b zs l c =>
    simp only [K.run] at h
    split at h
    · split at h
      · injection h with h; injection h with _ h; subst h; rfl
      · cases h
    · cases h
  | store cl g z x y =>
    simp only [K.run] at h
    split at h
    · split at h
      · rename_i t n off _ hok
        obtain ⟨r, _, h⟩ := Option.map_eq_some_iff.1 h
        injection h with _ h
        subst h
        refine ⟨rfl, ?_⟩
        cases cl with
        | any => exact .inl rfl
        | imm => simp [Cl.okPtr] at hok
        | root r => simp [Cl.okPtr] at hok; subst hok; exact .inr rfl
      · cases h
    · cases h
  | app cl e z b x y =>
    simp only [K.run] at h
    split at h
    · split at h
      · split at h
        · cases h
        · split at h
          · injection h with h; injection h with _ h; subst h; rfl
          · cases h
        · injection h with h; injection h with _ h; subst h; rfl
      · cases h
    · cases h
  | mv x => simp only [K.run] at h; injection h with h; injection h with _ h; exact hn h.symm
  | pick c a b =>
    simp only [K.run] at h
    split at h
    · injection h with h; injection h with _ h; exact hn h.symm
    · cases h
  | build z ps =>
    simp only [K.run] at h
    split at h
    · obtain ⟨r, _, h⟩ := Option.map_eq_some_iff.1 h; injection h with _ h; exact hn h.symm
    · cases h
  | bsl z n ps =>
    simp only [K.run] at h
    split at h
    · injection h with h; injection h with _ h; exact hn h.symm
    · cases h
  | load cl g z x =>
    simp only [K.run] at h
    split at h
    · split at h
      · obtain ⟨r, _, h⟩ := Option.map_eq_some_iff.1 h; injection h with _ h; exact hn h.symm
      · cases h
    · split at h
      · cases h
      · obtain ⟨r, _, h⟩ := Option.map_eq_some_iff.1 h; injection h with _ h; exact hn h.symm
    · split at h
      · cases h
      · obtain ⟨r, _, h⟩ := Option.map_eq_some_iff.1 h; injection h with _ h; exact hn h.symm
    · cases h
  | bin op b x y => simp only [K.run] at h; obtain ⟨r, _, h⟩ := Option.map_eq_some_iff.1 h; injection h with _ h; exact hn h.symm
  | eqa n ks x y =>
    simp only [K.run] at h
    split at h
    · obtain ⟨r, _, h⟩ := Option.map_eq_some_iff.1 h; injection h with _ h; exact hn h.symm
    · cases h
  | eqn n p x y =>
    simp only [K.run] at h
    split at h <;> first | (cases h; done) | (obtain ⟨r, _, h⟩ := Option.map_eq_some_iff.1 h; injection h with _ h; exact hn h.symm)
  | un op x =>
    simp only [K.run] at h
    split at h <;> first | (cases h; done) | (injection h with h; injection h with _ h; exact hn h.symm)
  | conv o x =>
    simp only [K.run] at h
    split at h <;> first | (cases h; done) | (injection h with h; injection h with _ h; exact hn h.symm)
  | slc st z x lo hi mx =>
    cases mx with
    | some m => simp [K.run] at h
    | none =>
      simp only [K.run] at h
      split at h
      · cases h
      · split at h <;> first
          | (cases h; done)
          | (split at h
             · split at h
               · injection h with h; injection h with _ h; exact hn h.symm
               · cases h
             · cases h)
  | faddr o x =>
    simp only [K.run] at h
    split at h <;> first | (cases h; done) | (injection h with h; injection h with _ h; exact hn h.symm)
  | field g o z x =>
    simp only [K.run] at h
    split at h
    · obtain ⟨r, _, h⟩ := Option.map_eq_some_iff.1 h; injection h with _ h; exact hn h.symm
    · cases h
  | iaddr z x i =>
    simp only [K.run] at h
    split at h
    · split at h
      · obtain ⟨r, _, h⟩ := Option.bind_eq_some_iff.1 h; split at h <;> first | (cases h; done) | (injection h with h; injection h with _ h; exact hn h.symm)
      · obtain ⟨r, _, h⟩ := Option.bind_eq_some_iff.1 h; split at h <;> first | (cases h; done) | (injection h with h; injection h with _ h; exact hn h.symm)
      · split at h <;> first | (cases h; done) | (injection h with h; injection h with _ h; exact hn h.symm)
      · cases h
    · cases h
  | index x i =>
    simp only [K.run] at h
    split at h
    · obtain ⟨r, _, h⟩ := Option.map_eq_some_iff.1 h; injection h with _ h; exact hn h.symm
    · cases h
  | ext x i =>
    simp only [K.run] at h
    split at h
    · obtain ⟨r, _, h⟩ := Option.map_eq_some_iff.1 h; injection h with _ h; exact hn h.symm
    · cases h
  | call cl f xs =>
    simp only [K.run] at h
    obtain ⟨vs, _, h⟩ := Option.bind_eq_some_iff.1 h
    split at h
    · obtain ⟨r, _, h⟩ := Option.bind_eq_some_iff.1 h
      split at h
      · split at h <;> first | (cases h; done) | (injection h with h; injection h with _ h; exact hn h.symm)
      · split at h <;> first | (cases h; done) | (injection h with h; injection h with _ h; subst h; rfl)
    · obtain ⟨r, _, h⟩ := Option.bind_eq_some_iff.1 h
      split at h
      · cases h
      · split at h <;> first | (cases h; done) | (injection h with h; injection h with _ h; subst h; rfl)
    · cases h
  | len st x =>
    simp only [K.run] at h
    split at h <;> first
      | (cases h; done)
      | (split at h <;> first | (cases h; done) | (injection h with h; injection h with _ h; exact hn h.symm))
  | nilchk x =>
    simp only [K.run] at h
    split at h <;> first | (cases h; done) | (injection h with h; injection h with _ h; exact hn h.symm)
/-- what the transformer tells of the operation -/
def Tr.of (T : Tr) (o : OpC) : Prop := match T with
  | .id => True
  | .row t _ _ => (isA o.op = true ∧ o.dst = some t) ∨ (isS o.op = true ∧ (o.op.cl = some .any ∨ o.op.cl = some (.root t)))
  | .an _ d => isT o.op = true ∧ o.dst = some d
  | .obj _ _ _ => isO o.op = true
theorem runG_eff (o : OpC) {x : Slot} {e : Eff} (h : o.runG call s = some (x, e)) {n : Nat} {T : Tr} {v : Slot} (ht : o.effT n (x, e) = some (T, v)) : T.of o := by
  have key : o.op.run call s = some (x, e) ∨ e = .none := by
    unfold OpC.runG at h
    split at h
    · exact .inl h
    · split at h
      · split at h
        · exact .inl h
        · injection h with h; injection h with _ h; exact .inr h.symm
      · injection h with h; injection h with _ h; exact .inr h.symm
      · cases h
  cases e with
  | none => simp only [OpC.effT] at ht; injection ht with ht; injection ht with h1 _; subst h1; trivial
  | new r =>
    have := run_eff o.op (key.resolve_right (by simp))
    simp only [OpC.effT] at ht
    split at ht
    · cases ht
    · rename_i d hd; injection ht with ht; injection ht with h1 _; subst h1; exact .inl ⟨this, hd⟩
  | set t n r =>
    have := run_eff o.op (key.resolve_right (by simp))
    simp only [OpC.effT] at ht
    injection ht with ht; injection ht with h1 _; subst h1
    exact .inr this
  | app a k =>
    have := run_eff o.op (key.resolve_right (by simp))
    simp only [OpC.effT] at ht
    split at ht
    · cases ht
    · rename_i d hd; injection ht with ht; injection ht with h1 _; subst h1; exact ⟨this, hd⟩
  | obj t n S =>
    have := run_eff o.op (key.resolve_right (by simp))
    simp only [OpC.effT] at ht
    injection ht with ht; injection ht with h1 _; subst h1
    exact this
  | mk S =>
    have := run_eff o.op (key.resolve_right (by simp))
    simp only [OpC.effT] at ht
    split at ht
    · cases ht
    · injection ht with ht; injection ht with h1 _; subst h1; exact this
theorem get_put {o : Opd} {d : Option Nat} {x : Slot} (h : ∀ n, o = .t n → d ≠ some n) : o.get (s.put d x) = o.get s ∧ o.an (s.put d x) = o.an s := by
  cases d with
  | none => exact ⟨rfl, rfl⟩
  | some d =>
    cases o with
    | c v => exact ⟨rfl, by cases v <;> first | rfl | (rename_i b l; cases b <;> rfl)⟩
    | t n =>
      have : n ≠ d := fun e => h n rfl (by rw [e])
      simp [Opd.get, Opd.an, MSt.put, this]
theorem looks_opds {o : OpC} {n : Nat} {x : Opd} (h : x ∈ o.op.opds) (hx : x = .t n) : n ∈ o.looks := by
  unfold OpC.looks
  refine List.mem_append_left _ (List.mem_filterMap.2 ⟨x, h, ?_⟩)
  rw [hx]
theorem clear_spec {x y : OpC} (h : x.clear y = true) : (∀ n, x.dst = some n → n ∉ y.looks) ∧ (∀ n, x.dst = some n → y.dst ≠ some n) := by
  unfold OpC.clear at h
  constructor
  · intro n hn
    rw [hn] at h
    simp at h
    exact h.1
  · intro n hn
    rw [hn] at h
    simp at h
    exact h.2
theorem runG_put {y : OpC} {d : Option Nat} {v : Slot} (h : ∀ n, d = some n → n ∉ y.looks) : y.runG call (s.put d v) = y.runG call s := by
  have h1 : y.op.run call (s.put d v) = y.op.run call s := run_congr _ (fun o ho => get_put fun n hn hd => h n hd (looks_opds ho hn)) (fun t n _ => by cases d <;> rfl) (fun _ => by cases d <;> rfl)
  unfold OpC.runG
  rw [h1]
  cases hg : y.guard with
  | none => rfl
  | some p =>
    obtain ⟨t, want⟩ := p
    have : t ∈ y.looks := by unfold OpC.looks; rw [hg]; simp
    have he : ((s.put d v).env t) = s.env t := by
      cases d with
      | none => rfl
      | some d =>
        have : t ≠ d := fun e => h d rfl (e ▸ this)
        simp [MSt.put, this]
    simp only [he]
/-- an operation that does not look at what the transformer turns -/
def Tr.off (T : Tr) (o : OpC) : Prop := match T with
  | .id => True
  | .row t _ _ => ¬ o.op.reads t
  | .an _ _ => isT o.op = false
  | .obj _ _ _ => isO o.op = false
def Tr.act (T : Tr) (p : Slot × Eff) : Slot × Eff := match T with
  | .an _ _ => (p.1.mapAn T.f, p.2.mapAn T.f)
  | _ => p
theorem runG_tr {y : OpC} {T : Tr} (h : T.off y) : y.runG call (T.ap s) = (y.runG call s).map T.act := by
  cases T with
  | id =>
    have : (Tr.act .id : Slot × Eff → Slot × Eff) = id := rfl
    rw [this, Option.map_id]
    rfl
  | row t n r =>
    have h1 : y.op.run call (s.setRow t n r) = y.op.run call s := run_congr _ (fun o ho => by
      cases o with
      | t n => exact ⟨rfl, rfl⟩
      | c v => exact ⟨rfl, by cases v <;> first | rfl | (rename_i b l; cases b <;> rfl)⟩) (fun t' n' hr => by
      simp only [MSt.setRow]
      rw [if_neg]
      rintro ⟨e, _⟩
      exact h (e ▸ hr)) (fun _ => rfl)
    have : y.runG call ((Tr.row t n r).ap s) = y.runG call s := by
      unfold OpC.runG Tr.ap
      rw [h1]
      rfl
    have h2 : (Tr.act (.row t n r) : Slot × Eff → Slot × Eff) = id := rfl
    rw [this, h2, Option.map_id]
    rfl
  | obj t n S =>
    have h1 : y.op.run call (s.setObj t n S) = y.op.run call s := run_congr _ (fun o ho => by
      cases o with
      | t n => exact ⟨rfl, rfl⟩
      | c v => exact ⟨rfl, by cases v <;> first | rfl | (rename_i b l; cases b <;> rfl)⟩) (fun t' n' hr => rfl) (fun ho => by
        have h' : isO y.op = false := h
        rw [h'] at ho; cases ho)
    have : y.runG call ((Tr.obj t n S).ap s) = y.runG call s := by
      unfold OpC.runG Tr.ap
      rw [h1]
      rfl
    have h2 : (Tr.act (.obj t n S) : Slot × Eff → Slot × Eff) = id := rfl
    rw [this, h2, Option.map_id]
    rfl
  | an A d =>
    rw [Tr.ap_an]
    have h1 := run_mapAn (call := call) (s := s) (Tr.ends (.an A d)) y.op h
    unfold OpC.runG
    rw [h1]
    cases y.guard with
    | none => rfl
    | some p =>
      obtain ⟨t, want⟩ := p
      simp only [MSt.mapAn]
      generalize (s.env t).v = y
      cases y with
      | bool b =>
        simp only
        split
        · rfl
        · simp [Tr.act, Slot.mapAn, Eff.mapAn, (Tr.ends (.an A d)).no]
      | tup l => cases l <;> simp [Tr.act, Slot.mapAn, Eff.mapAn, (Tr.ends (.an A d)).no]
      | _ => rfl
theorem okPair_symm {x y : OpC} (h : okPair x y = true) : okPair y x = true := by
  unfold okPair at h ⊢
  simp only [Bool.and_eq_true] at h ⊢
  obtain ⟨⟨⟨⟨⟨h1, h0⟩, h2⟩, h3⟩, h4⟩, h5⟩ := h
  refine ⟨⟨⟨⟨⟨by rw [Bool.or_comm]; exact h1, by rw [Bool.or_comm]; exact h0⟩, ?_⟩, h4⟩, h3⟩, ?_⟩
  · cases hc : x.op.cl with
    | none => cases y.op.cl <;> rfl
    | some c =>
      cases hd : y.op.cl with
      | none => rfl
      | some d =>
        rw [hc, hd] at h2
        simp only [Bool.or_eq_true] at h2 ⊢
        refine h2.imp (fun h => by rw [Bool.or_comm]; exact h) fun h => ?_
        cases c <;> cases d <;> first | rfl | exact h | (simp at h ⊢; exact fun e => h e.symm)
  · simp only [Bool.or_eq_true] at h5 ⊢
    rcases h5 with (h | h) | h
    · exact .inl (.inr h)
    · exact .inl (.inl h)
    · exact .inr (by simp at h ⊢; exact fun e => h e.symm)
theorem off_of {T : Tr} {x y : OpC} (h : T.of x) (hok : okPair x y = true) : T.off y := by
  unfold okPair at hok
  simp only [Bool.and_eq_true] at hok
  obtain ⟨⟨⟨⟨⟨h1, h0⟩, h2⟩, h3⟩, h4⟩, h5⟩ := hok
  cases T with
  | id => trivial
  | an A d =>
    have := h.1
    rw [this] at h1
    show isT y.op = false
    simpa using h1
  | obj t n S =>
    have : isO x.op = true := h
    rw [this] at h0
    show isO y.op = false
    simpa using h0
  | row t n r =>
    intro hr
    unfold K.reads at hr
    rcases h with ⟨ha, hd⟩ | ⟨hs, hc⟩
    · rw [ha, hd] at h3
      cases hcl : y.op.cl with
      | none => rw [hcl] at hr; exact hr
      | some c =>
        rw [hcl] at hr h3
        cases c with
        | any => simp at h3
        | imm => exact hr
        | root r => simp at h3; exact h3 hr
    · cases hcl : y.op.cl with
      | none => rw [hcl] at hr; exact hr
      | some c =>
        rw [hcl] at hr
        rcases hc with hc | hc <;> rw [hc, hcl, hs] at h2
        · cases c with
          | imm => exact hr
          | any => simp at h2
          | root r => simp at h2
        · cases c with
          | imm => exact hr
          | any => simp at h2
          | root r => simp at h2; exact h2 hr
theorem row_ne {t n t' n' : Nat} {r r' : List Slot} {x y : OpC} (h : (Tr.row t n r).of x) (h' : (Tr.row t' n' r').of y) (hok : okPair x y = true) : t ≠ t' := by
  unfold okPair at hok
  simp only [Bool.and_eq_true] at hok
  obtain ⟨⟨⟨⟨⟨h1, h0⟩, h2⟩, h3⟩, h4⟩, h5⟩ := hok
  rintro rfl
  rcases h with ⟨ha, hd⟩ | ⟨hs, hc⟩ <;> rcases h' with ⟨ha', hd'⟩ | ⟨hs', hc'⟩
  · rw [ha, ha', hd, hd'] at h5; simp at h5
  · rw [ha, hd] at h3
    rcases hc' with hc' | hc' <;> rw [hc'] at h3 <;> simp at h3
  · rw [ha', hd'] at h4
    rcases hc with hc | hc <;> rw [hc] at h4 <;> simp at h4
  · rcases hc with hc | hc <;> rcases hc' with hc' | hc' <;> rw [hc, hc', hs] at h2 <;> simp at h2
def Tr.conj (T : Tr) : Tr → Tr
  | .row t n r => match T with
    | .an A d => .row t n (r.map (Slot.mapAn (Tr.an A d).f))
    | _ => .row t n r
  | T' => T'
def Tr.actS (T : Tr) (v : Slot) : Slot := match T with
  | .an A d => v.mapAn (Tr.an A d).f
  | _ => v
theorem effT_act {T : Tr} {o : OpC} {n : Nat} {p : Slot × Eff} {T' : Tr} {v : Slot} (h : o.effT n p = some (T', v)) (hT : (∃ A d, T = .an A d) → ∀ A d, T' ≠ .an A d) : o.effT n (T.act p) = some (T.conj T', T.actS v) := by
  obtain ⟨x, e⟩ := p
  cases T with
  | id => rw [show Tr.id.act (x, e) = (x, e) from rfl, h]; cases T' <;> rfl
  | row t m r => rw [show (Tr.row t m r).act (x, e) = (x, e) from rfl, h]; cases T' <;> rfl
  | obj t m S => rw [show (Tr.obj t m S).act (x, e) = (x, e) from rfl, h]; cases T' <;> rfl
  | an A d =>
    cases e with
    | none => simp only [OpC.effT] at h; injection h with h; injection h with h1 h2; subst h1; subst h2; rfl
    | new r =>
      simp only [OpC.effT] at h
      split at h
      · cases h
      · rename_i d' hd
        injection h with h; injection h with h1 h2; subst h1; subst h2
        simp only [Tr.act, OpC.effT, Eff.mapAn, hd, Tr.conj, Tr.actS, Slot.mapAn, (Tr.ends (.an A d)).no]
    | set t m r =>
      simp only [OpC.effT] at h
      injection h with h; injection h with h1 h2; subst h1; subst h2
      simp only [Tr.act, OpC.effT, Eff.mapAn, Tr.conj, Tr.actS, Slot.mapAn, (Tr.ends (.an A d)).no]
    | app a k =>
      simp only [OpC.effT] at h
      split at h
      · cases h
      · injection h with h; injection h with h1 h2; subst h1; exact absurd rfl (hT ⟨A, d, rfl⟩ _ _)
    | obj t m S =>
      simp only [OpC.effT] at h
      injection h with h; injection h with h1 h2; subst h1; subst h2
      rfl
    | mk S =>
      simp only [OpC.effT] at h
      split at h
      · cases h
      · rename_i d' hd
        injection h with h; injection h with h1 h2; subst h1; subst h2
        simp only [Tr.act, OpC.effT, Eff.mapAn, hd, Tr.conj, Tr.actS, Slot.mapAn, (Tr.ends (.an A d)).no]
theorem put_comm {d d' : Option Nat} (h : ∀ n, d = some n → d' ≠ some n) (v v' : Slot) : (s.put d v).put d' v' = (s.put d' v').put d v := by
  cases d with
  | none => rfl
  | some d =>
    cases d' with
    | none => rfl
    | some d' =>
      have : d ≠ d' := fun e => h d rfl (by rw [e])
      simp only [MSt.put]
      congr 1
      funext t
      by_cases h1 : t = d'
      · by_cases h2 : t = d
        · exact absurd (h2.symm.trans h1) this
        · rw [h1]; simp only [if_true]; rw [if_neg (fun e => this e.symm)]
      · simp [h1]
theorem mapAn_put (f : An → An) (d : Option Nat) (v : Slot) : (s.put d v).mapAn f = (s.mapAn f).put d (v.mapAn f) := by
  cases d with
  | none => rfl
  | some d =>
    simp only [MSt.put, MSt.mapAn]
    congr 1
    funext t
    by_cases h : t = d <;> simp [h, Slot.mapAn]
theorem mapAn_setRow (f : An → An) (t n : Nat) (r : List Slot) : (s.setRow t n r).mapAn f = (s.mapAn f).setRow t n (r.map (Slot.mapAn f)) := by
  simp only [MSt.setRow, MSt.mapAn]
  congr 1
  funext t' n'
  by_cases h : t' = t ∧ n' = n
  · simp only [h, and_self, if_true, Option.map_some]; rfl
  · simp [h]
theorem setRow_put (d : Option Nat) (v : Slot) (t n : Nat) (r : List Slot) : (s.put d v).setRow t n r = (s.setRow t n r).put d v := by cases d <;> rfl
theorem setRow_comm {t n t' n' : Nat} (h : t ≠ t') (r r' : List Slot) : (s.setRow t n r).setRow t' n' r' = (s.setRow t' n' r').setRow t n r := by
  simp only [MSt.setRow]
  congr 1
  funext a b
  by_cases h1 : a = t'
  · have : ¬ (a = t ∧ b = n) := fun e => h (e.1.symm.trans h1)
    simp [this]
  · have : ¬ (a = t' ∧ b = n') := fun e => h1 e.1
    simp [this]
theorem setObj_put (d : Option Nat) (v : Slot) (t n : Nat) (S : AV) : (s.put d v).setObj t n S = (s.setObj t n S).put d v := by cases d <;> rfl
theorem mapAn_setObj (f : An → An) (t n : Nat) (S : AV) : (s.setObj t n S).mapAn f = (s.mapAn f).setObj t n S := rfl
theorem next_tr (T : Tr) (s : MSt) (d : Option Nat) (v : Slot) : ((T.ap s).put d v).next = s.next := by
  have : (T.ap s).next = s.next := by
    cases T with
    | an A d => rw [Tr.ap_an]; rfl
    | _ => rfl
  cases d <;> exact this
theorem commute {x y : OpC} (hap : apartC x y = true) (hok : okPair x y = true) (h1 : x.step call s = some s1) (h2 : y.step call s1 = some s2) : ∃ s1', y.step call s = some s1' ∧ x.step call s1' = some s2 := by
  unfold apartC at hap
  simp only [Bool.and_eq_true] at hap
  obtain ⟨a1, a2⟩ := clear_spec hap.1
  obtain ⟨a3, a4⟩ := clear_spec hap.2
  rw [step_eq] at h1 h2
  obtain ⟨p, hp, h1⟩ := Option.bind_eq_some_iff.1 h1
  obtain ⟨⟨Tx, vx⟩, hx, h1⟩ := Option.map_eq_some_iff.1 h1
  obtain ⟨q, hq, h2⟩ := Option.bind_eq_some_iff.1 h2
  obtain ⟨⟨Ty, vy⟩, hy, h2⟩ := Option.map_eq_some_iff.1 h2
  simp only at h1 h2
  subst h1
  have ofx : Tx.of x := runG_eff x (x := p.1) (e := p.2) hp hx
  have offy := off_of ofx hok
  rw [runG_put a1, runG_tr offy] at hq
  obtain ⟨q0, hq0, rfl⟩ := Option.map_eq_some_iff.1 hq
  rw [next_tr] at hy
  -- y in the first state
  have hy0 : ∃ Ty0 vy0, y.effT s.next q0 = some (Ty0, vy0) := by
    obtain ⟨u, e⟩ := q0
    cases e with
    | none => exact ⟨_, _, rfl⟩
    | new r =>
      cases hd : y.dst with
      | none =>
        exfalso
        cases Tx <;> simp [Tr.act, OpC.effT, Eff.mapAn, hd] at hy
      | some d => exact ⟨.row d s.next r, _, by simp only [OpC.effT, hd]; rfl⟩
    | set t n r => exact ⟨_, _, rfl⟩
    | obj t n S => exact ⟨_, _, rfl⟩
    | mk S =>
      cases hd : y.dst with
      | none =>
        exfalso
        cases Tx <;> simp [Tr.act, OpC.effT, Eff.mapAn, hd] at hy
      | some d => exact ⟨.obj d s.next S, _, by simp only [OpC.effT, hd]; rfl⟩
    | app a k =>
      cases hd : y.dst with
      | none =>
        exfalso
        cases Tx <;> simp [Tr.act, OpC.effT, Eff.mapAn, hd] at hy
      | some d => exact ⟨.an a d, _, by simp only [OpC.effT, hd]; rfl⟩
  obtain ⟨Ty0, vy0, hy0⟩ := hy0
  have ofy : Ty0.of y := runG_eff y (x := q0.1) (e := q0.2) hq0 hy0
  have offx := off_of ofy (okPair_symm hok)
  have notT : ∀ A d A' d', Tx = .an A d → Ty0 = .an A' d' → False := fun A d A' d' e e' => by
    subst e; subst e'
    have := ofy.1
    rw [show isT y.op = false from offy] at this
    cases this
  have hyc := effT_act (T := Tx) hy0 (fun ⟨A, d, e⟩ A' d' e' => notT A d A' d' e e')
  rw [hyc] at hy
  injection hy with hy
  injection hy with e1 e2
  subst e1; subst e2
  have hxc := effT_act (T := Ty0) hx (fun ⟨A, d, e⟩ A' d' e' => notT A' d' A d e' e)
  refine ⟨(Ty0.ap s).put y.dst vy0, by rw [step_eq, hq0, Option.bind_some, hy0]; rfl, ?_⟩
  rw [step_eq, runG_put a3, runG_tr offx, hp]
  simp only [Option.map_some, Option.bind_some, next_tr, hxc]
  rw [← h2]
  congr 1
  have notO : ∀ t n S t' n' S', Tx = .obj t n S → Ty0 = .obj t' n' S' → False := fun t n S t' n' S' e e' => by
    subst e; subst e'
    have h1 : isO y.op = true := ofy
    rw [show isO y.op = false from offy] at h1
    cases h1
  cases Tx with
  | id =>
    cases Ty0 with
    | id => exact (put_comm a2 _ _).symm
    | row t n r => simp only [Tr.ap, Tr.conj, Tr.actS]; rw [setRow_put]; exact (put_comm a2 _ _).symm
    | an A d =>
      simp only [Tr.conj, Tr.actS, Tr.ap_an, mapAn_put]
      exact (put_comm a2 _ _).symm
    | obj t n S => simp only [Tr.ap, Tr.conj, Tr.actS]; rw [setObj_put]; exact (put_comm a2 _ _).symm
  | row t n r =>
    cases Ty0 with
    | id => simp only [Tr.ap, Tr.conj, Tr.actS]; rw [setRow_put]; exact (put_comm a2 _ _).symm
    | row t' n' r' =>
      simp only [Tr.ap, Tr.conj, Tr.actS]
      rw [setRow_put, setRow_put, setRow_comm (row_ne ofx ofy hok)]
      exact (put_comm a2 _ _).symm
    | an A d =>
      simp only [Tr.conj, Tr.actS, Tr.ap_an, mapAn_put]
      simp only [Tr.ap, mapAn_setRow, setRow_put]
      exact (put_comm a2 _ _).symm
    | obj t' n' S =>
      simp only [Tr.ap, Tr.conj, Tr.actS]
      rw [setObj_put, setRow_put]
      exact (put_comm a2 _ _).symm
  | an A d =>
    cases Ty0 with
    | id =>
      simp only [Tr.conj, Tr.actS, Tr.ap_an, mapAn_put]
      exact (put_comm a2 _ _).symm
    | row t' n' r' =>
      simp only [Tr.conj, Tr.actS, Tr.ap_an, mapAn_put]
      simp only [Tr.ap, mapAn_setRow, setRow_put]
      exact (put_comm a2 _ _).symm
    | an A' d' => exact (notT A d A' d' rfl rfl).elim
    | obj t' n' S =>
      simp only [Tr.conj, Tr.actS, Tr.ap_an, mapAn_put]
      simp only [Tr.ap, mapAn_setObj, setObj_put]
      exact (put_comm a2 _ _).symm
  | obj t n S =>
    cases Ty0 with
    | id => simp only [Tr.ap, Tr.conj, Tr.actS]; rw [setObj_put]; exact (put_comm a2 _ _).symm
    | row t' n' r' =>
      simp only [Tr.ap, Tr.conj, Tr.actS]
      rw [setRow_put, setObj_put]
      exact (put_comm a2 _ _).symm
    | an A d =>
      simp only [Tr.conj, Tr.actS, Tr.ap_an, mapAn_put]
      simp only [Tr.ap, mapAn_setObj, setObj_put]
      exact (put_comm a2 _ _).symm
    | obj t' n' S' => exact (notO t n S t' n' S' rfl rfl).elim
end
end Go.Proofs.Ytinpinjjdkilpaa
