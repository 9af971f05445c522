/- Operations whose order does not matter: plain facts of the machine. -/
import Derived.Test.YtinpinjjdkilpaaEb
namespace Go.Proofs.Ytinpinjjdkilpaa
open Go
section
variable {call : CallT} {s s' : MSt}
/-- operands read alike in two states -/
def Alike (s s' : MSt) (l : List Opd) : Prop := ∀ o ∈ l, o.get s = o.get s' ∧ o.an s = o.an s'
/-- the memory that an operation may look at -/
def K.reads (k : K) (t : Nat) : Prop := match k.cl with
  | none => False
  | some .imm => False
  | some (.root r) => t = r
  | some .any => True
theorem lendAll_congr {cl : Cl} (hm : cl.okMem = true → ∀ t n, s.mem t n = s'.mem t n) (hob : s.obj = s'.obj) : ∀ {xs : List Opd}, Alike s s' xs → lendAll s cl xs = lendAll s' cl xs
  | [], _ => rfl
  | x :: r, h => by
    have h1 := h x (List.mem_cons_self)
    have h2 := lendAll_congr hm hob (xs := r) fun o ho => h o (List.mem_cons_of_mem _ ho)
    unfold lendAll
    rw [h2, h1.1]
    have : lend s cl (x.get s') = lend s' cl (x.get s') := by
      unfold lend
      split
      · split
        · rename_i hok; rw [hm hok]
        · rfl
      · rfl
      · rfl
      · rw [hob]
      · rfl
    rw [this]
theorem objsOf_congr {xs : List Opd} (h : Alike s s' xs) : objsOf s xs = objsOf s' xs := by
  induction xs with
  | nil => rfl
  | cons x r ih =>
    have h1 := h x (List.mem_cons_self)
    unfold objsOf at ih ⊢
    rw [List.filterMap_cons, List.filterMap_cons, h1.1, ih fun o ho => h o (List.mem_cons_of_mem _ ho)]
theorem elems_congr {cl : Cl} (hm : cl.okMem = true → ∀ t n, s.mem t n = s'.mem t n) (v : AV) : v.elems s cl = v.elems s' cl := by
  cases v <;> simp only [AV.elems]
  split
  · rename_i hok; rw [hm hok]
  · rfl
theorem endC_congr {d : Nat} {o : Option Opd} (h : Alike s s' o.toList) : endC s d o = endC s' d o := by
  cases o with
  | none => rfl
  | some o => simp only [endC]; rw [(h o (by simp)).1]
theorem run_congr (k : K) (h : Alike s s' k.opds) (hm : ∀ t n, k.reads t → s.mem t n = s'.mem t n) (hob : isO k = true → s.obj = s'.obj) : k.run call s = k.run call s' := by
  cases k with
  | mv x => have h1 := h x (by simp [K.opds]); simp only [K.run, h1.1, h1.2]
  | pick c a b =>
    have h1 := h c (by simp [K.opds]); have h2 := h a (by simp [K.opds]); have h3 := h b (by simp [K.opds])
    simp only [K.run, h1.1, h2.1, h2.2, h3.1, h3.2]
  | alloc z => rfl
  | box z x => have h1 := h x (by simp [K.opds]); simp only [K.run, h1.1, h1.2]
  | build z ps =>
    have h1 : ∀ p ∈ ps, p.2.2.get s = p.2.2.get s' := fun p hp => (h p.2.2 (List.mem_map.2 ⟨p, hp, rfl⟩)).1
    have e1 : ps.all (fun p => (p.2.2.get s).whole) = ps.all (fun p => (p.2.2.get s').whole) := by
      rw [Bool.eq_iff_iff, List.all_eq_true, List.all_eq_true]
      exact ⟨fun h p hp => by rw [← h1 p hp]; exact h p hp, fun h p hp => by rw [h1 p hp]; exact h p hp⟩
    have e2 : (ps.map fun p => (p.1, p.2.1, (p.2.2.get s).cells)) = ps.map fun p => (p.1, p.2.1, (p.2.2.get s').cells) := List.map_congr_left fun p hp => by rw [h1 p hp]
    simp only [K.run, e1, e2]
  | bsl z n ps =>
    have h1 : ∀ p ∈ ps, p.2.get s = p.2.get s' := fun p hp => (h p.2 (List.mem_map.2 ⟨p, hp, rfl⟩)).1
    have e1 : ps.all (fun p => (p.2.get s).free && decide ((p.2.get s).cells.length = z.length)) = ps.all (fun p => (p.2.get s').free && decide ((p.2.get s').cells.length = z.length)) := by
      rw [Bool.eq_iff_iff, List.all_eq_true, List.all_eq_true]
      exact ⟨fun h p hp => by rw [← h1 p hp]; exact h p hp, fun h p hp => by rw [h1 p hp]; exact h p hp⟩
    have e2 : (ps.map fun p => (p.2.get s).cells) = ps.map fun p => (p.2.get s').cells := List.map_congr_left fun p hp => by rw [h1 p hp]
    simp only [K.run, e1, e2]
  | load cl g z x =>
    have h1 := h x (by simp [K.opds])
    simp only [K.run, h1.1]
    split
    · rename_i t n off _
      split
      · rename_i hok
        rw [hm t n]
        cases cl with
        | any => trivial
        | imm => simp [Cl.okPtr] at hok
        | root r => simp [Cl.okPtr] at hok; exact hok.symm
      · rfl
    · rfl
    · rfl
    · rfl
  | store cl g z x y =>
    have h1 := h x (by simp [K.opds]); have h2 := h y (by simp [K.opds])
    simp only [K.run, h1.1, h2.1, h2.2]
    split
    · rename_i t n off _
      split
      · rename_i hok
        rw [hm t n]
        cases cl with
        | any => trivial
        | imm => simp [Cl.okPtr] at hok
        | root r => simp [Cl.okPtr] at hok; exact hok.symm
      · rfl
    · rfl
  | bin op b x y => have h1 := h x (by simp [K.opds]); have h2 := h y (by simp [K.opds]); simp only [K.run, h1.1, h2.1]
  | eqa n ks x y => have h1 := h x (by simp [K.opds]); have h2 := h y (by simp [K.opds]); simp only [K.run, h1.1, h2.1]
  | eqn n p x y => have h1 := h x (by simp [K.opds]); have h2 := h y (by simp [K.opds]); simp only [K.run, h1.1, h2.1]
  | un op x => have h1 := h x (by simp [K.opds]); simp only [K.run, h1.1]
  | conv o x => have h1 := h x (by simp [K.opds]); simp only [K.run, h1.1]
  | mks z b zs x y => have h1 := h x (by simp [K.opds]); have h2 := h y (by simp [K.opds]); simp only [K.run, h1.1, h2.1]
  | slc st z x lo hi mx =>
    have h1 := h x (by simp [K.opds])
    have h2 : ∀ d, endC s d lo = endC s' d lo := fun d => endC_congr fun o ho => h o (by simp only [K.opds, List.mem_cons, List.mem_append]; exact .inr (.inl ho))
    have h3 : ∀ d, endC s d hi = endC s' d hi := fun d => endC_congr fun o ho => h o (by simp only [K.opds, List.mem_cons, List.mem_append]; exact .inr (.inr (.inl ho)))
    simp only [K.run, h1.1, h2, h3]
  | faddr f x => have h1 := h x (by simp [K.opds]); simp only [K.run, h1.1]
  | field g f z x => have h1 := h x (by simp [K.opds]); simp only [K.run, h1.1]
  | iaddr z x i => have h1 := h x (by simp [K.opds]); have h2 := h i (by simp [K.opds]); simp only [K.run, h1.1, h2.1]
  | index x i => have h1 := h x (by simp [K.opds]); have h2 := h i (by simp [K.opds]); simp only [K.run, h1.1, h2.1]
  | ext x i => have h1 := h x (by simp [K.opds]); simp only [K.run, h1.1]
  | call cl f xs =>
    have h1 := lendAll_congr (cl := cl) (s := s) (s' := s') (fun hok t n => hm t n (by cases cl <;> simp [Cl.okMem] at hok; trivial)) (hob rfl) (xs := xs) h
    have h2 := objsOf_congr (xs := xs) h
    simp only [K.run, h1, h2, hob rfl]
  | len st x => have h1 := h x (by simp [K.opds]); simp only [K.run, h1.1]
  | app cl e z b x y =>
    have h1 := h x (by simp [K.opds]); have h2 := h y (by simp [K.opds])
    have h3 := elems_congr (cl := cl) (s := s) (s' := s') (fun hok t n => hm t n (by cases cl <;> simp [Cl.okMem] at hok; trivial)) (y.get s')
    simp only [K.run, h1.1, h1.2, h2.1, h3]
  | nilchk x => have h1 := h x (by simp [K.opds]); simp only [K.run, h1.1]
/-- families come to an end -/
structure Ends (f : An → An) : Prop where
  no : f .no = .no
  ex : f .ex = .ex
def MSt.mapAn (s : MSt) (f : An → An) : MSt := ⟨fun t => ⟨(s.env t).v, f (s.env t).a⟩, fun t n => (s.mem t n).map (·.map fun x => ⟨x.v, f x.a⟩), s.next, s.obj⟩
def Slot.mapAn (f : An → An) (x : Slot) : Slot := ⟨x.v, f x.a⟩
def Eff.mapAn (f : An → An) : Eff → Eff
  | .new r => .new (r.map (Slot.mapAn f))
  | .set t n r => .set t n (r.map (Slot.mapAn f))
  | e => e
theorem get_mapAn (f : An → An) (o : Opd) : o.get (s.mapAn f) = o.get s := by cases o <;> rfl
theorem an_mapAn {f : An → An} (hf : Ends f) (o : Opd) : o.an (s.mapAn f) = f (o.an s) := by
  cases o with
  | t n => rfl
  | c v => cases v <;> first | exact hf.no.symm | (rename_i b l; cases b; exact hf.no.symm; exact hf.ex.symm)
theorem rowEls_map (f : An → An) (r : List Slot) (sz off len : Nat) : rowEls (r.map (Slot.mapAn f)) sz off len = rowEls r sz off len := by
  unfold rowEls
  have h1 : (r.map (Slot.mapAn f)).all (fun x => x.v.free0) = r.all (fun x => x.v.free0) := by rw [List.all_map]; rfl
  simp only [List.length_map, h1]
  congr 1
  congr 1
  apply List.map_congr_left
  intro i _
  rw [← List.map_drop, ← List.map_take, List.map_map]
  rfl
theorem elems_mapAn (f : An → An) (cl : Cl) (v : AV) : v.elems (s.mapAn f) cl = v.elems s cl := by
  cases v <;> simp only [AV.elems]
  rename_i t n sz off len cap
  split
  · simp only [MSt.mapAn]
    cases s.mem t n with
    | none => rfl
    | some r => exact rowEls_map f r sz off len
  · rfl
theorem lendAll_mapAn (f : An → An) (cl : Cl) : ∀ (xs : List Opd), lendAll (s.mapAn f) cl xs = lendAll s cl xs
  | [] => rfl
  | x :: r => by
    unfold lendAll
    rw [lendAll_mapAn f cl r, get_mapAn]
    have : lend (s.mapAn f) cl (x.get s) = lend s cl (x.get s) := by
      unfold lend
      split
      · rename_i t n sz off len cap _
        split
        · simp only [MSt.mapAn]
          cases s.mem t n with
          | none => rfl
          | some r => simp only [Option.map_some, Option.bind_some]; rw [show (fun x : Slot => (⟨x.v, f x.a⟩ : Slot)) = Slot.mapAn f from rfl, rowEls_map]
        · rfl
      · rfl
      · rfl
      · rfl
      · rfl
    rw [this]
theorem objsOf_mapAn (f : An → An) (xs : List Opd) : objsOf (s.mapAn f) xs = objsOf s xs := by
  unfold objsOf
  simp only [get_mapAn]
theorem endC_mapAn (f : An → An) (d : Nat) (o : Option Opd) : endC (s.mapAn f) d o = endC s d o := by
  cases o with
  | none => rfl
  | some o => simp only [endC, get_mapAn]
theorem loadC_map (f : An → An) (hf : Ends f) (g : Bool) (z off : Nat) (r : List Slot) : loadC g z off (r.map (Slot.mapAn f)) = (loadC g z off r).map (Slot.mapAn f) := by
  unfold loadC
  cases g with
  | true =>
    simp only [if_true, List.length_map]
    split
    · simp only [Option.map_some, Slot.mapAn, hf.no, ← List.map_drop, ← List.map_take, List.map_map]
      rfl
    · rfl
  | false => simp
theorem setRowC_map (f : An → An) (hf : Ends f) (g : Bool) (z off : Nat) (r : List Slot) (v : AV) (a : An) : setRowC g z off (r.map (Slot.mapAn f)) v (f a) = (setRowC g z off r v a).map (·.map (Slot.mapAn f)) := by
  unfold setRowC
  cases g with
  | true =>
    simp only [if_true, List.length_map]
    cases v <;> try rfl
    simp only
    split
    · simp only [Option.map_some, List.map_append, List.map_take, List.map_drop, List.map_map]
      congr 3
      apply List.map_congr_left
      intro x _
      simp [Slot.mapAn, hf.no]
    · rfl
  | false =>
    simp only [Bool.false_eq_true, if_false, List.length_map]
    split
    · simp [Slot.mapAn, List.map_set]
    · rfl
theorem run_mapAn {f : An → An} (hf : Ends f) (k : K) (hk : isT k = false) : k.run call (s.mapAn f) = (k.run call s).map fun p => (p.1.mapAn f, p.2.mapAn f) := by
  cases k with
  | mv x => simp [K.run, get_mapAn, an_mapAn hf, Slot.mapAn, Eff.mapAn]
  | pick c a b =>
    simp only [K.run, get_mapAn, an_mapAn hf]
    split
    · rename_i t _
      cases t <;> simp [Slot.mapAn, Eff.mapAn]
    · rfl
  | alloc z =>
    simp only [K.run, Option.map_some, Slot.mapAn, Eff.mapAn, hf.no, List.map_map]
    congr 3
    apply List.map_congr_left
    intro v _
    simp only [Function.comp, Slot.mapAn, zeroAn]
    split <;> simp [hf.no, hf.ex]
  | box z x =>
    simp only [K.run, get_mapAn, an_mapAn hf]
    split
    · split
      · simp [Slot.mapAn, Eff.mapAn, hf.no, Function.comp_def]
      · rfl
    · split
      · simp [Slot.mapAn, Eff.mapAn, hf.no]
      · rfl
  | build z ps =>
    simp only [K.run, get_mapAn]
    split
    · rw [Option.map_map]
      congr 1
      funext cs
      simp [Slot.mapAn, Eff.mapAn, hf.no]
    · rfl
  | bsl z n ps =>
    simp only [K.run, get_mapAn]
    split
    · simp [Slot.mapAn, Eff.mapAn, hf.ex]
    · rfl
  | load cl g z x =>
    simp only [K.run, get_mapAn]
    split
    · rename_i t n off _
      split
      · simp only [MSt.mapAn]
        cases s.mem t n with
        | none => rfl
        | some r =>
          simp only [Option.map_some, Option.bind_some]
          rw [show (fun x : Slot => (⟨x.v, f x.a⟩ : Slot)) = Slot.mapAn f from rfl, loadC_map f hf]
          cases loadC g z off r <;> rfl
      · rfl
    · split
      · rfl
      · rename_i cs _ _ _
        cases loadI g z cs <;> simp [Slot.mapAn, Eff.mapAn, hf.no]
    · split
      · rfl
      · rename_i cs _ _ _
        cases loadI g z cs <;> simp [Slot.mapAn, Eff.mapAn, hf.no]
    · rfl
  | store cl g z x y =>
    simp only [K.run, get_mapAn, an_mapAn hf]
    split
    · rename_i t n off _
      split
      · simp only [MSt.mapAn]
        cases s.mem t n with
        | none => rfl
        | some r =>
          simp only [Option.map_some, Option.bind_some]
          rw [show (fun x : Slot => (⟨x.v, f x.a⟩ : Slot)) = Slot.mapAn f from rfl, setRowC_map f hf]
          cases setRowC g z off r (y.get s) (y.an s) <;> simp [Slot.mapAn, Eff.mapAn, hf.no]
      · rfl
    · rfl
  | bin op b x y => simp only [K.run, get_mapAn]; cases binC op b (x.get s) (y.get s) <;> simp [Slot.mapAn, Eff.mapAn, hf.no]
  | eqa n ks x y =>
    simp only [K.run, get_mapAn]
    split
    · rename_i a b _ _
      cases eqC ks a b <;> simp [Slot.mapAn, Eff.mapAn, hf.no]
    · rfl
  | eqn n p x y =>
    simp only [K.run, get_mapAn]
    split
    · cases isNil false (x.get s) <;> simp [Slot.mapAn, Eff.mapAn, hf.no]
    · cases isNil true (x.get s) <;> simp [Slot.mapAn, Eff.mapAn, hf.no]
    · rfl
  | un op x => simp only [K.run, get_mapAn]; split <;> simp [Slot.mapAn, Eff.mapAn, hf.no]
  | conv o x => simp only [K.run, get_mapAn]; split <;> simp [Slot.mapAn, Eff.mapAn, hf.no]
  | mks z b zs x y =>
    simp only [K.run, get_mapAn]
    split
    · split
      · simp only [Option.map_some, Slot.mapAn, Eff.mapAn, hf.no, List.map_map]
        congr 3
        apply List.map_congr_left
        intro v _
        simp [Slot.mapAn, hf.no]
      · rfl
    · rfl
  | slc st z x lo hi mx =>
    simp only [K.run, get_mapAn, endC_mapAn]
    split
    · rfl
    · split
      · rfl
      · split <;> first
          | rfl
          | (split
             · split <;> simp [Slot.mapAn, Eff.mapAn, hf.no]
             · rfl)
  | faddr o x => simp only [K.run, get_mapAn]; split <;> simp [Slot.mapAn, Eff.mapAn, hf.no]
  | field g o z x =>
    simp only [K.run, get_mapAn]
    split
    · rename_i cs _
      cases loadI g z (cs.drop o) <;> simp [Slot.mapAn, Eff.mapAn, hf.no]
    · rfl
  | iaddr z x i =>
    simp only [K.run, get_mapAn]
    split
    · split
      · rename_i k _ _ _ l _
        cases l[k]? with
        | none => rfl
        | some cs => simp only [Option.bind_some]; split <;> simp [Slot.mapAn, Eff.mapAn, hf.no]
      · rename_i k _ _ l _
        cases l[k]? with
        | none => rfl
        | some cs => simp only [Option.bind_some]; split <;> simp [Slot.mapAn, Eff.mapAn, hf.no]
      · split <;> simp [Slot.mapAn, Eff.mapAn, hf.no]
      · rfl
    · rfl
  | index x i =>
    simp only [K.run, get_mapAn]
    split
    · rename_i k b _ _
      cases b[k]? <;> simp [Slot.mapAn, Eff.mapAn, hf.no]
    · rfl
  | ext x i =>
    simp only [K.run, get_mapAn]
    split
    · rename_i vs _
      cases vs[i]? <;> simp [Slot.mapAn, Eff.mapAn, hf.no]
    · rfl
  | call cl g xs =>
    simp only [K.run, lendAll_mapAn, objsOf_mapAn]
    cases lendAll s cl xs with
    | none => rfl
    | some vs =>
      simp only [Option.bind_some]
      split
      · cases call g vs none with
        | none => rfl
        | some r =>
          simp only [Option.bind_some]
          split
          · split <;> simp [Slot.mapAn, Eff.mapAn, hf.no]
          · split <;> simp [Slot.mapAn, Eff.mapAn, hf.no]
      · rename_i t n _
        simp only [show (s.mapAn f).obj = s.obj from rfl]
        cases call g vs (s.obj t n) with
        | none => rfl
        | some r =>
          simp only [Option.bind_some]
          split
          · rfl
          · split <;> simp [Slot.mapAn, Eff.mapAn, hf.no]
      · rfl
  | len st x => simp only [K.run, get_mapAn]; split <;> (try split) <;> simp [Slot.mapAn, Eff.mapAn, hf.no]
  | app cl e z b x y => simp [isT] at hk
  | nilchk x => simp only [K.run, get_mapAn]; split <;> simp [Slot.mapAn, Eff.mapAn, hf.no]
end
end Go.Proofs.Ytinpinjjdkilpaa
