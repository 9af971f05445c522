/- A statement's arguments as values of the machine. -/
import Derived.Test.YtinpinjjdkilpaaMb
import Derived.Deep.Slices
import Derived.Deep.Fields
import Derived.ChangeSame
import Derived.OpenShut
import Derived.Carry
import Derived.ChangeOld
set_option linter.unusedSimpArgs false
set_option linter.unusedVariables false
set_option linter.unusedSectionVars false
/- The machine with as many rounds as it takes. -/
namespace Go.Proofs.Ytinpinjjdkilpaa
open Go
section
variable {α : Type}
/-- from some number on -/
def Late (p : Nat → Prop) : Prop := ∃ n, ∀ m, n ≤ m → p m
theorem Late.and {p q : Nat → Prop} (h : Late p) (h' : Late q) : Late fun m => p m ∧ q m := by
  obtain ⟨n, h⟩ := h
  obtain ⟨n', h'⟩ := h'
  exact ⟨max n n', fun m hm => ⟨h m (by omega), h' m (by omega)⟩⟩
theorem Late.imp {p q : Nat → Prop} (h : Late p) (hi : ∀ m, p m → q m) : Late q := by
  obtain ⟨n, h⟩ := h
  exact ⟨n, fun m hm => hi m (h m hm)⟩
theorem Late.now {p : Prop} (h : p) : Late fun _ => p := ⟨0, fun _ _ => h⟩
theorem Late.succ {p : Nat → Prop} (h : Late p) : Late fun m => p (m + 1) := by
  obtain ⟨n, h⟩ := h
  exact ⟨n, fun m hm => h (m + 1) (by omega)⟩
theorem Late.pred {p : Nat → Prop} (h : Late fun m => p (m + 1)) : Late p := by
  obtain ⟨n, h⟩ := h
  exact ⟨n + 1, fun m hm => by have := h (m - 1) (by omega); simp only at this; rwa [show m - 1 + 1 = m from by omega] at this⟩
theorem Late.some {p : Nat → Prop} (h : Late p) : ∃ m, p m := by
  obtain ⟨n, h⟩ := h
  exact ⟨n, h n (Nat.le_refl _)⟩
theorem run_late {s : MSt} {callA : CallT} {callB : Nat → CallT} (hc : ∀ f args S r, callA f args S = some r → Late fun m => callB m f args S = some r) (k : K) {xe : Slot × Eff} (h : k.run callA s = some xe) : Late fun m => k.run (callB m) s = some xe := by
  cases k with
  | call cl f xs =>
    simp only [K.run] at h ⊢
    cases hl : lendAll s cl xs with
    | none => rw [hl] at h; cases h
    | some vs =>
      rw [hl] at h
      simp only [Option.bind_some] at h ⊢
      split at h
      · obtain ⟨r, hr, h⟩ := Option.bind_eq_some_iff.1 h
        exact (hc f vs _ r hr).imp fun m hm => by rw [hm]; exact h
      · obtain ⟨r, hr, h⟩ := Option.bind_eq_some_iff.1 h
        exact (hc f vs _ r hr).imp fun m hm => by rw [hm]; exact h
      · cases h
  | callf cl f z xs =>
    simp only [K.run] at h ⊢
    cases hl : lendAll s cl xs with
    | none => rw [hl] at h; cases h
    | some vs =>
      rw [hl] at h
      simp only [Option.bind_some] at h ⊢
      split at h
      · obtain ⟨r, hr, h⟩ := Option.bind_eq_some_iff.1 h
        exact (hc f (.undef :: vs) _ r hr).imp fun m hm => by rw [hm]; exact h
      · cases h
  | _ => exact Late.now h
theorem ops_late {callA : CallT} {callB : Nat → CallT} (hc : ∀ f args S r, callA f args S = some r → Late fun m => callB m f args S = some r) : ∀ (ops : List OpC) {s s' : MSt}, runOps callA ops s = some s' → Late fun m => runOps (callB m) ops s = some s'
  | [], s, s', h => Late.now h
  | o :: r, s, s', h => by
    unfold runOps at h
    obtain ⟨s1, h1, h2⟩ := Option.bind_eq_some_iff.1 h
    have hs : Late fun m => o.step (callB m) s = some s1 := by
      unfold OpC.step at h1 ⊢
      cases hg : o.guard with
      | none =>
        rw [hg] at h1
        simp only at h1 ⊢
        obtain ⟨xe, hx, he⟩ := Option.bind_eq_some_iff.1 h1
        exact (run_late hc o.op hx).imp fun m hm => by rw [hm]; exact he
      | some p =>
        obtain ⟨t, want⟩ := p
        rw [hg] at h1
        simp only at h1 ⊢
        cases hv : (s.env t).v with
        | bool b =>
          rw [hv] at h1
          simp only at h1 ⊢
          by_cases hb : b = want
          · rw [if_pos hb] at h1
            simp only [if_pos hb]
            obtain ⟨xe, hx, he⟩ := Option.bind_eq_some_iff.1 h1
            exact (run_late hc o.op hx).imp fun m hm => by rw [hm]; exact he
          · rw [if_neg hb] at h1
            simp only [if_neg hb]
            exact Late.now h1
        | tup l => rw [hv] at h1; cases l with
          | nil => exact Late.now h1
          | cons => cases h1
        | _ => rw [hv] at h1; cases h1
    exact (hs.and (ops_late hc r h2)).imp fun m hm => by unfold runOps; rw [hm.1]; exact hm.2
theorem code_late {callA : CallT} {lpA : LpT} {callB : Nat → CallT} {lpB : Nat → LpT} (hc : ∀ f args S r, callA f args S = some r → Late fun m => callB m f args S = some r)
    (hl : ∀ b s k r (km : Nat → Ex → MSt → Option RV), (∀ e s' r', k e s' = some r' → Late fun m => km m e s' = some r') → lpA b s k = some r → Late fun m => lpB m b s (km m) = some r) :
    ∀ (c : C) (s : MSt) (k : Ex → MSt → Option RV) (r : RV) (km : Nat → Ex → MSt → Option RV), (∀ e s' r', k e s' = some r' → Late fun m => km m e s' = some r') → c.run callA lpA s k = some r → Late fun m => c.run (callB m) (lpB m) s (km m) = some r
  | .skip, s, k, r, km, hk, h => hk _ _ _ h
  | .exit id, s, k, r, km, hk, h => hk _ _ _ h
  | .ret, s, k, r, km, hk, h => hk _ _ _ h
  | .seq a b, s, k, r, km, hk, h => by
    refine code_late hc hl a s _ r (fun m e s' => match e with | .nrm => b.run (callB m) (lpB m) s' (km m) | e => km m e s') (fun e s' r' h' => ?_) h
    cases e with
    | nrm => exact code_late hc hl b s' k r' km hk h'
    | exit id => exact hk _ _ _ h'
    | ret => exact hk _ _ _ h'
  | .reg ops, s, k, r, km, hk, h => by
    simp only [C.run] at h ⊢
    cases hs : runOps callA ops s with
    | none => rw [hs] at h; cases h
    | some s1 =>
      rw [hs] at h
      exact ((ops_late hc ops hs).and (hk _ _ _ h)).imp fun m hm => by rw [hm.1]; exact hm.2
  | .cond x t e, s, k, r, km, hk, h => by
    simp only [C.run] at h ⊢
    cases hv : x.get s with
    | bool b =>
      rw [hv] at h
      cases b with
      | true => exact code_late hc hl t s k r km hk (by simpa using h)
      | false => exact code_late hc hl e s k r km hk (by simpa using h)
    | _ => rw [hv] at h; cases h
  | .block id b, s, k, r, km, hk, h => by
    refine code_late hc hl b s _ r (fun m e s' => match e with | .exit j => if j = id then km m .nrm s' else km m (.exit j) s' | e => km m e s') (fun e s' r' h' => ?_) h
    cases e with
    | nrm => exact hk _ _ _ h'
    | ret => exact hk _ _ _ h'
    | exit j =>
      simp only at h' ⊢
      by_cases e : j = id
      · rw [if_pos e] at h'; simp only [if_pos e]; exact hk _ _ _ h'
      · rw [if_neg e] at h'; simp only [if_neg e]; exact hk _ _ _ h'
  | .loop b, s, k, r, km, hk, h => hl b s k r km hk h
variable {T : Nat → Option FnC} {ext : CallT}
theorem N_mono {ext' : CallT} (hx : ∀ f args S r, ext f args S = some r → ext' f args S = some r) : ∀ N, (∀ f args S r, callN T ext N f args S = some r → Late fun m => callN T ext' m f args S = some r) ∧
    (∀ b s k r (km : Nat → Ex → MSt → Option RV), (∀ e s' r', k e s' = some r' → Late fun m => km m e s' = some r') → lpN T ext N b s k = some r → Late fun m => lpN T ext' m b s (km m) = some r)
  | 0 => by
    refine ⟨fun f args S r h => ⟨0, fun m _ => ?_⟩, fun b s k r km _ h => by cases h⟩
    unfold callN at h
    cases hT : T f with
    | none => rw [hT] at h; cases m <;> (unfold callN; rw [hT]; exact hx _ _ _ _ h)
    | some c => rw [hT] at h; cases h
  | N + 1 => by
    obtain ⟨ih1, ih2⟩ := N_mono hx N
    constructor
    · intro f args S0 r h
      unfold callN at h
      cases hT : T f with
      | none => rw [hT] at h; exact ⟨0, fun m _ => by cases m <;> (unfold callN; rw [hT]; exact hx _ _ _ _ h)⟩
      | some c =>
        rw [hT] at h
        simp only at h
        split at h
        · rename_i hl
          refine Late.pred ((code_late ih1 ih2 c.code _ _ r (fun _ => fin c S0) (fun e s' r' h' => Late.now h') h).imp fun m hm => ?_)
          unfold callN
          rw [hT]
          simp only
          rw [if_pos hl]
          exact hm
        · cases h
    · intro b s k r km hk h
      unfold lpN at h
      refine Late.pred ((code_late ih1 ih2 b s _ r (fun m => again (lpN T ext' m) b (km (m + 1))) (fun e s' r' h' => ?_) h).imp fun m hm => ?_)
      · cases e with
        | nrm => exact ih2 b s' k r' (fun m => km (m + 1)) (fun e s'' r'' h'' => (hk e s'' r'' h'').succ) h'
        | exit id => exact (hk _ _ _ h').succ
        | ret => exact (hk _ _ _ h').succ
      · unfold lpN
        exact hm
theorem N_late : ∀ N, (∀ f args S r, callN T ext N f args S = some r → Late fun m => callN T ext m f args S = some r) ∧
    (∀ b s k r (km : Nat → Ex → MSt → Option RV), (∀ e s' r', k e s' = some r' → Late fun m => km m e s' = some r') → lpN T ext N b s k = some r → Late fun m => lpN T ext m b s (km m) = some r) := N_mono fun _ _ _ _ h => h
open Classical in
/-- what a call gives, however long it takes -/
noncomputable def evC (T : Nat → Option FnC) (ext : CallT) (f : Nat) (args : List AV) (S0 : Option AV) : Option RV := if h : ∃ r n, callN T ext n f args S0 = some r then some h.choose else none
open Classical in
noncomputable def evL (T : Nat → Option FnC) (ext : CallT) : LpT := fun b s k => if h : ∃ r n, lpN T ext n b s k = some r then some h.choose else none
theorem evC_some {f : Nat} {args : List AV} {S0 : Option AV} {r : RV} : evC T ext f args S0 = some r ↔ ∃ n, callN T ext n f args S0 = some r := by
  unfold evC
  constructor
  · intro h
    split at h
    · rename_i hh; injection h with h; exact h ▸ hh.choose_spec
    · cases h
  · rintro ⟨n, hn⟩
    have hh : ∃ r n, callN T ext n f args S0 = some r := ⟨r, n, hn⟩
    rw [dif_pos hh]
    obtain ⟨n', hn'⟩ := hh.choose_spec
    obtain ⟨m, h1, h2⟩ := (((N_late n).1 f args S0 r hn).and ((N_late n').1 f args S0 _ hn')).some
    rw [h1] at h2
    exact h2.symm
theorem evL_some {b : C} {s : MSt} {k : Ex → MSt → Option RV} {r : RV} : evL T ext b s k = some r ↔ ∃ n, lpN T ext n b s k = some r := by
  unfold evL
  constructor
  · intro h
    split at h
    · rename_i hh; injection h with h; exact h ▸ hh.choose_spec
    · cases h
  · rintro ⟨n, hn⟩
    have hh : ∃ r n, lpN T ext n b s k = some r := ⟨r, n, hn⟩
    rw [dif_pos hh]
    obtain ⟨n', hn'⟩ := hh.choose_spec
    obtain ⟨m, h1, h2⟩ := (((N_late n).2 b s k r (fun _ => k) (fun e s' r' h => Late.now h) hn).and ((N_late n').2 b s k _ (fun _ => k) (fun e s' r' h => Late.now h) hn')).some
    rw [h1] at h2
    exact h2.symm
/-- more contracts, no less -/
theorem evC_mono {ext' : CallT} (hx : ∀ f args S r, ext f args S = some r → ext' f args S = some r) {f : Nat} {args : List AV} {S0 : Option AV} {r : RV} (h : evC T ext f args S0 = some r) : evC T ext' f args S0 = some r := by
  obtain ⟨n, hn⟩ := evC_some.1 h
  exact evC_some.2 ((N_mono hx n).1 f args S0 r hn).some
theorem ev_late1 (f : Nat) (args : List AV) (S0 : Option AV) (r : RV) (h : evC T ext f args S0 = some r) : Late fun m => callN T ext m f args S0 = some r := by
  obtain ⟨n, hn⟩ := evC_some.1 h
  exact (N_late n).1 f args S0 r hn
theorem ev_late2 (b : C) (s : MSt) (k : Ex → MSt → Option RV) (r : RV) (km : Nat → Ex → MSt → Option RV) (hk : ∀ e s' r', k e s' = some r' → Late fun m => km m e s' = some r') (h : evL T ext b s k = some r) : Late fun m => lpN T ext m b s (km m) = some r := by
  obtain ⟨n, hn⟩ := evL_some.1 h
  exact (N_late n).2 b s k r km hk hn
/-- a call: its body -/
theorem evC_intro {f : Nat} {args : List AV} {S0 : Option AV} {r : RV} (c : FnC) (hT : T f = some c) (hl : args.length = c.np) (h : c.code.run (evC T ext) (evL T ext) (MSt.init args S0) (fin c S0) = some r) (hm : marked args = false := by rfl) : evC T ext f args S0 = some r := by
  obtain ⟨m, hm'⟩ := (code_late ev_late1 ev_late2 c.code _ _ r (fun _ => fin c S0) (fun e s' r' h' => Late.now h') h).some
  refine evC_some.2 ⟨m + 1, ?_⟩
  unfold callN
  rw [hT]
  simp only
  rw [if_pos ⟨hl, hm⟩]
  exact hm'
theorem evC_ext {f : Nat} {args : List AV} {S0 : Option AV} {r : RV} (hT : T f = none) (h : ext f args S0 = some r) : evC T ext f args S0 = some r := by
  refine evC_some.2 ⟨0, ?_⟩
  unfold callN
  rw [hT]
  exact h
/-- a loop: a round, and what comes behind -/
theorem evL_intro {b : C} {s : MSt} {k : Ex → MSt → Option RV} {r : RV} (h : b.run (evC T ext) (evL T ext) s (again (evL T ext) b k) = some r) : evL T ext b s k = some r := by
  have := code_late ev_late1 ev_late2 b s _ r (fun m => again (lpN T ext m) b k) (fun e s' r' h' => by
    cases e with
    | nrm => exact ev_late2 b s' k r' (fun _ => k) (fun e s'' r'' h'' => Late.now h'') h'
    | exit id => exact Late.now h'
    | ret => exact Late.now h') h
  obtain ⟨m, hm⟩ := this.some
  refine evL_some.2 ⟨m + 1, ?_⟩
  unfold lpN
  exact hm
theorem ev_sound {P : Program} {O : Objs} (hm : P.follows .mixedOrders = true) (hT : ∀ f c, T f = some c → FnOk P f c) (hext : ∀ f args S r, ext f args S = some r → CallOk P O f args S r) {f : Nat} {args : List AV} {S0 : Option AV} {r : RV} (h : evC T ext f args S0 = some r) : CallOk P O f args S0 r := by
  obtain ⟨n, hn⟩ := evC_some.1 h
  exact (call_sound hm hT hext n).1 f args S0 r hn
end
end Go.Proofs.Ytinpinjjdkilpaa
/- The machine's steps as rewriting laws that look at nothing but the next step. -/
namespace Go.Proofs.Ytinpinjjdkilpaa
open Go
def putE (e : Nat → Slot) (d : Nat) (x : Slot) : Nat → Slot := fun t => if t = d then x else e t
theorem putE_at (e : Nat → Slot) (d : Nat) (x : Slot) (t : Nat) : putE e d x t = if t = d then x else e t := (rfl)
def setM (m : Nat → Nat → Option (List Slot)) (t n : Nat) (r : List Slot) : Nat → Nat → Option (List Slot) := fun t' n' => if t' = t ∧ n' = n then some r else m t' n'
theorem setM_at (m : Nat → Nat → Option (List Slot)) (t n : Nat) (r : List Slot) (t' n' : Nat) : setM m t n r t' n' = if t' = t ∧ n' = n then some r else m t' n' := (rfl)
def setO (m : Nat → Nat → Option AV) (t n : Nat) (r : AV) : Nat → Nat → Option AV := fun t' n' => if t' = t ∧ n' = n then some r else m t' n'
theorem setO_at (m : Nat → Nat → Option AV) (t n : Nat) (r : AV) (t' n' : Nat) : setO m t n r t' n' = if t' = t ∧ n' = n then some r else m t' n' := (rfl)
def stripE (k : Nat) (e : Nat → Slot) : Nat → Slot := fun t => (e t).strip k
theorem stripE_at (k : Nat) (e : Nat → Slot) (t : Nat) : stripE k e t = (e t).strip k := (rfl)
def stripM (k : Nat) (m : Nat → Nat → Option (List Slot)) : Nat → Nat → Option (List Slot) := fun t n => (m t n).map (·.map (Slot.strip k))
theorem stripM_at (k : Nat) (m : Nat → Nat → Option (List Slot)) (t n : Nat) : stripM k m t n = (m t n).map (·.map (Slot.strip k)) := (rfl)
theorem Slot.strip_v (k : Nat) (x : Slot) : (x.strip k).v = x.v := (rfl)
theorem Slot.strip_a (k : Nat) (x : Slot) : (x.strip k).a = x.a.strip k := (rfl)
theorem Slot.strip_mk (k : Nat) (v : AV) (a : An) : Slot.strip k ⟨v, a⟩ = ⟨v, a.strip k⟩ := (rfl)
def argE (args : List AV) : Nat → Slot := fun t => ⟨args.getD t .undef, .no⟩
theorem argE_at (args : List AV) (t : Nat) : argE args t = ⟨args.getD t .undef, .no⟩ := (rfl)
def noM : Nat → Nat → Option (List Slot) := fun _ _ => none
theorem noM_at (t n : Nat) : noM t n = none := (rfl)
def objE (S0 : Option AV) : Nat → Nat → Option AV := fun t n => if t = 0 ∧ n = 0 then S0 else none
theorem objE_at (S0 : Option AV) (t n : Nat) : objE S0 t n = if t = 0 ∧ n = 0 then S0 else none := (rfl)
theorem bind_some2 {α β : Type} (a : α) (f : α → Option β) : (some a).bind f = f a := (rfl)
theorem bind_none2 {α β : Type} (f : α → Option β) : (none : Option α).bind f = none := (rfl)
theorem take_map_len {α β : Type} (f : α → β) (l : List α) : (l.map f).take l.length = l.map f := List.take_of_length_le (by simp)
theorem m_init (args : List AV) (S0 : Option AV) : MSt.init args S0 = ⟨argE args, noM, 1, objE S0⟩ := (rfl)
theorem m_put (s : MSt) (d : Nat) (x : Slot) : s.put (some d) x = ⟨putE s.env d x, s.mem, s.next, s.obj⟩ := (rfl)
theorem m_put0 (s : MSt) (x : Slot) : s.put none x = s := (rfl)
theorem m_row (s : MSt) (t n : Nat) (r : List Slot) : s.setRow t n r = ⟨s.env, setM s.mem t n r, s.next, s.obj⟩ := (rfl)
theorem m_obj (s : MSt) (t n : Nat) (r : AV) : s.setObj t n r = ⟨s.env, s.mem, s.next, setO s.obj t n r⟩ := (rfl)
theorem m_strip (s : MSt) (k : Nat) : s.strip k = ⟨stripE k s.env, stripM k s.mem, s.next, s.obj⟩ := (rfl)
theorem m_stripA (s : MSt) (k : Nat) (e : TypeId) : s.stripA (.own k e) = s.strip k := (rfl)
theorem m_stripX (s : MSt) : s.stripA .ex = s := (rfl)
def killE (t n : Nat) (e : Nat → Slot) : Nat → Slot := fun j => (e j).kill t n
theorem killE_at (t n : Nat) (e : Nat → Slot) (j : Nat) : killE t n e j = (e j).kill t n := (rfl)
def killM (t n : Nat) (m : Nat → Nat → Option (List Slot)) : Nat → Nat → Option (List Slot) := fun t' n' => if t' = t ∧ n' = n then none else (m t' n').map (·.map (Slot.kill t n))
theorem killM_at (t n : Nat) (m : Nat → Nat → Option (List Slot)) (t' n' : Nat) : killM t n m t' n' = if t' = t ∧ n' = n then none else (m t' n').map (·.map (Slot.kill t n)) := (rfl)
theorem Slot.kill_v (t n : Nat) (x : Slot) : (x.kill t n).v = x.v.kill t n := (rfl)
theorem Slot.kill_a (t n : Nat) (x : Slot) : (x.kill t n).a = x.a := (rfl)
theorem Slot.kill_mk (t n : Nat) (v : AV) (a : An) : Slot.kill t n ⟨v, a⟩ = ⟨v.kill t n, a⟩ := (rfl)
theorem m_kill (s : MSt) (t n : Nat) : s.killO (some (t, n)) = ⟨killE t n s.env, killM t n s.mem, s.next, s.obj⟩ := (rfl)
theorem m_kill0 (s : MSt) : s.killO none = s := (rfl)
theorem kill0_free {v : AV} (h : v.free0 = true) (t n : Nat) : v.kill0 t n = v := by
  cases v <;> first | rfl | (simp [AV.free0] at h; done)
theorem kill_map {cs : List AV} (h : cs.all AV.free0 = true) (t n : Nat) : cs.map (AV.kill0 t n) = cs := by
  have h1 : cs.map (AV.kill0 t n) = cs.map id := List.map_congr_left fun x hx => kill0_free (List.all_eq_true.1 h x hx) t n
  rwa [List.map_id] at h1
theorem kill_free {v : AV} (h : v.free = true) (t n : Nat) : v.kill t n = v := by
  cases v with
  | agg cs => exact congrArg AV.agg (kill_map h t n)
  | _ => first | rfl | (simp [AV.free, AV.free0] at h; done)
theorem frz0_free {s : MSt} {v : AV} (h : v.free0 = true) : v.frz0 s = v := by
  cases v <;> first | rfl | (simp [AV.free0] at h; done)
theorem frz_map {s : MSt} {cs : List AV} (h : cs.all AV.free0 = true) : cs.map (AV.frz0 s) = cs := by
  have h1 : cs.map (AV.frz0 s) = cs.map id := List.map_congr_left fun x hx => frz0_free (List.all_eq_true.1 h x hx)
  rwa [List.map_id] at h1
theorem frz_free {s : MSt} {v : AV} (h : v.free = true) : v.frz s = v := by
  cases v with
  | agg cs => exact congrArg AV.agg (frz_map h)
  | _ => first | rfl | (simp [AV.free, AV.free0] at h; done)
section
variable {sz : Nat} {l : List (List AV)}
theorem rowOf_append (l m : List (List AV)) : rowOf (l ++ m) = rowOf l ++ rowOf m := by simp [rowOf]
theorem rowOf_len (h : elsOk sz l = true) : (rowOf l).length = l.length * sz := by
  induction l with
  | nil => simp [rowOf]
  | cons c r ih =>
    rw [elsOk_cons] at h
    simp only [Bool.and_eq_true, decide_eq_true_eq] at h
    have := ih h.2
    simp only [rowOf, List.flatten_cons, List.map_append, List.length_append, List.length_map, List.length_cons] at this ⊢
    rw [this, h.1, Nat.succ_mul]
    omega
theorem rowOf_split (h : elsOk sz l = true) {k : Nat} (hk : k ≤ l.length) : rowOf l = rowOf (l.take k) ++ rowOf (l.drop k) ∧ (rowOf (l.take k)).length = k * sz := by
  refine ⟨by rw [← rowOf_append, List.take_append_drop], ?_⟩
  rw [rowOf_len (elsOk_take h k), List.length_take, Nat.min_eq_left hk]
theorem rowOf_take (h : elsOk sz l = true) {k : Nat} (hk : k ≤ l.length) : (rowOf l).take (k * sz) = rowOf (l.take k) := by
  obtain ⟨h1, h2⟩ := rowOf_split h hk
  rw [h1, ← h2, List.take_left]
theorem rowOf_drop (h : elsOk sz l = true) {k : Nat} (hk : k ≤ l.length) : (rowOf l).drop (k * sz) = rowOf (l.drop k) := by
  obtain ⟨h1, h2⟩ := rowOf_split h hk
  rw [h1, ← h2, List.drop_left]
theorem rowOf_cons (c : List AV) (r : List (List AV)) : rowOf (c :: r) = c.map (⟨·, .no⟩) ++ rowOf r := by simp [rowOf]
theorem elsOk_get (h : elsOk sz l = true) {k : Nat} {c : List AV} (hk : l[k]? = some c) : c.length = sz := by
  simp only [elsOk, List.all_eq_true] at h
  simpa using h c (List.mem_of_getElem? hk)
theorem rowOf_load (h : elsOk sz l = true) {k : Nat} {c : List AV} (hk : l[k]? = some c) : loadC true sz (k * sz) (rowOf l) = some ⟨.agg c, .no⟩ := by
  have hlt := (List.getElem?_eq_some_iff.1 hk).1
  have hc := elsOk_get h hk
  have hd : l.drop k = c :: l.drop (k + 1) := by rw [List.drop_eq_getElem_cons hlt, (List.getElem?_eq_some_iff.1 hk).2]
  simp only [loadC, if_true, rowOf_len h]
  rw [if_pos (by rw [← Nat.succ_mul]; exact Nat.mul_le_mul_right _ hlt), rowOf_drop h (by omega), hd, rowOf_cons, ← hc, List.take_left' (by simp)]
  simp [Function.comp_def]
theorem rowOf_at (h : elsOk 1 l = true) {k : Nat} {x : AV} (hk : l[k]? = some [x]) : (rowOf l)[k]? = some ⟨x, .no⟩ := by
  have hlt := (List.getElem?_eq_some_iff.1 hk).1
  obtain ⟨h1, h2⟩ := rowOf_split h (k := k) (by omega)
  have hd : l.drop k = [x] :: l.drop (k + 1) := by rw [List.drop_eq_getElem_cons hlt, (List.getElem?_eq_some_iff.1 hk).2]
  rw [h1, List.getElem?_append_right (by omega), h2, hd, rowOf_cons]
  simp
theorem rowOf_load1 (h : elsOk 1 l = true) {k : Nat} {x : AV} (hk : l[k]? = some [x]) (sz : Nat) : loadC false sz k (rowOf l) = some ⟨x, .no⟩ := by
  simp only [loadC, Bool.false_eq_true, if_false]
  exact rowOf_at h hk
theorem rowOf_store (h : elsOk sz l = true) {k : Nat} (hk : k < l.length) {c : List AV} (hc : c.length = sz) (a : An) : setRowC true sz (k * sz) (rowOf l) (.agg c) a = some (rowOf (l.set k c)) := by
  simp only [setRowC, if_true, rowOf_len h]
  rw [if_pos ⟨hc, by rw [← Nat.succ_mul]; exact Nat.mul_le_mul_right _ hk⟩, rowOf_take h (by omega), ← Nat.succ_mul, rowOf_drop h hk, List.set_eq_take_append_cons_drop, if_pos hk, rowOf_append, rowOf_cons, List.append_assoc]
theorem rowOf_store1 (h : elsOk 1 l = true) {k : Nat} (hk : k < l.length) {x : AV} (hx : x.leaf = true) (sz : Nat) : setRowC false sz k (rowOf l) x .no = some (rowOf (l.set k [x])) := by
  have hlen := rowOf_len h
  simp only [setRowC, Bool.false_eq_true, if_false]
  rw [if_pos ⟨hx, by omega⟩]
  congr 1
  have e1 := rowOf_take h (k := k) (by omega)
  have e2 := rowOf_drop h (k := k + 1) (by omega)
  simp only [Nat.mul_one] at e1 e2
  rw [List.set_eq_take_append_cons_drop, if_pos (by omega), e1, e2, List.set_eq_take_append_cons_drop, if_pos hk, rowOf_append, rowOf_cons]
  simp
theorem loadC_f (z off : Nat) (r : List Slot) : loadC false z off r = r[off]? := by simp [loadC]
theorem loadC_t (z off : Nat) (x : Slot) (r : List Slot) : loadC true z off (x :: r) = if off + z ≤ (x :: r).length then some ⟨.agg ((((x :: r).drop off).take z).map (·.v)), .no⟩ else none := by simp [loadC]
theorem setRowC_f (z off : Nat) (y : Slot) (r : List Slot) (x : AV) (a : An) : setRowC false z off (y :: r) x a = if x.leaf ∧ off < (y :: r).length then some ((y :: r).set off ⟨x, a⟩) else none := by simp [setRowC]
theorem setRowC_t (z off : Nat) (y : Slot) (r : List Slot) (cs : List AV) (a : An) : setRowC true z off (y :: r) (.agg cs) a = if cs.length = z ∧ off + z ≤ (y :: r).length then some ((y :: r).take off ++ cs.map (⟨·, .no⟩) ++ (y :: r).drop (off + z)) else none := by simp [setRowC]
def freeEls (l : List (List AV)) : Bool := l.all fun c => c.all AV.free0
theorem freeEls_cons (c : List AV) (l : List (List AV)) : freeEls (c :: l) = (c.all AV.free0 && freeEls l) := rfl
theorem freeEls_append (l m : List (List AV)) : freeEls (l ++ m) = (freeEls l && freeEls m) := by simp [freeEls]
theorem freeEls_map {α : Type} (f : α → List AV) (l : List α) (h : ∀ x, (f x).all AV.free0 = true) : freeEls (l.map f) = true := by
  simp only [freeEls, List.all_map, List.all_eq_true]
  exact fun x _ => h x
theorem rowOf_els (h : elsOk sz l = true) (hf : freeEls l = true) : rowEls (rowOf l) sz 0 l.length = some l := by
  unfold rowEls
  rw [if_pos]
  · congr 1
    refine List.ext_getElem (by simp) fun i h1 h2 => ?_
    simp only [List.getElem_map, List.getElem_range, Nat.zero_add]
    rw [rowOf_drop h (by omega), List.drop_eq_getElem_cons h2, rowOf_cons]
    have hc := elsOk_get h (List.getElem?_eq_getElem h2)
    rw [← hc, List.take_left' (by simp)]
    simp [Function.comp_def]
  · refine ⟨by rw [rowOf_len h]; omega, ?_⟩
    simp only [rowOf, List.all_map, List.all_flatten, Function.comp_def]
    exact hf
end
section
variable {call : CallT} {lp : LpT}
def seqK (call : CallT) (lp : LpT) (b : C) (k : Ex → MSt → Option RV) : Ex → MSt → Option RV := fun e s => match e with
  | .nrm => b.run call lp s k
  | e => k e s
def regK (k : Ex → MSt → Option RV) : MSt → Option RV := fun s => k .nrm { s with next := s.next + 1 }
def blkK (id : Nat) (k : Ex → MSt → Option RV) : Ex → MSt → Option RV := fun e s => match e with
  | .exit j => if j = id then k .nrm s else k (.exit j) s
  | e => k e s
def condC (v : AV) (a b : Option RV) : Option RV := match v with
  | .bool t => if t then a else b
  | _ => none
def guardC (v : AV) (w : Bool) (a b : Option MSt) : Option MSt := match v with
  | .bool t => if t = w then a else b
  | .tup [] => b
  | _ => none
variable (b c : C) (s : MSt) (k : Ex → MSt → Option RV) (j id : Nat)
theorem seqK_nrm : seqK call lp b k .nrm s = b.run call lp s k := (rfl)
theorem seqK_exit : seqK call lp b k (.exit j) s = k (.exit j) s := (rfl)
theorem seqK_ret : seqK call lp b k .ret s = k .ret s := (rfl)
theorem regK_at : regK k s = k .nrm ⟨s.env, s.mem, s.next + 1, s.obj⟩ := (rfl)
theorem blkK_nrm : blkK id k .nrm s = k .nrm s := (rfl)
theorem blkK_exit : blkK id k (.exit j) s = if j = id then k .nrm s else k (.exit j) s := (rfl)
theorem blkK_ret : blkK id k .ret s = k .ret s := (rfl)
theorem condC_true (x y : Option RV) : condC (.bool true) x y = x := (rfl)
theorem condC_false (x y : Option RV) : condC (.bool false) x y = y := (rfl)
theorem condC_bool (t : Bool) (x y : Option RV) : condC (.bool t) x y = if t then x else y := (rfl)
theorem guardC_bool (t w : Bool) (x y : Option MSt) : guardC (.bool t) w x y = if t = w then x else y := (rfl)
theorem guardC_tup (w : Bool) (x y : Option MSt) : guardC (.tup []) w x y = y := (rfl)
theorem r_skip : C.run call lp .skip s k = k .nrm s := (rfl)
theorem r_seq : C.run call lp (.seq b c) s k = b.run call lp s (seqK call lp c k) := (rfl)
theorem r_reg (ops : List OpC) : C.run call lp (.reg ops) s k = (runOps call ops s).bind (regK k) := by
  simp only [C.run, regK]
  cases runOps call ops s <;> rfl
theorem r_cond (x : Opd) : C.run call lp (.cond x b c) s k = condC (x.get s) (b.run call lp s k) (c.run call lp s k) := (rfl)
theorem r_block : C.run call lp (.block id b) s k = b.run call lp s (blkK id k) := (rfl)
theorem r_loop : C.run call lp (.loop b) s k = lp b s k := (rfl)
theorem r_exit : C.run call lp (.exit id) s k = k (.exit id) s := (rfl)
theorem r_ret : C.run call lp .ret s k = k .ret s := (rfl)
theorem a_nrm : again lp b k .nrm s = lp b s k := (rfl)
theorem a_exit : again lp b k (.exit j) s = k (.exit j) s := (rfl)
theorem a_ret : again lp b k .ret s = k .ret s := (rfl)
theorem o_nil : runOps call [] s = some s := (rfl)
theorem o_cons (o : OpC) (r : List OpC) : runOps call (o :: r) s = (o.step call s).bind (runOps call r) := (rfl)
theorem s_plain (d : Option Nat) (op : K) : OpC.step call ⟨d, op, none⟩ s = (op.run call s).bind (OpC.eff ⟨d, op, none⟩ s) := (rfl)
theorem s_guard (d : Option Nat) (op : K) (t : Nat) (w : Bool) : OpC.step call ⟨d, op, some (t, w)⟩ s = guardC (s.env t).v w ((op.run call s).bind (OpC.eff ⟨d, op, none⟩ s)) (some (s.put d ⟨.tup [], .no⟩)) := by
  simp only [OpC.step, guardC]
  generalize (s.env t).v = v
  cases v with
  | tup l => cases l <;> rfl
  | _ => rfl
theorem e_none (d : Option Nat) (op : K) (g : Option (Nat × Bool)) (x : Slot) : OpC.eff ⟨d, op, g⟩ s (x, .none) = some (s.put d x) := (rfl)
theorem e_set (d : Option Nat) (op : K) (g : Option (Nat × Bool)) (x : Slot) (t n : Nat) (r : List Slot) : OpC.eff ⟨d, op, g⟩ s (x, .set t n r) = some ((s.setRow t n r).put d ⟨.undef, .no⟩) := (rfl)
theorem e_newp (d : Nat) (op : K) (g : Option (Nat × Bool)) (t n o : Nat) (a : An) (r : List Slot) : OpC.eff ⟨some d, op, g⟩ s (⟨.ptr t n o, a⟩, .new r) = some ((s.setRow d s.next r).put (some d) ⟨.ptr d s.next 0, .no⟩) := (rfl)
theorem e_newr (d : Nat) (op : K) (g : Option (Nat × Bool)) (t n z o l p : Nat) (a : An) (r : List Slot) : OpC.eff ⟨some d, op, g⟩ s (⟨.ref t n z o l p, a⟩, .new r) = some ((s.setRow d s.next r).put (some d) ⟨.ref d s.next z o l p, .no⟩) := (rfl)
theorem e_app (d : Nat) (op : K) (g : Option (Nat × Bool)) (v : AV) (a : An) (kk j : Nat) (e : TypeId) : OpC.eff ⟨some d, op, g⟩ s (⟨v, .own kk e⟩, .app a j) = some (((s.stripA a).strip d).put (some d) ⟨v, .own d e⟩) := (rfl)
theorem e_obj (d : Option Nat) (op : K) (g : Option (Nat × Bool)) (x : Slot) (t n : Nat) (S : AV) : OpC.eff ⟨d, op, g⟩ s (x, .obj t n S) = some ((s.setObj t n S).put d x) := (rfl)
theorem e_mk (d : Nat) (op : K) (g : Option (Nat × Bool)) (x : Slot) (S : AV) : OpC.eff ⟨some d, op, g⟩ s (x, .mk S) = some ((s.setObj d s.next S).put (some d) ⟨x.v.named d s.next, .no⟩) := (rfl)
theorem e_rn (d : Nat) (op : K) (g : Option (Nat × Bool)) (t n z o l p : Nat) (a : An) (q : Option (Nat × Nat)) (r : List Slot) : OpC.eff ⟨some d, op, g⟩ s (⟨.ref t n z o l p, a⟩, .rn q r) = some (((s.killO q).setRow d s.next r).put (some d) ⟨.ref d s.next z o l p, .no⟩) := (rfl)
theorem e_ob2 (d : Nat) (op : K) (g : Option (Nat × Bool)) (t n z o l p : Nat) (a : An) (t' n' : Nat) (S : AV) (r : List Slot) : OpC.eff ⟨some d, op, g⟩ s (⟨.ref t n z o l p, a⟩, .ob2 t' n' S r) = some (((s.setObj t' n' S).setRow d s.next r).put (some d) ⟨.ref d s.next z o l p, .no⟩) := (rfl)
theorem run_cg {b : C} {s s' : MSt} {k : Ex → MSt → Option RV} (h : s = s') : C.run call lp b s k = C.run call lp b s' k := by rw [h]
theorem bind_cg {α β : Type} {a a' : Option α} {f : α → Option β} (h : a = a') : a.bind f = a'.bind f := by rw [h]
theorem condC_cg {v v' : AV} {a b : Option RV} (h : v = v') : condC v a b = condC v' a b := by rw [h]
theorem guardC_cg {v v' : AV} {w : Bool} {a b : Option MSt} (h : v = v') : guardC v w a b = guardC v' w a b := by rw [h]
theorem evL_cg {T : Nat → Option FnC} {ext : CallT} {b : C} {s s' : MSt} {k : Ex → MSt → Option RV} (h : s = s') : evL T ext b s k = evL T ext b s' k := by rw [h]
end
attribute [congr] run_cg bind_cg condC_cg guardC_cg evL_cg
attribute [simp] putE_at setM_at setO_at stripE_at stripM_at Slot.strip_v Slot.strip_a Slot.strip_mk argE_at noM_at objE_at killE_at killM_at Slot.kill_v Slot.kill_a Slot.kill_mk
end Go.Proofs.Ytinpinjjdkilpaa
/- Arguments: whatever a statement hands over reads as a value of the machine. -/
namespace Go.Proofs.Ytinpinjjdkilpaa
open Go Go.RowKit Go.ChangeShapes Go.WideShapes Go.Deep
/-- the kinds of cells of a type -/
inductive Cs where
  | int (k : IntKind)
  | bool
  | str
  | sl (l : List Cs)
def shArr (P : Program) (r : TypeId → Option (List Cs)) (t : TypeId) (n : Nat) (e : TypeId) : Option (List Cs) :=
  (r e).bind fun l => if l.length = P.cellsOf e ∧ n * l.length = P.cellsOf t then some (List.replicate n l).flatten else none
def shFs (P : Program) (r : TypeId → Option (List Cs)) : Nat → List Field → Option (List Cs)
  | _, [] => some []
  | off, f :: fs => (r f.type).bind fun l => if f.offset = off ∧ l.length = P.cellsOf f.type then (shFs P r (off + l.length) fs).map (l ++ ·) else none
def shOf (P : Program) : Nat → TypeId → Option (List Cs)
  | 0, _ => none
  | n + 1, t => match P.underlying t with
    | some .bool => some [.bool]
    | some (.int k) => some [.int k]
    | some .string => some [.str]
    | some (.slice e) => (shOf P n e).bind fun l => if l.length = P.cellsOf e ∧ 0 < l.length then some [.sl l] else none
    | some (.struct fs) => (shFs P (shOf P n) 0 fs.toList).bind fun l => if l.length = P.cellsOf t then some l else none
    | some (.array k e) => shArr P (shOf P n) t k e
    | _ => none
mutual
def TyC : Cs → AV → Prop
  | .int k, x => ∃ n, x = .int k n ∧ (Lit.int k n).wf = true
  | .bool, x => ∃ b, x = .bool b
  | .str, x => ∃ s, x = .str s ∧ s.size ≤ maxLen
  | .sl l, x => ∃ nl els, x = .sl nl els ∧ els.length ≤ maxLen ∧ ∀ av1 ∈ els, TyL l av1
def TyL : List Cs → List AV → Prop
  | [], av1 => av1 = []
  | c :: cs, av1 => ∃ a r, av1 = a :: r ∧ TyC c a ∧ TyL cs r
end
theorem TyL_length : ∀ {l : List Cs} {av1 : List AV}, TyL l av1 → av1.length = l.length
  | [], av1, h => by simp only [TyL] at h; subst h; rfl
  | c :: cs, av1, h => by
    simp only [TyL] at h
    obtain ⟨a, r, rfl, _, h⟩ := h
    simp [TyL_length h]
theorem TyL_append : ∀ {l m : List Cs} {av1 bs : List AV}, TyL l av1 → TyL m bs → TyL (l ++ m) (av1 ++ bs)
  | [], m, av1, bs, h, h' => by simp only [TyL] at h; subst h; exact h'
  | c :: cs, m, av1, bs, h, h' => by
    simp only [TyL] at h
    obtain ⟨a, r, rfl, h0, h⟩ := h
    exact ⟨a, r ++ bs, rfl, h0, TyL_append h h'⟩
section
variable {H : Type} {enc : TypeId × Value → H} {P : Program} {w : World} {base : Nat} {spare : Nat → Bool} {held : Bool}
theorem Rows_of {av : Av} {b sz : Nat} : ∀ {els : List (List AV)} {off : Nat}, (∀ av1 ∈ els, av1.length = sz) → (∀ (i : Nat) (av1 : List AV), els[i]? = some av1 → Cells av w av1 b (off + i * sz)) → Rows av w els b off
  | [], _, _, _ => by simp [Rows]
  | av1 :: r, off, hl, h => by
    simp only [Rows]
    have h0 := h 0 av1 rfl
    rw [Nat.zero_mul, Nat.add_zero] at h0
    refine ⟨h0, Rows_of (fun x hx => hl x (List.mem_cons_of_mem _ hx)) fun i x hx => ?_⟩
    have := h (i + 1) x (by simpa using hx)
    rw [hl av1 List.mem_cons_self, show off + sz + i * sz = off + (i + 1) * sz from by rw [Nat.succ_mul]; omega]
    exact this
abbrev Av0 : Av := fun _ _ => False
theorem RepL_nil_iff {av1 : List AV} : RepL Av0 w av1 [] → av1 = [] := fun h => by
  cases av1 with
  | nil => rfl
  | cons a r => simp only [RepL] at h; obtain ⟨_, _, h, _⟩ := h; cases h
theorem fields_rep {r : TypeId → Option (List Cs)} {cs : List Value}
    (ih : ∀ (t : TypeId) (sh : List Cs) (n : Nat) (cs : List Value) (x : DataW H × List MemPlace), r t = some sh → DataW.trod enc P w base spare held n t cs = some x → ∃ av1, RepL Av0 w av1 cs ∧ TyL sh av1) {n : Nat} :
    ∀ (fs : List Field) (off : Nat) (sh : List Cs), shFs P r off fs = some sh → off + sh.length = cs.length → (∀ f ∈ fs, ∃ x, DataW.trod enc P w base spare held n f.type ((cs.drop f.offset).take (P.cellsOf f.type)) = some x) → ∃ av1, RepL Av0 w av1 (cs.drop off) ∧ TyL sh av1
  | [], off, sh, h, hl, _ => by
    injection h with h
    subst h
    refine ⟨[], ?_, rfl⟩
    rw [List.drop_eq_nil_of_le (by simp at hl; omega)]
    rfl
  | f :: fs, off, sh, h, hl, hx => by
    unfold shFs at h
    obtain ⟨l, hr, h⟩ := Option.bind_eq_some_iff.1 h
    split at h
    · rename_i hc
      obtain ⟨ho, hcl⟩ := hc
      obtain ⟨sh', hs, rfl⟩ := Option.map_eq_some_iff.1 h
      obtain ⟨x, hx0⟩ := hx f List.mem_cons_self
      obtain ⟨av1, h1, h2⟩ := ih _ _ _ _ _ hr hx0
      obtain ⟨bs, h3, h4⟩ := fields_rep ih fs (off + l.length) sh' hs (by simp at hl; omega) fun g hg => hx g (List.mem_cons_of_mem _ hg)
      refine ⟨av1 ++ bs, ?_, TyL_append h2 h4⟩
      have : cs.drop off = (cs.drop off).take l.length ++ cs.drop (off + l.length) := by rw [← List.drop_drop, List.take_append_drop]
      rw [this]
      rw [ho, ← hcl] at h1
      exact RepL_append h1 h3
    · cases h
theorem array_rep {sz : Nat} {l : List Cs} {cs : List Value} (hl : l.length = sz) (f : ∀ i : Nat, i * sz < cs.length ∨ sz = 0 → ∃ av1, RepL Av0 w av1 ((cs.drop (i * sz)).take sz) ∧ TyL l av1) :
    ∀ (n i : Nat), (i + n) * sz = cs.length → ∃ av1, RepL Av0 w av1 (cs.drop (i * sz)) ∧ TyL (List.replicate n l).flatten av1
  | 0, i, h => by
    refine ⟨[], ?_, rfl⟩
    rw [List.drop_eq_nil_of_le (by simp at h; omega)]
    rfl
  | n + 1, i, h => by
    have h1 : (i + 1 + n) * sz = cs.length := by rw [← h]; congr 1; omega
    have hs : (i + 1) * sz = i * sz + sz := Nat.succ_mul i sz
    have hlt : i * sz < cs.length ∨ sz = 0 := by
      rcases Nat.eq_zero_or_pos sz with h0 | h0
      · exact .inr h0
      · have : (i + 1) * sz ≤ (i + (n + 1)) * sz := Nat.mul_le_mul_right _ (by omega)
        omega
    obtain ⟨av1, g1, g2⟩ := f i hlt
    obtain ⟨av2, g3, g4⟩ := array_rep hl f n (i + 1) h1
    refine ⟨av1 ++ av2, ?_, by rw [List.replicate_succ, List.flatten_cons]; exact TyL_append g2 g4⟩
    have : cs.drop (i * sz) = (cs.drop (i * sz)).take sz ++ cs.drop ((i + 1) * sz) := by rw [hs, ← List.drop_drop, List.take_append_drop]
    rw [this]
    exact RepL_append g1 g3
theorem trod_rep : ∀ (k : Nat) (t : TypeId) (sh : List Cs) (n : Nat) (cs : List Value) (x : DataW H × List MemPlace), shOf P k t = some sh → DataW.trod enc P w base spare held n t cs = some x → ∃ av1, RepL Av0 w av1 cs ∧ TyL sh av1
  | 0, _, _, _, _, _, h, _ => by cases h
  | k + 1, t, sh, n, cs, x, h, hx => by
    unfold shOf at h
    split at h
    · rename_i ht
      injection h with h
      subst h
      obtain ⟨b, rfl, _⟩ := DataW.trod_bool ht hx
      exact ⟨[.bool b], ⟨_, _, rfl, rfl, rfl, rfl⟩, _, _, rfl, ⟨b, rfl⟩, rfl⟩
    · rename_i kk ht
      injection h with h
      subst h
      obtain ⟨b, rfl, _, hw⟩ := DataW.trod_int ht hx
      exact ⟨[.int kk b], ⟨_, _, rfl, rfl, rfl, rfl⟩, _, _, rfl, ⟨b, rfl, hw⟩, rfl⟩
    · rename_i ht
      injection h with h
      subst h
      obtain ⟨b, rfl, _, hw⟩ := DataW.trod_string ht hx
      exact ⟨[.str b], ⟨_, _, rfl, rfl, rfl, rfl⟩, _, _, rfl, ⟨b, rfl, hw⟩, rfl⟩
    · rename_i e ht
      obtain ⟨l, hl, h⟩ := Option.bind_eq_some_iff.1 h
      split at h
      · rename_i hc
        injection h with h
        subst h
        rcases open_slice ht hx with ⟨rfl, _⟩ | ⟨a, len, cap, m, n', D, Pl, rfl, _, hle, hcm, hm, _, hi⟩
        · refine ⟨[.sl true []], ⟨_, _, rfl, ⟨none, 0, rfl, Nat.le_refl _, (fun _ h => by cases h), fun _ => ⟨rfl, rfl, rfl⟩, fun h => by cases h⟩, rfl, rfl⟩, _, _, rfl, ⟨true, [], rfl, Nat.zero_le _, (fun _ h => by cases h)⟩, rfl⟩
        · have hmle : len ≤ m := by rw [hm]; split <;> omega
          have hrow : ∀ i : Nat, ∃ av1 : List AV, i < len → (TyL l av1 ∧ ∃ us, RepL Av0 w av1 us ∧ us.length = P.cellsOf e ∧ ∀ j, j < P.cellsOf e → w.cell? ((a.add (i * P.cellsOf e)).add j) = us[j]?) := fun i => by
            by_cases hlt : i < len
            · obtain ⟨us, hc1, hc2⟩ := hi i (by omega)
              obtain ⟨av1, h1, h2⟩ := trod_rep k e l n' us _ hl hc2
              obtain ⟨_, g1, g2⟩ := World.cells?_some hc1
              exact ⟨av1, fun _ => ⟨h2, us, h1, g1, g2⟩⟩
            · exact ⟨[], fun h => absurd h hlt⟩
          have hrow' := Classical.axiomOfChoice hrow
          obtain ⟨f, hf⟩ := hrow'
          have hels : ∀ av1 ∈ (List.range len).map f, TyL l av1 := fun av1 ha => by
            obtain ⟨i, hi', rfl⟩ := List.mem_map.1 ha
            exact (hf i (List.mem_range.1 hi')).1
          have hlens : ∀ av1 ∈ (List.range len).map f, av1.length = P.cellsOf e := fun av1 ha => (TyL_length (hels av1 ha)).trans hc.1
          refine ⟨[.sl false ((List.range len).map f)], ⟨_, _, rfl, ⟨some a, cap, by simp, by simpa using hle, fun x hx y hy => (hlens x hx).trans (hlens y hy).symm, (fun h => by cases h), fun _ => ⟨fun h => (by cases h), fun h0 => ?_⟩⟩, rfl, rfl⟩, _, _, rfl, ⟨false, _, rfl, by simp; omega, hels⟩, rfl⟩
          have h0' : 0 < len := by simpa using h0
          have hpos : 0 < P.cellsOf e := by omega
          have hspot : ∃ b off, a = ⟨b, off, none⟩ := by
            obtain ⟨_, us, _, g1, g2⟩ := hf 0 h0'
            have g3 := g2 0 hpos
            simp only [Nat.zero_mul, Addr.add, if_true] at g3
            rw [List.getElem?_eq_getElem (by omega)] at g3
            obtain ⟨b, off, sp⟩ := a
            cases sp with
            | none => exact ⟨b, off, rfl⟩
            | some q =>
              simp only [World.cell?] at g3
              split at g3
              · simp at g3
              · cases g3
          obtain ⟨b, off, rfl⟩ := hspot
          refine ⟨b, off, rfl, Rows_of hlens fun i av1 hget => ?_⟩
          rw [List.getElem?_map] at hget
          obtain ⟨i', hi', rfl⟩ := Option.map_eq_some_iff.1 hget
          rw [List.getElem?_eq_some_iff] at hi'
          obtain ⟨hlt, he⟩ := hi'
          simp at hlt he
          subst he
          obtain ⟨_, us, g0, g1, g2⟩ := hf i hlt
          refine Cells_mk g0 fun j u hu => ⟨?_, fun h => h⟩
          have hj : j < P.cellsOf e := by rw [← g1]; exact (List.getElem?_eq_some_iff.1 hu).1
          have := g2 j hj
          rw [Addr.add_lit, Addr.add_lit, hu] at this
          exact this
      · cases h
    · rename_i fs ht
      obtain ⟨l, hl, h⟩ := Option.bind_eq_some_iff.1 h
      split at h
      · rename_i hc
        injection h with h
        subst h
        obtain ⟨xs, n', rfl, _, hlen, hxl, hf⟩ := DataW.trod_struct ht hx
        have := fields_rep (cs := cs) (n := n') (fun t sh n cs x => trod_rep k t sh n cs x) fs.toList 0 l hl (by omega) fun g hg => by
          obtain ⟨i, hi, he⟩ := List.getElem_of_mem hg
          have hi' : i < fs.size := by simpa using hi
          have h1 := hf i g (by rw [← he]; simp [hi'])
          exact ⟨xs[i]'(by omega), by rw [h1]; exact List.getElem?_eq_getElem (by omega)⟩
        simpa using this
      · cases h
    · rename_i n' e ht
      unfold shArr at h
      obtain ⟨l, hl, h⟩ := Option.bind_eq_some_iff.1 h
      split at h
      · rename_i hc
        injection h with h
        subst h
        obtain ⟨xs, m, rfl, _, hlen, hxl, hf⟩ := DataW.trod_array ht hx
        have hz : ∀ i, i < n' → ∃ av1, RepL Av0 w av1 ((cs.drop (i * P.cellsOf e)).take (P.cellsOf e)) ∧ TyL l av1 := fun i hi => by
          have h1 := hf i hi
          rw [List.getElem?_eq_getElem (by omega)] at h1
          exact trod_rep k e l m _ _ hl h1
        rcases Nat.eq_zero_or_pos l.length with h0 | h0
        · have hl0 : l = [] := List.eq_nil_of_length_eq_zero h0
          subst hl0
          have hcs : cs = [] := List.eq_nil_of_length_eq_zero (by rw [hlen, ← hc.2]; simp)
          subst hcs
          exact ⟨[], rfl, by simp [TyL]⟩
        · have := array_rep (cs := cs) hc.1 (fun i hi => hz i (by
            rcases hi with hi | hi
            · rw [hlen, ← hc.2, hc.1] at hi
              exact Nat.lt_of_mul_lt_mul_right hi
            · omega)) n' 0 (by rw [Nat.zero_add, hlen, ← hc.2, hc.1])
          simpa using this
      · cases h
    · cases h
end
end Go.Proofs.Ytinpinjjdkilpaa
/- A statement's arguments as values of the machine. -/
namespace Go.Proofs.Ytinpinjjdkilpaa
open Go Go.RowKit Go.ChangeShapes Go.WideShapes Go.Deep
def wholeT (P : Program) (t : TypeId) : Bool := match P.underlying t with
  | some (.struct _) | some (.array ..) => true
  | _ => false
/-- a value of a parameter's type -/
def ParTy (P : Program) (k : Nat) (t : TypeId) (a : AV) : Prop := ∃ sh, shOf P k t = some sh ∧ ((wholeT P t = true ∧ ∃ cs, a = .agg cs ∧ TyL sh cs) ∨ (wholeT P t = false ∧ TyL sh [a]))
def ArgsTy (P : Program) (k : Nat) : List TypeId → List AV → Prop
  | [], xs => xs = []
  | t :: ts, xs => ∃ a r, xs = a :: r ∧ ParTy P k t a ∧ ArgsTy P k ts r
section
variable {H : Type} {enc : TypeId × Value → H} {P : Program} {w : World} {base : Nat} {spare : Nat → Bool} {held : Bool}
theorem par_rep {k : Nat} {t : TypeId} {r : Reach} {b0 : Nat} {v : Value} {d : DataW H} {p : List MemPlace} (hs : (shOf P k t).isSome = true) (hv : Value.okWide P w r b0 t v) (h : DataW.Trod enc P w base spare held t v d p) :
    ∃ a, RepS Ix.none Av0 Av0 w a v ∧ ParTy P k t a := by
  obtain ⟨sh, hsh⟩ := Option.isSome_iff_exists.1 hs
  obtain ⟨fuel, hf⟩ := h
  obtain ⟨xs, h1, h2⟩ := trod_rep k t sh fuel _ _ hsh hf
  have one : ∀ (u : Value), v = u → v.cells.toList = [u] → (∃ c, sh = [c]) → wholeT P t = false → (∀ a, TyL sh [a] → a.leaf = true) → ∃ a, RepS Ix.none Av0 Av0 w a v ∧ ParTy P k t a := fun u hu hc ⟨c, hc'⟩ hw hleaf => by
    subst hc'
    have h2' := h2
    simp only [TyL] at h2
    obtain ⟨a, _, rfl, _, rfl⟩ := h2
    rw [hc] at h1
    simp only [RepL] at h1
    obtain ⟨u', _, e, h0, _, _⟩ := h1
    injection e with e
    subst e
    exact ⟨a, by rw [hu]; exact RepS_of_rep h0 (hleaf a h2'), [c], hsh, .inr ⟨hw, h2'⟩⟩
  cases k with
  | zero => cases hsh
  | succ k =>
    have hsh' := hsh
    unfold shOf at hsh'
    split at hsh'
    · rename_i ht
      injection hsh' with e
      obtain ⟨b, rfl⟩ := okWide_bool ht hv
      refine one _ rfl rfl ⟨_, e.symm⟩ (by simp [wholeT, ht]) fun a ha => ?_
      subst e
      simp only [TyL] at ha
      obtain ⟨_, _, e, hc, _⟩ := ha
      simp only [TyC] at hc
      obtain ⟨b', rfl⟩ := hc
      injection e with e
      subst e
      rfl
    · rename_i kk ht
      injection hsh' with e
      obtain ⟨b, rfl⟩ := okWide_int ht hv
      refine one _ rfl rfl ⟨_, e.symm⟩ (by simp [wholeT, ht]) fun a ha => ?_
      subst e
      simp only [TyL] at ha
      obtain ⟨_, _, e, hc, _⟩ := ha
      simp only [TyC] at hc
      obtain ⟨b', rfl, _⟩ := hc
      injection e with e
      subst e
      rfl
    · rename_i ht
      injection hsh' with e
      obtain ⟨b, rfl⟩ := okWide_string ht hv
      refine one _ rfl rfl ⟨_, e.symm⟩ (by simp [wholeT, ht]) fun a ha => ?_
      subst e
      simp only [TyL] at ha
      obtain ⟨_, _, e, hc, _⟩ := ha
      simp only [TyC] at hc
      obtain ⟨b', rfl, _⟩ := hc
      injection e with e
      subst e
      rfl
    · rename_i e' ht
      obtain ⟨l, _, hsh'⟩ := Option.bind_eq_some_iff.1 hsh'
      split at hsh'
      · injection hsh' with e
        obtain ⟨A, n, c, rfl⟩ := okWide_slice ht hv
        refine one _ rfl rfl ⟨_, e.symm⟩ (by simp [wholeT, ht]) fun a ha => ?_
        subst e
        simp only [TyL] at ha
        obtain ⟨_, _, e, hc, _⟩ := ha
        simp only [TyC] at hc
        obtain ⟨nl, els, rfl, _⟩ := hc
        injection e with e
        subst e
        rfl
      · cases hsh'
    · rename_i fs ht
      have : ∃ cs, v = .agg cs := by
        simp only [Value.okWide, ht] at hv
        obtain ⟨cs, hv, _⟩ := hv
        exact ⟨cs, hv⟩
      obtain ⟨cs, rfl⟩ := this
      exact ⟨.agg xs, ⟨cs, rfl, RepCL_ofL h1⟩, sh, hsh, .inl ⟨by simp [wholeT, ht], xs, rfl, h2⟩⟩
    · rename_i n' e' ht
      have : ∃ cs, v = .agg cs := by
        simp only [Value.okWide, ht] at hv
        obtain ⟨cs, hv, _⟩ := hv
        exact ⟨cs, hv⟩
      obtain ⟨cs, rfl⟩ := this
      exact ⟨.agg xs, ⟨cs, rfl, RepCL_ofL h1⟩, sh, hsh, .inl ⟨by simp [wholeT, ht], xs, rfl, h2⟩⟩
    · cases hsh'
theorem args_rep {k : Nat} {r : Reach} {b0 : Nat} : ∀ {ts : List TypeId} {vs : List Value} {ds : List (DataW H)} {p : List MemPlace}, DataW.TrodAll enc P w base spare held ts vs ds p → (∀ (j : Nat) t v, ts[j]? = some t → vs[j]? = some v → Value.okWide P w r b0 t v) → ts.all (fun t => (shOf P k t).isSome) = true →
    ∃ xs, RepA Ix.none Av0 Av0 w xs vs ∧ ArgsTy P k ts xs
  | [], vs, ds, p, h, _, _ => by
    cases vs with
    | nil => exact ⟨[], rfl, rfl⟩
    | cons => cases ds <;> exact h.elim
  | t :: ts, vs, ds, p, h, hv, hs => by
    obtain ⟨v, vs', d, ds', p', q', rfl, rfl, rfl, h0, h⟩ := trodAll_cons h
    simp only [List.all_cons, Bool.and_eq_true] at hs
    obtain ⟨a, h1, h2⟩ := par_rep hs.1 (hv 0 t v rfl rfl) h0
    obtain ⟨xs, h3, h4⟩ := args_rep h (fun j t' v' e e' => hv (j + 1) t' v' (by simpa using e) (by simpa using e')) hs.2
    exact ⟨a :: xs, ⟨v, vs', rfl, h1, h3⟩, a, xs, rfl, h2, h4⟩
/-- the arguments handed back, where all that lay there before lies there yet -/
theorem args_back (hl : laidOutB P = true) {W W' : World} (hb : Below W.heap.size W W') : ∀ {ts : List TypeId} {vs : List Value} {ds : List (DataW H)} {p : List MemPlace}, DataW.TrodAll enc P W 0 (fun _ => true) true ts vs ds p → ts.all (fun t => P.readableRec t && decide (t < P.types.size)) = true →
    DataW.TrodAll enc P W' 0 (fun b => decide (b < W.heap.size)) true ts vs ds p
  | [], vs, ds, p, h, _ => by
    cases vs with
    | nil => cases ds with
      | nil => exact h
      | cons => exact h.elim
    | cons => cases ds <;> exact h.elim
  | t :: ts, vs, ds, p, h, hs => by
    have hlt := DataW.TrodAll.lt h
    obtain ⟨v, vs', d, ds', p', q', rfl, rfl, rfl, h0, h⟩ := trodAll_cons h
    simp only [List.all_cons, Bool.and_eq_true, decide_eq_true_eq] at hs
    exact trodAll_cons_mk (Below.trod hl hs.1.1 hs.1.2 h0 hb fun x hx => hlt x (List.mem_append_left _ hx)) (args_back hl hb h hs.2)
end
end Go.Proofs.Ytinpinjjdkilpaa
