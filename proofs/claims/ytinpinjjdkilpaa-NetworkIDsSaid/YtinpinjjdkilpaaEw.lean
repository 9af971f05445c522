/- The machine with as many rounds as it takes. -/
import Derived.Test.YtinpinjjdkilpaaEu
namespace Go.Proofs.Ytinpinjjdkilpaa
open Go
section
variable {α : Type}
/-- from some number on -/
def Late (p : Nat → Prop) : Prop := ∃ n, ∀ m, n ≤ m → p m
theorem Late.and {p q : Nat → Prop} (h : Late p) (h' : Late q) : Late fun m => p m ∧ q m := by
  obtain ⟨n, h⟩ := h
  obtain ⟨n', h'⟩ := h'
  exact ⟨max n n', fun m hm => ⟨h m (by omega), h' m (by omega)⟩⟩
theorem Late.imp {p q : Nat → Prop} (h : Late p) (hi : ∀ m, p m → q m) : Late q := by
  obtain ⟨n, h⟩ := h
  exact ⟨n, fun m hm => hi m (h m hm)⟩
theorem Late.now {p : Prop} (h : p) : Late fun _ => p := ⟨0, fun _ _ => h⟩
theorem Late.succ {p : Nat → Prop} (h : Late p) : Late fun m => p (m + 1) := by
  obtain ⟨n, h⟩ := h
  exact ⟨n, fun m hm => h (m + 1) (by omega)⟩
theorem Late.pred {p : Nat → Prop} (h : Late fun m => p (m + 1)) : Late p := by
  obtain ⟨n, h⟩ := h
  exact ⟨n + 1, fun m hm => by have := h (m - 1) (by omega); simp only at this; rwa [show m - 1 + 1 = m from by omega] at this⟩
theorem Late.some {p : Nat → Prop} (h : Late p) : ∃ m, p m := by
  obtain ⟨n, h⟩ := h
  exact ⟨n, h n (Nat.le_refl _)⟩
theorem run_late {s : MSt} {callA : CallT} {callB : Nat → CallT} (hc : ∀ f args S r, callA f args S = some r → Late fun m => callB m f args S = some r) (k : K) {xe : Slot × Eff} (h : k.run callA s = some xe) : Late fun m => k.run (callB m) s = some xe := by
  cases k with
  | call cl f xs =>
    simp only [K.run] at h ⊢
    cases hl : lendAll s cl xs with
    | none => rw [hl] at h; cases h
    | some vs =>
      rw [hl] at h
      simp only [Option.bind_some] at h ⊢
      split at h
      · obtain ⟨r, hr, h⟩ := Option.bind_eq_some_iff.1 h
        exact (hc f vs _ r hr).imp fun m hm => by rw [hm]; exact h
      · obtain ⟨r, hr, h⟩ := Option.bind_eq_some_iff.1 h
        exact (hc f vs _ r hr).imp fun m hm => by rw [hm]; exact h
      · cases h
  | _ => exact Late.now h
theorem ops_late {callA : CallT} {callB : Nat → CallT} (hc : ∀ f args S r, callA f args S = some r → Late fun m => callB m f args S = some r) : ∀ (ops : List OpC) {s s' : MSt}, runOps callA ops s = some s' → Late fun m => runOps (callB m) ops s = some s'
  | [], s, s', h => Late.now h
  | o :: r, s, s', h => by
    unfold runOps at h
    obtain ⟨s1, h1, h2⟩ := Option.bind_eq_some_iff.1 h
    have hs : Late fun m => o.step (callB m) s = some s1 := by
      unfold OpC.step at h1 ⊢
      cases hg : o.guard with
      | none =>
        rw [hg] at h1
        simp only at h1 ⊢
        obtain ⟨xe, hx, he⟩ := Option.bind_eq_some_iff.1 h1
        exact (run_late hc o.op hx).imp fun m hm => by rw [hm]; exact he
      | some p =>
        obtain ⟨t, want⟩ := p
        rw [hg] at h1
        simp only at h1 ⊢
        cases hv : (s.env t).v with
        | bool b =>
          rw [hv] at h1
          simp only at h1 ⊢
          by_cases hb : b = want
          · rw [if_pos hb] at h1
            simp only [if_pos hb]
            obtain ⟨xe, hx, he⟩ := Option.bind_eq_some_iff.1 h1
            exact (run_late hc o.op hx).imp fun m hm => by rw [hm]; exact he
          · rw [if_neg hb] at h1
            simp only [if_neg hb]
            exact Late.now h1
        | tup l => rw [hv] at h1; cases l with
          | nil => exact Late.now h1
          | cons => cases h1
        | _ => rw [hv] at h1; cases h1
    exact (hs.and (ops_late hc r h2)).imp fun m hm => by unfold runOps; rw [hm.1]; exact hm.2
theorem code_late {callA : CallT} {lpA : LpT} {callB : Nat → CallT} {lpB : Nat → LpT} (hc : ∀ f args S r, callA f args S = some r → Late fun m => callB m f args S = some r)
    (hl : ∀ b s k r (km : Nat → Ex → MSt → Option RV), (∀ e s' r', k e s' = some r' → Late fun m => km m e s' = some r') → lpA b s k = some r → Late fun m => lpB m b s (km m) = some r) :
    ∀ (c : C) (s : MSt) (k : Ex → MSt → Option RV) (r : RV) (km : Nat → Ex → MSt → Option RV), (∀ e s' r', k e s' = some r' → Late fun m => km m e s' = some r') → c.run callA lpA s k = some r → Late fun m => c.run (callB m) (lpB m) s (km m) = some r
  | .skip, s, k, r, km, hk, h => hk _ _ _ h
  | .exit id, s, k, r, km, hk, h => hk _ _ _ h
  | .ret, s, k, r, km, hk, h => hk _ _ _ h
  | .seq a b, s, k, r, km, hk, h => by
    refine code_late hc hl a s _ r (fun m e s' => match e with | .nrm => b.run (callB m) (lpB m) s' (km m) | e => km m e s') (fun e s' r' h' => ?_) h
    cases e with
    | nrm => exact code_late hc hl b s' k r' km hk h'
    | exit id => exact hk _ _ _ h'
    | ret => exact hk _ _ _ h'
  | .reg ops, s, k, r, km, hk, h => by
    simp only [C.run] at h ⊢
    cases hs : runOps callA ops s with
    | none => rw [hs] at h; cases h
    | some s1 =>
      rw [hs] at h
      exact ((ops_late hc ops hs).and (hk _ _ _ h)).imp fun m hm => by rw [hm.1]; exact hm.2
  | .cond x t e, s, k, r, km, hk, h => by
    simp only [C.run] at h ⊢
    cases hv : x.get s with
    | bool b =>
      rw [hv] at h
      cases b with
      | true => exact code_late hc hl t s k r km hk (by simpa using h)
      | false => exact code_late hc hl e s k r km hk (by simpa using h)
    | _ => rw [hv] at h; cases h
  | .block id b, s, k, r, km, hk, h => by
    refine code_late hc hl b s _ r (fun m e s' => match e with | .exit j => if j = id then km m .nrm s' else km m (.exit j) s' | e => km m e s') (fun e s' r' h' => ?_) h
    cases e with
    | nrm => exact hk _ _ _ h'
    | ret => exact hk _ _ _ h'
    | exit j =>
      simp only at h' ⊢
      by_cases e : j = id
      · rw [if_pos e] at h'; simp only [if_pos e]; exact hk _ _ _ h'
      · rw [if_neg e] at h'; simp only [if_neg e]; exact hk _ _ _ h'
  | .loop b, s, k, r, km, hk, h => hl b s k r km hk h
variable {T : Nat → Option FnC} {ext : CallT}
theorem N_late : ∀ N, (∀ f args S r, callN T ext N f args S = some r → Late fun m => callN T ext m f args S = some r) ∧
    (∀ b s k r (km : Nat → Ex → MSt → Option RV), (∀ e s' r', k e s' = some r' → Late fun m => km m e s' = some r') → lpN T ext N b s k = some r → Late fun m => lpN T ext m b s (km m) = some r)
  | 0 => by
    refine ⟨fun f args S r h => ⟨0, fun m _ => ?_⟩, fun b s k r km _ h => by cases h⟩
    unfold callN at h
    cases hT : T f with
    | none => rw [hT] at h; cases m <;> (unfold callN; rw [hT]; exact h)
    | some c => rw [hT] at h; cases h
  | N + 1 => by
    obtain ⟨ih1, ih2⟩ := N_late N
    constructor
    · intro f args S0 r h
      unfold callN at h
      cases hT : T f with
      | none => rw [hT] at h; exact ⟨0, fun m _ => by cases m <;> (unfold callN; rw [hT]; exact h)⟩
      | some c =>
        rw [hT] at h
        simp only at h
        split at h
        · rename_i hl
          refine Late.pred ((code_late ih1 ih2 c.code _ _ r (fun _ => fin c S0) (fun e s' r' h' => Late.now h') h).imp fun m hm => ?_)
          unfold callN
          rw [hT]
          simp only
          rw [if_pos hl]
          exact hm
        · cases h
    · intro b s k r km hk h
      unfold lpN at h
      refine Late.pred ((code_late ih1 ih2 b s _ r (fun m => again (lpN T ext m) b (km (m + 1))) (fun e s' r' h' => ?_) h).imp fun m hm => ?_)
      · cases e with
        | nrm => exact ih2 b s' k r' (fun m => km (m + 1)) (fun e s'' r'' h'' => (hk e s'' r'' h'').succ) h'
        | exit id => exact (hk _ _ _ h').succ
        | ret => exact (hk _ _ _ h').succ
      · unfold lpN
        exact hm
open Classical in
/-- what a call gives, however long it takes -/
noncomputable def evC (T : Nat → Option FnC) (ext : CallT) (f : Nat) (args : List AV) (S0 : Option AV) : Option RV := if h : ∃ r n, callN T ext n f args S0 = some r then some h.choose else none
open Classical in
noncomputable def evL (T : Nat → Option FnC) (ext : CallT) : LpT := fun b s k => if h : ∃ r n, lpN T ext n b s k = some r then some h.choose else none
theorem evC_some {f : Nat} {args : List AV} {S0 : Option AV} {r : RV} : evC T ext f args S0 = some r ↔ ∃ n, callN T ext n f args S0 = some r := by
  unfold evC
  constructor
  · intro h
    split at h
    · rename_i hh; injection h with h; exact h ▸ hh.choose_spec
    · cases h
  · rintro ⟨n, hn⟩
    have hh : ∃ r n, callN T ext n f args S0 = some r := ⟨r, n, hn⟩
    rw [dif_pos hh]
    obtain ⟨n', hn'⟩ := hh.choose_spec
    obtain ⟨m, h1, h2⟩ := (((N_late n).1 f args S0 r hn).and ((N_late n').1 f args S0 _ hn')).some
    rw [h1] at h2
    exact h2.symm
theorem evL_some {b : C} {s : MSt} {k : Ex → MSt → Option RV} {r : RV} : evL T ext b s k = some r ↔ ∃ n, lpN T ext n b s k = some r := by
  unfold evL
  constructor
  · intro h
    split at h
    · rename_i hh; injection h with h; exact h ▸ hh.choose_spec
    · cases h
  · rintro ⟨n, hn⟩
    have hh : ∃ r n, lpN T ext n b s k = some r := ⟨r, n, hn⟩
    rw [dif_pos hh]
    obtain ⟨n', hn'⟩ := hh.choose_spec
    obtain ⟨m, h1, h2⟩ := (((N_late n).2 b s k r (fun _ => k) (fun e s' r' h => Late.now h) hn).and ((N_late n').2 b s k _ (fun _ => k) (fun e s' r' h => Late.now h) hn')).some
    rw [h1] at h2
    exact h2.symm
theorem ev_late1 (f : Nat) (args : List AV) (S0 : Option AV) (r : RV) (h : evC T ext f args S0 = some r) : Late fun m => callN T ext m f args S0 = some r := by
  obtain ⟨n, hn⟩ := evC_some.1 h
  exact (N_late n).1 f args S0 r hn
theorem ev_late2 (b : C) (s : MSt) (k : Ex → MSt → Option RV) (r : RV) (km : Nat → Ex → MSt → Option RV) (hk : ∀ e s' r', k e s' = some r' → Late fun m => km m e s' = some r') (h : evL T ext b s k = some r) : Late fun m => lpN T ext m b s (km m) = some r := by
  obtain ⟨n, hn⟩ := evL_some.1 h
  exact (N_late n).2 b s k r km hk hn
/-- a call: its body -/
theorem evC_intro {f : Nat} {args : List AV} {S0 : Option AV} {r : RV} (c : FnC) (hT : T f = some c) (hl : args.length = c.np) (h : c.code.run (evC T ext) (evL T ext) (MSt.init args S0) (fin c S0) = some r) : evC T ext f args S0 = some r := by
  obtain ⟨m, hm⟩ := (code_late ev_late1 ev_late2 c.code _ _ r (fun _ => fin c S0) (fun e s' r' h' => Late.now h') h).some
  refine evC_some.2 ⟨m + 1, ?_⟩
  unfold callN
  rw [hT]
  simp only
  rw [if_pos hl]
  exact hm
theorem evC_ext {f : Nat} {args : List AV} {S0 : Option AV} {r : RV} (hT : T f = none) (h : ext f args S0 = some r) : evC T ext f args S0 = some r := by
  refine evC_some.2 ⟨0, ?_⟩
  unfold callN
  rw [hT]
  exact h
/-- a loop: a round, and what comes behind -/
theorem evL_intro {b : C} {s : MSt} {k : Ex → MSt → Option RV} {r : RV} (h : b.run (evC T ext) (evL T ext) s (again (evL T ext) b k) = some r) : evL T ext b s k = some r := by
  have := code_late ev_late1 ev_late2 b s _ r (fun m => again (lpN T ext m) b k) (fun e s' r' h' => by
    cases e with
    | nrm => exact ev_late2 b s' k r' (fun _ => k) (fun e s'' r'' h'' => Late.now h'') h'
    | exit id => exact Late.now h'
    | ret => exact Late.now h') h
  obtain ⟨m, hm⟩ := this.some
  refine evL_some.2 ⟨m + 1, ?_⟩
  unfold lpN
  exact hm
theorem ev_sound {P : Program} {O : Objs} (hm : P.follows .mixedOrders = true) (hT : ∀ f c, T f = some c → FnOk P f c) (hext : ∀ f args S r, ext f args S = some r → CallOk P O f args S r) {f : Nat} {args : List AV} {S0 : Option AV} {r : RV} (h : evC T ext f args S0 = some r) : CallOk P O f args S0 r := by
  obtain ⟨n, hn⟩ := evC_some.1 h
  exact (call_sound hm hT hext n).1 f args S0 r hn
end
end Go.Proofs.Ytinpinjjdkilpaa
