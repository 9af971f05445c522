/- Every operation. -/
import Derived.Test.YtinpinjjdkilpaaEo
namespace Go.Proofs.Ytinpinjjdkilpaa
open Go Go.RowKit
section
variable {P : Program} {O : Objs} {nt B : Nat} {F0 : Own} {av0 : Av} {w0 : World} {D : Nat → Prop} {s : MSt} {a : Act} {w w' : World} {ι : Ix} {Θ : Fam} {o : Oper}
theorem val_wp (R : Rel P O nt B F0 av0 w0 D s a w ι Θ) {x : Slot} {e : Eff} (hv : e = .none ∧ Val P av0 a w ι Θ o x) (hd : ∀ d, o.dst = some d → d < nt) {k : K} {g} {s' : MSt} (he : OpC.eff ⟨o.dst, k, g⟩ s (x, e) = some s')
    {Kn : Act → World → Prop} {Q : Exit → Act → World → Prop} (hK : ∀ a' w', RelE P O nt B F0 av0 w0 D s' a' w' → Kn a' w') : o.wp P a w Kn Q := by
  obtain ⟨rfl, v, hrun, hS, hA⟩ := hv
  simp only [OpC.eff] at he
  injection he with he
  subst he
  unfold Oper.wp
  rw [hrun, Oper.upon_value]
  exact hK _ _ ⟨ι, Θ, R.putN hd hS hA⟩
theorem run_wp {s' : MSt} (h : ∃ v w', (execOp a.eval o).run P w = .ok (.value v) w' ∧ RelE P O nt B F0 av0 w0 D s' (a.put o.dst v) w')
    {Kn : Act → World → Prop} {Q : Exit → Act → World → Prop} (hK : ∀ a' w', RelE P O nt B F0 av0 w0 D s' a' w' → Kn a' w') : o.wp P a w Kn Q := by
  obtain ⟨v, w', hrun, hR⟩ := h
  unfold Oper.wp
  rw [hrun, Oper.upon_value]
  exact hK _ _ hR
theorem opt2 {α β γ : Type} {x : Option α} {y : Option β} {f : α → β → Option γ} {z : γ} (h : (match x, y with | some a, some b => f a b | _, _ => none) = some z) : ∃ a b, x = some a ∧ y = some b ∧ f a b = some z := by
  cases x <;> cases y <;> first | exact ⟨_, _, rfl, rfl, h⟩ | cases h
theorem optmap {α β : Type} {x : Option α} {f : α → β} {z : β} (h : x.map f = some z) : ∃ a, x = some a ∧ f a = z := by
  cases x with
  | none => cases h
  | some a => exact ⟨a, rfl, by injection h⟩
theorem op_sound (R : Rel P O nt B F0 av0 w0 D s a w ι Θ) {call : CallT} (hcall : ∀ f args S r, call f args S = some r → CallOk P O f args S r) {cl : Cl} {k : K} (hk : compOp P cl o.op = some k) (hd : ∀ d, o.dst = some d → d < nt) (hD : ∀ d, o.dst = some d → (isA k || isO k) = true → ¬ D d)
    {xe : Slot × Eff} (hr : k.run call s = some xe) {g} {s' : MSt} (he : OpC.eff ⟨o.dst, k, g⟩ s xe = some s')
    {Kn : Act → World → Prop} {Q : Exit → Act → World → Prop} (hK : ∀ a' w', RelE P O nt B F0 av0 w0 (fun t => D t ∨ o.dst = some t) s' a' w' → Kn a' w') : o.wp P a w Kn Q := by
  have hK' : ∀ a' w', RelE P O nt B F0 av0 w0 D s' a' w' → Kn a' w' := fun a' w' ⟨ι', Θ', h⟩ => hK a' w' ⟨ι', Θ', h.more fun _ h => .inl h⟩
  have hnew : ∀ d, o.dst = some d → (∃ v w', (execOp a.eval o).run P w = .ok (.value v) w' ∧ RelE P O nt B F0 av0 w0 (fun t => D t ∨ t = d) s' (a.put o.dst v) w') → o.wp P a w Kn Q := fun d hdst h =>
    run_wp h fun a' w' ⟨ι', Θ', h⟩ => hK a' w' ⟨ι', Θ', h.more fun t h => h.imp id fun e => by rw [hdst, e]⟩
  obtain ⟨x, e⟩ := xe
  cases hop : o.op <;> rw [hop] at hk <;> simp only [compOp] at hk
  case move X => obtain ⟨y, hy, rfl⟩ := optmap hk; simp only [K.run] at hr; injection hr with hr; injection hr with h1 h2; subst h1; subst h2; exact val_wp R ⟨rfl, val_mv R hy (.inl hop)⟩ hd he hK'
  case assign X => obtain ⟨y, hy, rfl⟩ := optmap hk; simp only [K.run] at hr; injection hr with hr; injection hr with h1 h2; subst h1; subst h2; exact val_wp R ⟨rfl, val_mv R hy (.inr hop)⟩ hd he hK'
  case pick C X Y =>
    split at hk
    · rename_i c x' y' hc hx hy
      injection hk with hk
      subst hk
      simp only [K.run] at hr
      split at hr
      · rename_i t ht
        injection hr with hr; injection hr with h1 h2; subst h1; subst h2
        exact val_wp R ⟨rfl, val_pick R hc hx hy hop ht⟩ hd he hK'
      · cases hr
    · cases hk
  case alloc t =>
    obtain ⟨z, hz, rfl⟩ := optmap hk
    cases hdst : o.dst with
    | none => simp [K.run] at hr; obtain ⟨rfl, rfl⟩ := hr; simp [OpC.eff, hdst] at he
    | some d => exact hnew d hdst (op_alloc R hz hop hdst (hd d hdst) (hD d hdst rfl) hr he)
  case box t X =>
    split at hk
    · rename_i z x' hz hx
      injection hk with hk
      subst hk
      cases hdst : o.dst with
      | none =>
        simp only [K.run] at hr
        split at hr
        · split at hr
          · injection hr with hr; injection hr with h1 h2; subst h1; subst h2; simp [OpC.eff, hdst] at he
          · cases hr
        · split at hr
          · injection hr with hr; injection hr with h1 h2; subst h1; subst h2; simp [OpC.eff, hdst] at he
          · cases hr
      | some d => exact hnew d hdst (op_boxE R hx hop hdst (hd d hdst) (hD d hdst rfl) hr he)
    · cases hk
  case build t ps =>
    split at hk
    · rename_i fs z ys ht hz hy
      split at hk
      · rename_i pl hpl
        obtain ⟨zs, hzs, rfl⟩ := optmap hk
        obtain ⟨zv, i, hi, hiz, _, hl⟩ := tZero_run hz w
        refine val_wp R (val_build R hl (pl := (pl.toArray[·]?)) ?_ hy hzs hop hr) hd he hK'
        simp [Program.built, hi, ht, hiz, hpl]
      · cases hk
    · rename_i n el z ys ht hz hy
      split at hk
      · rename_i ie hie
        obtain ⟨zs, hzs, rfl⟩ := optmap hk
        obtain ⟨zv, i, hi, hiz, _, hl⟩ := tZero_run hz w
        refine val_wp R (val_build R hl (pl := fun i => some (i * ie.size, ie.size)) ?_ hy hzs hop hr) hd he hK'
        simp [Program.built, hi, ht, hiz, hie]
      · cases hk
    · cases hk
  case buildSlice t n ps =>
    split at hk
    · rename_i el ys ht hy
      split at hk
      · rename_i z kk hz hs
        split at hk
        · rename_i hc
          injection hk with hk
          subst hk
          obtain ⟨rfl, v, w', hrun, R', hS, hA⟩ := op_bsl R ht hz hs hc.1 hc.2.1 hc.2.2 hy hop hr
          simp only [OpC.eff] at he
          injection he with he
          subst he
          unfold Oper.wp
          rw [hrun, Oper.upon_value]
          exact hK' _ _ ⟨ι, Θ, R'.putN hd hS hA⟩
        · cases hk
      · cases hk
    · cases hk
  case load t X =>
    split at hk
    · rename_i ag z y hA hz hx
      injection hk with hk
      subst hk
      exact val_wp R (val_load R hA hz hx hop hr) hd he hK'
    · cases hk
  case store t X Y =>
    split at hk
    · rename_i ag z x' y' hA hz hx hy
      split at hk
      · rename_i hag
        injection hk with hk
        subst hk
        obtain ⟨w', hrun, hR⟩ := op_store R hz (by simpa using hag) hx hy hop hd hr he
        unfold Oper.wp
        rw [hrun, Oper.upon_skip]
        exact hK' _ _ hR
      · cases hk
    · cases hk
  case nilCheck X => obtain ⟨y, hy, rfl⟩ := optmap hk; exact val_wp R (val_nilchk R hy hop hr) hd he hK'
  case binOp op t X Y t' =>
    split at hk
    · rename_i x' y' hx hy
      split at hk
      · injection hk with hk
        subst hk
        simp only [K.run] at hr
        obtain ⟨v, hv, hr⟩ := optmap hr
        injection hr with h1 h2; subst h1; subst h2
        refine val_wp R ⟨rfl, val_bin R (fun hb => ?_) hx hy hop hv⟩ hd he hK'
        split at hb
        · assumption
        · cases hb
      · split at hk
        · split at hk
          · rename_i el ht; injection hk with hk; subst hk; exact val_wp R (val_eqn R (neg := false) (ptr := false) ⟨el, ht⟩ hx hy hop hr) hd he hK'
          · rename_i el ht; injection hk with hk; subst hk; exact val_wp R (val_eqn R (neg := false) (ptr := true) ⟨el, ht⟩ hx hy hop hr) hd he hK'
          · obtain ⟨ks, ht, rfl⟩ := optmap hk; exact val_wp R (val_eqa R (neg := false) ht hx hy hop hr) hd he hK'
        · split at hk
          · rename_i el ht; injection hk with hk; subst hk; exact val_wp R (val_eqn R (neg := true) (ptr := false) ⟨el, ht⟩ hx hy hop hr) hd he hK'
          · rename_i el ht; injection hk with hk; subst hk; exact val_wp R (val_eqn R (neg := true) (ptr := true) ⟨el, ht⟩ hx hy hop hr) hd he hK'
          · obtain ⟨ks, ht, rfl⟩ := optmap hk; exact val_wp R (val_eqa R (neg := true) ht hx hy hop hr) hd he hK'
        · cases hk
    · cases hk
  case unOp op t X =>
    split at hk
    · obtain ⟨y, hy, rfl⟩ := optmap hk; exact val_wp R (val_un R hy hop hr) hd he hK'
    · cases hk
  case convert t t' X =>
    split at hk
    · rename_i j kk x' h1 h2 hx; injection hk with hk; subst hk; exact val_wp R (val_conv R (k := some kk) ⟨⟨j, h1⟩, h2⟩ hx hop hr) hd he hK'
    · rename_i x' h1 h2 hx; injection hk with hk; subst hk; exact val_wp R (val_conv R (k := none) ⟨h1, h2⟩ hx hop hr) hd he hK'
    · cases hk
  case makeSlice t L C =>
    split at hk
    · rename_i el l c ht hl hc
      split at hk
      · rename_i z i hz hi
        split at hk
        · rename_i hcond
          injection hk with hk
          subst hk
          cases hdst : o.dst with
          | none =>
            simp only [K.run] at hr
            split at hr
            · split at hr
              · injection hr with hr; injection hr with h1 h2; subst h1; subst h2; simp [OpC.eff, hdst] at he
              · cases hr
            · cases hr
          | some d => exact hnew d hdst (op_mks R ht hi hz hcond.1 hl hc hop hdst (hd d hdst) (hD d hdst rfl) hr he)
        · cases hk
      · cases hk
    · cases hk
  case slice t X L H M =>
    split at hk
    · rename_i x' l h m hx hl hh hm
      split at hk
      · rename_i ht
        injection hk with hk
        subst hk
        cases M with
        | none => injection hm with hm; subst hm; exact val_wp R (val_slc R (str := true) ht hx hl hh hop hr) hd he hK'
        | some M => simp only [opdO] at hm; obtain ⟨m', _, rfl⟩ := optmap hm; simp [K.run] at hr
      · rename_i el ht
        obtain ⟨z, hz, rfl⟩ := optmap hk
        cases M with
        | none => injection hm with hm; subst hm; exact val_wp R (val_slc R (str := false) ⟨el, ht, hz⟩ hx hl hh hop hr) hd he hK'
        | some M => simp only [opdO] at hm; obtain ⟨m', _, rfl⟩ := optmap hm; simp [K.run] at hr
      · cases hk
    · cases hk
  case fieldAddr t X i =>
    split at hk
    · rename_i fs x' ht hx
      split at hk
      · rename_i f hf
        split at hk
        · rename_i n hn; injection hk with hk; subst hk; exact val_wp R (val_faddr R ht hf hn hx hop hr) hd he hK'
        · cases hk
      · cases hk
    · cases hk
  case field t X i =>
    split at hk
    · rename_i fs x' ht hx
      split at hk
      · rename_i f hf
        split at hk
        · rename_i ag z hA hz; injection hk with hk; subst hk; exact val_wp R (val_field R ht hf hA hz hx hop hr) hd he hK'
        · cases hk
      · cases hk
    · cases hk
  case indexAddr t X I =>
    split at hk
    · rename_i el x' i' ht hx hi
      obtain ⟨z, hz, rfl⟩ := optmap hk
      exact val_wp R (val_iaddr R ht hz hx hi hop hr) hd he hK'
    · cases hk
  case index t X I =>
    split at hk
    · rename_i x' i' ht hx hi
      injection hk with hk
      subst hk
      exact val_wp R (val_index R ht hx hi hop hr) hd he hK'
    · cases hk
  case extract X i => obtain ⟨y, hy, rfl⟩ := optmap hk; exact val_wp R (val_ext R hy hop hr) hd he hK'
  case call c =>
    obtain ⟨callee, xs, ts⟩ := c
    cases callee with
    | invoke r m => cases hk
    | value f =>
      cases f with
      | func f =>
        obtain ⟨ys, hy, rfl⟩ := optmap hk
        exact op_call R hcall hy hop hd (fun d h => hD d h rfl) hr he hK
      | _ => cases hk
    | builtin b =>
    cases b
    case len =>
      simp only at hk
      split at hk
      · rename_i x' t hx htt
        have hts : ts = #[t] := by have h0 := congrArg List.toArray htt; rwa [Array.toArray_toList] at h0
        subst hts
        obtain ⟨X, hX, hx'⟩ : ∃ X, xs = #[X] ∧ opd X = some x' := by
          obtain ⟨l⟩ := xs
          match l, hx with
          | [X], hx =>
            unfold opdL at hx
            split at hx
            · rename_i y l hy hl; injection hx with hx; injection hx with h1 h2; subst h1; exact ⟨X, rfl, hy⟩
            · cases hx
          | [], hx => simp [opdL] at hx
          | X :: Y :: r, hx =>
            unfold opdL at hx
            split at hx
            · rename_i y l hy hl
              injection hx with hx
              injection hx with h1 h2
              subst h2
              unfold opdL at hl
              split at hl
              · injection hl with hl; cases hl
              · cases hl
            · cases hx
        subst hX
        split at hk
        · rename_i ht; injection hk with hk; subst hk; exact val_wp R (val_len R (str := true) ht hx' hop hr) hd he hK'
        · rename_i el ht; injection hk with hk; subst hk; exact val_wp R (val_len R (str := false) ⟨el, ht⟩ hx' hop hr) hd he hK'
        · cases hk
      · cases hk
    case append =>
      simp only at hk
      split at hk
      · rename_i x' y' t t' hx htt
        split at hk
        · rename_i htt'
          subst htt'
          have hts : ts = #[t, t] := by have h0 := congrArg List.toArray htt; rwa [Array.toArray_toList] at h0
          subst hts
          obtain ⟨X, Y, hX, hx', hy'⟩ : ∃ X Y, xs = #[X, Y] ∧ opd X = some x' ∧ opd Y = some y' := by
            obtain ⟨l⟩ := xs
            have key : ∀ {r : List Operand} {ys : List Opd}, opdL r = some ys → r.length = ys.length ∧ ∀ j (h : j < r.length), opd r[j] = ys[j]? := by
              intro r
              induction r with
              | nil => intro ys h; injection h with h; subst h; exact ⟨rfl, fun j h => by simp at h⟩
              | cons X r ih =>
                intro ys h
                unfold opdL at h
                split at h
                · rename_i y l hy hl
                  injection h with h
                  subst h
                  obtain ⟨h1, h2⟩ := ih hl
                  refine ⟨by simp [h1], fun j hj => ?_⟩
                  cases j with
                  | zero => simpa using hy
                  | succ j => simpa using h2 j (by simpa using hj)
                · cases h
            obtain ⟨h1, h2⟩ := key hx
            match l, h1, h2 with
            | [X, Y], _, h2 => exact ⟨X, Y, rfl, h2 0 (by simp), h2 1 (by simp)⟩
          subst hX
          split at hk
          · rename_i el ht
            split at hk
            · rename_i i z hi hz
              split at hk
              · rename_i hcond
                injection hk with hk
                subst hk
                cases hdst : o.dst with
                | none =>
                  have : ∃ A, e = .app A 0 := by
                    simp only [K.run] at hr
                    split at hr
                    · split at hr
                      · split at hr
                        · cases hr
                        · split at hr
                          · injection hr with hr; injection hr with h1 h2; exact ⟨_, h2.symm⟩
                          · cases hr
                        · injection hr with hr; injection hr with h1 h2; exact ⟨_, h2.symm⟩
                      · cases hr
                    · cases hr
                  obtain ⟨A, rfl⟩ := this
                  simp [OpC.eff, hdst] at he
                | some d => exact run_wp (op_app R ht hi hz hcond.1 hcond.2 hx' hy' hop hdst (hd d hdst) hr he) hK'
              · cases hk
            · cases hk
          · cases hk
        · cases hk
      · cases hk
    all_goals cases hk
  all_goals cases hk
end
end Go.Proofs.Ytinpinjjdkilpaa
