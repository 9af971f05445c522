/- The operations, one by one: tests of slices, addresses and aggregates; aggregates that are built. -/
import Derived.Test.YtinpinjjdkilpaaEh
namespace Go.Proofs.Ytinpinjjdkilpaa
open Go Go.RowKit
section
variable {P : Program} {O : Objs} {nt B : Nat} {F0 : Own} {av0 : Av} {w0 : World} {D : Nat → Prop} {s : MSt} {a : Act} {w w' : World} {ι : Ix} {Θ : Fam} {o : Oper}
theorem eql_slice (d : Nat) {t e : TypeId} (ht : P.underlying t = some (.slice e)) (A : Option Addr) (n c : Nat) : (Op.equalIn (d + 1) t (.slice A n c) (.slice none 0 0)).run P w = .ok A.isNone w := by
  unfold Op.equalIn
  simp only [Sem.run_bind, run_underlying ht, Result.andThen_ok]
  cases A <;> rfl
theorem eql_ptr (d : Nat) {t e : TypeId} (ht : P.underlying t = some (.pointer e)) (A : Option Addr) : (Op.equalIn (d + 1) t (.pointer A) (.pointer none)).run P w = .ok A.isNone w := by
  unfold Op.equalIn
  simp only [Sem.run_bind, run_underlying ht, Result.andThen_ok]
  cases A <;> rfl
theorem val_eqn (R : Rel P O nt B F0 av0 w0 D s a w ι Θ) {t t' : TypeId} {neg ptr : Bool} (ht : if ptr then ∃ e, P.underlying t = some (.pointer e) else ∃ e, P.underlying t = some (.slice e)) {X Y : Operand} {x y : Opd} (hx : opd X = some x) (hy : opd Y = some y)
    (ho : o.op = .binOp (if neg then .neq else .eql) t X Y t') {call} {z : Slot} {e : Eff} (hr : (K.eqn neg ptr x y).run call s = some (z, e)) : e = .none ∧ Val P av0 a w ι Θ o z := by
  have hX := (R.opd hx).1
  have hY := (R.opd hy).1
  have key : ∀ (u v : Value) (r : Bool), a.eval X = u → a.eval Y = v → u.oneCell' = true → u ≠ .nilIface → (∀ op, (Go.binOp op t u v).run P w = (match op with | .eql => (do pure (.bool (← Op.equal t u v)) : Sem Value) | .neq => (do pure (.bool (!(← Op.equal t u v))) : Sem Value) | _ => Go.binOp op t u v).run P w) → (Op.equal t u v).run P w = .ok r w →
      (execOp a.eval o).run P w = .ok (.value (.bool (r != neg))) w := fun u v r hu hv h1 hn hb he => by
    cases neg with
    | false =>
      simp only [Bool.false_eq_true, if_false] at ho
      have := hb .eql
      simp only [Sem.run_bind, he, Result.andThen_ok, Sem.run_pure] at this
      rw [exec_bin ho hu hv h1 hn this]
      simp
    | true =>
      simp only [if_true] at ho
      have := hb .neq
      simp only [Sem.run_bind, he, Result.andThen_ok, Sem.run_pure] at this
      rw [exec_bin ho hu hv h1 hn this]
      simp
  have hsl : ∀ A n c, ptr = false → a.eval X = .slice A n c → a.eval Y = .slice none 0 0 → (execOp a.eval o).run P w = .ok (.value (.bool (A.isNone != neg))) w := fun A n c hp hu hv => by
    subst hp
    simp only [Bool.false_eq_true, if_false] at ht
    obtain ⟨e, ht⟩ := ht
    exact key _ _ _ hu hv rfl (by simp) (fun op => by cases op <;> simp [Go.binOp]) (eql_slice 9999 ht A n c)
  have hpt : ∀ A, ptr = true → a.eval X = .pointer A → a.eval Y = .pointer none → (execOp a.eval o).run P w = .ok (.value (.bool (A.isNone != neg))) w := fun A hp hu hv => by
    subst hp
    simp only [if_true] at ht
    obtain ⟨e, ht⟩ := ht
    exact key _ _ _ hu hv rfl (by simp) (fun op => by cases op <;> simp [Go.binOp]) (eql_ptr 9999 ht A)
  have fin : ∀ {b : Bool}, (execOp a.eval o).run P w = .ok (.value (.bool (b != neg))) w → Val P av0 a w ι Θ o ⟨.bool (b != neg), .no⟩ := fun h => ⟨_, h, by rw [repS_bool], trivial⟩
  simp only [K.run] at hr
  split at hr
  · rename_i l hyv
    rw [hyv, repS_sl] at hY
    simp only [Rep] at hY
    obtain ⟨A, c, hv, _, _, hn, _⟩ := hY
    obtain ⟨rfl, h0, rfl⟩ := hn trivial
    rw [h0] at hv
    cases hi : isNil false (x.get s) with
    | none => rw [hi] at hr; cases hr
    | some b =>
      rw [hi] at hr
      injection hr with hr; injection hr with e1 e2; subst e1; subst e2
      refine ⟨rfl, fin ?_⟩
      unfold isNil at hi
      split at hi <;> first | (exact absurd ‹false = true› (by decide)) | skip
      · rename_i l' _ hxv
        injection hi with hi; subst hi
        rw [hxv, repS_sl] at hX
        simp only [Rep] at hX
        obtain ⟨A, c, hu, _, _, hn', hs'⟩ := hX
        have := hsl _ _ _ rfl hu hv
        rw [(hn' trivial).1] at this; exact this
      · rename_i l' _ hxv
        split at hi
        · cases hi
        · rename_i hne
          injection hi with hi; subst hi
          rw [hxv, repS_sl] at hX
          simp only [Rep] at hX
          obtain ⟨A, c, hu, _, _, hn', hs'⟩ := hX
          have := hsl _ _ _ rfl hu hv
          obtain ⟨_, _, rfl, _⟩ := (hs' trivial).2 (by cases l' with | nil => simp at hne | cons => simp)
          exact this
      · rename_i l' _ hxv
        injection hi with hi; subst hi
        rw [hxv] at hX
        obtain ⟨a', c, hu, _⟩ := hX
        exact hsl _ _ _ rfl hu hv
      · rename_i hxv
        injection hi with hi; subst hi
        rw [hxv] at hX
        obtain ⟨b, _, _, hu⟩ := repS_ref.1 hX
        exact hsl _ _ _ rfl hu hv
      · cases hi
  · rename_i hyv
    rw [hyv, repS_nilP] at hY
    cases hi : isNil true (x.get s) with
    | none => rw [hi] at hr; cases hr
    | some b =>
      rw [hi] at hr
      injection hr with hr; injection hr with e1 e2; subst e1; subst e2
      refine ⟨rfl, fin ?_⟩
      unfold isNil at hi
      split at hi <;> first | (exact absurd ‹true = false› (by decide)) | skip
      · rename_i hxv
        injection hi with hi; subst hi
        rw [hxv, repS_nilP] at hX
        exact hpt _ rfl hX hY
      · rename_i hxv
        injection hi with hi; subst hi
        rw [hxv] at hX
        obtain ⟨b, _, hu⟩ := repS_ptr.1 hX
        exact hpt _ rfl hu hY
      · rename_i hxv
        injection hi with hi; subst hi
        rw [hxv] at hX
        obtain ⟨b, off, hu, _⟩ := repS_ip.1 hX
        exact hpt _ rfl hu hY
      · rename_i hxv
        injection hi with hi; subst hi
        rw [hxv] at hX
        obtain ⟨b, off, hu, _⟩ := hX
        exact hpt _ rfl hu hY
      · cases hi
  · cases hr
def KindEq (P : Program) (d : Nat) (t : TypeId) (w : World) : Nat → Value → Value → Prop
  | 0, .int j a, .int j' b => j = j' → (Op.equalIn (d + 1) t (.int j a) (.int j' b)).run P w = .ok (decide (a = b)) w
  | 1, .string a, .string b => (Op.equalIn (d + 1) t (.string a) (.string b)).run P w = .ok (decide (a = b)) w
  | 2, .bool a, .bool b => (Op.equalIn (d + 1) t (.bool a) (.bool b)).run P w = .ok (decide (a = b)) w
  | _, _, _ => True
theorem tKind_eq (d : Nat) {t : TypeId} {k : Nat} (hk : tKind P t = some k) {xs ys : Array Value} {i : Nat} {u v : Value} (hu : xs[i]? = some u) (hv : ys[i]? = some v) :
    (part t xs i).run P w = .ok u w ∧ (part t ys i).run P w = .ok v w ∧ KindEq P d t w k u v := by
  unfold tKind at hk
  split at hk
  · rename_i j ht _
    injection hk with hk
    subst hk
    refine ⟨by simp [part, isAgg, run_underlying ht, hu], by simp [part, isAgg, run_underlying ht, hv], ?_⟩
    cases u <;> cases v <;> first | trivial | skip
    rename_i j1 a j2 b
    rintro rfl
    rw [run_equalIn_int w d t j1 j a b ht]
    rfl
  · rename_i ht _
    injection hk with hk
    subst hk
    refine ⟨by simp [part, isAgg, run_underlying ht, hu], by simp [part, isAgg, run_underlying ht, hv], ?_⟩
    cases u <;> cases v <;> first | trivial | skip
    rename_i a b
    show (Op.equalIn (d + 1) t (.string a) (.string b)).run P w = _
    rw [run_equalIn_string w d t a b ht, bytes_eq]
  · rename_i ht _
    injection hk with hk
    subst hk
    refine ⟨by simp [part, isAgg, run_underlying ht, hu], by simp [part, isAgg, run_underlying ht, hv], ?_⟩
    cases u <;> cases v <;> first | trivial | skip
    rename_i a b
    show (Op.equalIn (d + 1) t (.bool a) (.bool b)).run P w = _
    rw [run_equalIn_bool' w d t a b ht]
    cases a <;> cases b <;> rfl
  · cases hk
/-- one cell: what eqC says of it -/
theorem eqC_step {k : Nat} {ks : List Nat} {x y : AV} {xs ys : List AV} {r : Bool} (h : eqC (k :: ks) (x :: xs) (y :: ys) = some r) {av : Av} {u v : Value} (hu : RepC ι av w x u) (hv : RepC ι av w y v) (d : Nat) {t : TypeId} (hk : tKind P t = some k) {us vs : Array Value} {i : Nat} (hi : us[i]? = some u) (hj : vs[i]? = some v) :
    ∃ b, (part t us i).run P w = .ok u w ∧ (part t vs i).run P w = .ok v w ∧ (Op.equalIn (d + 1) t u v).run P w = .ok b w ∧ (if b then eqC ks xs ys = some r else r = false) := by
  obtain ⟨h1, h2, h3⟩ := tKind_eq (w := w) d hk hi hj
  unfold eqC at h
  split at h
  · rename_i e _ _; cases e
  · rename_i j a r1 j' b r2 e1 e2 e3
    injection e1 with e1 e1'; injection e2 with e2 e2'; injection e3 with e3 e3'
    subst e1; subst e1'; subst e2; subst e2'; subst e3; subst e3'
    simp only [RepC, Rep] at hu hv
    subst hu; subst hv
    split at h
    · rename_i hjj
      refine ⟨_, h1, h2, h3 hjj, ?_⟩
      by_cases hab : a = b
      · rw [if_pos hab] at h; rw [if_pos (by simpa using hab)]; exact h
      · rw [if_neg hab] at h; injection h with h; rw [if_neg (by simpa using hab)]; exact h.symm
    · cases h
  · rename_i a r1 b r2 e1 e2 e3
    injection e1 with e1 e1'; injection e2 with e2 e2'; injection e3 with e3 e3'
    subst e1; subst e1'; subst e2; subst e2'; subst e3; subst e3'
    simp only [RepC, Rep] at hu hv
    subst hu; subst hv
    refine ⟨_, h1, h2, h3, ?_⟩
    by_cases hab : a = b
    · rw [if_pos hab] at h; rw [if_pos (by simpa using hab)]; exact h
    · rw [if_neg hab] at h; injection h with h; rw [if_neg (by simpa using hab)]; exact h.symm
  · rename_i a r1 b r2 e1 e2 e3
    injection e1 with e1 e1'; injection e2 with e2 e2'; injection e3 with e3 e3'
    subst e1; subst e1'; subst e2; subst e2'; subst e3; subst e3'
    simp only [RepC, Rep] at hu hv
    subst hu; subst hv
    refine ⟨_, h1, h2, h3, ?_⟩
    by_cases hab : a = b
    · rw [if_pos hab] at h; rw [if_pos (by simpa using hab)]; exact h
    · rw [if_neg hab] at h; injection h with h; rw [if_neg (by simpa using hab)]; exact h.symm
  · cases h
theorem eqC_len : ∀ {ks : List Nat} {xs ys : List AV} {r : Bool}, eqC ks xs ys = some r → ks ≠ [] → ∃ x xs' y ys', xs = x :: xs' ∧ ys = y :: ys'
  | [], _, _, _, _, h => absurd rfl h
  | k :: ks, xs, ys, r, h, _ => by
    cases xs with
    | nil => simp [eqC] at h
    | cons x xs =>
      cases ys with
      | nil => unfold eqC at h; split at h <;> simp_all
      | cons y ys => exact ⟨x, xs, y, ys, rfl, rfl⟩
theorem eqFields_run {av : Av} (d : Nat) {us vs : Array Value} : ∀ {fs : List Field} {i : Nat} {ks : List Nat} {xs ys : List AV} {r : Bool}, fieldKinds P i fs = some ks → eqC ks xs ys = some r → RepCL ι av w xs (us.toList.drop i) → RepCL ι av w ys (vs.toList.drop i) →
    (Op.eqFields (d + 1) us vs fs).run P w = .ok r w
  | [], i, ks, xs, ys, r, hk, h, _, _ => by
    injection hk with hk
    subst hk
    cases xs <;> cases ys <;> simp [eqC] at h
    subst h
    simp [Op.eqFields]
  | f :: fs, i, ks, xs, ys, r, hk, h, hx, hy => by
    unfold fieldKinds at hk
    split at hk
    · rename_i k l h1 h2
      split at hk
      · rename_i hn
        injection hk with hk
        subst hk
        obtain ⟨x, xs', y, ys', rfl, rfl⟩ := eqC_len h (by simp)
        simp only [RepCL] at hx hy
        obtain ⟨u, us', e1, hu, _, hx⟩ := hx
        obtain ⟨v, vs', e2, hv, _, hy⟩ := hy
        have g1 : us[i]? = some u := by
          have := congrArg (fun l => l[0]?) e1
          simpa [List.getElem?_drop] using this
        have g2 : vs[i]? = some v := by
          have := congrArg (fun l => l[0]?) e2
          simpa [List.getElem?_drop] using this
        obtain ⟨b, p1, p2, p3, p4⟩ := eqC_step (P := P) h hu hv d h1 g1 g2
        have d1 : us.toList.drop (i + 1) = us' := by
          have := congrArg (List.drop 1) e1
          simpa [List.drop_drop] using this
        have d2 : vs.toList.drop (i + 1) = vs' := by
          have := congrArg (List.drop 1) e2
          simpa [List.drop_drop] using this
        unfold Op.eqFields
        rw [if_pos hn.1, hn.2]
        simp only [Sem.run_bind, p1, p2, p3, Result.andThen_ok, Sem.run_ite]
        cases b with
        | true =>
          simp only [if_true] at p4
          simp only [Bool.not_true, Bool.false_eq_true, if_false]
          exact eqFields_run d h2 p4 (d1 ▸ hx) (d2 ▸ hy)
        | false =>
          simp only [Bool.false_eq_true, if_false] at p4
          simp [p4]
      · cases hk
    · cases hk
theorem eqItems_run {av : Av} (d : Nat) {us vs : Array Value} {e : TypeId} {k : Nat} (hk : tKind P e = some k) (hc : P.cellsOf e = 1) : ∀ {n i : Nat} {xs ys : List AV} {r : Bool}, eqC (List.replicate n k) xs ys = some r → RepCL ι av w xs (us.toList.drop i) → RepCL ι av w ys (vs.toList.drop i) →
    (Op.eqItems (d + 1) e (P.cellsOf e) us vs (List.range' i n)).run P w = .ok r w
  | 0, i, xs, ys, r, h, _, _ => by
    cases xs <;> cases ys <;> simp [eqC] at h
    subst h
    simp [Op.eqItems]
  | n + 1, i, xs, ys, r, h, hx, hy => by
    rw [List.replicate_succ] at h
    obtain ⟨x, xs', y, ys', rfl, rfl⟩ := eqC_len h (by simp)
    simp only [RepCL] at hx hy
    obtain ⟨u, us', e1, hu, _, hx⟩ := hx
    obtain ⟨v, vs', e2, hv, _, hy⟩ := hy
    have g1 : us[i]? = some u := by
      have := congrArg (fun l => l[0]?) e1
      simpa [List.getElem?_drop] using this
    have g2 : vs[i]? = some v := by
      have := congrArg (fun l => l[0]?) e2
      simpa [List.getElem?_drop] using this
    obtain ⟨b, p1, p2, p3, p4⟩ := eqC_step (P := P) h hu hv d hk g1 g2
    have d1 : us.toList.drop (i + 1) = us' := by
      have := congrArg (List.drop 1) e1
      simpa [List.drop_drop] using this
    have d2 : vs.toList.drop (i + 1) = vs' := by
      have := congrArg (List.drop 1) e2
      simpa [List.drop_drop] using this
    rw [List.range'_succ]
    unfold Op.eqItems
    rw [hc, Nat.mul_one]
    simp only [Sem.run_bind, p1, p2, p3, Result.andThen_ok, Sem.run_ite]
    cases b with
    | true =>
      simp only [if_true] at p4
      simp only [Bool.not_true, Bool.false_eq_true, if_false]
      have := eqItems_run d hk hc (n := n) (i := i + 1) p4 (d1 ▸ hx) (d2 ▸ hy)
      rw [hc] at this
      exact this
    | false =>
      simp only [Bool.false_eq_true, if_false] at p4
      simp [p4]
theorem val_eqa (R : Rel P O nt B F0 av0 w0 D s a w ι Θ) {t t' : TypeId} {neg : Bool} {ks : List Nat} (ht : tFlat P t = some ks) {X Y : Operand} {x y : Opd} (hx : opd X = some x) (hy : opd Y = some y)
    (ho : o.op = .binOp (if neg then .neq else .eql) t X Y t') {call} {z : Slot} {e : Eff} (hr : (K.eqa neg ks x y).run call s = some (z, e)) : e = .none ∧ Val P av0 a w ι Θ o z := by
  have hX := (R.opd hx).1
  have hY := (R.opd hy).1
  simp only [K.run] at hr
  split at hr
  · rename_i xa ya hxv hyv
    rw [hxv, repS_agg] at hX
    rw [hyv, repS_agg] at hY
    obtain ⟨us, hu, hx'⟩ := hX
    obtain ⟨vs, hv, hy'⟩ := hY
    cases hq : eqC ks xa ya with
    | none => rw [hq] at hr; cases hr
    | some r =>
      rw [hq] at hr
      injection hr with hr; injection hr with e1 e2; subst e1; subst e2
      unfold tFlat at ht
      split at ht
      · cases ht
      · rename_i hg
        have he : (Op.equal t (.agg us) (.agg vs)).run P w = .ok r w := by
          split at ht
          · rename_i n el htt
            cases hk : tKind P el with
            | none => rw [hk] at ht; cases ht
            | some k =>
              rw [hk] at ht
              injection ht with ht
              subst ht
              have hs : tSize P el = some 1 := by
                unfold tKind at hk
                split at hk <;> first | assumption | cases hk
              have hi : ∃ i, P.info? el = some i ∧ i.size = 1 := by
                unfold tSize at hs
                cases hh : P.info? el with
                | none => rw [hh] at hs; cases hs
                | some i => rw [hh] at hs; injection hs with hs; exact ⟨i, rfl, hs⟩
              obtain ⟨i, hi, hi1⟩ := hi
              have hc : P.cellsOf el = 1 := by simp [Program.cellsOf, hi, hi1]
              have := run_equalIn_array (P := P) w 9999 us vs htt hi
              rw [List.range_eq_range'] at this
              exact this.trans (eqItems_run 9998 hk hc hq (by simpa using hx') (by simpa using hy'))
          · rename_i fs htt
            split at ht
            · cases ht
            · rename_i hst
              have hf : P.fieldsOf t = fs := by simp [Program.fieldsOf, htt]
              have := run_equalIn_struct (P := P) w 9999 t us vs (by rw [hf]; exact htt) (by simpa using hst)
              rw [hf] at this
              exact this.trans (eqFields_run 9998 ht hq (by simpa using hx') (by simpa using hy'))
          · cases ht
        have hgd : ∀ op, (eqGuard op t X Y (.agg us) (.agg vs)).run P w = .ok () w := fun op => by
          have : P.eqGuardType P.depth t = false := by simpa using hg
          unfold eqGuard
          cases op <;> simp [this]
        refine ⟨rfl, .bool (r != neg), ?_, by rw [repS_bool], trivial⟩
        cases neg with
        | false =>
          simp only [Bool.false_eq_true, if_false] at ho
          simp [execOp, ho, hu, hv, hgd, Go.binOp, he]
        | true =>
          simp only [if_true] at ho
          simp [execOp, ho, hu, hv, hgd, Go.binOp, he]
  · cases hr
end
end Go.Proofs.Ytinpinjjdkilpaa
