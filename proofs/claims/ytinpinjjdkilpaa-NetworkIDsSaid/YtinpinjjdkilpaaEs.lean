/- A region: whatever order the model draws, it gives what the machine gives. -/
import Derived.Test.YtinpinjjdkilpaaEp
import Derived.Test.YtinpinjjdkilpaaEr
namespace Go.Proofs.Ytinpinjjdkilpaa
open Go Go.RowKit
section
variable {P : Program} {O : Objs} {nt B : Nat} {F0 : Own} {av0 : Av} {w0 : World} {s s' : MSt} {a : Act} {w w' : World} {call : CallT} {Q : Exit → Act → World → Prop}
/-- an operation and its translation -/
structure OpOk (P : Program) (nt : Nat) (ops : Array Oper) (o : Oper) (c : OpC) : Prop where
  dst : c.dst = o.dst
  op : ∃ cl, compOp P cl o.op = some c.op
  lt : ∀ d, o.dst = some d → d < nt
  guard : match o.guard with
    | none => c.guard = none
    | some (g, want) => ∃ t, (ops[g]?).bind (·.dst) = some t ∧ c.guard = some (t, want)
theorem compOps_get {boxes : List Nat} {all : List Oper} {draw : Bool} : ∀ {ops : List Oper} {cs : List OpC}, compOps P boxes nt all draw ops = some cs → cs.length = ops.length ∧ ∀ (i : Nat) (o : Oper), ops[i]? = some o → ∃ c, cs[i]? = some c ∧ OpOk P nt all.toArray o c
  | [], cs, h => by injection h with h; subst h; exact ⟨rfl, fun i o ho => by simp at ho⟩
  | o :: r, cs, h => by
    unfold compOps at h
    split at h
    · rename_i k l hk hl
      split at h
      · rename_i hlt
        have hlt' : ∀ d, o.dst = some d → d < nt := fun d hd => by rw [hd] at hlt; simpa [dstOk] using hlt
        obtain ⟨h1, h2⟩ := compOps_get hl
        have fin : ∀ c, cs = c :: l → OpOk P nt all.toArray o c → cs.length = (o :: r).length ∧ ∀ (i : Nat) (o' : Oper), (o :: r)[i]? = some o' → ∃ c, cs[i]? = some c ∧ OpOk P nt all.toArray o' c := fun c e hc => by
          subst e
          refine ⟨by simp [h1], fun i o' ho => ?_⟩
          cases i with
          | zero => simp at ho; subst ho; exact ⟨c, rfl, hc⟩
          | succ i => simpa using h2 i o' (by simpa using ho)
        cases hg : o.guard with
        | none =>
          simp only [hg] at h
          injection h with h
          exact fin _ h.symm ⟨rfl, ⟨_, hk⟩, hlt', by rw [hg]⟩
        | some p =>
          obtain ⟨g, want⟩ := p
          simp only [hg] at h
          split at h
          · rename_i t ht
            injection h with h
            exact fin _ h.symm ⟨rfl, ⟨_, hk⟩, hlt', by rw [hg]; exact ⟨t, by simpa using ht, rfl⟩⟩
          · cases h
      · cases h
    · cases h
theorem step_sound {D : Nat → Prop} (R : RelE P O nt B F0 av0 w0 D s a w) (hcall : ∀ f args S r, call f args S = some r → CallOk P O f args S r) {ops : Array Oper} {i : Nat} {o : Oper} {c : OpC} (ho : ops[i]? = some o) (ok : OpOk P nt ops o c) (hD : ∀ d, o.dst = some d → (isA c.op || isO c.op) = true → ¬ D d) (hs : c.step call s = some s')
    {Kn : Act → World → Prop} (hK : ∀ a' w', RelE P O nt B F0 av0 w0 (fun t => D t ∨ o.dst = some t) s' a' w' → Kn a' w') : wpOp P ops Q i Kn a w := by
  obtain ⟨ι, Θ, R⟩ := R
  obtain ⟨cl, hop⟩ := ok.op
  obtain ⟨cd, cop, cg⟩ := c
  have hdst : cd = o.dst := ok.dst
  subst hdst
  have main : cop.run call s ≠ none → (cop.run call s).bind (OpC.eff ⟨o.dst, cop, cg⟩ s) = some s' → o.wp P a w Kn Q := fun _ h => by
    obtain ⟨xe, hx, he⟩ := Option.bind_eq_some_iff.1 h
    exact op_sound R hcall hop ok.lt hD hx he hK
  have main' : (cop.run call s).bind (OpC.eff ⟨o.dst, cop, cg⟩ s) = some s' → o.wp P a w Kn Q := fun h => main (fun e => by rw [e] at h; cases h) h
  unfold wpOp
  simp only [ho]
  have hun : RepS ι (avA av0 ι Θ) (avB ι Θ) w (.tup []) undef := ⟨#[], rfl, rfl⟩
  have hg := ok.guard
  cases hgo : o.guard with
  | none =>
    rw [hgo] at hg
    simp only at hg
    subst hg
    have : Region.wanted o (yielded ops a.tmps) = true := by simp [Region.wanted, hgo]
    rw [if_pos this]
    exact .inl (main' hs)
  | some p =>
    obtain ⟨g, want⟩ := p
    rw [hgo] at hg
    obtain ⟨t, ht, hg⟩ := hg
    simp only at hg
    subst hg
    unfold OpC.step at hs
    simp only at hs
    split at hs
    · rename_i b hb
      have hr := R.env t
      rw [hb, repS_bool] at hr
      have hy : yielded ops a.tmps g = some b := by
        unfold yielded
        rw [ht]
        simp only [Option.bind_some]
        rw [Array.getD_eq_getD_getElem?] at hr
        cases hh : a.tmps[t]? with
        | none => rw [hh] at hr; simp [undef] at hr
        | some v => rw [hh] at hr; simp only [Option.getD_some] at hr; subst hr; rfl
      have hw : Region.wanted o (yielded ops a.tmps) = (b == want) := by
        simp only [Region.wanted, hgo, hy]
        cases b <;> cases want <;> rfl
      rw [hw]
      split at hs
      · rename_i e
        subst e
        rw [if_pos (by simp)]
        exact .inl (main' hs)
      · rename_i e
        injection hs with hs
        subst hs
        rw [if_neg (by simpa using e)]
        exact hK _ _ ⟨ι, Θ, (R.putN ok.lt (x := ⟨.tup [], .no⟩) hun trivial).more fun _ h => .inl h⟩
    · rename_i hb
      have hr := R.env t
      rw [hb] at hr
      obtain ⟨us, hv, hus⟩ := hr
      have hy : yielded ops a.tmps g = none := by
        unfold yielded
        rw [ht]
        simp only [Option.bind_some]
        rw [Array.getD_eq_getD_getElem?] at hv
        cases hh : a.tmps[t]? with
        | none => rfl
        | some v => rw [hh] at hv; simp only [Option.getD_some] at hv; subst hv; rfl
      have hw : Region.wanted o (yielded ops a.tmps) = false := by
        simp only [Region.wanted, hgo, hy]
        cases want <;> rfl
      rw [hw]
      injection hs with hs
      subst hs
      rw [if_neg (by decide)]
      exact hK _ _ ⟨ι, Θ, (R.putN ok.lt (x := ⟨.tup [], .no⟩) hun trivial).more fun _ h => .inl h⟩
    · cases hs
theorem RelE.next {D : Nat → Prop} (R : RelE P O nt B F0 av0 w0 D s a w) : RelE P O nt B F0 av0 w0 (fun _ => False) { s with next := s.next + 1 } a w := by
  obtain ⟨ι, Θ, R⟩ := R
  exact ⟨ι, Θ, R.defers, R.size, R.env, R.ann, R.rows, fun t n b h => let ⟨h1, h2, h3⟩ := R.mine t n b h; ⟨h1, h2, .inl (by rcases h3 with h | h <;> simp only <;> omega)⟩, R.inj, R.tok, R.tinj, R.apart, R.out, R.pin, R.kept, R.base, R.objs, fun t n H h => let ⟨h1, h2⟩ := R.obs t n H h; ⟨h1, .inl (by rcases h2 with h | h <;> simp only <;> omega)⟩⟩
theorem fresh_spec {cs : List OpC} (h : freshOk cs = true) {i j : Nat} {x y : OpC} (hx : cs[i]? = some x) (hy : cs[j]? = some y) (hne : i ≠ j) (hA : (isA y.op || isO y.op) = true) : x.dst ≠ y.dst := by
  have hj := (List.getElem?_eq_some_iff.1 hy).1
  have hi := (List.getElem?_eq_some_iff.1 hx).1
  have h1 := List.all_eq_true.1 h j (List.mem_range.2 hj)
  rw [hy] at h1
  simp only [hA, Bool.not_true, Bool.false_or] at h1
  have h2 := List.all_eq_true.1 h1 i (List.mem_range.2 hi)
  rw [hx] at h2
  simp only [Bool.or_eq_true] at h2
  rcases h2 with h2 | h2
  · exact absurd (by simpa using h2) hne
  · simpa using h2
/-- operations one behind the other -/
theorem ops_sound {ops : Array Oper} {cs : List OpC} (hcall : ∀ f args S r, call f args S = some r → CallOk P O f args S r) (hok : ∀ (i : Nat) (o : Oper), ops[i]? = some o → ∃ c, cs[i]? = some c ∧ OpOk P nt ops o c) (hlen : cs.length = ops.size) (hf : freshOk cs = true) :
    ∀ (n i : Nat) (s s' : MSt) (a : Act) (w : World), i + n = ops.size → RelE P O nt B F0 av0 w0 (fun t => ∃ j c, j < i ∧ cs[j]? = some c ∧ c.dst = some t) s a w → runOps call (cs.drop i) s = some s' →
      (∀ a' w', RelE P O nt B F0 av0 w0 (fun _ => True) s' a' w' → Q .normal a' w') → wpOps P ops Q (List.range' i n) a w
  | 0, i, s, s', a, w, hi, R, hr, hQ => by
    have : cs.drop i = [] := List.drop_eq_nil_of_le (by omega)
    rw [this] at hr
    injection hr with hr
    subst hr
    obtain ⟨ι, Θ, R⟩ := R
    exact hQ a w ⟨ι, Θ, R.more fun _ _ => trivial⟩
  | n + 1, i, s, s', a, w, hi, R, hr, hQ => by
    have hlt : i < ops.size := by omega
    obtain ⟨c, hc, ok⟩ := hok i ops[i] (Array.getElem?_eq_getElem hlt)
    have hcl : i < cs.length := by omega
    have hci : cs[i] = c := (List.getElem?_eq_some_iff.1 hc).2
    rw [List.drop_eq_getElem_cons hcl, hci] at hr
    unfold runOps at hr
    obtain ⟨s1, h1, h2⟩ := Option.bind_eq_some_iff.1 hr
    rw [List.range'_succ, wpOps_cons]
    refine step_sound R hcall (Array.getElem?_eq_getElem hlt) ok (fun d hd hA ⟨j, c', hj, hc', hd'⟩ => ?_) h1 fun a' w' R' => ?_
    · exact fresh_spec hf hc' hc (by omega) hA (by rw [hd', ok.dst, hd])
    · refine ops_sound hcall hok hlen hf n (i + 1) s1 s' a' w' (by omega) ?_ h2 hQ
      obtain ⟨ι, Θ, R'⟩ := R'
      refine ⟨ι, Θ, R'.more fun t ht => ?_⟩
      rcases ht with ⟨j, c', hj, hc', hd'⟩ | ht
      · exact ⟨j, c', by omega, hc', hd'⟩
      · exact ⟨i, c, by omega, hc, by rw [ok.dst, ht]⟩
end
end Go.Proofs.Ytinpinjjdkilpaa
