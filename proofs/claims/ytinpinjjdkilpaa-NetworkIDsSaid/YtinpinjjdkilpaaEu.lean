/- Whole functions. -/
import Derived.Test.YtinpinjjdkilpaaEt
import Derived.LoopN
namespace Go.Proofs.Ytinpinjjdkilpaa
open Go Go.RowKit
section
variable {P : Program} {O : Objs} {nt B : Nat} {F0 : Own} {av0 : Av} {w0 : World} {s s' : MSt} {a : Act} {w w' : World} {call : CallT} {lp : LpT}
def exOf : Ex → Exit
  | .nrm => .normal
  | .exit id => .exit id
  | .ret => .ret
/-- what a machine's loop says of the code's loop, at the given number of rounds -/
def LpOk (P : Program) (O : Objs) (N : Nat) (lp : LpT) : Prop :=
  ∀ (boxes : List Nat) (nt B : Nat) (F0 : Own) (av0 : Av) (w0 : World) (code : Code) (b : C) (s : MSt) (k : Ex → MSt → Option RV) (r : RV) (a : Act) (w : World) (Q : Exit → Act → World → Prop), comp P boxes nt code = some b → lp b s k = some r → RelE P O nt B F0 av0 w0 (fun _ => False) s a w →
    (∀ e s' a' w', RelE P O nt B F0 av0 w0 (fun _ => False) s' a' w' → k e s' = some r → Q (exOf e) a' w') → Code.rounds P code Q N a w
theorem code_sound (hm : P.follows .mixedOrders = true) (hcall : ∀ f args S r, call f args S = some r → CallOk P O f args S r) {N : Nat} (hlp : LpOk P O N lp) {boxes : List Nat} :
    ∀ (code : Code) (c : C) (s : MSt) (k : Ex → MSt → Option RV) (r : RV) (a : Act) (w : World) (Q : Exit → Act → World → Prop), comp P boxes nt code = some c → c.run call lp s k = some r → RelE P O nt B F0 av0 w0 (fun _ => False) s a w →
      (∀ e s' a' w', RelE P O nt B F0 av0 w0 (fun _ => False) s' a' w' → k e s' = some r → Q (exOf e) a' w') → code.wp P Q a w
  | .skip, c, s, k, r, a, w, Q, hc, hr, R, hk => by
    injection hc with hc
    subst hc
    exact wp_skip (hk .nrm s a w R hr)
  | .seq x y, c, s, k, r, a, w, Q, hc, hr, R, hk => by
    unfold comp at hc
    split at hc
    · rename_i cx cy hx hy
      injection hc with hc
      subst hc
      refine wp_seq (code_sound hm hcall hlp x cx s _ r a w _ hx hr R fun e s' a' w' R' he => ?_)
      cases e with
      | nrm => exact code_sound hm hcall hlp y cy s' k r a' w' Q hy he R' hk
      | exit id => exact hk _ _ _ _ R' he
      | ret => exact hk _ _ _ _ R' he
    · cases hc
  | .region id ops draw, c, s, k, r, a, w, Q, hc, hr, R, hk => by
    unfold comp at hc
    split at hc
    · rename_i cs hcs
      split at hc
      · rename_i hok
        injection hc with hc
        subst hc
        simp only [Bool.and_eq_true, Bool.or_eq_true] at hok
        simp only [C.run] at hr
        split at hr
        · rename_i s1 hs1
          exact region_sound hm hcall hcs hok.1 (fun h => by rcases hok.2 with h' | h'; rw [h] at h'; cases h'; exact h') R hs1 fun a' w' R' => hk .nrm _ _ _ R' hr
        · cases hr
      · cases hc
    · cases hc
  | .cond x t e, c, s, k, r, a, w, Q, hc, hr, R, hk => by
    unfold comp at hc
    split at hc
    · rename_i cx ct ce hx ht he
      injection hc with hc
      subst hc
      simp only [C.run] at hr
      split at hr
      · rename_i b hb
        have hv : a.eval x = .bool b := by
          obtain ⟨ι, Θ, R⟩ := R
          have := (R.opd hx).1
          rwa [hb, repS_bool] at this
        cases b with
        | true => exact wp_cond_true hv (code_sound hm hcall hlp t ct s k r a w Q ht (by simpa using hr) R hk)
        | false => exact wp_cond_false hv (code_sound hm hcall hlp e ce s k r a w Q he (by simpa using hr) R hk)
      · cases hr
    · cases hc
  | .block id b, c, s, k, r, a, w, Q, hc, hr, R, hk => by
    unfold comp at hc
    obtain ⟨cb, hb, rfl⟩ := Option.map_eq_some_iff.1 hc
    refine wp_block (code_sound hm hcall hlp b cb s _ r a w _ hb hr R fun e s' a' w' R' he => ?_)
    cases e with
    | nrm => exact hk _ _ _ _ R' he
    | ret => exact hk _ _ _ _ R' he
    | exit j =>
      simp only at he
      show Exit.inBlock id Q (.exit j) a' w'
      unfold Exit.inBlock
      split at he
      · rename_i e; simp only [e, if_true]; exact hk _ _ _ _ R' he
      · rename_i e; simp only [e, if_false]; exact hk _ _ _ _ R' he
  | .loop b, c, s, k, r, a, w, Q, hc, hr, R, hk => by
    unfold comp at hc
    obtain ⟨cb, hb, rfl⟩ := Option.map_eq_some_iff.1 hc
    exact wp_loop_rounds N (hlp boxes nt B F0 av0 w0 b cb s k r a w Q hb hr R hk)
  | .exit id, c, s, k, r, a, w, Q, hc, hr, R, hk => by
    injection hc with hc
    subst hc
    exact wp_exit (hk (.exit id) s a w R hr)
  | .ret, c, s, k, r, a, w, Q, hc, hr, R, hk => by
    injection hc with hc
    subst hc
    exact wp_ret (hk .ret s a w R hr)
  | .scope b, c, s, k, r, a, w, Q, hc, hr, R, hk => by
    unfold comp at hc
    refine wp_scope_straight (code_sound hm hcall hlp b c s k r a w _ hc hr R fun e s' a' w' R' he => ?_)
    have := hk _ _ _ _ R' he
    cases e <;> exact this
  | .rangeFunc .., _, _, _, _, _, _, _, hc, _, _, _ => by cases hc
  | .label _, _, _, _, _, _, _, _, hc, _, _, _ => by cases hc
  | .goto _, _, _, _, _, _, _, _, hc, _, _, _ => by cases hc
  | .refuse _, _, _, _, _, _, _, _, hc, _, _, _ => by cases hc
theorem rep_of_S {ι : Ix} {av : Av} {x : AV} {v : Value} (h : RepS ι av (fun _ _ => False) w x v) (hx : x.free = true) : Rep av w x v := by
  cases x <;> first
    | exact h
    | (simp [AV.free, AV.free0] at hx; done)
    | (obtain ⟨us, hv, hc⟩ := h
       exact ⟨us, hv, RepL_ofCL hc fun y hy => List.all_eq_true.1 hx y hy⟩)
theorem RepT_length {av : Av} : ∀ {xs : List AV} {us : List Value}, RepT av w xs us → us.length = xs.length
  | [], _, h => by simp only [RepT] at h; subst h; rfl
  | x :: r, _, h => by
    simp only [RepT] at h
    obtain ⟨u, us', rfl, _, h⟩ := h
    simp [RepT_length h]
theorem RepOs_length {p : Nat} {av : Av} : ∀ {xs : List AV} {us : List Value}, RepOs p av w xs us → us.length = xs.length
  | [], _, h => by simp only [RepOs] at h; subst h; rfl
  | x :: r, _, h => by
    simp only [RepOs] at h
    obtain ⟨u, us', rfl, _, h⟩ := h
    simp [RepOs_length h]
/-- the results, before they are named -/
def RepSL (ι : Ix) (av avb : Av) (w : World) : List AV → List Value → Prop
  | [], us => us = []
  | x :: r, us => ∃ u us', us = u :: us' ∧ RepS ι av avb w x u ∧ RepSL ι av avb w r us'
theorem RepS.toRep {ι : Ix} {av av' avb : Av} {x : AV} {v : Value} (h : RepS ι av avb w x v) (hx : x.free = true) (hav : ∀ b o, av' b o → av b o) : Rep av' w x v :=
  Rep.held (Held.less hav) _ _ (rep_of_S (free_rep (ι' := ι) h hx) hx)
theorem RepSL.toT {ι : Ix} {av av' avb : Av} (hav : ∀ b o, av' b o → av b o) : ∀ {xs : List AV} {us : List Value}, RepSL ι av avb w xs us → (∀ v ∈ xs, v.free = true) → RepT av' w xs us
  | [], _, h, _ => h
  | x :: r, _, h, hf => by
    simp only [RepSL] at h
    obtain ⟨u, us', rfl, h0, h⟩ := h
    exact ⟨u, us', rfl, h0.toRep (hf x List.mem_cons_self) hav, h.toT hav fun v hv => hf v (List.mem_cons_of_mem _ hv)⟩
theorem unname_ptr {t n : Nat} {x : AV} (h : (unname t n x).isObj = true) : x = .ptr t n 0 := by
  cases x with
  | ptr t' n' o =>
    simp only [unname] at h
    split at h
    · rename_i e; obtain ⟨rfl, rfl, rfl⟩ := e; rfl
    · cases h
  | _ => cases h
theorem unname_free {t n : Nat} {x : AV} (h : (unname t n x).free = true) : unname t n x = x := by
  cases x with
  | ptr t' n' o =>
    simp only [unname] at h
    split at h <;> cases h
  | _ => rfl
theorem RepSL.toO {ι : Ix} {av av' avb : Av} {t n p : Nat} (hp : ι t n = some p) (hav : ∀ b o, av' b o → av b o) : ∀ {xs : List AV} {us : List Value}, RepSL ι av avb w xs us → (∀ v ∈ xs, ((unname t n v).free || (unname t n v).isObj) = true) → RepOs p av' w (xs.map (unname t n)) us
  | [], _, h, _ => h
  | x :: r, _, h, hf => by
    simp only [RepSL] at h
    obtain ⟨u, us', rfl, h0, h⟩ := h
    refine ⟨u, us', rfl, ?_, h.toO hp hav fun v hv => hf v (List.mem_cons_of_mem _ hv)⟩
    have h1 := hf x List.mem_cons_self
    unfold RepO
    split
    · rename_i ho
      have := unname_ptr ho
      subst this
      obtain ⟨b, hb, hv⟩ := h0
      rw [hp] at hb
      injection hb with hb
      rw [hv, hb]
    · rename_i ho
      have hfr : (unname t n x).free = true := by
        rcases Bool.or_eq_true_iff.1 h1 with h | h
        · exact h
        · exact absurd h ho
      have hsame := unname_free hfr
      rw [hsame] at hfr ⊢
      exact h0.toRep hfr hav
def packV (us : List Value) : Value := if h : us.toArray.size = 1 then us.toArray[0] else .tuple us.toArray
theorem pack_rep {av : Av} : ∀ {xs : List AV} {us : List Value}, RepT av w xs us → Rep av w (pack xs) (packV us)
  | [], us, h => by simp only [RepT] at h; subst h; exact ⟨#[], rfl, rfl⟩
  | [x], us, h => by
    simp only [RepT] at h
    obtain ⟨u, us', rfl, h0, rfl⟩ := h
    exact h0
  | x :: y :: r, us, h => by
    have hl := RepT_length h
    have : ¬ us.toArray.size = 1 := by simp; simp at hl; omega
    unfold packV
    rw [dif_neg this]
    exact ⟨_, rfl, h⟩
theorem pack_repN {p : Nat} {av : Av} : ∀ {xs : List AV} {us : List Value}, RepOs p av w xs us → (∀ v ∈ xs, (v.free || v.isObj) = true) → RepN p av w (pack xs) (packV us)
  | [], us, h, _ => by simp only [RepOs] at h; subst h; exact ⟨#[], rfl, rfl⟩
  | [x], us, h, hf => by
    simp only [RepOs] at h
    obtain ⟨u, us', rfl, h0, rfl⟩ := h
    have := hf x List.mem_cons_self
    cases x with
    | tup vs => cases this
    | _ => exact h0
  | x :: y :: r, us, h, _ => by
    have hl := RepOs_length h
    have : ¬ us.toArray.size = 1 := by simp; simp at hl; omega
    unfold packV
    rw [dif_neg this]
    exact ⟨_, rfl, h⟩
/-- results -/
def resOne (tmps : Array Value) : ResultVar → Sem Value
  | .tmp t => pure (tmps.getD t undef)
  | .cell b t => do loadVar t (← asAddr (tmps.getD b undef))
theorem res_run {D : Nat → Prop} {ι : Ix} {Θ : Fam} (R : Rel P O nt B F0 av0 w0 D s a w ι Θ) : ∀ {rs : List ResultVar} {cs : List ResC} {vs : List AV}, compRes P rs = some cs → resC s cs = some vs →
    ∃ us, (rs.mapM (resOne a.tmps)).run P w = Result.ok us w ∧ RepSL ι (avA av0 ι Θ) (avB ι Θ) w vs us
  | [], cs, vs, h, hr => by
    injection h with h
    subst h
    injection hr with hr
    subst hr
    exact ⟨[], by simp, rfl⟩
  | .tmp t :: rs, cs, vs, h, hr => by
    unfold compRes at h
    obtain ⟨l, hl, rfl⟩ := Option.map_eq_some_iff.1 h
    simp only [resC] at hr
    obtain ⟨vs', hv, rfl⟩ := Option.map_eq_some_iff.1 hr
    obtain ⟨us, hu, hT⟩ := res_run R hl hv
    refine ⟨a.tmps.getD t undef :: us, by rw [List.mapM_cons]; simp only [resOne, Sem.run_bind, Sem.run_pure, Result.andThen_ok, hu], _, us, rfl, R.env t, hT⟩
  | .cell b t :: rs, cs, vs, h, hr => by
    unfold compRes at h
    split at h
    · rename_i ag z l hA hz hl
      injection h with h
      subst h
      simp only [resC] at hr
      split at hr
      · rename_i t' n off hb
        cases hm : s.mem t' n with
        | none => rw [hm] at hr; cases hr
        | some row =>
          rw [hm, Option.bind_some] at hr
          obtain ⟨x, hx, hr⟩ := Option.bind_eq_some_iff.1 hr
          obtain ⟨vs', hv, rfl⟩ := Option.map_eq_some_iff.1 hr
          obtain ⟨us, hu, hT⟩ := res_run R hl hv
          have hv := R.env b
          rw [hb, repS_ptr] at hv
          obtain ⟨bb, hbb, hv⟩ := hv
          obtain ⟨hnob, b', cur, ty, hb', hheap, hrow⟩ := R.rows t' n row hm
          rw [hbb] at hb'
          injection hb' with hb'
          subst hb'
          have hcell : ∀ (j : Nat) (u : Value), (cur.toList.drop off)[j]? = some u → w.cell? ⟨bb, off + j, none⟩ = some u := fun j u hu => by
            rw [cell_of_row w bb (off + j) cur ty (0, 0) hheap]
            simpa [List.getElem?_drop] using hu
          have hrep := RepCL_drop off hrow.rep
          have hi : loadI ag z ((row.map (·.v)).drop off) = some x.v := by
            cases ag with
            | true =>
              simp only [loadC, if_true] at hx
              split at hx
              · rename_i hle
                injection hx with hx
                subst hx
                simp only [loadI, if_true, List.length_drop, List.length_map]
                rw [if_pos (by omega)]
                simp [List.map_take, List.map_drop]
              · cases hx
            | false =>
              simp only [loadC, Bool.false_eq_true, if_false] at hx
              simp [loadI, List.getElem?_drop, hx]
          obtain ⟨u, hrun, hS, _⟩ := load_run (P := P) (avb := avB ι Θ) hA hz hrep hcell hi
          refine ⟨u :: us, by rw [List.mapM_cons]; simp only [resOne, Sem.run_bind, hv, asAddr, Sem.run_pure, Result.andThen_ok, hrun, hu], _, us, rfl, hS, hT⟩
      · cases hr
    · cases h
/-- the table of functions -/
structure FnOk (P : Program) (f : FuncId) (c : FnC) : Prop where
  enter : ∀ xs w, (callFunc f xs).run P w = .ok (.enter f xs) w
  fn : ∃ fn, P.funcs[f]? = some fn ∧ compF P fn = some c
theorem RepA_length {ι : Ix} {av avl : Av} : ∀ {xs : List AV} {us : List Value}, RepA ι av avl w xs us → us.length = xs.length
  | [], _, h => by simp only [RepA] at h; subst h; rfl
  | x :: r, _, h => by
    simp only [RepA] at h
    obtain ⟨u, us', rfl, _, h⟩ := h
    simp [RepA_length h]
theorem RepA_get {ι : Ix} {av avl : Av} : ∀ {xs : List AV} {us : List Value} (_ : RepA ι av avl w xs us) (t : Nat), RepS ι av avl w (xs.getD t .undef) (us.getD t undef)
  | [], _, _, _ => by simp [RepS]
  | x :: r, _, h, t => by
    simp only [RepA] at h
    obtain ⟨u, us', rfl, h0, h⟩ := h
    cases t with
    | zero => simpa using h0
    | succ t => simpa using RepA_get h t
/-- a call begins -/
theorem init_size {vs : List Value} {args : List AV} {ι : Ix} {av avl : Av} {np : Nat} (h : RepA ι av avl w args vs) (hl : args.length = np) (hn : np ≤ nt) : (vs.toArray ++ Array.replicate (nt - vs.toArray.size) undef).size = nt := by
  have := RepA_length h
  simp
  omega
theorem init_env {vs : List Value} {args : List AV} {ι ι' : Ix} {av av' avb avl : Av} {S0 : Option AV} (h : RepA ι av avl w args vs) (hι : ∀ t n b, ι t n = some b → ι' t n = some b) (hA : Held av av' w w) (hB : Held avl avb w w) (t : Nat) :
    RepS ι' av' avb w ((MSt.init args S0).env t).v ((vs.toArray ++ Array.replicate (nt - vs.toArray.size) undef).getD t undef) := by
  have h1 := RepS.held hι hA hB _ _ (RepA_get h t)
  have h2 : (vs.toArray ++ Array.replicate (nt - vs.toArray.size) undef).getD t undef = vs.getD t undef := by
    simp only [Array.getD_eq_getD_getElem?, List.getD_eq_getElem?_getD, Array.getElem?_append, List.size_toArray, List.getElem?_toArray]
    split
    · rfl
    · rename_i hge
      rw [List.getElem?_eq_none (by omega)]
      simp only [Array.getElem?_replicate]
      split <;> rfl
  rw [h2]
  exact h1
theorem init_none {vs : List Value} {args : List AV} {av : Av} {np : Nat} (h : RepA Ix.none av (fun _ _ => False) w args vs) (hav : ∀ b o, av b o → b < w.heap.size) (hl : args.length = np) (hn : np ≤ nt) :
    RelE P O nt w.heap.size ⟨fun _ => False, none⟩ av w (fun _ => False) (MSt.init args none) { tmps := vs.toArray ++ Array.replicate (nt - vs.toArray.size) undef, defers := [] } w := by
  have hB0 : ∀ b o, avB Ix.none (fun _ => none) b o → False := fun b o h => by rcases h with (⟨t, n, h⟩ | ⟨t, n, H, h, _⟩) | ⟨k, ow, h, _⟩ <;> cases h
  have hA : Held av (avA av Ix.none (fun _ => none)) w w := Held.less fun b o h => h.resolve_right (hB0 b o)
  have hB : Held (fun _ _ => False) (avB Ix.none (fun _ => none)) w w := Held.less fun b o h => hB0 b o h
  exact ⟨Ix.none, fun _ => none, rfl, init_size h hl hn, fun t => init_env h (fun _ _ _ h => h) hA hB t, fun t => trivial, fun t n r h => (by cases h), fun t n b h => (by cases h), fun _ _ _ _ _ h => (by cases h), fun _ _ h => (by cases h), fun _ _ _ _ h => (by cases h), fun _ _ _ _ h => (by cases h), hav, fun _ h => (by cases h), Keep.refl _ _, rfl, fun t n S h => (by simp [MSt.init] at h), fun t n H h => (by cases h)⟩
theorem init_some {vs : List Value} {args : List AV} {av : Av} {np p : Nat} {H : Nat → Prop} {S : AV} (h : RepA (Ix.one p) av (fun b _ => H b) w args vs) (hav : ∀ b o, av b o → b < w.heap.size) (hH : ∀ b o, H b → av b o) (hat : O.at_ S H p w) (hl : args.length = np) (hn : np ≤ nt) :
    RelE P O nt w.heap.size ⟨H, some p⟩ av w (fun _ => False) (MSt.init args (some S)) { tmps := vs.toArray ++ Array.replicate (nt - vs.toArray.size) undef, defers := [] } w := by
  obtain ⟨ι, hι⟩ : ∃ ι : Ix, ι = ⟨fun t n => if t = 0 ∧ n = 0 then some p else none, fun t n => if t = 0 ∧ n = 0 then some H else none⟩ := ⟨_, rfl⟩
  have hf : ∀ t n b, ι t n = some b → t = 0 ∧ n = 0 ∧ b = p := fun t n b h => by
    subst hι
    have h' : (if t = 0 ∧ n = 0 then some p else none) = some b := h
    split at h'
    · rename_i e; injection h' with h'; exact ⟨e.1, e.2, h'.symm⟩
    · cases h'
  have ho : ∀ t n H1, ι.ob t n = some H1 → t = 0 ∧ n = 0 ∧ H1 = H := fun t n b h => by
    subst hι
    simp only at h
    split at h
    · rename_i e; injection h with h'; exact ⟨e.1, e.2, h'.symm⟩
    · cases h
  have h0 : ι 0 0 = some p := by subst hι; rfl
  have h1 : ι.ob 0 0 = some H := by subst hι; rfl
  have hsub : ∀ t n b, Ix.one p t n = some b → ι t n = some b := fun t n b h => by subst hι; exact h
  clear hι
  have hpH := O.main hat
  have hB0 : ∀ b o, avB ι (fun _ => none) b o → H b := fun b o h => by
    rcases h with (⟨t, n, h⟩ | ⟨t, n, H1, h, hb⟩) | ⟨k, ow, h, _⟩
    · rw [(hf _ _ _ h).2.2]; exact hpH
    · rw [(ho _ _ _ h).2.2] at hb; exact hb
    · cases h
  have hA : Held av (avA av ι (fun _ => none)) w w := Held.less fun b o h => h.elim id fun h => hH b o (hB0 b o h)
  refine ⟨ι, fun _ => none, rfl, init_size h hl hn, fun t => ?_, fun t => trivial, fun t n r h => (by cases h), fun t n b h => ?_, fun t n t' n' b h h' => ?_, fun _ _ h => (by cases h), fun _ _ _ _ h => (by cases h), fun _ _ _ _ h => (by cases h), hav, fun q h => ?_, Keep.refl _ _, rfl, fun t n S1 h => ?_, fun t n H1 h => ?_⟩
  · exact init_env h hsub hA (Held.less fun b o h => hB0 b o h) t
  · obtain ⟨rfl, rfl, rfl⟩ := hf _ _ _ h
    exact ⟨.inr hpH, O.lt hat hpH, .inl (by simp [MSt.init])⟩
  · obtain ⟨rfl, rfl, _⟩ := hf _ _ _ h
    obtain ⟨rfl, rfl, _⟩ := hf _ _ _ h'
    exact ⟨rfl, rfl⟩
  · injection h with h
    subst h
    exact h0
  · simp only [MSt.init] at h
    split at h
    · rename_i e
      injection h with h
      subst h
      exact ⟨p, H, by rw [e.1, e.2]; exact h0, by rw [e.1, e.2]; exact h1, hat⟩
    · cases h
  · obtain ⟨rfl, rfl, rfl⟩ := ho _ _ _ h
    refine ⟨fun b hb => ⟨.inr hb, O.lt hat hb, fun t' n' h => ?_, fun _ _ h => (by cases h), fun t' n' H' h _ => ?_⟩, .inl (by simp [MSt.init])⟩
    · obtain ⟨rfl, rfl, _⟩ := hf _ _ _ h; exact ⟨rfl, rfl⟩
    · obtain ⟨rfl, rfl, _⟩ := ho _ _ _ h; exact ⟨rfl, rfl⟩
theorem call_sound (hm : P.follows .mixedOrders = true) {T : Nat → Option FnC} {ext : CallT} (hT : ∀ f c, T f = some c → FnOk P f c) (hext : ∀ f args S r, ext f args S = some r → CallOk P O f args S r) :
    ∀ N, (∀ f args S r, callN T ext N f args S = some r → CallOk P O f args S r) ∧ LpOk P O N (lpN T ext N)
  | 0 => by
    refine ⟨fun f args S r h => ?_, fun _ _ _ _ _ _ _ _ _ _ _ _ _ _ _ h _ _ => (by cases h)⟩
    unfold callN at h
    split at h
    · exact hext f args S r h
    · cases h
  | N + 1 => by
    obtain ⟨ih1, ih2⟩ := call_sound hm hT hext N
    refine ⟨fun f args S0 r h => ?_, fun boxes nt B F0 av0 w0 code b s k r a w Q hc h R hk => ?_⟩
    · unfold callN at h
      split at h
      · exact hext f args S0 r h
      · rename_i c hTc
        obtain ⟨henter, fn, hfn, hcF⟩ := hT f c hTc
        split at h
        · rename_i hlen
          unfold compF at hcF
          split at hcF
          · cases hcF
          · rename_i code hbody
            split at hcF
            · rename_i cc rr hcc hrr
              split at hcF
              · rename_i hcond
                injection hcF with hcF
                subst hcF
                have hnp : fn.params.size ≤ fn.ntmps := by have := hcond.2; omega
                have ending : ∀ {F0 : Own} {av : Av} {w : World} {vs : List Value} {E : Ending → World → Prop},
                    RelE P O fn.ntmps w.heap.size F0 av w (fun _ => False) (MSt.init args S0) { tmps := vs.toArray ++ Array.replicate (fn.ntmps - vs.toArray.size) undef, defers := [] } w →
                    (∀ (s' : MSt) (a' : Act) (w' : World) (ι : Ix) (Θ : Fam) (us : List Value) (xs : List AV), Rel P O fn.ntmps w.heap.size F0 av w (fun _ => False) s' a' w' ι Θ → RepSL ι (avA av ι Θ) (avB ι Θ) w' xs us → finV S0 s' xs = some r → E (.returned (packV us)) w') → Calls P f vs.toArray w E := fun {F0 av w vs E} R hE => by
                  refine calls_of_wp hfn hbody ?_
                  refine code_sound hm ih1 ih2 code cc _ _ r _ w _ hcc h R fun e s' a' w' R' he => ?_
                  have hfin : e = .nrm ∨ e = .ret := by
                    cases e with
                    | nrm => exact .inl rfl
                    | ret => exact .inr rfl
                    | exit id => cases he
                  have he' : ∃ xs, resC s' rr = some xs ∧ finV S0 s' xs = some r := by
                    rcases hfin with rfl | rfl <;> exact Option.bind_eq_some_iff.1 he
                  obtain ⟨xs, hxs, hfv⟩ := he'
                  obtain ⟨ι, Θ, R'⟩ := R'
                  obtain ⟨us, hus, hT'⟩ := res_run R' hrr hxs
                  have hres : (results fn a'.tmps).run P w' = .ok (packV us) w' := by
                    have he : results fn a'.tmps = (do let vs ← fn.results.mapM (resOne a'.tmps); pure (if h : vs.size = 1 then vs[0] else .tuple vs)) := rfl
                    rw [he, Array.mapM_eq_mapM_toList]
                    simp only [Sem.run_bind, Sem.run_map, hus, Result.andThen_ok, Sem.run_pure]
                    rfl
                  have post : a'.defers = [] ∧ ∃ v, (results fn a'.tmps).run P w' = .ok v w' ∧ E (.returned v) w' := ⟨R'.defers, _, hres, hE s' a' w' ι Θ us xs R' hT' hfv⟩
                  rcases hfin with rfl | rfl <;> exact post
                refine ⟨henter, ?_⟩
                obtain ⟨r1, r2⟩ := r
                cases S0 with
                | none =>
                  cases r2 with
                  | none =>
                    intro av w vs hav hargs
                    refine ending (init_none hargs hav hlen hnp) fun s' a' w' ι Θ us xs R' hs hfv => ?_
                    refine ⟨_, rfl, ?_, R'.kept.below⟩
                    simp only [finV] at hfv
                    split at hfv
                    · rename_i hall
                      injection hfv with hfv
                      injection hfv with hfv
                      subst hfv
                      exact pack_rep (hs.toT (fun b o h => .inl h) fun v hv => List.all_eq_true.1 hall v hv)
                    · split at hfv
                      · split at hfv
                        · split at hfv <;> cases hfv
                        · cases hfv
                      · cases hfv
                  | some S' =>
                    intro av w vs hav hargs
                    refine ending (init_none hargs hav hlen hnp) fun s' a' w' ι Θ us xs R' hs hfv => ?_
                    simp only [finV] at hfv
                    split at hfv
                    · cases hfv
                    · split at hfv
                      · rename_i t n _
                        split at hfv
                        · rename_i S hS
                          split at hfv
                          · rename_i hall
                            injection hfv with hfv
                            injection hfv with hfv1 hfv2
                            injection hfv2 with hfv2
                            subst hfv1
                            subst hfv2
                            obtain ⟨p, H, hp, hob, hat⟩ := R'.objs t n S hS
                            refine ⟨_, p, H, rfl, ?_, hat, fun b hb => (((R'.obs t n H hob).1 b hb).1).elim id False.elim, R'.kept.below⟩
                            have hall' : ∀ v ∈ xs, ((unname t n v).free || (unname t n v).isObj) = true := fun v hv => List.all_eq_true.1 hall _ (List.mem_map_of_mem hv)
                            refine pack_repN (hs.toO hp (fun b o h => ?_) hall') fun v hv => List.all_eq_true.1 hall v hv
                            rcases h with h | h
                            · exact .inl h
                            · exact .inr (.inl (.inr ⟨t, n, H, hob, h⟩))
                          · cases hfv
                        · cases hfv
                      · cases hfv
                | some S =>
                  cases r2 with
                  | none =>
                    trivial
                  | some S' =>
                    intro av w vs p H hav hH hat hargs
                    refine ending (init_some hargs hav hH hat hlen hnp) fun s' a' w' ι Θ us xs R' hs hfv => ?_
                    simp only [finV] at hfv
                    split at hfv
                    · rename_i hall
                      obtain ⟨S1, hS1, hfv⟩ := Option.map_eq_some_iff.1 hfv
                      injection hfv with hfv1 hfv2
                      injection hfv2 with hfv2
                      subst hfv1
                      subst hfv2
                      obtain ⟨p', H', hp, hob, hat'⟩ := R'.objs 0 0 S1 hS1
                      have hpp := R'.pin p rfl
                      rw [hpp] at hp
                      injection hp with hp
                      subst hp
                      refine ⟨_, H', rfl, pack_rep (hs.toT (fun b o h => ?_) fun v hv => List.all_eq_true.1 hall v hv), hat', fun b hb => (((R'.obs 0 0 H' hob).1 b hb).1).symm, R'.kept⟩
                      rcases h with h | h
                      · exact .inl h
                      · exact .inr (.inl (.inr ⟨0, 0, H', hob, h⟩))
                    · cases hfv
              · cases hcF
            · cases hcF
        · cases h
    · unfold lpN at h
      rw [rounds_succ]
      refine code_sound hm ih1 ih2 code b s _ r a w _ hc h R fun e s' a' w' R' he => ?_
      cases e with
      | nrm => exact ih2 boxes nt B F0 av0 w0 code b s' k r a' w' Q hc he R' hk
      | exit id => exact hk _ _ _ _ R' he
      | ret => exact hk _ _ _ _ R' he
end
end Go.Proofs.Ytinpinjjdkilpaa
