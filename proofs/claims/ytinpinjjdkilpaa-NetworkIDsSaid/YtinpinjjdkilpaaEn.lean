/- The operations, one by one: append, calls. -/
import Derived.Test.YtinpinjjdkilpaaEm
namespace Go.Proofs.Ytinpinjjdkilpaa
open Go Go.RowKit
section
variable {P : Program} {O : Objs} {nt B : Nat} {F0 : Own} {av0 : Av} {w0 : World} {D : Nat → Prop} {s : MSt} {a : Act} {w w' : World} {ι : Ix} {Θ : Fam} {o : Oper}
def An.twice (A : An) (d : Nat) (x : An) : An := match A with
  | .own k _ => (x.strip k).strip d
  | _ => x.strip d
theorem twice_eq (A : An) (d : Nat) : (s.stripA A).strip d = s.mapAn (A.twice d) := by
  cases A with
  | own k e => simp [MSt.stripA, MSt.strip, MSt.mapAn, Slot.strip, An.twice, Function.comp_def]
  | no => rfl
  | ex => rfl
/-- what is left of the families when A's and d's are over -/
def Fam.less (Θ : Fam) (A : An) (d : Nat) : Fam := fun j => match A with
  | .own k _ => if j = d ∨ j = k then none else Θ j
  | _ => if j = d then none else Θ j
theorem less_sub {A : An} {d j : Nat} {o : Ow} (h : Θ.less A d j = some o) : Θ j = some o ∧ j ≠ d ∧ ∀ k e, A = .own k e → j ≠ k := by
  unfold Fam.less at h
  cases A with
  | own k e =>
    simp only at h
    split at h
    · cases h
    · rename_i hn; exact ⟨h, fun e => hn (.inl e), fun k' e' he => by injection he with h1; subst h1; exact fun e => hn (.inr e)⟩
  | no =>
    simp only at h
    split at h
    · cases h
    · rename_i hn; exact ⟨h, hn, fun k' e' he => by cases he⟩
  | ex =>
    simp only at h
    split at h
    · cases h
    · rename_i hn; exact ⟨h, hn, fun k' e' he => by cases he⟩
theorem less_d {A : An} {d : Nat} : Θ.less A d d = none := by
  unfold Fam.less
  cases A <;> simp
theorem less_an {A : An} {d : Nat} {Θ' : Fam} (hΘ : ∀ j o, Θ.less A d j = some o → Θ' j = some o) (x : An) (v : Value) (h : AnOk Θ x v) : AnOk Θ' (A.twice d x) v := by
  have h1 : ∀ k, x.strip k = .no ∨ (x.strip k = x ∧ ∀ j e, x = .own j e → j ≠ k) := fun k => by
    cases x with
    | no => exact .inl rfl
    | ex => exact .inr ⟨rfl, fun _ _ h => by cases h⟩
    | own j e =>
      simp only [An.strip]
      split
      · exact .inl rfl
      · rename_i hn; exact .inr ⟨rfl, fun j' e' h => by injection h with h; subst h; exact hn⟩
  have key : A.twice d x = .no ∨ (A.twice d x = x ∧ (∀ j e, x = .own j e → j ≠ d) ∧ ∀ k e', A = .own k e' → ∀ j e, x = .own j e → j ≠ k) := by
    cases A with
    | own k e' =>
      simp only [An.twice]
      rcases h1 k with h2 | ⟨h2, h3⟩
      · rw [h2]; exact .inl rfl
      · rw [h2]
        rcases h1 d with h4 | ⟨h4, h5⟩
        · exact .inl h4
        · exact .inr ⟨h4, h5, fun k' e'' he => by injection he with he; subst he; exact h3⟩
    | no => rcases h1 d with h4 | ⟨h4, h5⟩; exact .inl h4; exact .inr ⟨h4, h5, fun _ _ he => by cases he⟩
    | ex => rcases h1 d with h4 | ⟨h4, h5⟩; exact .inl h4; exact .inr ⟨h4, h5, fun _ _ he => by cases he⟩
  rcases key with h2 | ⟨h2, h3, h4⟩
  · rw [h2]; trivial
  · rw [h2]
    cases x with
    | no => trivial
    | ex => exact h
    | own j e =>
      refine h.imp id fun ⟨ow, h5, h6⟩ => ⟨ow, hΘ _ _ ?_, h6⟩
      unfold Fam.less
      cases A with
      | own k e' => simp only; rw [if_neg]; exact h5; rintro (e1 | e1); exact h3 _ _ rfl e1; exact h4 _ _ rfl _ _ rfl e1
      | no => simp only; rw [if_neg (h3 _ _ rfl)]; exact h5
      | ex => simp only; rw [if_neg (h3 _ _ rfl)]; exact h5
theorem Rel.apob (R : Rel P O nt B F0 av0 w0 D s a w ι Θ) {k : Nat} {o : Ow} {t n : Nat} {H : Nat → Prop} (h : Θ k = some o) (hH : ι.ob t n = some H) : ¬ H o.g := fun hb => ((R.obs t n H hH).1 _ hb).2.2.2.1 k o h rfl
theorem Rel.less (R : Rel P O nt B F0 av0 w0 D s a w ι Θ) (A : An) (d : Nat) : Rel P O nt B F0 av0 w0 D (s.mapAn (A.twice d)) a w ι (Θ.less A d) :=
  R.fam _ _ (fun _ _ h => h.imp id fun ⟨k, ow, h1, h2⟩ => ⟨k, ow, (less_sub h1).1, h2⟩) (less_an fun _ _ h => h) (fun k o h => R.tok k o (less_sub h).1) (fun k k' o o' h h' => R.tinj k k' o o' (less_sub h).1 (less_sub h').1) (fun k o t n h => R.apart k o t n (less_sub h).1) (fun _ _ _ _ _ h => R.apob (less_sub h).1)
theorem RepL_append {av : Av} : ∀ {xs ys : List AV} {us vs : List Value}, RepL av w xs us → RepL av w ys vs → RepL av w (xs ++ ys) (us ++ vs)
  | [], _, _, _, h, h' => by simp only [RepL] at h; subst h; exact h'
  | x :: r, _, _, _, h, h' => by
    simp only [RepL] at h
    obtain ⟨u, us', rfl, h0, h1, h⟩ := h
    exact ⟨u, us' ++ _, rfl, h0, h1, RepL_append h h'⟩
theorem RepL_one {av : Av} : ∀ {xs : List AV} {us : List Value}, RepL av w xs us → ∀ u ∈ us, u.oneCell' = true
  | [], _, h, u, hu => by simp only [RepL] at h; subst h; cases hu
  | x :: r, _, h, u, hu => by
    simp only [RepL] at h
    obtain ⟨v, us', rfl, h0, h1, h⟩ := h
    rcases List.mem_cons.1 hu with rfl | hu
    · exact h1
    · exact RepL_one h u hu
theorem op_app (R : Rel P O nt B F0 av0 w0 D s a w ι Θ) {t e : TypeId} {i : TypeInfo} {z : List AV} (ht : P.underlying t = some (.slice e)) (hi : P.info? e = some i) (hz : tZero P e = some z) (hsz : z.length = i.size) (hpos : 0 < i.size) {X Y : Operand} {x y : Opd} (hx : opd X = some x) (hy : opd Y = some y)
    (ho : o.op = .call { callee := .builtin .append, args := #[X, Y], argTypes := #[t, t] }) {d : Nat} (hdst : o.dst = some d) (hd : d < nt) {cl : Cl} {call} {xe : Slot × Eff} (hr : (K.app cl e i.size i.bytes x y).run call s = some xe) {g} {s' : MSt} (he : OpC.eff ⟨o.dst, .app cl e i.size i.bytes x y, g⟩ s xe = some s') :
    ∃ v w', (execOp a.eval o).run P w = .ok (.value v) w' ∧ RelE P O nt B F0 av0 w0 D s' (a.put o.dst v) w' := by
  obtain ⟨zv, i', hi', hiz, hzrun, hl⟩ := tZero_run hz w
  rw [hi] at hi'
  injection hi' with hi'
  subst hi'
  have hzs : zv.cells.size = i.size := by
    have := avAll_length hl
    simp only [Array.length_toList] at this
    omega
  have hX := R.opd hx
  have hY := (R.opd hy).1
  have hexec : ∀ v w', (Builtin.append_ #[t, t] o.type #[a.eval X, a.eval Y]).run P w = .ok v w' → (execOp a.eval o).run P w = .ok (.value v) w' := fun v w' h => by
    simp only [execOp, ho, resolve, invoke, builtin, Sem.run_bind, Sem.run_pure, Result.andThen_ok, List.map_toArray, List.map_cons, List.map_nil, h]
  simp only [K.run] at hr
  split at hr
  · rename_i b l m hxv hel
    split at hr
    · rename_i hcond
      obtain ⟨hbytes, hcap, hall⟩ := hcond
      have hall' : ∀ c ∈ l ++ m, c.length = i.size := fun c hc => by simpa using List.all_eq_true.1 hall c hc
      have hm' : ∀ c ∈ m, c.length = i.size := fun c hc => hall' c (List.mem_append_right _ hc)
      have hl' : ∀ c ∈ l, c.length = i.size := fun c hc => hall' c (List.mem_append_left _ hc)
      obtain ⟨news, hnews, hsl⟩ := elems_sl R hY hel hpos hm'
      rw [hxv] at hX
      have hXs := hX.1
      rw [repS_sl] at hXs
      obtain ⟨xs, hxs, hxsl⟩ := elems_sl (cl := cl) R hX.1 (m := l) rfl hpos hl'
      simp only [Rep] at hXs
      obtain ⟨A, c, hv, hlc, hu, hn, hs⟩ := hXs
      have hxlen : xs.length = l.length * i.size := hxsl.1
      have hxcell : ∀ a', A = some a' → ∀ j u, xs[j]? = some u → w.cell? (a'.add j) = some u := fun a' ha j u hj => by
        obtain ⟨_, A2, c2, hv2, _, h2⟩ := hxsl
        rw [hv] at hv2
        injection hv2 with e1 e2 e3
        subst e1
        have hp : 0 < l.length := by
          rcases Nat.eq_zero_or_pos l.length with h | h
          · rw [h] at hxlen; have := (List.getElem?_eq_some_iff.1 hj).1; omega
          · exact h
        obtain ⟨b', off, hA, _, _, hcl⟩ := h2 hp
        rw [ha] at hA
        injection hA with hA
        subst hA
        rw [Addr.add_lit]
        exact hcl j u hj
      have hmlen : news.length = m.length * i.size := hsl.1
      have hone : ∀ u ∈ news, u.oneCell' = true := RepL_one hnews
      have han : ∃ A0, x.an s = A0 ∧ (A0 = .ex ∨ ∃ k, A0 = .own k e) ∧ xe = (⟨.sl (b && m.isEmpty) (l ++ m), .own 0 e⟩, .app A0 0) := by
        cases hA0 : x.an s with
        | no => rw [hA0] at hr; cases hr
        | ex => rw [hA0] at hr; injection hr with hr; exact ⟨_, rfl, .inl rfl, hr.symm⟩
        | own k e' =>
          rw [hA0] at hr
          simp only at hr
          split at hr
          · rename_i hee; subst hee; injection hr with hr; exact ⟨_, rfl, .inr ⟨k, rfl⟩, hr.symm⟩
          · cases hr
      obtain ⟨A0, hA0, hAk, rfl⟩ := han
      simp only [OpC.eff, hdst] at he
      injection he with he
      subst he
      rw [twice_eq, hdst]
      have hXa := hX.2
      rw [hA0] at hXa
      -- what is read of the old elements and the new ones behind
      have hrep : RepL (avA av0 ι Θ) w (l ++ m).flatten (xs ++ news) := by rw [List.flatten_append]; exact RepL_append hxs hnews
      have huni : ∀ c ∈ l ++ m, ∀ c' ∈ l ++ m, c.length = c'.length := fun c hc c' hc' => (hall' c hc).trans (hall' c' hc').symm
      -- a new block
      have grow : c < l.length + m.length → ∃ v w', (execOp a.eval o).run P w = .ok (.value v) w' ∧ RelE P O nt B F0 av0 w0 D ((s.mapAn (A0.twice d)).put (some d) ⟨.sl (b && m.isEmpty) (l ++ m), .own d e⟩) (a.put (some d) v) w' := fun hlt => by
        have hrun := append_grow (P := P) (w := w) ht hi hiz o.type hxlen (fun hA => by
          cases b with
          | true => have := hn rfl; exact ⟨this.2.1, this.2.2⟩
          | false =>
            obtain ⟨h1, h2⟩ := hs rfl
            refine ⟨?_, h1 hA⟩
            rcases Nat.eq_zero_or_pos l.length with h0 | h0
            · exact h0
            · obtain ⟨_, _, ha, _⟩ := h2 h0; rw [hA] at ha; cases ha) hxcell hsl hlt hlc hcap hbytes
        rw [← hv] at hrun
        have hge := grownCap_ge w (l.length + m.length) c e
        have hcm : grownCap w (l.length + m.length) c e ≤ maxLen := grownCap_le_maxLen w (l.length + m.length) c e (by unfold maxLen; omega)
        have hsize : (xs.toArray ++ news.toArray ++ Builtin.zeroCells zv.cells (grownCap w (l.length + m.length) c e - (l.length + m.length))).size = grownCap w (l.length + m.length) c e * i.size := by
          simp only [Array.size_append, List.size_toArray, size_zeroCells, hzs, hxlen, hmlen, ← Nat.add_mul]
          congr 1
          omega
        have R1 := (R.less A0 d).fresh (d := d) less_d hsize hpos hge hcm (e := e) (by simp [tSize, hi])
        refine ⟨_, _, hexec _ _ hrun, ι, _, R1.put hd ?_ (.inr ⟨_, if_pos rfl, rfl, rfl⟩)⟩
        have hb : (b && m.isEmpty) = false := by
          cases b with
          | false => rfl
          | true =>
            have := (hn rfl)
            have : m ≠ [] := fun h => by subst h; simp at hlt; omega
            simpa using this
        show RepS _ _ _ _ (.sl (b && m.isEmpty) (l ++ m)) _
        rw [hb, repS_sl]
        simp only [Rep, List.length_append]
        refine ⟨_, _, rfl, hge, huni, (fun h => by cases h), fun _ => ⟨fun h => (by cases h), fun _ => ⟨w.heap.size, 0, rfl, ?_⟩⟩⟩
        rw [Rows_flat]
        have hheld : Held (avA av0 ι Θ) (avA av0 ι (fun j => if j = d then some ⟨w.heap.size, l.length + m.length, grownCap w (l.length + m.length) c e, i.size, e⟩ else Θ.less A0 d j)) w (grewW w xs news zv e (l.length + m.length) c) := Held.grown (fun b hb => Below.heap_alloc w.drew _ b hb) fun b' o' hb' h => h.imp id fun h => h.imp id fun ⟨k, ow, h1, h2, h3⟩ => by
          by_cases ek : k = d
          · simp only [if_pos ek] at h1; injection h1 with h1; subst h1; simp only at h2; omega
          · simp only [if_neg ek] at h1; exact ⟨k, ow, (less_sub h1).1, h2, h3⟩
        refine Cells_mk (RepL.held hheld _ _ hrep) fun j u hj => ⟨?_, fun h => ?_⟩
        · rw [Nat.zero_add]
          rw [cell_of_row _ w.heap.size j _ e (0, 0) (new_at (w := w.drew) rfl)]
          have hjl := (List.getElem?_eq_some_iff.1 hj).1
          rw [Array.getElem?_append_left (by simp only [Array.size_append, List.size_toArray]; simpa using hjl)]
          simpa using hj
        · rw [Nat.zero_add] at h
          have hjl := (List.getElem?_eq_some_iff.1 hj).1
          rw [List.length_append, hxlen, hmlen, ← Nat.add_mul] at hjl
          rcases h with h | (⟨t', n', h⟩ | ⟨t', n', H, h, hb'⟩) | ⟨k, ow, h1, h2, h3⟩
          · have := R.out _ _ h; have := R.lowB; omega
          · have := (R.mine _ _ _ h).2.1; omega
          · have := ((R.obs _ _ _ h).1 _ hb').2.1; omega
          · by_cases ek : k = d
            · simp only [if_pos ek] at h1; injection h1 with h1; subst h1; simp only at h3; omega
            · simp only [if_neg ek] at h1
              obtain ⟨_, _, _, _, cur', h5, _⟩ := R.tok _ _ (less_sub h1).1
              have := lt_of_heap h5
              omega
      -- nothing new
      have same : m = [] → exV (a.eval X) → ∃ v w', (execOp a.eval o).run P w = .ok (.value v) w' ∧ RelE P O nt B F0 av0 w0 D ((s.mapAn (A0.twice d)).put (some d) ⟨.sl (b && m.isEmpty) (l ++ m), .own d e⟩) (a.put (some d) v) w' := fun hm0 hex => by
        subst hm0
        have hrun := append_zero (P := P) (w := w) ht hi o.type (A := A) hlc hsl
        rw [← hv] at hrun
        have R1 := R.less A0 d
        refine ⟨_, _, hexec _ _ hrun, ι, _, R1.put hd ?_ (.inl hex)⟩
        have hb : (b && List.isEmpty ([] : List (List AV))) = b := by simp
        show RepS _ _ _ _ (.sl (b && List.isEmpty []) (l ++ [])) _
        rw [hb, List.append_nil]
        have hless : Held (avA av0 ι Θ) (avA av0 ι (Θ.less A0 d)) w w := Held.less fun b o h => h.imp id fun h => h.imp id fun ⟨k, ow, h1, h2⟩ => ⟨k, ow, (less_sub h1).1, h2⟩
        have hlessB : Held (avB ι Θ) (avB ι (Θ.less A0 d)) w w := Held.less fun b o h => h.imp id fun ⟨k, ow, h1, h2⟩ => ⟨k, ow, (less_sub h1).1, h2⟩
        exact RepS.held (fun _ _ _ h => h) hless hlessB _ _ hX.1
      have exact : exV (a.eval X) → ∃ v w', (execOp a.eval o).run P w = .ok (.value v) w' ∧ RelE P O nt B F0 av0 w0 D ((s.mapAn (A0.twice d)).put (some d) ⟨.sl (b && m.isEmpty) (l ++ m), .own d e⟩) (a.put (some d) v) w' := fun hex => by
        obtain ⟨A', n', hex'⟩ := hex
        rw [hv] at hex'
        injection hex' with e1 e2 e3
        rcases Nat.eq_zero_or_pos m.length with h0 | h0
        · exact same (List.eq_nil_of_length_eq_zero h0) ⟨A', n', by rw [hv, e1, e2, e3]⟩
        · exact grow (by omega)
      rcases hAk with rfl | ⟨k, rfl⟩
      · exact exact hXa
      · rcases hXa with hXa | ⟨ow, hk, hoe, hXa⟩
        · exact exact hXa
        · rw [hv] at hXa
          injection hXa with e1 e2 e3
          obtain ⟨hgB, hosz, honc, hocm, cur, hcur, hcsz⟩ := R.tok k ow hk
          rw [hoe] at hcur
          have hosz' : ow.sz = i.size := by
            have := hcsz.2
            rw [hoe] at this
            simp [tSize, hi] at this
            exact this.symm
          rcases Nat.lt_or_ge c (l.length + m.length) with hlt | hge
          · exact grow hlt
          · subst e1
            have hrun := append_room (P := P) (w := w) ht hi o.type hcur (by rw [hcsz.1, hosz']) hiz hsl hone (n := l.length) (m := m.length) (c := ow.c) (by omega)
            have hfit : l.length * i.size + news.length ≤ cur.toList.length := by
              have hcl : cur.toList.length = ow.c * i.size := by rw [Array.length_toList, hcsz.1, hosz']
              rw [hmlen, ← Nat.add_mul, hcl]
              exact Nat.mul_le_mul_right _ (by omega)
            obtain ⟨new, hnew⟩ : ∃ new, new = (cur.toList.take (l.length * i.size) ++ news ++ cur.toList.drop (l.length * i.size + news.length)).toArray := ⟨_, rfl⟩
            rw [← hnew] at hrun
            have hnl : new.size = cur.size := by
              rw [hnew]
              simp only [List.size_toArray, List.length_append, List.length_take, List.length_drop]
              simp only [Array.length_toList] at hfit ⊢
              omega
            have hn0 : ow.n * ow.sz = l.length * i.size := by rw [← e2, hosz']
            have htk : (cur.toList.take (l.length * i.size)).length = l.length * i.size := by rw [List.length_take]; omega
            have hnew1 : ∀ j, j < l.length * i.size → new[j]? = cur[j]? := fun j hj => by
              rw [hnew, List.getElem?_toArray, List.append_assoc, List.getElem?_append_left (by omega), List.getElem?_take, if_pos hj]
              simp
            have hxs' : ∀ j u, (xs ++ news)[j]? = some u → new[j]? = some u := fun j u hj => by
              rcases Nat.lt_or_ge j (l.length * i.size) with hjl | hjl
              · rw [hnew1 j hjl]
                rw [List.getElem?_append_left (by omega)] at hj
                have := hxcell _ rfl j u hj
                rw [Addr.add_lit, Nat.zero_add, cell_of_row w ow.g j cur e (0, 0) hcur] at this
                exact this
              · rw [List.getElem?_append_right (by omega), hxlen] at hj
                have hjn := (List.getElem?_eq_some_iff.1 hj).1
                rw [hnew, List.getElem?_toArray, List.append_assoc, List.getElem?_append_right (by omega), htk, List.getElem?_append_left hjn]
                exact hj
            have R1 := R.spare (new := new) hk (by rw [hoe]; exact hcur) hnl (fun j hj => hnew1 j (by omega))
            have hcur1 : (w.setRow ow.g new).heap[ow.g]? = some (.cells new e (0, 0)) := setRow_heap w ow.g cur new e (0, 0) hcur
            have hav : ∀ b o, avB ι (fun j => if j = d then some ⟨ow.g, l.length + m.length, ow.c, i.size, e⟩ else Θ.less (.own k e) d j) b o → avB ι Θ b o := fun b o h => h.imp id fun ⟨k', ow', h1, h2, h3⟩ => by
              by_cases ek : k' = d
              · simp only [if_pos ek] at h1
                injection h1 with h1
                subst h1
                refine ⟨k, ow, hk, h2, ?_⟩
                simp only [Nat.add_mul] at h3
                omega
              · simp only [if_neg ek] at h1; exact ⟨k', ow', (less_sub h1).1, h2, h3⟩
            have R2 := R1.fam (fun j => if j = d then some ⟨ow.g, l.length + m.length, ow.c, i.size, e⟩ else Θ.less (.own k e) d j) ((An.own k e).twice d) hav
              (less_an fun j o' h => by have := (less_sub h).2.1; simp only [if_neg this]; exact h)
              (fun k' o' h => by
                by_cases ek : k' = d
                · simp only [if_pos ek] at h
                  injection h with h
                  subst h
                  exact ⟨hgB, hpos, by simp only; omega, hocm, new, hcur1, by rw [hnl, hcsz.1, hosz'], by simp [tSize, hi]⟩
                · simp only [if_neg ek] at h
                  exact R1.tok k' o' (less_sub h).1)
              (fun k' k'' o' o'' h h' hg => by
                by_cases e1 : k' = d <;> by_cases e2 : k'' = d
                · rw [e1, e2]
                · simp only [if_pos e1] at h; simp only [if_neg e2] at h'
                  injection h with h; subst h
                  exact absurd (R.tinj _ _ _ _ hk (less_sub h').1 hg).symm ((less_sub h').2.2 k e rfl)
                · simp only [if_neg e1] at h; simp only [if_pos e2] at h'
                  injection h' with h'; subst h'
                  exact absurd (R.tinj _ _ _ _ (less_sub h).1 hk hg) ((less_sub h).2.2 k e rfl)
                · simp only [if_neg e1] at h; simp only [if_neg e2] at h'
                  exact R.tinj _ _ _ _ (less_sub h).1 (less_sub h').1 hg)
              (fun k' o' t' n' h => by
                by_cases ek : k' = d
                · simp only [if_pos ek] at h
                  injection h with h
                  subst h
                  exact R.apart k ow t' n' hk
                · simp only [if_neg ek] at h
                  exact R.apart k' o' t' n' (less_sub h).1)
              (fun k' o' t' n' H h hH => by
                by_cases ek : k' = d
                · simp only [if_pos ek] at h
                  injection h with h
                  subst h
                  show ¬ H ow.g
                  exact R.apob hk hH
                · simp only [if_neg ek] at h
                  exact R.apob (less_sub h).1 hH)
            have hv' : a.eval X = .slice (some ⟨ow.g, 0, none⟩) l.length ow.c := by rw [hv, e3]
            rw [← hv'] at hrun
            refine ⟨_, _, hexec _ _ hrun, ι, _, R2.put hd ?_ (.inr ⟨_, if_pos rfl, rfl, rfl⟩)⟩
            show RepS _ _ _ _ (.sl (b && m.isEmpty) (l ++ m)) _
            have hb : b = false := by
              cases b with
              | false => rfl
              | true => have := (hn rfl).1; cases this
            rw [hb, Bool.false_and, repS_sl]
            simp only [Rep, List.length_append]
            refine ⟨_, _, rfl, by omega, huni, (fun h => by cases h), fun _ => ⟨fun h => (by cases h), fun _ => ⟨ow.g, 0, rfl, ?_⟩⟩⟩
            rw [Rows_flat]
            have hheld : Held (avA av0 ι Θ) (avA av0 ι (fun j => if j = d then some ⟨ow.g, l.length + m.length, ow.c, i.size, e⟩ else Θ.less (.own k e) d j)) w (w.setRow ow.g new) := ⟨fun b' o' u hc hna => by
              refine ⟨?_, fun h => hna (h.imp id (hav b' o'))⟩
              by_cases hb' : b' = ow.g
              · subst hb'
                rw [cell_of_row _ ow.g o' new e (0, 0) hcur1]
                have : o' < l.length * i.size := by
                  rcases Nat.lt_or_ge o' (l.length * i.size) with h | h
                  · exact h
                  · exact absurd (.inr (.inr ⟨k, ow, hk, rfl, by omega⟩)) hna
                rw [hnew1 o' this, ← cell_of_row w ow.g o' cur e (0, 0) hcur]
                exact hc
              · exact (World.cell?_of_block (w := w) (a := ⟨b', o', none⟩) (setRow_other w ow.g b' new hb')).trans hc⟩
            refine Cells_mk (RepL.held hheld _ _ hrep) fun j u hj => ⟨?_, fun h => ?_⟩
            · rw [Nat.zero_add, cell_of_row _ ow.g j new e (0, 0) hcur1]
              exact hxs' j u hj
            · rw [Nat.zero_add] at h
              have hjl := (List.getElem?_eq_some_iff.1 hj).1
              rw [List.length_append, hxlen, hmlen, ← Nat.add_mul] at hjl
              rcases h with h | (⟨t', n', h⟩ | ⟨t', n', H, h, hb'⟩) | ⟨k', ow', h1, h2, h3⟩
              · have := R.out _ _ h; omega
              · exact R.apart k ow t' n' hk h
              · exact R.apob hk h hb'
              · by_cases ek : k' = d
                · simp only [if_pos ek] at h1; injection h1 with h1; subst h1; simp only at h3; omega
                · simp only [if_neg ek] at h1
                  exact absurd (R.tinj _ _ _ _ (less_sub h1).1 hk h2) ((less_sub h1).2.2 k e rfl)
    · cases hr
  · cases hr
end
end Go.Proofs.Ytinpinjjdkilpaa
