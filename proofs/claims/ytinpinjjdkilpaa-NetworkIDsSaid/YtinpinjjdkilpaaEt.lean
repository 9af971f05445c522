/- A region whose order is drawn. -/
import Derived.Test.YtinpinjjdkilpaaEs
import Derived.OrdersHeld
namespace Go.Proofs.Ytinpinjjdkilpaa
open Go Go.RowKit
section
variable {P : Program} {O : Objs} {nt B : Nat} {F0 : Own} {av0 : Av} {w0 : World} {s s' : MSt} {a : Act} {w w' : World} {call : CallT} {Q : Exit → Act → World → Prop}
def runIdx (call : CallT) (cs : List OpC) : List Nat → MSt → Option MSt
  | [], s => some s
  | i :: r, s => match cs[i]? with
    | some c => (c.step call s).bind (runIdx call cs r)
    | none => none
theorem runOps_idx (cs : List OpC) : ∀ (n i : Nat) (s : MSt), i + n = cs.length → runOps call (cs.drop i) s = runIdx call cs (List.range' i n) s
  | 0, i, s, h => by rw [List.drop_eq_nil_of_le (by omega)]; rfl
  | n + 1, i, s, h => by
    have hlt : i < cs.length := by omega
    rw [List.drop_eq_getElem_cons hlt, List.range'_succ]
    unfold runOps runIdx
    rw [List.getElem?_eq_getElem hlt]
    congr 1
    funext s1
    exact runOps_idx cs n (i + 1) s1 (by omega)
theorem bubble {cs : List OpC} {i : Nat} {c : OpC} (hc : cs[i]? = some c) {L2 : List Nat} : ∀ {L1 : List Nat} {s s' : MSt}, (∀ r ∈ L1, ∃ cr, cs[r]? = some cr ∧ apartC cr c = true ∧ okPair cr c = true) → runIdx call cs (L1 ++ i :: L2) s = some s' →
    ∃ s1, c.step call s = some s1 ∧ runIdx call cs (L1 ++ L2) s1 = some s'
  | [], s, s', _, h => by
    simp only [List.nil_append, runIdx, hc] at h
    obtain ⟨s1, h1, h2⟩ := Option.bind_eq_some_iff.1 h
    exact ⟨s1, h1, h2⟩
  | r :: L1, s, s', hL, h => by
    obtain ⟨cr, hr, ha, ho⟩ := hL r (List.mem_cons_self)
    simp only [List.cons_append, runIdx, hr] at h
    obtain ⟨s1, h1, h2⟩ := Option.bind_eq_some_iff.1 h
    obtain ⟨s2, h3, h4⟩ := bubble hc (fun q hq => hL q (List.mem_cons_of_mem _ hq)) h2
    obtain ⟨s1', h5, h6⟩ := commute ha ho h1 h3
    refine ⟨s1', h5, ?_⟩
    simp only [List.cons_append, runIdx, hr, h6, Option.bind_some]
    exact h4
theorem mem_edges {o : Oper} {e : Nat} : e ∈ edgesOf o ↔ ∃ d ∈ o.after, Region.binds .any d = true ∧ d.on = e := by
  unfold edgesOf
  rw [List.mem_filterMap]
  constructor
  · rintro ⟨d, hd, h⟩
    split at h
    · rename_i hb; injection h with h; exact ⟨d, by simpa using hd, hb, h⟩
    · cases h
  · rintro ⟨d, hd, hb, rfl⟩
    exact ⟨d, by simpa using hd, by rw [if_pos hb]⟩
theorem bf_spec {ops : List Oper} {bf : List Nat} (h : bfOk ops bf = true) {i : Nat} {o : Oper} (ho : ops[i]? = some o) : (∀ e ∈ edgesOf o, e < i) ∧ ∀ r, r < i → (bf.getD i 0).testBit r = true → ∃ e ∈ edgesOf o, e = r ∨ (r < e ∧ (bf.getD e 0).testBit r = true) := by
  have hi := (List.getElem?_eq_some_iff.1 ho).1
  have h1 := List.all_eq_true.1 h i (List.mem_range.2 hi)
  rw [ho] at h1
  simp only [Bool.and_eq_true] at h1
  refine ⟨fun e he => by simpa using List.all_eq_true.1 h1.1 e he, fun r hr hb => ?_⟩
  have h2 := List.all_eq_true.1 h1.2 r (List.mem_range.2 hr)
  simp only [hb, Bool.not_true, Bool.false_or, List.any_eq_true, Bool.or_eq_true, beq_iff_eq, Bool.and_eq_true, decide_eq_true_eq] at h2
  exact h2
/-- whom the bits name is listed -/
theorem bf_listed {ops : List Oper} {bf : List Nat} (h : bfOk ops bf = true) {L : List Nat} (hcl : ∀ (j : Nat) (o : Oper), ops[j]? = some o → j ∉ L → ∀ e ∈ edgesOf o, e ∉ L) : ∀ (n i : Nat) (o : Oper), i < n → ops[i]? = some o → (∀ e ∈ edgesOf o, e ∉ L) → ∀ r, r < i → (bf.getD i 0).testBit r = true → r ∉ L
  | 0, i, o, hn, _, _, _, _, _ => by omega
  | n + 1, i, o, hn, ho, hed, r, hr, hb => by
    obtain ⟨h1, h2⟩ := bf_spec h ho
    obtain ⟨e, he, hor⟩ := h2 r hr hb
    rcases hor with rfl | ⟨hre, hbe⟩
    · exact hed _ he
    · have hei := h1 e he
      have hlt : i < ops.length := (List.getElem?_eq_some_iff.1 ho).1
      have hoe : ops[e]? = some ops[e] := List.getElem?_eq_getElem (by omega)
      exact bf_listed h hcl n e _ (by omega) hoe (hcl e _ hoe (hed e he)) r hre hbe
theorem draw_pair {ops : List Oper} {cs : List OpC} (h : drawOk ops cs = true) {i j : Nat} (hj : j < ops.length) (hij : i < j) (hb : ((befores ops).getD j 0).testBit i = false) : ∃ x y, cs[i]? = some x ∧ cs[j]? = some y ∧ apartC x y = true ∧ okPair x y = true := by
  unfold drawOk at h
  simp only [Bool.and_eq_true] at h
  have h1 := List.all_eq_true.1 h.2 j (List.mem_range.2 hj)
  have h2 := List.all_eq_true.1 h1 i (List.mem_range.2 hij)
  rw [hb, Bool.false_or] at h2
  split at h2
  · rename_i x y hx hy
    simp only [Bool.and_eq_true] at h2
    exact ⟨x, y, hx, hy, h2.1, h2.2⟩
  · cases h2
theorem any_sound {ops : Array Oper} {cs : List OpC} (hcall : ∀ f args S r, call f args S = some r → CallOk P O f args S r) (hok : ∀ (i : Nat) (o : Oper), ops[i]? = some o → ∃ c, cs[i]? = some c ∧ OpOk P nt ops o c) (hlen : cs.length = ops.size) (hf : freshOk cs = true) (hdr : drawOk ops.toList cs = true) (s' : MSt)
    (hQ : ∀ a' w', RelE P O nt B F0 av0 w0 (fun _ => True) s' a' w' → Q .normal a' w') :
    ∀ (fuel : Nat) (L : List Nat) (listed : Array Bool) (s : MSt) (a : Act) (w : World), L.length = fuel → (∀ i, i < ops.size → (listed.getD i true = false ↔ i ∈ L)) → listed.size = ops.size → L.Pairwise (· < ·) → (∀ i ∈ L, i < ops.size) →
      (∀ (j : Nat) (o : Oper), ops.toList[j]? = some o → j ∉ L → ∀ e ∈ edgesOf o, e ∉ L) → RelE P O nt B F0 av0 w0 (fun t => ∃ j c, j ∉ L ∧ cs[j]? = some c ∧ c.dst = some t) s a w → runIdx call cs L s = some s' → wpAny P .any ops Q fuel listed a w
  | 0, L, listed, s, a, w, hl, hlist, hsz, _, _, _, R, hr => by
    have : L = [] := List.eq_nil_of_length_eq_zero hl
    subst this
    injection hr with hr
    subst hr
    refine ⟨?_, ?_⟩
    · refine List.eq_nil_iff_forall_not_mem.2 fun i hi => ?_
      obtain ⟨hun, o, ho, _⟩ := mem_ready.1 hi
      have hi' := (Array.getElem?_eq_some_iff.1 ho).1
      have := (hlist i hi').1 hun
      cases this
    · obtain ⟨ι, Θ, R⟩ := R
      exact hQ a w ⟨ι, Θ, R.more fun _ _ => trivial⟩
  | fuel + 1, L, listed, s, a, w, hl, hlist, hsz, hsort, hin, hcl, R, hr => by
    have hbf : bfOk ops.toList (befores ops.toList) = true := by
      unfold drawOk at hdr
      simp only [Bool.and_eq_true] at hdr
      exact hdr.1
    refine ⟨fun hnone => ?_, fun i hi => ?_⟩
    · exfalso
      cases L with
      | nil => simp at hl
      | cons i0 L0 =>
        have hi0 := hin i0 (List.mem_cons_self)
        have ho : ops.toList[i0]? = some ops[i0] := by simp [hi0]
        have hmem : i0 ∈ Region.ready .any ops listed := by
          refine mem_ready.2 ⟨(hlist i0 hi0).2 (List.mem_cons_self), ops[i0], Array.getElem?_eq_getElem hi0, fun e he hb => ?_⟩
          have hlt := (bf_spec hbf ho).1 e.on (mem_edges.2 ⟨e, he, hb, rfl⟩)
          have hnot : e.on ∉ i0 :: L0 := fun hm => by
            rcases List.mem_cons.1 hm with h | h
            · omega
            · have := (List.pairwise_cons.1 hsort).1 _ h; omega
          have h1 : listed.getD e.on true ≠ false := fun h => hnot ((hlist e.on (by omega)).1 h)
          have hs : e.on < listed.size := by omega
          simp only [Array.getD_eq_getD_getElem?, Array.getElem?_eq_getElem hs, Option.getD_some] at h1 ⊢
          simpa using h1
        rw [hnone] at hmem
        cases hmem
    · obtain ⟨hun, o, ho, hed⟩ := mem_ready.1 hi
      have hi' := (Array.getElem?_eq_some_iff.1 ho).1
      have hiL := (hlist i hi').1 hun
      have hol : ops.toList[i]? = some o := by simpa using ho
      have hedL : ∀ e ∈ edgesOf o, e ∉ L := fun e he => by
        obtain ⟨d, hd, hb, rfl⟩ := mem_edges.1 he
        have h1 := hed d hd hb
        intro hm
        have hlt := hin _ hm
        have h2 := (hlist _ hlt).2 hm
        have hs : d.on < listed.size := by omega
        simp only [Array.getD_eq_getD_getElem?, Array.getElem?_eq_getElem hs, Option.getD_some] at h1 h2
        rw [h1] at h2
        cases h2
      obtain ⟨L1, L2, rfl⟩ := List.append_of_mem hiL
      obtain ⟨c, hc, ok⟩ := hok i o ho
      have hsort' := List.pairwise_append.1 hsort
      have hL1 : ∀ r ∈ L1, ∃ cr, cs[r]? = some cr ∧ apartC cr c = true ∧ okPair cr c = true := fun r hr => by
        have hri : r < i := hsort'.2.2 r hr i (List.mem_cons_self)
        have hbit : ((befores ops.toList).getD i 0).testBit r = false := by
          cases hb : ((befores ops.toList).getD i 0).testBit r with
          | false => rfl
          | true => exact absurd (List.mem_append_left _ hr) (bf_listed hbf hcl (i + 1) i o (by omega) hol hedL r hri hb)
        obtain ⟨x, y, hx, hy, h1, h2⟩ := draw_pair hdr (by simpa using hi') hri hbit
        rw [hc] at hy
        injection hy with hy
        subst hy
        exact ⟨x, hx, h1, h2⟩
      obtain ⟨s1, h1, h2⟩ := bubble hc hL1 hr
      have hnd : i ∉ L1 ++ L2 := fun hm => by
        rcases List.mem_append.1 hm with h | h
        · have := hsort'.2.2 i h i (List.mem_cons_self); omega
        · have := (List.pairwise_cons.1 hsort'.2.1).1 i h; omega
      have hsub : ∀ j, j ∉ L1 ++ i :: L2 ↔ (j ∉ L1 ++ L2 ∧ j ≠ i) := fun j => by
        simp only [List.mem_append, List.mem_cons, not_or]
        exact ⟨fun ⟨h1, h2, h3⟩ => ⟨⟨h1, h3⟩, h2⟩, fun ⟨⟨h1, h3⟩, h2⟩ => ⟨h1, h2, h3⟩⟩
      refine step_sound R hcall ho ok (fun d hd hA ⟨j, c', hj, hc', hd'⟩ => ?_) h1 fun a' w' R' => ?_
      · have : j ≠ i := ((hsub j).1 hj).2
        exact fresh_spec hf hc' hc this hA (by rw [hd', ok.dst, hd])
      · refine any_sound hcall hok hlen hf hdr s' hQ fuel (L1 ++ L2) (listed.setIfInBounds i true) s1 a' w' (by simp at hl ⊢; omega) (fun j hj => ?_) (by simpa using hsz) ?_ (fun j hj => hin j ?_) (fun j o' ho' hj e he hm => ?_) ?_ h2
        · have hjs : j < listed.size := by omega
          by_cases e : i = j
          · subst e
            simp only [Array.getD_eq_getD_getElem?, Array.getElem?_setIfInBounds, if_true, hjs, Option.getD_some]
            exact ⟨fun h => by simp at h, fun h => absurd h hnd⟩
          · simp only [Array.getD_eq_getD_getElem?, Array.getElem?_setIfInBounds, if_neg e]
            have := hlist j hj
            simp only [Array.getD_eq_getD_getElem?] at this
            rw [this]
            simp only [List.mem_append, List.mem_cons]
            exact ⟨fun h => by rcases h with h | h | h; exact .inl h; exact absurd h.symm e; exact .inr h, fun h => by rcases h with h | h; exact .inl h; exact .inr (.inr h)⟩
        · exact List.pairwise_append.2 ⟨hsort'.1, (List.pairwise_cons.1 hsort'.2.1).2, fun x hx y hy => hsort'.2.2 x hx y (List.mem_cons_of_mem _ hy)⟩
        · rcases List.mem_append.1 hj with h | h
          · exact List.mem_append_left _ h
          · exact List.mem_append_right _ (List.mem_cons_of_mem _ h)
        · have hm' : e ∈ L1 ++ i :: L2 := by
            rcases List.mem_append.1 hm with h | h
            · exact List.mem_append_left _ h
            · exact List.mem_append_right _ (List.mem_cons_of_mem _ h)
          by_cases e' : j = i
          · subst e'
            rw [hol] at ho'
            injection ho' with ho'
            subst ho'
            exact hedL e he hm'
          · exact hcl j o' ho' ((hsub j).2 ⟨hj, e'⟩) e he hm'
        · obtain ⟨ι, Θ, R'⟩ := R'
          refine ⟨ι, Θ, R'.more fun t ht => ?_⟩
          rcases ht with ⟨j, c', hj, hc', hd'⟩ | ht
          · exact ⟨j, c', ((hsub j).1 hj).1, hc', hd'⟩
          · exact ⟨i, c, hnd, hc, by rw [ok.dst, ht]⟩
/-- a region -/
theorem region_sound (hm : P.follows .mixedOrders = true) (hcall : ∀ f args S r, call f args S = some r → CallOk P O f args S r) {boxes : List Nat} {id : Nat} {ops : Array Oper} {draw : Bool} {cs : List OpC} (hc : compOps P boxes nt ops.toList draw ops.toList = some cs) (hf : freshOk cs = true) (hd : draw = true → drawOk ops.toList cs = true)
    (R : RelE P O nt B F0 av0 w0 (fun _ => False) s a w) (hr : runOps call cs s = some s') (hQ : ∀ a' w', RelE P O nt B F0 av0 w0 (fun _ => False) { s' with next := s'.next + 1 } a' w' → Q .normal a' w') : (Code.region id ops draw).wp P Q a w := by
  obtain ⟨hlen, hget⟩ := compOps_get hc
  have hlen' : cs.length = ops.size := by simpa using hlen
  have hok : ∀ (i : Nat) (o : Oper), ops[i]? = some o → ∃ c, cs[i]? = some c ∧ OpOk P nt ops o c := fun i o ho => by
    have := hget i o (by simpa using ho)
    rw [Array.toArray_toList] at this
    exact this
  have hQ' : ∀ a' w', RelE P O nt B F0 av0 w0 (fun _ => True) s' a' w' → Q .normal a' w' := fun a' w' h => hQ a' w' h.next
  cases draw with
  | false =>
    refine wp_region ?_
    rw [List.range_eq_range']
    refine ops_sound hcall hok hlen' hf ops.size 0 s s' a w (by omega) ?_ (by simpa using hr) hQ'
    obtain ⟨ι, Θ, R⟩ := R
    exact ⟨ι, Θ, R.more fun _ h => h.elim⟩
  | true =>
    refine wp_region_any hm ?_
    have hrun : runIdx call cs (List.range' 0 ops.size) s = some s' := by
      rw [← hlen', ← runOps_idx cs cs.length 0 s (by omega)]
      simpa using hr
    refine any_sound hcall hok hlen' hf (hd rfl) s' hQ' ops.size (List.range' 0 ops.size) _ s a _ (by simp) (fun i hi => ?_) (by simp) List.pairwise_lt_range' (fun i hi => ?_) (fun j o ho hj => ?_) ?_ hrun
    · simp [hi]
    · simpa using hi
    · have := (List.getElem?_eq_some_iff.1 ho).1
      exact absurd (by simpa using this) (by simpa using hj)
    · obtain ⟨ι, Θ, R⟩ := R
      exact ⟨ι, Θ, (R.grow (w' := w.drew) (fun _ _ => rfl) (Nat.le_refl _) R.kept.drew).more fun _ h => h.elim⟩
end
end Go.Proofs.Ytinpinjjdkilpaa
