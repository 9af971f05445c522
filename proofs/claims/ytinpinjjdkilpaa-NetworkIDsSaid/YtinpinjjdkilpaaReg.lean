/- A region that draws its order, walked by hand: what only reads comes first, at once; what makes or writes memory in each order that is left. S: what is known of the world as long as something is still to come; t: the one operation that waits for all others, behind which S need not hold. -/
import Derived.Test.YtinpinjjdkilpaaLib
import Derived.OrdersHeld
namespace Go.Proofs.Ytinpinjjdkilpaa
open Go.RowKit
section
variable {P : Program} {ops : Array Oper} {Q : Exit → Act → World → Prop} {md : Region.Mode} {S : World → Prop} {t : Nat}
/-- Whatever order comes; S holds behind each operation but t. -/
def RT (P : Program) (md : Region.Mode) (ops : Array Oper) (Q : Exit → Act → World → Prop) (S : World → Prop) (t : Nat) : Nat → Array Bool → Act → World → Prop
  | 0, listed, a, w => Region.ready md ops listed = [] ∧ Q .normal a w
  | fuel + 1, listed, a, w =>
    (Region.ready md ops listed = [] → Q .normal a w) ∧
    ∀ i ∈ Region.ready md ops listed, wpOp P ops Q i (fun a' w' => (i ≠ t → S w') ∧ RT P md ops Q S t fuel (listed.setIfInBounds i true) a' w') a w
/-- operation t waits for all others -/
def lastB (md : Region.Mode) (ops : Array Oper) (t : Nat) : Bool := (List.range ops.size).all fun i => i == t || ((ops[t]?).map fun o => o.after.any fun e => Region.binds md e && e.on == i).getD true
theorem lastB_spec (h : lastB md ops t = true) {i : Nat} (hi : i < ops.size) (hne : i ≠ t) {o : Oper} (ho : ops[t]? = some o) : ∃ e ∈ o.after, Region.binds md e = true ∧ e.on = i := by
  have h1 := List.all_eq_true.1 h i (List.mem_range.2 hi)
  simp only [ho, Option.map_some, Option.getD_some, Bool.or_eq_true, beq_iff_eq, hne, false_or] at h1
  obtain ⟨j, hj, h2⟩ := Array.any_eq_true.1 h1
  simp only [Bool.and_eq_true, beq_iff_eq] at h2
  exact ⟨_, Array.getElem_mem hj, h2.1, h2.2⟩
theorem RT.any : ∀ (fuel : Nat) (listed : Array Bool) (a : Act) (w : World), RT P md ops Q S t fuel listed a w → wpAny P md ops Q fuel listed a w
  | 0, _, _, _, h => h
  | fuel + 1, _, _, _, h => ⟨h.1, fun i hi => wpOp_mono (fun a' w' h' => RT.any fuel _ a' w' h'.2) (h.2 i hi)⟩
theorem RT.start {id : Nat} {a : Act} {w : World} (S : World → Prop) (t : Nat) (hm : P.follows .mixedOrders = true) (h : RT P .any ops Q S t ops.size (Array.replicate ops.size false) a w.drew) : (Code.region id ops true).wp P Q a w :=
  wp_region_any hm (RT.any _ _ _ _ h)
theorem listed_both {listed : Array Bool} {i : Nat} (h0 : listed.getD i true = false) (h1 : listed.getD i false = true) : False := by
  rcases Nat.lt_or_ge i listed.size with hlt | hge
  · simp only [Array.getD_eq_getD_getElem?, Array.getElem?_eq_getElem hlt, Option.getD_some] at h0 h1
    rw [h0] at h1; cases h1
  · simp only [Array.getD_eq_getD_getElem?, Array.getElem?_eq_none hge, Option.getD_none] at h0
    cases h0
theorem RT.first {i : Nat} {oi : Oper} {v : Value} (hi : ops[i]? = some oi) (hsel : ∀ (j : Nat) (o : Oper) cs b, ops[j]? = some o → o.op ≠ .select cs b) (hQ : ∀ c a w, Q (.panic c) (a.put oi.dst v) w → Q (.panic c) a w) (hl : lastB md ops t = true) :
    ∀ (fuel : Nat) (listed : Array Bool) (a : Act) (w : World),
      (∀ j oj, ops[j]? = some oj → j ≠ i → listed.getD j true = false → (∀ e ∈ oj.after, Region.binds md e = true → e.on ≠ i) → oi.apart ops oj = true) →
      i ∈ Region.ready md ops listed → YieldsIf P ops S oi v a → S w → RT P md ops Q S t fuel (listed.setIfInBounds i true) (a.put oi.dst v) w → RT P md ops Q S t (fuel + 1) listed a w := by
  intro fuel
  induction fuel with
  | zero =>
    intro listed a w _ hr hy hS H
    refine ⟨fun h => absurd (h ▸ hr) List.not_mem_nil, fun j hj => ?_⟩
    rcases Nat.decEq j i with hne | heq
    · exact absurd (H.1 ▸ ready_mono hj hne) List.not_mem_nil
    · subst heq
      exact hy.wpOp hi hS ⟨fun _ => hS, H⟩
  | succ fuel ih =>
    intro listed a w hfree hr hy hS H
    refine ⟨fun h => absurd (h ▸ hr) List.not_mem_nil, fun j hj => ?_⟩
    rcases Nat.decEq j i with hne | heq
    · obtain ⟨hun, oj, hoj, hall⟩ := mem_ready.1 hj
      have hno : ∀ e ∈ oj.after, Region.binds md e = true → e.on ≠ i := fun e he hb heq => listed_both (mem_ready.1 hr).1 (heq ▸ hall e he hb)
      have hjt : j ≠ t := by
        intro e
        subst e
        obtain ⟨e, he, hb, ho⟩ := lastB_spec hl (Array.getElem?_eq_some_iff.1 hi).1 (Ne.symm hne) hoj
        exact hno e he hb ho
      have hstep := wpOp_putIf hoj (hfree j oj hoj hne hun hno) (fun cs b => hsel i oi cs b hi) (fun cs b => hsel j oj cs b hoj) hQ hy (H.2 j (ready_mono hj hne))
      have hri : i ∈ Region.ready md ops (listed.setIfInBounds j true) := ready_mono hr (Ne.symm hne)
      refine wpOp_mono (fun a' w' h3 => ?_) hstep
      obtain ⟨hy', hS', hrt⟩ := h3
      rw [Array.setIfInBounds_comm _ _ (Ne.symm hne)] at hrt
      refine ⟨hS', ih _ a' w' (fun k ok hk hki hunk hnok => hfree k ok hk hki ?_ hnok) hri hy' (hS' hjt) hrt⟩
      rcases Nat.decEq j k with h | h
      · rwa [getD_set_ne true h] at hunk
      · subst h; exact hun
    · subst heq
      exact hy.wpOp hi hS ⟨fun _ => hS, H⟩
/-- number i comes first: it only reads -/
theorem RT.take (i : Nat) {oi : Oper} {v : Value} {fuel : Nat} {listed : Array Bool} {a : Act} {w : World} (hi : ops[i]? = some oi) (hl : lastB md ops t = true)
    (hs : Region.noSelect ops = true) (hf : Region.free md ops listed i = true) (hr : (Region.ready md ops listed).contains i = true)
    (hQ : ∀ c a w, Q (.panic c) (a.put oi.dst v) w → Q (.panic c) a w) (hw : Region.wanted oi (yielded ops a.tmps) = true) (hS : S w) (hy : ∀ w', S w' → (execOp a.eval oi).run P w' = .ok (.value v) w')
    (h : RT P md ops Q S t fuel (listed.setIfInBounds i true) (a.put oi.dst v) w) : RT P md ops Q S t (fuel + 1) listed a w :=
  RT.first hi (Region.noSelect_spec hs) hQ hl fuel listed a w (Region.free_spec hi hf) (by simpa using hr) (.inl ⟨hw, hy⟩) hS h
/-- number i comes first: its guard says no -/
theorem RT.skip (i : Nat) {oi : Oper} {fuel : Nat} {listed : Array Bool} {a : Act} {w : World} (hi : ops[i]? = some oi) (hl : lastB md ops t = true)
    (hs : Region.noSelect ops = true) (hf : Region.free md ops listed i = true) (hr : (Region.ready md ops listed).contains i = true)
    (hQ : ∀ c a w, Q (.panic c) (a.put oi.dst undef) w → Q (.panic c) a w) (hw : Region.wanted oi (yielded ops a.tmps) = false) (hS : S w)
    (h : RT P md ops Q S t fuel (listed.setIfInBounds i true) (a.put oi.dst undef) w) : RT P md ops Q S t (fuel + 1) listed a w :=
  RT.first hi (Region.noSelect_spec hs) hQ hl fuel listed a w (Region.free_spec hi hf) (by simpa using hr) (.inr ⟨hw, rfl⟩) hS h
/-- what is left to show of one operation that may come now -/
def Step (P : Program) (md : Region.Mode) (ops : Array Oper) (Q : Exit → Act → World → Prop) (S : World → Prop) (t fuel : Nat) (listed : Array Bool) (a : Act) (w : World) (i : Nat) : Prop :=
  ∀ K : Act → World → Prop, (∀ a' w', (i ≠ t → S w') ∧ RT P md ops Q S t fuel (listed.setIfInBounds i true) a' w' → K a' w') → wpOp P ops Q i K a w
theorem RT.all {rs : List Nat} {fuel : Nat} {listed : Array Bool} {a : Act} {w : World} (hr : Region.ready md ops listed = rs) (hne : rs ≠ []) (h : ∀ i ∈ rs, Step P md ops Q S t fuel listed a w i) : RT P md ops Q S t (fuel + 1) listed a w :=
  ⟨fun h0 => absurd (hr ▸ h0) hne, fun i hi => h i (hr ▸ hi) _ fun _ _ h => h⟩
theorem RT.one (i : Nat) {fuel : Nat} {listed : Array Bool} {a : Act} {w : World} (hr : Region.ready md ops listed = [i]) (h : Step P md ops Q S t fuel listed a w i) : RT P md ops Q S t (fuel + 1) listed a w :=
  RT.all hr (by simp) fun j hj => by obtain rfl := List.mem_singleton.1 hj; exact h
theorem RT.two (i j : Nat) {fuel : Nat} {listed : Array Bool} {a : Act} {w : World} (hr : Region.ready md ops listed = [i, j]) (h : Step P md ops Q S t fuel listed a w i) (h' : Step P md ops Q S t fuel listed a w j) : RT P md ops Q S t (fuel + 1) listed a w :=
  RT.all hr (by simp) fun k hk => by
    rcases List.mem_cons.1 hk with rfl | hk
    · exact h
    · obtain rfl := List.mem_singleton.1 hk; exact h'
/-- a step: the operation itself -/
theorem Step.run {i : Nat} {o : Oper} {fuel : Nat} {listed : Array Bool} {a : Act} {w : World} (ho : ops[i]? = some o) (hw : Region.wanted o (yielded ops a.tmps) = true)
    (h : ∀ K : Act → World → Prop, (∀ a' w', (i ≠ t → S w') ∧ RT P md ops Q S t fuel (listed.setIfInBounds i true) a' w' → K a' w') → o.wp P a w K Q) : Step P md ops Q S t fuel listed a w i := by
  intro K hK
  unfold wpOp
  simp only [ho, hw, if_true]
  exact .inl (h K hK)
theorem RT.begin {id : Nat} {a : Act} {w : World} (S : World → Prop) (t n : Nat) (hn : ops.size = n) (hm : P.follows .mixedOrders = true) (h0 : S w.drew) (h : S w.drew → RT P .any ops Q S t n (Array.replicate n false) a w.drew) : (Code.region id ops true).wp P Q a w := by
  subst hn
  exact RT.start S t hm (h h0)
theorem RT.both {X A B : Prop} (h : A) (h' : A → B) : (X → A) ∧ B := ⟨fun _ => h, h' h⟩
theorem RT.done {listed : Array Bool} {a : Act} {w : World} (hr : Region.ready md ops listed = []) (h : Q .normal a w) : ∀ fuel, RT P md ops Q S t fuel listed a w
  | 0 => ⟨hr, h⟩
  | _ + 1 => ⟨fun _ => h, by rw [hr]; simp⟩
end
end Go.Proofs.Ytinpinjjdkilpaa
