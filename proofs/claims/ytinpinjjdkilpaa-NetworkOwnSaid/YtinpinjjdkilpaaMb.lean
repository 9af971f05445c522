/- Whole functions. -/
import Derived.Test.YtinpinjjdkilpaaMa
import Derived.OrdersHeld
import Derived.LoopN
set_option linter.unusedSimpArgs false
set_option linter.unusedVariables false
set_option linter.unusedSectionVars false
/- The operations, one by one: append, calls. -/
namespace Go.Proofs.Ytinpinjjdkilpaa
open Go Go.RowKit
section
variable {P : Program} {O : Objs} {nt B : Nat} {F0 : Own} {av0 : Av} {w0 : World} {D : Nat → Prop} {s : MSt} {a : Act} {w w' : World} {ι : Ix} {Θ : Fam} {o : Oper}
theorem chunks {α : Type} (sz : Nat) : ∀ (len : Nat) (L : List α), len * sz ≤ L.length → ((List.range len).map fun i => (L.drop (i * sz)).take sz).flatten = L.take (len * sz)
  | 0, L, _ => by simp
  | len + 1, L, h => by
    have h1 : len * sz ≤ L.length := by rw [Nat.succ_mul] at h; omega
    rw [List.range_succ, List.map_append, List.flatten_append, chunks sz len L h1]
    simp only [List.map_cons, List.map_nil, List.flatten_cons, List.flatten_nil, List.append_nil]
    rw [Nat.succ_mul, List.take_add]
theorem rowEls_read {av : Av} {r : List Slot} {cur : Array Value} (hrow : RowOk ι Θ av w r cur) {b : Nat} {ty : TypeId} (hb : w.heap[b]? = some (.cells cur ty (0, 0))) {sz off len : Nat} {m : List (List AV)} (h : rowEls r sz off len = some m) :
    m.length = len ∧ (∀ c ∈ m, c.length = sz) ∧ ∃ us, RepL av w m.flatten us ∧ ∀ (j : Nat) (u : Value), us[j]? = some u → w.cell? ⟨b, off + j, none⟩ = some u := by
  unfold rowEls at h
  split at h
  · rename_i hc
    injection h with h
    subst h
    have hfree : ∀ x ∈ r.map (·.v), x.free0 = true := fun x hx => by
      obtain ⟨y, hy, rfl⟩ := List.mem_map.1 hx
      exact List.all_eq_true.1 hc.2 y hy
    have hflat : ((List.range len).map fun i => ((r.drop (off + i * sz)).take sz).map (·.v)).flatten = ((r.map (·.v)).drop off).take (len * sz) := by
      rw [← chunks sz len _ (by simp; omega)]
      congr 1
      apply List.map_congr_left
      intro i _
      rw [List.drop_drop, List.map_take, List.map_drop]
    have hrep := RepCL_take (len * sz) (RepCL_drop off hrow.rep)
    refine ⟨by simp, fun c hcm => ?_, ((cur.toList.take r.length).drop off).take (len * sz), ?_, fun j u hu => ?_⟩
    · obtain ⟨i, hi, rfl⟩ := List.mem_map.1 hcm
      have hi' : i < len := by simpa using hi
      have : (i + 1) * sz ≤ len * sz := Nat.mul_le_mul_right _ hi'
      rw [Nat.succ_mul] at this
      simp
      omega
    · rw [hflat]
      exact RepL_ofCL hrep fun x hx => hfree x (List.mem_of_mem_drop (List.mem_of_mem_take hx))
    · rw [cell_of_row w b (off + j) cur ty (0, 0) hb]
      rw [List.getElem?_take] at hu
      split at hu
      · rw [List.getElem?_drop, List.getElem?_take] at hu
        split at hu
        · simpa using hu
        · cases hu
      · cases hu
  · cases h
/-- what the elements of a slice are in memory -/
theorem elems_sl (R : Rel P O nt B F0 av0 w0 D s a w ι Θ) {v : Value} {y : AV} (hY : RepS ι (avA av0 ι Θ) (avB ι Θ) w y v) {cl : Cl} {m : List (List AV)} (h : y.elems s cl = some m) {sz : Nat} (hpos : 0 < sz) (hsz : ∀ c ∈ m, c.length = sz) :
    ∃ us, RepL (avA av0 ι Θ) w m.flatten us ∧ Sl (fun _ => False) w sz v m.length us := by
  have hflen : m.flatten.length = m.length * sz := by
    clear h hY
    induction m with
    | nil => simp
    | cons c r ih => rw [List.flatten_cons, List.length_append, hsz c (by simp), ih (fun c hc => hsz c (by simp [hc])), List.length_cons, Nat.succ_mul]; omega
  have hlen : ∀ {av : Av} {us : List Value}, RepL av w m.flatten us → us.length = m.length * sz := fun h => by
    have := RepCL_length (RepCL_ofL (ι := ι) h)
    omega
  cases y with
  | sl nil l =>
    injection h with h
    subst h
    rw [repS_sl] at hY
    simp only [Rep] at hY
    obtain ⟨A, c, hv, hc, _, hn, hs⟩ := hY
    rcases Nat.eq_zero_or_pos l.length with h0 | h0
    · have : l = [] := List.eq_nil_of_length_eq_zero h0
      subst this
      exact ⟨[], rfl, by simp, A, c, hv, hc, fun h => by simp at h⟩
    · cases nil with
      | true => have := (hn rfl).2.1; omega
      | false =>
        obtain ⟨b, off, rfl, hrow⟩ := (hs rfl).2 h0
        obtain ⟨us, hl, hus⟩ := Cells_read (Rows_flat.1 hrow)
        refine ⟨us, hl, hlen hl, _, c, hv, hc, fun _ => ⟨b, off, rfl, ?_, fun h => h, fun j u hu => (hus j u hu).1⟩⟩
        have hp : 0 < us.length := by rw [hlen hl]; exact Nat.mul_pos h0 hpos
        exact cell_lt (hus 0 us[0] (List.getElem?_eq_getElem hp)).1
  | bl l =>
    injection h with h
    subst h
    obtain ⟨a', c, hv, hc, _, hs⟩ := hY
    rcases Nat.eq_zero_or_pos l.length with h0 | h0
    · have : l = [] := List.eq_nil_of_length_eq_zero h0
      subst this
      exact ⟨[], rfl, by simp, some a', c, hv, hc, fun h => by simp at h⟩
    · obtain ⟨b, off, rfl, hrow⟩ := hs h0
      obtain ⟨us, hl, hus⟩ := CellsB_read (RowsB_flat.1 hrow)
      refine ⟨us, hl, hlen hl, _, c, hv, hc, fun _ => ⟨b, off, rfl, ?_, fun h => h, fun j u hu => (hus j u hu).1⟩⟩
      have hp : 0 < us.length := by rw [hlen hl]; exact Nat.mul_pos h0 hpos
      exact cell_lt (hus 0 us[0] (List.getElem?_eq_getElem hp)).1
  | ref t n sz' off len cap =>
    simp only [AV.elems] at h
    split at h
    · cases hm : s.mem t n with
      | none => rw [hm] at h; cases h
      | some r =>
        rw [hm, Option.bind_some] at h
        obtain ⟨b, hb, hle, cc, hcc, _, hv⟩ := repS_ref.1 hY
        obtain ⟨hnob, b', cur, ty, hb', hheap, hrow, _⟩ := R.rows t n r hm
        rw [hb] at hb'
        injection hb' with hb'
        subst hb'
        obtain ⟨h1, h2, us, hl, hus⟩ := rowEls_read hrow hheap h
        subst h1
        exact ⟨us, hl, hlen hl, _, cc, hv, Nat.le_trans hle hcc, fun _ => ⟨b, off, rfl, lt_of_heap hheap, fun h => h, hus⟩⟩
    · cases h
  | _ => simp [AV.elems] at h
/-- append: nothing new, or into the block's spare cells, or into a new block -/
theorem append_room {t e : TypeId} {i : TypeInfo} {z : Value} (ht : P.underlying t = some (.slice e)) (hi : P.info? e = some i) (ty : TypeId) {g n c : Nat} {cur : Array Value} (hg : w.heap[g]? = some (.cells cur e (0, 0))) (hcur : cur.size = c * i.size) (_hz : i.zero = some z)
    {src : Value} {m : Nat} {news : List Value} (hs : Sl (fun _ => False) w i.size src m news) (h1 : ∀ u ∈ news, u.oneCell' = true) (hle : n + m ≤ c) :
    (Builtin.append_ #[t, t] ty #[.slice (some ⟨g, 0, none⟩) n c, src]).run P w = .ok (.slice (some ⟨g, 0, none⟩) (n + m) c) (w.setRow g (cur.toList.take (n * i.size) ++ news ++ cur.toList.drop (n * i.size + news.length)).toArray) := by
  obtain ⟨hl, A, c', rfl, hc, hcell⟩ := hs
  have hfit : n * i.size + news.length ≤ cur.size := by rw [hl, hcur, ← Nat.add_mul]; exact Nat.mul_le_mul_right _ hle
  cases A with
  | none =>
    have hm : m = 0 := by
      rcases Nat.eq_zero_or_pos m with h | h
      · exact h
      · obtain ⟨b, off, hA, _⟩ := hcell h; cases hA
    subst hm
    have hnn : news = [] := List.eq_nil_of_length_eq_zero (by simpa using hl)
    subst hnn
    simp only [Nat.add_zero] at hle
    have hself : w.setRow g (cur.toList.take (n * i.size) ++ [] ++ cur.toList.drop (n * i.size + ([] : List Value).length)).toArray = w := by
      simp only [List.append_nil, List.length_nil, Nat.add_zero, List.take_append_drop, Array.toArray_toList]
      exact setRow_self w g cur e (0, 0) hg
    rw [hself]
    simp [Builtin.append_, run_underlying ht, sizeOf, typeInfo, hi, Builtin.lenOf, Builtin.firstCells, hle, storeCells]
  | some a =>
    refine run_append_room (P := P) w t ty e i ht hi g n c cur hg a m c' news hl (fun j u hu => ?_) h1 hle hfit
    have hm : 0 < m := by
      rcases Nat.eq_zero_or_pos m with h | h
      · subst h; have := (List.getElem?_eq_some_iff.1 hu).1; omega
      · exact h
    obtain ⟨b, off, hA, _, _, hcl⟩ := hcell hm
    injection hA with hA
    subst hA
    rw [Addr.add_lit]
    exact hcl j u hu
theorem append_zero {t e : TypeId} {i : TypeInfo} (ht : P.underlying t = some (.slice e)) (hi : P.info? e = some i) (ty : TypeId) {A : Option Addr} {n c : Nat} (hle : n ≤ c) {src : Value} {news : List Value} (hs : Sl (fun _ => False) w i.size src 0 news) :
    (Builtin.append_ #[t, t] ty #[.slice A n c, src]).run P w = .ok (.slice A n c) w := by
  obtain ⟨hl, A', c', rfl, hc, hcell⟩ := hs
  cases A' <;> cases A <;> simp [Builtin.append_, run_underlying ht, sizeOf, typeInfo, hi, Builtin.lenOf, Builtin.firstCells, hle, storeCells, loadCells, loadCellsFrom]
def grewW (w : World) (xs news : List Value) (z : Value) (e : TypeId) (need c : Nat) : World := w.drew.alloc (.cells (xs.toArray ++ news.toArray ++ Builtin.zeroCells z.cells (grownCap w need c e - need)) e)
theorem append_grow {t e : TypeId} {i : TypeInfo} {z : Value} (ht : P.underlying t = some (.slice e)) (hi : P.info? e = some i) (hz : i.zero = some z) (ty : TypeId) {A : Option Addr} {n c : Nat} {xs : List Value} (hxs : xs.length = n * i.size) (hA : A = none → n = 0 ∧ c = 0) (hx : ∀ a, A = some a → ∀ j u, xs[j]? = some u → w.cell? (a.add j) = some u)
    {src : Value} {m : Nat} {news : List Value} (hs : Sl (fun _ => False) w i.size src m news) (hlt : c < n + m) (hnc : n ≤ c) (h63 : n + m ≤ 140737488355328) (hbytes : (n + m) * i.bytes ≤ 140737488355328) :
    (Builtin.append_ #[t, t] ty #[.slice A n c, src]).run P w = .ok (.slice (some ⟨w.heap.size, 0, none⟩) (n + m) (grownCap w (n + m) c e)) (grewW w xs news z e (n + m) c) := by
  obtain ⟨hl, A', c', rfl, hc, hcell⟩ := hs
  have hm : 0 < m := by omega
  obtain ⟨b, off, rfl, _, _, hcl⟩ := hcell hm
  have hnews : ∀ j u, news[j]? = some u → w.cell? ((⟨b, off, none⟩ : Addr).add j) = some u := fun j u hu => by rw [Addr.add_lit]; exact hcl j u hu
  cases A with
  | none =>
    obtain ⟨rfl, rfl⟩ := hA rfl
    have hx0 : xs = [] := List.eq_nil_of_length_eq_zero (by simpa using hxs)
    subst hx0
    have := run_append_nil (P := P) w t ty e i z ht hi hz ⟨b, off, none⟩ m c' news hl hnews hm (by omega) (by rw [Nat.zero_add] at hbytes; omega)
    simpa [grewW] using this
  | some a =>
    exact run_append_grow (P := P) w t ty e i z ht hi hz a n c xs hxs (hx a rfl) ⟨b, off, none⟩ m c' news hl hnews hlt (by omega) (growslice_fits (by omega) hbytes)

theorem Rel.fam (R : Rel P O nt B F0 av0 w0 D s a w ι Θ) (Θ' : Fam) (f : An → An) (hav : ∀ b o, avB ι Θ' b o → avB ι Θ b o) (han : ∀ A v, AnOk Θ A v → AnOk Θ' (f A) v)
    (tok : ∀ k o, Θ' k = some o → B ≤ o.g ∧ 0 < o.sz ∧ o.n ≤ o.c ∧ o.c ≤ maxLen ∧ ∃ cur, w.heap[o.g]? = some (.cells cur o.e (0, 0)) ∧ (cur.size = o.c * o.sz ∧ tSize P o.e = some o.sz)) (tinj : ∀ k k' o o', Θ' k = some o → Θ' k' = some o' → o.g = o'.g → k = k') (apart : ∀ k o t n, Θ' k = some o → ι t n ≠ some o.g)
    (apob : ∀ k o t n H, Θ' k = some o → ι.ob t n = some H → ¬ H o.g) :
    Rel P O nt B F0 av0 w0 D (s.mapAn f) a w ι Θ' := by
  have hB : Held (avB ι Θ) (avB ι Θ') w w := Held.less hav
  have hA : Held (avA av0 ι Θ) (avA av0 ι Θ') w w := Held.less fun b o h => h.imp id (hav b o)
  refine ⟨R.defers, R.size, fun t => RepS.held (Ix.Le.refl _) hA hB _ _ (R.env t), fun t => han _ _ (R.ann t), fun t n r hr => ?_, R.mine, R.inj, tok, tinj, apart, R.out, R.pin, R.kept, R.base, R.objs, fun t n H h => ?_⟩
  · simp only [MSt.mapAn] at hr
    cases hm : s.mem t n with
    | none => rw [hm] at hr; cases hr
    | some r0 =>
      rw [hm] at hr
      injection hr with hr
      subst hr
      obtain ⟨h0, b, cur, ty, h1, h2, ⟨h3, h4⟩, h8⟩ := R.rows t n r0 hm
      refine ⟨h0, b, cur, ty, h1, h2, ⟨by simpa using h3, fun j x hx => ?_⟩, h8⟩
      rw [List.getElem?_map] at hx
      cases hj : r0[j]? with
      | none => rw [hj] at hx; cases hx
      | some y =>
        rw [hj] at hx
        injection hx with hx
        subst hx
        obtain ⟨u, hu, h5, h6, h7⟩ := h4 j y hj
        exact ⟨u, hu, h5, RepC.held (Ix.Le.refl _) hA _ _ h6, han _ _ h7⟩
  · obtain ⟨h1, h2⟩ := R.obs t n H h
    exact ⟨fun b hb => let ⟨g1, g2, g3, _, g5⟩ := h1 b hb; ⟨g1, g2, g3, fun k o hk e => apob k o t n H hk h (e ▸ hb), g5⟩, h2⟩
/-- the spare cells of a family's block are written -/
theorem Rel.spare (R : Rel P O nt B F0 av0 w0 D s a w ι Θ) {k : Nat} {ow : Ow} (hk : Θ k = some ow) {cur new : Array Value} (hcur : w.heap[ow.g]? = some (.cells cur ow.e (0, 0))) (hsz : new.size = cur.size) (hsame : ∀ j, j < ow.n * ow.sz → new[j]? = cur[j]?) :
    Rel P O nt B F0 av0 w0 D s a (w.setRow ow.g new) ι Θ := by
  have hne : ∀ b', b' ≠ ow.g → (w.setRow ow.g new).heap[b']? = w.heap[b']? := fun b' h => setRow_other w ow.g b' new h
  have hat : (w.setRow ow.g new).heap[ow.g]? = some (.cells new ow.e (0, 0)) := setRow_heap w ow.g cur new ow.e (0, 0) hcur
  have hkeep : ∀ b o u, w.cell? ⟨b, o, none⟩ = some u → (b = ow.g → o < ow.n * ow.sz) → (w.setRow ow.g new).cell? ⟨b, o, none⟩ = some u := fun b o u hc hlt => by
    by_cases hb : b = ow.g
    · subst hb
      rw [cell_of_row _ ow.g o new ow.e (0, 0) hat, hsame o (hlt rfl), ← cell_of_row w ow.g o cur ow.e (0, 0) hcur]
      exact hc
    · exact (World.cell?_of_block (w := w) (a := ⟨b, o, none⟩) (hne b hb)).trans hc
  have hB : Held (avB ι Θ) (avB ι Θ) w (w.setRow ow.g new) := ⟨fun b o u hc hn => ⟨hkeep b o u hc fun e => by
    rcases Nat.lt_or_ge o (ow.n * ow.sz) with h | h
    · exact h
    · exact absurd (.inr ⟨k, ow, hk, e.symm, h⟩) hn, hn⟩⟩
  have hA : Held (avA av0 ι Θ) (avA av0 ι Θ) w (w.setRow ow.g new) := ⟨fun b o u hc hn => ⟨hkeep b o u hc fun e => by
    rcases Nat.lt_or_ge o (ow.n * ow.sz) with h | h
    · exact h
    · exact absurd (.inr (.inr ⟨k, ow, hk, e.symm, h⟩)) hn, hn⟩⟩
  refine ⟨R.defers, R.size, fun t => RepS.held (Ix.Le.refl _) hA hB _ _ (R.env t), R.ann, fun t n r hr => ?_, fun t n b h => ?_, R.inj, fun j o h => ?_, R.tinj, R.apart, R.out, R.pin, ?_, R.base, fun t n S h => ?_, fun t n H h => (R.obs t n H h).grow (by simp)⟩
  · obtain ⟨h0, b, cur', ty, h1, h2, h3, h8⟩ := R.rows t n r hr
    have : b ≠ ow.g := fun e => R.apart k ow t n hk (e ▸ h1)
    exact ⟨h0, b, cur', ty, h1, (hne b this).trans h2, h3.held (Ix.Le.refl _) hA (fun _ _ h => h), h8⟩
  · obtain ⟨h1, h2, h3⟩ := R.mine t n b h
    exact ⟨h1, by simpa using h2, h3⟩
  · obtain ⟨h1, h2, h3, h4, cur', h5, h6⟩ := R.tok j o h
    by_cases hg : o.g = ow.g
    · have := R.tinj _ _ _ _ h hk hg
      subst this
      rw [hk] at h
      injection h with h
      subst h
      rw [hcur] at h5
      injection h5 with h5
      injection h5 with h5
      subst h5
      exact ⟨h1, h2, h3, h4, new, hat, hsz.trans h6.1, h6.2⟩
    · exact ⟨h1, h2, h3, h4, cur', (hne _ hg).trans h5, h6⟩
  · have := (R.tok k ow hk).1
    have hb := R.base
    exact R.kept.setRow (fun hlt => by omega) _
  · obtain ⟨p, H, h1, h2, h3⟩ := R.objs t n S h
    exact ⟨p, H, h1, h2, O.keep h3 (fun b' hH => hne b' fun e => (((R.obs _ _ _ h2).1 _ hH).2.2.2.1 k ow hk) e.symm) (by simp)⟩
/-- a new block that the family d owns -/
theorem Rel.fresh (R : Rel P O nt B F0 av0 w0 D s a w ι Θ) {d : Nat} (hd : Θ d = none) {cur : Array Value} {e : TypeId} {n c sz : Nat} (hcur : cur.size = c * sz) (hsz : 0 < sz) (hn : n ≤ c) (hc : c ≤ maxLen) (htz : tSize P e = some sz) :
    Rel P O nt B F0 av0 w0 D s a (w.drew.alloc (.cells cur e)) ι (fun j => if j = d then some ⟨w.heap.size, n, c, sz, e⟩ else Θ j) := by
  have hblk : ∀ b, b < w.heap.size → (w.drew.alloc (.cells cur e)).heap[b]? = w.heap[b]? := fun b hb => Below.heap_alloc w.drew _ b hb
  have hBx : ∀ b o, b < w.heap.size → avB ι (fun j => if j = d then some ⟨w.heap.size, n, c, sz, e⟩ else Θ j) b o → avB ι Θ b o := fun b o hb h => h.imp id fun ⟨k, ow, h, h1, h2⟩ => by
    by_cases e : k = d
    · simp only [if_pos e] at h; injection h with h; subst h; simp only at h1; omega
    · simp only [if_neg e] at h; exact ⟨k, ow, h, h1, h2⟩
  have hB : Held (avB ι Θ) (avB ι (fun j => if j = d then some ⟨w.heap.size, n, c, sz, e⟩ else Θ j)) w (w.drew.alloc (.cells cur e)) := Held.grown hblk hBx
  have hA : Held (avA av0 ι Θ) (avA av0 ι (fun j => if j = d then some ⟨w.heap.size, n, c, sz, e⟩ else Θ j)) w (w.drew.alloc (.cells cur e)) := Held.grown hblk fun b o hb h => h.imp id (hBx b o hb)
  have hΘ : ∀ k o, Θ k = some o → (fun j => if j = d then some ⟨w.heap.size, n, c, sz, e⟩ else Θ j) k = some o := fun k o h => by
    by_cases e : k = d
    · subst e; rw [hd] at h; cases h
    · simp only [if_neg e]; exact h
  have han : ∀ A v, AnOk Θ A v → AnOk (fun j => if j = d then some ⟨w.heap.size, n, c, sz, e⟩ else Θ j) A v := fun A v h => by
    cases A with
    | no => trivial
    | ex => exact h
    | own k e' => exact h.imp id fun ⟨ow, h1, h2⟩ => ⟨ow, hΘ _ _ h1, h2⟩
  have hsize : w.heap.size ≤ (w.drew.alloc (.cells cur e)).heap.size := by
    have : (w.drew.alloc (.cells cur e)).heap.size = w.drew.heap.size + 1 := World.size_alloc _ _
    have h4 : w.drew.heap.size = w.heap.size := rfl
    omega
  refine ⟨R.defers, R.size, fun t => RepS.held (Ix.Le.refl _) hA hB _ _ (R.env t), fun t => han _ _ (R.ann t), fun t n r hr => ?_, fun t n b h => ?_, R.inj, fun j o h => ?_, fun k k' o o' h h' hg => ?_, fun k o t n h h' => ?_, R.out, R.pin, R.kept.drew.alloc _, R.base, fun t n S h => ?_, fun t n H h => ?_⟩
  · obtain ⟨h0, b, cur', ty, h1, h2, h3, h8⟩ := R.rows t n r hr
    exact ⟨h0, b, cur', ty, h1, (hblk b (lt_of_heap h2)).trans h2, h3.held (Ix.Le.refl _) hA hΘ, h8⟩
  · obtain ⟨h1, h2, h3⟩ := R.mine t n b h
    exact ⟨h1, by omega, h3⟩
  · by_cases e' : j = d
    · simp only [if_pos e'] at h
      injection h with h
      subst h
      exact ⟨R.lowB, hsz, hn, hc, cur, new_at rfl, hcur, htz⟩
    · simp only [if_neg e'] at h
      obtain ⟨h1, h2, h3, h4, cur', h5, h6⟩ := R.tok j o h
      exact ⟨h1, h2, h3, h4, cur', (hblk _ (lt_of_heap h5)).trans h5, h6⟩
  · by_cases e1 : k = d <;> by_cases e2 : k' = d
    · rw [e1, e2]
    · simp only [if_pos e1] at h; simp only [if_neg e2] at h'
      injection h with h; subst h
      obtain ⟨_, _, _, _, cur', h5, _⟩ := R.tok _ _ h'
      have := lt_of_heap h5
      simp only at hg; omega
    · simp only [if_neg e1] at h; simp only [if_pos e2] at h'
      injection h' with h'; subst h'
      obtain ⟨_, _, _, _, cur', h5, _⟩ := R.tok _ _ h
      have := lt_of_heap h5
      simp only at hg; omega
    · simp only [if_neg e1] at h; simp only [if_neg e2] at h'
      exact R.tinj _ _ _ _ h h' hg
  · by_cases e' : k = d
    · simp only [if_pos e'] at h
      injection h with h
      subst h
      have := (R.mine _ _ _ h').2.1
      simp only at this; omega
    · simp only [if_neg e'] at h
      exact R.apart k o t n h h'
  · obtain ⟨p, H, h1, h2, h3⟩ := R.objs t n S h
    exact ⟨p, H, h1, h2, O.keep h3 (fun b' hH => hblk b' (O.lt h3 hH)) hsize⟩
  · obtain ⟨h1, h2⟩ := R.obs t n H h
    refine ⟨fun b hb => ?_, h2⟩
    obtain ⟨g1, g2, g3, g4, g5⟩ := h1 b hb
    refine ⟨g1, by omega, g3, fun k o hk => ?_, g5⟩
    by_cases e' : k = d
    · simp only [if_pos e'] at hk
      injection hk with hk
      subst hk
      simp only
      omega
    · simp only [if_neg e'] at hk
      exact g4 k o hk
end
end Go.Proofs.Ytinpinjjdkilpaa
/- The operations, one by one: append, calls. -/
namespace Go.Proofs.Ytinpinjjdkilpaa
open Go Go.RowKit
section
variable {P : Program} {O : Objs} {nt B : Nat} {F0 : Own} {av0 : Av} {w0 : World} {D : Nat → Prop} {s : MSt} {a : Act} {w w' : World} {ι : Ix} {Θ : Fam} {o : Oper}
def An.twice (A : An) (d : Nat) (x : An) : An := match A with
  | .own k _ => (x.strip k).strip d
  | _ => x.strip d
theorem twice_eq (A : An) (d : Nat) : (s.stripA A).strip d = s.mapAn (A.twice d) := by
  cases A with
  | own k e => simp [MSt.stripA, MSt.strip, MSt.mapAn, Slot.strip, An.twice, Function.comp_def]
  | no => rfl
  | ex => rfl
/-- what is left of the families when A's and d's are over -/
def Fam.less (Θ : Fam) (A : An) (d : Nat) : Fam := fun j => match A with
  | .own k _ => if j = d ∨ j = k then none else Θ j
  | _ => if j = d then none else Θ j
theorem less_sub {A : An} {d j : Nat} {o : Ow} (h : Θ.less A d j = some o) : Θ j = some o ∧ j ≠ d ∧ ∀ k e, A = .own k e → j ≠ k := by
  unfold Fam.less at h
  cases A with
  | own k e =>
    simp only at h
    split at h
    · cases h
    · rename_i hn; exact ⟨h, fun e => hn (.inl e), fun k' e' he => by injection he with h1; subst h1; exact fun e => hn (.inr e)⟩
  | no =>
    simp only at h
    split at h
    · cases h
    · rename_i hn; exact ⟨h, hn, fun k' e' he => by cases he⟩
  | ex =>
    simp only at h
    split at h
    · cases h
    · rename_i hn; exact ⟨h, hn, fun k' e' he => by cases he⟩
theorem less_d {A : An} {d : Nat} : Θ.less A d d = none := by
  unfold Fam.less
  cases A <;> simp
theorem less_an {A : An} {d : Nat} {Θ' : Fam} (hΘ : ∀ j o, Θ.less A d j = some o → Θ' j = some o) (x : An) (v : Value) (h : AnOk Θ x v) : AnOk Θ' (A.twice d x) v := by
  have h1 : ∀ k, x.strip k = .no ∨ (x.strip k = x ∧ ∀ j e, x = .own j e → j ≠ k) := fun k => by
    cases x with
    | no => exact .inl rfl
    | ex => exact .inr ⟨rfl, fun _ _ h => by cases h⟩
    | own j e =>
      simp only [An.strip]
      split
      · exact .inl rfl
      · rename_i hn; exact .inr ⟨rfl, fun j' e' h => by injection h with h; subst h; exact hn⟩
  have key : A.twice d x = .no ∨ (A.twice d x = x ∧ (∀ j e, x = .own j e → j ≠ d) ∧ ∀ k e', A = .own k e' → ∀ j e, x = .own j e → j ≠ k) := by
    cases A with
    | own k e' =>
      simp only [An.twice]
      rcases h1 k with h2 | ⟨h2, h3⟩
      · rw [h2]; exact .inl rfl
      · rw [h2]
        rcases h1 d with h4 | ⟨h4, h5⟩
        · exact .inl h4
        · exact .inr ⟨h4, h5, fun k' e'' he => by injection he with he; subst he; exact h3⟩
    | no => rcases h1 d with h4 | ⟨h4, h5⟩; exact .inl h4; exact .inr ⟨h4, h5, fun _ _ he => by cases he⟩
    | ex => rcases h1 d with h4 | ⟨h4, h5⟩; exact .inl h4; exact .inr ⟨h4, h5, fun _ _ he => by cases he⟩
  rcases key with h2 | ⟨h2, h3, h4⟩
  · rw [h2]; trivial
  · rw [h2]
    cases x with
    | no => trivial
    | ex => exact h
    | own j e =>
      refine h.imp id fun ⟨ow, h5, h6⟩ => ⟨ow, hΘ _ _ ?_, h6⟩
      unfold Fam.less
      cases A with
      | own k e' => simp only; rw [if_neg]; exact h5; rintro (e1 | e1); exact h3 _ _ rfl e1; exact h4 _ _ rfl _ _ rfl e1
      | no => simp only; rw [if_neg (h3 _ _ rfl)]; exact h5
      | ex => simp only; rw [if_neg (h3 _ _ rfl)]; exact h5
theorem Rel.apob (R : Rel P O nt B F0 av0 w0 D s a w ι Θ) {k : Nat} {o : Ow} {t n : Nat} {H : Nat → Prop} (h : Θ k = some o) (hH : ι.ob t n = some H) : ¬ H o.g := fun hb => ((R.obs t n H hH).1 _ hb).2.2.2.1 k o h rfl
theorem Rel.less (R : Rel P O nt B F0 av0 w0 D s a w ι Θ) (A : An) (d : Nat) : Rel P O nt B F0 av0 w0 D (s.mapAn (A.twice d)) a w ι (Θ.less A d) :=
  R.fam _ _ (fun _ _ h => h.imp id fun ⟨k, ow, h1, h2⟩ => ⟨k, ow, (less_sub h1).1, h2⟩) (less_an fun _ _ h => h) (fun k o h => R.tok k o (less_sub h).1) (fun k k' o o' h h' => R.tinj k k' o o' (less_sub h).1 (less_sub h').1) (fun k o t n h => R.apart k o t n (less_sub h).1) (fun _ _ _ _ _ h => R.apob (less_sub h).1)
theorem RepL_append {av : Av} : ∀ {xs ys : List AV} {us vs : List Value}, RepL av w xs us → RepL av w ys vs → RepL av w (xs ++ ys) (us ++ vs)
  | [], _, _, _, h, h' => by simp only [RepL] at h; subst h; exact h'
  | x :: r, _, _, _, h, h' => by
    simp only [RepL] at h
    obtain ⟨u, us', rfl, h0, h1, h⟩ := h
    exact ⟨u, us' ++ _, rfl, h0, h1, RepL_append h h'⟩
theorem RepL_one {av : Av} : ∀ {xs : List AV} {us : List Value}, RepL av w xs us → ∀ u ∈ us, u.oneCell' = true
  | [], _, h, u, hu => by simp only [RepL] at h; subst h; cases hu
  | x :: r, _, h, u, hu => by
    simp only [RepL] at h
    obtain ⟨v, us', rfl, h0, h1, h⟩ := h
    rcases List.mem_cons.1 hu with rfl | hu
    · exact h1
    · exact RepL_one h u hu
theorem op_app (R : Rel P O nt B F0 av0 w0 D s a w ι Θ) {t e : TypeId} {i : TypeInfo} {z : List AV} (ht : P.underlying t = some (.slice e)) (hi : P.info? e = some i) (hz : tZero P e = some z) (hsz : z.length = i.size) (hpos : 0 < i.size) {X Y : Operand} {x y : Opd} (hx : opd X = some x) (hy : opd Y = some y)
    (ho : o.op = .call { callee := .builtin .append, args := #[X, Y], argTypes := #[t, t] }) {d : Nat} (hdst : o.dst = some d) (hd : d < nt) {cl : Cl} {call} {xe : Slot × Eff} (hr : (K.app cl e i.size i.bytes x y).run call s = some xe) {g} {s' : MSt} (he : OpC.eff ⟨o.dst, .app cl e i.size i.bytes x y, g⟩ s xe = some s') :
    ∃ v w', (execOp a.eval o).run P w = .ok (.value v) w' ∧ RelE P O nt B F0 av0 w0 D s' (a.put o.dst v) w' := by
  obtain ⟨zv, i', hi', hiz, hzrun, hl⟩ := tZero_run hz w
  rw [hi] at hi'
  injection hi' with hi'
  subst hi'
  have hzs : zv.cells.size = i.size := by
    have := avAll_length hl
    simp only [Array.length_toList] at this
    omega
  have hX := R.opd hx
  have hY := (R.opd hy).1
  have hexec : ∀ v w', (Builtin.append_ #[t, t] o.type #[a.eval X, a.eval Y]).run P w = .ok v w' → (execOp a.eval o).run P w = .ok (.value v) w' := fun v w' h => by
    simp only [execOp, ho, resolve, invoke, builtin, Sem.run_bind, Sem.run_pure, Result.andThen_ok, List.map_toArray, List.map_cons, List.map_nil, h]
  simp only [K.run] at hr
  split at hr
  · rename_i b l m hxv hel
    split at hr
    · rename_i hcond
      obtain ⟨hroom, hall⟩ := hcond
      obtain ⟨hbytes, hcap⟩ := roomOk_iff.1 hroom
      have hall' : ∀ c ∈ l ++ m, c.length = i.size := fun c hc => by simpa using List.all_eq_true.1 hall c hc
      have hm' : ∀ c ∈ m, c.length = i.size := fun c hc => hall' c (List.mem_append_right _ hc)
      have hl' : ∀ c ∈ l, c.length = i.size := fun c hc => hall' c (List.mem_append_left _ hc)
      obtain ⟨news, hnews, hsl⟩ := elems_sl R hY hel hpos hm'
      rw [hxv] at hX
      have hXs := hX.1
      rw [repS_sl] at hXs
      obtain ⟨xs, hxs, hxsl⟩ := elems_sl (cl := cl) R hX.1 (m := l) rfl hpos hl'
      simp only [Rep] at hXs
      obtain ⟨A, c, hv, hlc, hu, hn, hs⟩ := hXs
      have hxlen : xs.length = l.length * i.size := hxsl.1
      have hxcell : ∀ a', A = some a' → ∀ j u, xs[j]? = some u → w.cell? (a'.add j) = some u := fun a' ha j u hj => by
        obtain ⟨_, A2, c2, hv2, _, h2⟩ := hxsl
        rw [hv] at hv2
        injection hv2 with e1 e2 e3
        subst e1
        have hp : 0 < l.length := by
          rcases Nat.eq_zero_or_pos l.length with h | h
          · rw [h] at hxlen; have := (List.getElem?_eq_some_iff.1 hj).1; omega
          · exact h
        obtain ⟨b', off, hA, _, _, hcl⟩ := h2 hp
        rw [ha] at hA
        injection hA with hA
        subst hA
        rw [Addr.add_lit]
        exact hcl j u hj
      have hmlen : news.length = m.length * i.size := hsl.1
      have hone : ∀ u ∈ news, u.oneCell' = true := RepL_one hnews
      have han : ∃ A0, x.an s = A0 ∧ (A0 = .ex ∨ ∃ k, A0 = .own k e) ∧ xe = (⟨.sl (b && m.isEmpty) (l ++ m), .own 0 e⟩, .app A0 0) := by
        cases hA0 : x.an s with
        | no => rw [hA0] at hr; cases hr
        | ex => rw [hA0] at hr; injection hr with hr; exact ⟨_, rfl, .inl rfl, hr.symm⟩
        | own k e' =>
          rw [hA0] at hr
          simp only at hr
          split at hr
          · rename_i hee; subst hee; injection hr with hr; exact ⟨_, rfl, .inr ⟨k, rfl⟩, hr.symm⟩
          · cases hr
      obtain ⟨A0, hA0, hAk, rfl⟩ := han
      simp only [OpC.eff, hdst] at he
      injection he with he
      subst he
      rw [twice_eq, hdst]
      have hXa := hX.2
      rw [hA0] at hXa
      -- what is read of the old elements and the new ones behind
      have hrep : RepL (avA av0 ι Θ) w (l ++ m).flatten (xs ++ news) := by rw [List.flatten_append]; exact RepL_append hxs hnews
      have huni : ∀ c ∈ l ++ m, ∀ c' ∈ l ++ m, c.length = c'.length := fun c hc c' hc' => (hall' c hc).trans (hall' c' hc').symm
      -- a new block
      have grow : c < l.length + m.length → ∃ v w', (execOp a.eval o).run P w = .ok (.value v) w' ∧ RelE P O nt B F0 av0 w0 D ((s.mapAn (A0.twice d)).put (some d) ⟨.sl (b && m.isEmpty) (l ++ m), .own d e⟩) (a.put (some d) v) w' := fun hlt => by
        have hrun := append_grow (P := P) (w := w) ht hi hiz o.type hxlen (fun hA => by
          cases b with
          | true => have := hn rfl; exact ⟨this.2.1, this.2.2⟩
          | false =>
            obtain ⟨h1, h2⟩ := hs rfl
            refine ⟨?_, h1 hA⟩
            rcases Nat.eq_zero_or_pos l.length with h0 | h0
            · exact h0
            · obtain ⟨_, _, ha, _⟩ := h2 h0; rw [hA] at ha; cases ha) hxcell hsl hlt hlc hcap hbytes
        rw [← hv] at hrun
        have hge := grownCap_ge w (l.length + m.length) c e
        have hcm : grownCap w (l.length + m.length) c e ≤ maxLen := grownCap_le_maxLen w (l.length + m.length) c e (by unfold maxLen; omega)
        have hsize : (xs.toArray ++ news.toArray ++ Builtin.zeroCells zv.cells (grownCap w (l.length + m.length) c e - (l.length + m.length))).size = grownCap w (l.length + m.length) c e * i.size := by
          simp only [Array.size_append, List.size_toArray, size_zeroCells, hzs, hxlen, hmlen, ← Nat.add_mul]
          congr 1
          omega
        have R1 := (R.less A0 d).fresh (d := d) less_d hsize hpos hge hcm (e := e) (by simp [tSize, hi])
        refine ⟨_, _, hexec _ _ hrun, ι, _, R1.put hd ?_ (.inr ⟨_, if_pos rfl, rfl, rfl⟩)⟩
        have hb : (b && m.isEmpty) = false := by
          cases b with
          | false => rfl
          | true =>
            have := (hn rfl)
            have : m ≠ [] := fun h => by subst h; simp at hlt; omega
            simpa using this
        show RepS _ _ _ _ (.sl (b && m.isEmpty) (l ++ m)) _
        rw [hb, repS_sl]
        simp only [Rep, List.length_append]
        refine ⟨_, _, rfl, hge, huni, (fun h => by cases h), fun _ => ⟨fun h => (by cases h), fun _ => ⟨w.heap.size, 0, rfl, ?_⟩⟩⟩
        rw [Rows_flat]
        have hheld : Held (avA av0 ι Θ) (avA av0 ι (fun j => if j = d then some ⟨w.heap.size, l.length + m.length, grownCap w (l.length + m.length) c e, i.size, e⟩ else Θ.less A0 d j)) w (grewW w xs news zv e (l.length + m.length) c) := Held.grown (fun b hb => Below.heap_alloc w.drew _ b hb) fun b' o' hb' h => h.imp id fun h => h.imp id fun ⟨k, ow, h1, h2, h3⟩ => by
          by_cases ek : k = d
          · simp only [if_pos ek] at h1; injection h1 with h1; subst h1; simp only at h2; omega
          · simp only [if_neg ek] at h1; exact ⟨k, ow, (less_sub h1).1, h2, h3⟩
        refine Cells_mk (RepL.held hheld _ _ hrep) fun j u hj => ⟨?_, fun h => ?_⟩
        · rw [Nat.zero_add]
          rw [cell_of_row _ w.heap.size j _ e (0, 0) (new_at (w := w.drew) rfl)]
          have hjl := (List.getElem?_eq_some_iff.1 hj).1
          rw [Array.getElem?_append_left (by simp only [Array.size_append, List.size_toArray]; simpa using hjl)]
          simpa using hj
        · rw [Nat.zero_add] at h
          have hjl := (List.getElem?_eq_some_iff.1 hj).1
          rw [List.length_append, hxlen, hmlen, ← Nat.add_mul] at hjl
          rcases h with h | (⟨t', n', h⟩ | ⟨t', n', H, h, hb'⟩) | ⟨k, ow, h1, h2, h3⟩
          · have := R.out _ _ h; have := R.lowB; omega
          · have := (R.mine _ _ _ h).2.1; omega
          · have := ((R.obs _ _ _ h).1 _ hb').2.1; omega
          · by_cases ek : k = d
            · simp only [if_pos ek] at h1; injection h1 with h1; subst h1; simp only at h3; omega
            · simp only [if_neg ek] at h1
              obtain ⟨_, _, _, _, cur', h5, _⟩ := R.tok _ _ (less_sub h1).1
              have := lt_of_heap h5
              omega
      -- nothing new
      have same : m = [] → exV (a.eval X) → ∃ v w', (execOp a.eval o).run P w = .ok (.value v) w' ∧ RelE P O nt B F0 av0 w0 D ((s.mapAn (A0.twice d)).put (some d) ⟨.sl (b && m.isEmpty) (l ++ m), .own d e⟩) (a.put (some d) v) w' := fun hm0 hex => by
        subst hm0
        have hrun := append_zero (P := P) (w := w) ht hi o.type (A := A) hlc hsl
        rw [← hv] at hrun
        have R1 := R.less A0 d
        refine ⟨_, _, hexec _ _ hrun, ι, _, R1.put hd ?_ (.inl hex)⟩
        have hb : (b && List.isEmpty ([] : List (List AV))) = b := by simp
        show RepS _ _ _ _ (.sl (b && List.isEmpty []) (l ++ [])) _
        rw [hb, List.append_nil]
        have hless : Held (avA av0 ι Θ) (avA av0 ι (Θ.less A0 d)) w w := Held.less fun b o h => h.imp id fun h => h.imp id fun ⟨k, ow, h1, h2⟩ => ⟨k, ow, (less_sub h1).1, h2⟩
        have hlessB : Held (avB ι Θ) (avB ι (Θ.less A0 d)) w w := Held.less fun b o h => h.imp id fun ⟨k, ow, h1, h2⟩ => ⟨k, ow, (less_sub h1).1, h2⟩
        exact RepS.held (Ix.Le.refl _) hless hlessB _ _ hX.1
      have exact : exV (a.eval X) → ∃ v w', (execOp a.eval o).run P w = .ok (.value v) w' ∧ RelE P O nt B F0 av0 w0 D ((s.mapAn (A0.twice d)).put (some d) ⟨.sl (b && m.isEmpty) (l ++ m), .own d e⟩) (a.put (some d) v) w' := fun hex => by
        obtain ⟨A', n', hex'⟩ := hex
        rw [hv] at hex'
        injection hex' with e1 e2 e3
        rcases Nat.eq_zero_or_pos m.length with h0 | h0
        · exact same (List.eq_nil_of_length_eq_zero h0) ⟨A', n', by rw [hv, e1, e2, e3]⟩
        · exact grow (by omega)
      rcases hAk with rfl | ⟨k, rfl⟩
      · exact exact hXa
      · rcases hXa with hXa | ⟨ow, hk, hoe, hXa⟩
        · exact exact hXa
        · rw [hv] at hXa
          injection hXa with e1 e2 e3
          obtain ⟨hgB, hosz, honc, hocm, cur, hcur, hcsz⟩ := R.tok k ow hk
          rw [hoe] at hcur
          have hosz' : ow.sz = i.size := by
            have := hcsz.2
            rw [hoe] at this
            simp [tSize, hi] at this
            exact this.symm
          rcases Nat.lt_or_ge c (l.length + m.length) with hlt | hge
          · exact grow hlt
          · subst e1
            have hrun := append_room (P := P) (w := w) ht hi o.type hcur (by rw [hcsz.1, hosz']) hiz hsl hone (n := l.length) (m := m.length) (c := ow.c) (by omega)
            have hfit : l.length * i.size + news.length ≤ cur.toList.length := by
              have hcl : cur.toList.length = ow.c * i.size := by rw [Array.length_toList, hcsz.1, hosz']
              rw [hmlen, ← Nat.add_mul, hcl]
              exact Nat.mul_le_mul_right _ (by omega)
            obtain ⟨new, hnew⟩ : ∃ new, new = (cur.toList.take (l.length * i.size) ++ news ++ cur.toList.drop (l.length * i.size + news.length)).toArray := ⟨_, rfl⟩
            rw [← hnew] at hrun
            have hnl : new.size = cur.size := by
              rw [hnew]
              simp only [List.size_toArray, List.length_append, List.length_take, List.length_drop]
              simp only [Array.length_toList] at hfit ⊢
              omega
            have hn0 : ow.n * ow.sz = l.length * i.size := by rw [← e2, hosz']
            have htk : (cur.toList.take (l.length * i.size)).length = l.length * i.size := by rw [List.length_take]; omega
            have hnew1 : ∀ j, j < l.length * i.size → new[j]? = cur[j]? := fun j hj => by
              rw [hnew, List.getElem?_toArray, List.append_assoc, List.getElem?_append_left (by omega), List.getElem?_take, if_pos hj]
              simp
            have hxs' : ∀ j u, (xs ++ news)[j]? = some u → new[j]? = some u := fun j u hj => by
              rcases Nat.lt_or_ge j (l.length * i.size) with hjl | hjl
              · rw [hnew1 j hjl]
                rw [List.getElem?_append_left (by omega)] at hj
                have := hxcell _ rfl j u hj
                rw [Addr.add_lit, Nat.zero_add, cell_of_row w ow.g j cur e (0, 0) hcur] at this
                exact this
              · rw [List.getElem?_append_right (by omega), hxlen] at hj
                have hjn := (List.getElem?_eq_some_iff.1 hj).1
                rw [hnew, List.getElem?_toArray, List.append_assoc, List.getElem?_append_right (by omega), htk, List.getElem?_append_left hjn]
                exact hj
            have R1 := R.spare (new := new) hk (by rw [hoe]; exact hcur) hnl (fun j hj => hnew1 j (by omega))
            have hcur1 : (w.setRow ow.g new).heap[ow.g]? = some (.cells new e (0, 0)) := setRow_heap w ow.g cur new e (0, 0) hcur
            have hav : ∀ b o, avB ι (fun j => if j = d then some ⟨ow.g, l.length + m.length, ow.c, i.size, e⟩ else Θ.less (.own k e) d j) b o → avB ι Θ b o := fun b o h => h.imp id fun ⟨k', ow', h1, h2, h3⟩ => by
              by_cases ek : k' = d
              · simp only [if_pos ek] at h1
                injection h1 with h1
                subst h1
                refine ⟨k, ow, hk, h2, ?_⟩
                simp only [Nat.add_mul] at h3
                omega
              · simp only [if_neg ek] at h1; exact ⟨k', ow', (less_sub h1).1, h2, h3⟩
            have R2 := R1.fam (fun j => if j = d then some ⟨ow.g, l.length + m.length, ow.c, i.size, e⟩ else Θ.less (.own k e) d j) ((An.own k e).twice d) hav
              (less_an fun j o' h => by have := (less_sub h).2.1; simp only [if_neg this]; exact h)
              (fun k' o' h => by
                by_cases ek : k' = d
                · simp only [if_pos ek] at h
                  injection h with h
                  subst h
                  exact ⟨hgB, hpos, by simp only; omega, hocm, new, hcur1, by rw [hnl, hcsz.1, hosz'], by simp [tSize, hi]⟩
                · simp only [if_neg ek] at h
                  exact R1.tok k' o' (less_sub h).1)
              (fun k' k'' o' o'' h h' hg => by
                by_cases e1 : k' = d <;> by_cases e2 : k'' = d
                · rw [e1, e2]
                · simp only [if_pos e1] at h; simp only [if_neg e2] at h'
                  injection h with h; subst h
                  exact absurd (R.tinj _ _ _ _ hk (less_sub h').1 hg).symm ((less_sub h').2.2 k e rfl)
                · simp only [if_neg e1] at h; simp only [if_pos e2] at h'
                  injection h' with h'; subst h'
                  exact absurd (R.tinj _ _ _ _ (less_sub h).1 hk hg) ((less_sub h).2.2 k e rfl)
                · simp only [if_neg e1] at h; simp only [if_neg e2] at h'
                  exact R.tinj _ _ _ _ (less_sub h).1 (less_sub h').1 hg)
              (fun k' o' t' n' h => by
                by_cases ek : k' = d
                · simp only [if_pos ek] at h
                  injection h with h
                  subst h
                  exact R.apart k ow t' n' hk
                · simp only [if_neg ek] at h
                  exact R.apart k' o' t' n' (less_sub h).1)
              (fun k' o' t' n' H h hH => by
                by_cases ek : k' = d
                · simp only [if_pos ek] at h
                  injection h with h
                  subst h
                  show ¬ H ow.g
                  exact R.apob hk hH
                · simp only [if_neg ek] at h
                  exact R.apob (less_sub h).1 hH)
            have hv' : a.eval X = .slice (some ⟨ow.g, 0, none⟩) l.length ow.c := by rw [hv, e3]
            rw [← hv'] at hrun
            refine ⟨_, _, hexec _ _ hrun, ι, _, R2.put hd ?_ (.inr ⟨_, if_pos rfl, rfl, rfl⟩)⟩
            show RepS _ _ _ _ (.sl (b && m.isEmpty) (l ++ m)) _
            have hb : b = false := by
              cases b with
              | false => rfl
              | true => have := (hn rfl).1; cases this
            rw [hb, Bool.false_and, repS_sl]
            simp only [Rep, List.length_append]
            refine ⟨_, _, rfl, by omega, huni, (fun h => by cases h), fun _ => ⟨fun h => (by cases h), fun _ => ⟨ow.g, 0, rfl, ?_⟩⟩⟩
            rw [Rows_flat]
            have hheld : Held (avA av0 ι Θ) (avA av0 ι (fun j => if j = d then some ⟨ow.g, l.length + m.length, ow.c, i.size, e⟩ else Θ.less (.own k e) d j)) w (w.setRow ow.g new) := ⟨fun b' o' u hc hna => by
              refine ⟨?_, fun h => hna (h.imp id (hav b' o'))⟩
              by_cases hb' : b' = ow.g
              · subst hb'
                rw [cell_of_row _ ow.g o' new e (0, 0) hcur1]
                have : o' < l.length * i.size := by
                  rcases Nat.lt_or_ge o' (l.length * i.size) with h | h
                  · exact h
                  · exact absurd (.inr (.inr ⟨k, ow, hk, rfl, by omega⟩)) hna
                rw [hnew1 o' this, ← cell_of_row w ow.g o' cur e (0, 0) hcur]
                exact hc
              · exact (World.cell?_of_block (w := w) (a := ⟨b', o', none⟩) (setRow_other w ow.g b' new hb')).trans hc⟩
            refine Cells_mk (RepL.held hheld _ _ hrep) fun j u hj => ⟨?_, fun h => ?_⟩
            · rw [Nat.zero_add, cell_of_row _ ow.g j new e (0, 0) hcur1]
              exact hxs' j u hj
            · rw [Nat.zero_add] at h
              have hjl := (List.getElem?_eq_some_iff.1 hj).1
              rw [List.length_append, hxlen, hmlen, ← Nat.add_mul] at hjl
              rcases h with h | (⟨t', n', h⟩ | ⟨t', n', H, h, hb'⟩) | ⟨k', ow', h1, h2, h3⟩
              · have := R.out _ _ h; omega
              · exact R.apart k ow t' n' hk h
              · exact R.apob hk h hb'
              · by_cases ek : k' = d
                · simp only [if_pos ek] at h1; injection h1 with h1; subst h1; simp only at h3; omega
                · simp only [if_neg ek] at h1
                  exact absurd (R.tinj _ _ _ _ (less_sub h1).1 hk h2) ((less_sub h1).2.2 k e rfl)
    · cases hr
  · cases hr
/-- names that come to an end -/
def Ix.del (ι : Ix) (t n : Nat) : Ix := ⟨fun t' n' => if t' = t ∧ n' = n then .none else ι t' n', ι.ob, ι.z⟩
theorem Ix.del_some {ι : Ix} {t n t' n' b : Nat} (h : (ι.del t n) t' n' = some b) : ι t' n' = some b ∧ ¬ (t' = t ∧ n' = n) := by
  have h' : (if t' = t ∧ n' = n then Option.none else ι t' n') = Option.some b := h
  split at h'
  · cases h'
  · rename_i hn; exact ⟨h', hn⟩
theorem Ix.del_lk (ι : Ix) (t n : Nat) : Ix.Lk t n ι (ι.del t n) := ⟨fun t' n' b hn h => by
  show (if t' = t ∧ n' = n then Option.none else ι t' n') = Option.some b
  rw [if_neg hn]; exact h, fun _ _ _ _ => rfl⟩
theorem RowOk.kill {t n : Nat} {ι' : Ix} {av av' : Av} {r : List Slot} {cur : Array Value} (h : RowOk ι Θ av w r cur) (hι : Ix.Lk t n ι ι') (hh : Held av av' w w) : RowOk ι' Θ av' w (r.map (Slot.kill t n)) cur := by
  refine ⟨by simpa using h.1, fun j x hx => ?_⟩
  rw [List.getElem?_map] at hx
  cases hj : r[j]? with
  | none => rw [hj] at hx; cases hx
  | some y =>
    rw [hj] at hx
    injection hx with hx
    subst hx
    obtain ⟨u, hu, h1, hr, ha⟩ := h.2 j y hj
    refine ⟨u, hu, h1, ?_, ha⟩
    have hk := RepC.kill hι hh y.v u hr
    show RepC ι' av' w (y.v.kill t n) u
    cases hy : y.v with
    | agg cs => rw [hy] at hr; obtain ⟨us, rfl, _⟩ := hr; simp [Value.oneCell'] at h1
    | tup cs => rw [hy] at hr; obtain ⟨us, rfl, _⟩ := hr; simp [Value.oneCell'] at h1
    | _ => rw [hy] at hk; exact hk
theorem Rel.kill (R : Rel P O nt B F0 av0 w0 D s a w ι Θ) {t n : Nat} {r : List Slot} (hm : s.mem t n = some r) : Rel P O nt B F0 av0 w0 D (s.kill t n) a w (ι.del t n) Θ := by
  have hno := (R.rows t n r hm).1
  have hlk := Ix.del_lk ι t n
  have hBx : ∀ b o, avB (ι.del t n) Θ b o → avB ι Θ b o := fun b o h => h.imp (fun h => h.imp (fun ⟨t', n', h⟩ => ⟨t', n', (Ix.del_some h).1⟩) id) id
  have hB : Held (avB ι Θ) (avB (ι.del t n) Θ) w w := Held.less hBx
  have hA : Held (avA av0 ι Θ) (avA av0 (ι.del t n) Θ) w w := Held.less fun b o h => h.imp id (hBx b o)
  refine ⟨R.defers, R.size, fun j => RepS.kill hlk hA hB _ _ (R.env j), R.ann, fun t' n' r' hr => ?_, fun t' n' b h => R.mine t' n' b (Ix.del_some h).1, fun t1 n1 t2 n2 b h h' => R.inj t1 n1 t2 n2 b (Ix.del_some h).1 (Ix.del_some h').1, R.tok, R.tinj, fun k o t' n' h h' => R.apart k o t' n' h (Ix.del_some h').1, R.out, fun p h => ?_, R.kept, R.base, fun t' n' S h => ?_, fun t' n' H h => ?_⟩
  · simp only [MSt.kill] at hr
    split at hr
    · cases hr
    · rename_i hn
      cases hm' : s.mem t' n' with
      | none => rw [hm'] at hr; cases hr
      | some r0 =>
        rw [hm'] at hr
        injection hr with hr
        subst hr
        obtain ⟨h0, b, cur, ty, h1, h2, h3, h4⟩ := R.rows t' n' r0 hm'
        exact ⟨h0, b, cur, ty, hlk.f _ _ _ hn h1, h2, h3.kill hlk hA, h4⟩
  · obtain ⟨h1, H, h2⟩ := R.pin p h
    refine ⟨hlk.f _ _ _ (fun e => ?_) h1, H, h2⟩
    rw [← e.1, ← e.2, h2] at hno
    cases hno
  · obtain ⟨p, H, h1, h2, h3⟩ := R.objs t' n' S h
    refine ⟨p, H, hlk.f _ _ _ (fun e => ?_) h1, h2, h3⟩
    rw [← e.1, ← e.2, h2] at hno
    cases hno
  · obtain ⟨h1, h2⟩ := R.obs t' n' H h
    refine ⟨fun b hb => ?_, h2⟩
    obtain ⟨g1, g2, g3, g4, g5⟩ := h1 b hb
    exact ⟨g1, g2, fun t2 n2 h => g3 t2 n2 (Ix.del_some h).1, g4, g5⟩
/-- a row gets another name -/
theorem Rel.ren (R : Rel P O nt B F0 av0 w0 D s a w ι Θ) {t n : Nat} {r : List Slot} (hm : s.mem t n = some r) (hfree : r.map (Slot.kill t n) = r) {d : Nat} (hd : d < nt) (hD : ¬ D d) {x : AV} {v : Value}
    (hx : ∀ ι' : Ix, ι' d s.next = ι t n → (∀ b, ι'.z b = ι.z b) → RepS ι' (avA av0 ι' Θ) (avB ι' Θ) w x v) :
    ∃ ι', Rel P O nt B F0 av0 w0 (fun j => D j ∨ j = d) (((s.kill t n).setRow d s.next r).put (some d) ⟨x, .no⟩) (a.put (some d) v) w ι' Θ := by
  obtain ⟨hno, b0, cur0, ty0, hb0, hheap0, hrow0, hB0, hz0⟩ := R.rows t n r hm
  have hfresh : ι d s.next = none := by
    cases h : ι d s.next with
    | none => rfl
    | some b =>
      rcases (R.mine _ _ _ h).2.2 with h1 | h1
      · omega
      · exact absurd h1.2 hD
  have hfresh' : ι.ob d s.next = none := by
    cases h : ι.ob d s.next with
    | none => rfl
    | some b =>
      rcases (R.obs _ _ _ h).2 with h1 | h1
      · omega
      · exact absurd h1.2 hD
  have hne : ¬ (t = d ∧ n = s.next) := fun e => by rw [e.1, e.2, hfresh] at hb0; cases hb0
  obtain ⟨ι', hι'⟩ : ∃ ι' : Ix, ι' = ⟨fun t' n' => if t' = d ∧ n' = s.next then some b0 else (ι.del t n) t' n', ι.ob, ι.z⟩ := ⟨_, rfl⟩
  have hnew : ι' d s.next = some b0 := by subst hι'; show (if d = d ∧ s.next = s.next then some b0 else _) = _; rw [if_pos ⟨rfl, rfl⟩]
  have hold : ∀ t' n' b, ι' t' n' = some b → (t' = d ∧ n' = s.next ∧ b = b0) ∨ (ι t' n' = some b ∧ ¬ (t' = t ∧ n' = n) ∧ ¬ (t' = d ∧ n' = s.next)) := fun t' n' b h => by
    subst hι'
    have h' : (if t' = d ∧ n' = s.next then some b0 else (ι.del t n) t' n') = some b := h
    split at h'
    · rename_i e; injection h' with h'; exact .inl ⟨e.1, e.2, h'.symm⟩
    · rename_i e; exact .inr ⟨(Ix.del_some h').1, (Ix.del_some h').2, e⟩
  have hob : ι'.ob = ι.ob := by subst hι'; rfl
  have hlk : Ix.Lk t n ι ι' := ⟨fun t' n' b hn h => by
    subst hι'
    show (if t' = d ∧ n' = s.next then some b0 else (ι.del t n) t' n') = some b
    rw [if_neg (fun e => by rw [e.1, e.2, hfresh] at h; cases h)]
    exact (Ix.del_lk ι t n).f _ _ _ hn h, fun _ _ _ _ => by subst hι'; rfl⟩
  have hzz : ∀ b, ι'.z b = ι.z b := fun b => by subst hι'; rfl
  clear hι'
  have hBx : ∀ b o, avB ι' Θ b o → avB ι Θ b o := fun b o h => h.imp (fun h => h.imp (fun ⟨t', n', h⟩ => by
    rcases hold _ _ _ h with ⟨_, _, e⟩ | ⟨h, _⟩
    · exact ⟨t, n, e ▸ hb0⟩
    · exact ⟨t', n', h⟩) (fun ⟨t', n', H, h, hb⟩ => ⟨t', n', H, hob ▸ h, hb⟩)) id
  have hB : Held (avB ι Θ) (avB ι' Θ) w w := Held.less hBx
  have hA : Held (avA av0 ι Θ) (avA av0 ι' Θ) w w := Held.less fun b o h => h.imp id (hBx b o)
  refine ⟨ι', Rel.put (s := (s.kill t n).setRow d s.next r) ⟨R.defers, R.size, fun j => RepS.kill hlk hA hB _ _ (R.env j), R.ann, fun t' n' r' hr => ?_, fun t' n' b h => ?_, fun t1 n1 t2 n2 b h h' => ?_, R.tok, R.tinj, fun k o t' n' h h' => ?_, R.out, fun p h => ?_, R.kept, R.base, fun t' n' S h => ?_, fun t' n' H h => ?_⟩ hd (hx _ (hnew.trans hb0.symm) hzz) trivial⟩
  · simp only [MSt.setRow] at hr
    split at hr
    · rename_i e
      injection hr with hr
      subst hr
      refine ⟨by rw [hob, e.1, e.2]; exact hfresh', b0, cur0, ty0, by rw [e.1, e.2]; exact hnew, hheap0, ?_, hB0, hz0.trans (hzz _).symm⟩
      have := hrow0.kill hlk hA
      rw [hfree] at this
      exact this
    · simp only [MSt.kill] at hr
      split at hr
      · cases hr
      · rename_i hn
        cases hm' : s.mem t' n' with
        | none => rw [hm'] at hr; cases hr
        | some r0 =>
          rw [hm'] at hr
          injection hr with hr
          subst hr
          obtain ⟨h0, b, cur, ty, h1, h2, h3, h4, h5⟩ := R.rows t' n' r0 hm'
          exact ⟨hob ▸ h0, b, cur, ty, hlk.f _ _ _ hn h1, h2, h3.kill hlk hA, h4, h5.trans (hzz _).symm⟩
  · rcases hold _ _ _ h with ⟨e1, e2, e3⟩ | ⟨h, _⟩
    · subst e1; subst e3
      obtain ⟨h1, h2, _⟩ := R.mine t n b hb0
      exact ⟨h1, h2, .inr ⟨e2, .inr rfl⟩⟩
    · obtain ⟨h1, h2, h3⟩ := R.mine t' n' b h
      exact ⟨h1, h2, h3.imp id fun ⟨e, d⟩ => ⟨e, .inl d⟩⟩
  · rcases hold _ _ _ h with ⟨e1, e2, e3⟩ | ⟨h, hn, _⟩ <;> rcases hold _ _ _ h' with ⟨f1, f2, f3⟩ | ⟨h', hn', _⟩
    · exact ⟨e1.trans f1.symm, e2.trans f2.symm⟩
    · subst e3; exact absurd (R.inj _ _ _ _ _ h' hb0) hn'
    · subst f3; exact absurd (R.inj _ _ _ _ _ h hb0) hn
    · exact R.inj _ _ _ _ _ h h'
  · rcases hold _ _ _ h' with ⟨e1, e2, e3⟩ | ⟨h', _⟩
    · exact R.apart k o t n h (e3 ▸ hb0)
    · exact R.apart k o t' n' h h'
  · obtain ⟨h1, H, h2⟩ := R.pin p h
    refine ⟨hlk.f _ _ _ (fun e => ?_) h1, H, hob ▸ h2⟩
    rw [← e.1, ← e.2, h2] at hno
    cases hno
  · obtain ⟨p, H, h1, h2, h3⟩ := R.objs t' n' S h
    refine ⟨p, H, hlk.f _ _ _ (fun e => ?_) h1, hob ▸ h2, h3⟩
    rw [← e.1, ← e.2, h2] at hno
    cases hno
  · rw [hob] at h
    obtain ⟨h1, h2⟩ := R.obs t' n' H h
    refine ⟨fun b hb => ?_, h2.imp id fun ⟨e, d⟩ => ⟨e, .inl d⟩⟩
    obtain ⟨g1, g2, g3, g4, g5⟩ := h1 b hb
    refine ⟨g1, g2, fun t2 n2 h' => ?_, g4, hob ▸ g5⟩
    rcases hold _ _ _ h' with ⟨e1, e2, e3⟩ | ⟨h', _⟩
    · exfalso
      have e := g3 t n (e3 ▸ hb0)
      rw [← e.1, ← e.2] at h
      rw [hno] at h
      cases h
    · exact g3 t2 n2 h'
theorem row_of {av : Av} {cs : List AV} {us : List Value} (h : RepL av w cs us) {cur : Array Value} (hc : ∀ (j : Nat) (u : Value), us[j]? = some u → cur[j]? = some u) : RowOk ι Θ av w (cs.map (⟨·, .no⟩)) cur := by
  have hlen := RepCL_length (RepCL_ofL (ι := ι) h)
  constructor
  · rw [List.length_map]
    rcases Nat.eq_zero_or_pos cs.length with h0 | h0
    · omega
    · have := hc (cs.length - 1) us[cs.length - 1] (List.getElem?_eq_getElem (by omega))
      have := (Array.getElem?_eq_some_iff.1 this).1
      omega
  · intro j x hx
    rw [List.getElem?_map] at hx
    cases hj : cs[j]? with
    | none => rw [hj] at hx; cases hx
    | some y =>
      rw [hj] at hx
      injection hx with hx
      subst hx
      obtain ⟨u, hu, h1, hr⟩ := RepCL_get (RepCL_ofL (ι := ι) h) hj
      exact ⟨u, hc j u hu, h1, hr, trivial⟩
theorem kill_free0 {x : AV} (h : x.free0 = true) (t n : Nat) : x.kill t n = x := by
  cases x <;> first | rfl | (simp [AV.free0] at h; done)
theorem RepL_free {av : Av} : ∀ {xs : List AV} {us : List Value}, RepL av w xs us → ∀ (t n : Nat), (xs.map (⟨·, .no⟩)).map (Slot.kill t n) = xs.map (⟨·, .no⟩)
  | [], _, _, _, _ => rfl
  | x :: r, _, h, t, n => by
    simp only [RepL] at h
    obtain ⟨u, us', rfl, h0, h1, h⟩ := h
    simp only [List.map_cons, RepL_free h t n]
    congr 1
    show (⟨x.kill t n, .no⟩ : Slot) = ⟨x, .no⟩
    congr 1
    cases x <;> first | rfl | (simp [Rep] at h0; done) | (simp only [Rep] at h0; obtain ⟨us, rfl, _⟩ := h0; simp [Value.oneCell'] at h1; done)
theorem Rel.drew (R : Rel P O nt B F0 av0 w0 D s a w ι Θ) : Rel P O nt B F0 av0 w0 D s a w.drew ι Θ := R.grow (w' := w.drew) (fun _ _ => rfl) (Nat.le_refl _) R.kept.drew
theorem setRow_kill (s : MSt) (t n : Nat) (r : List Slot) : (s.setRow t n r).kill t n = s.kill t n := by
  simp only [MSt.setRow, MSt.kill]
  congr 1
  funext t' n'
  by_cases h : t' = t ∧ n' = n <;> simp [h]
theorem op_appf (R : Rel P O nt B F0 av0 w0 D s a w ι Θ) {t e : TypeId} {i : TypeInfo} {z : List AV} (ht : P.underlying t = some (.slice e)) (hi : P.info? e = some i) (hz : tZero P e = some z) (hsz : z.length = i.size) (hpos : 0 < i.size) {X Y : Operand} {x y : Opd} (hx : opd X = some x) (hy : opd Y = some y)
    (ho : o.op = .call { callee := .builtin .append, args := #[X, Y], argTypes := #[t, t] }) {d : Nat} (hdst : o.dst = some d) (hd : d < nt) (hD : ¬ D d) {cl : Cl} {call} {xe : Slot × Eff} (hr : (K.appf cl e i.size i.bytes x y).run call s = some xe) {g} {s' : MSt} (he : OpC.eff ⟨o.dst, .appf cl e i.size i.bytes x y, g⟩ s xe = some s') :
    ∃ v w', (execOp a.eval o).run P w = .ok (.value v) w' ∧ RelE P O nt B F0 av0 w0 (fun t => D t ∨ t = d) s' (a.put o.dst v) w' := by
  obtain ⟨zv, i', hi', hiz, hzrun, hl⟩ := tZero_run hz w
  rw [hi] at hi'
  injection hi' with hi'
  subst hi'
  have hzs : zv.cells.size = i.size := by
    have := avAll_length hl
    simp only [Array.length_toList] at this
    omega
  have hX := R.opd hx
  have hY := (R.opd hy).1
  have hexec : ∀ v w', (Builtin.append_ #[t, t] o.type #[a.eval X, a.eval Y]).run P w = .ok v w' → (execOp a.eval o).run P w = .ok (.value v) w' := fun v w' h => by
    simp only [execOp, ho, resolve, invoke, builtin, Sem.run_bind, Sem.run_pure, Result.andThen_ok, List.map_toArray, List.map_cons, List.map_nil, h]
  -- a new block for l ++ m
  have grow : ∀ {s1 : MSt} {ι1 : Ix} {l m : List (List AV)} {xs news : List Value} {A : Option Addr} {ln c : Nat}, Rel P O nt B F0 av0 w0 D s1 a w.drew ι1 Θ → a.eval X = .slice A ln c → xs.length = ln * i.size → (A = none → ln = 0 ∧ c = 0) → (∀ a', A = some a' → ∀ j u, xs[j]? = some u → w.cell? (a'.add j) = some u) →
      l.length = ln → Sl (fun _ => False) w i.size (a.eval Y) m.length news → c < ln + m.length → ln ≤ c → RepL (avA av0 ι1 Θ) w.drew (l ++ m).flatten (xs ++ news) → roomOk i.bytes (ln + m.length) = true →
      ∃ v w', (execOp a.eval o).run P w = .ok (.value v) w' ∧ RelE P O nt B F0 av0 w0 (fun t => D t ∨ t = d) ((s1.setRow d s1.next ((l ++ m).flatten.map (⟨·, .no⟩))).put (some d) ⟨.ref d s1.next i.size 0 (ln + m.length) (ln + m.length), .no⟩) (a.put (some d) v) w' := by
    intro s1 ι1 l m xs news A ln c R1 hv hxs hA hxc hll hsl hlt hlc hrep hroom
    obtain ⟨hbytes, hcap⟩ := roomOk_iff.1 hroom
    have hrun := append_grow (P := P) (w := w) ht hi hiz o.type hxs hA hxc hsl hlt hlc hcap hbytes
    rw [← hv] at hrun
    have hge := grownCap_ge w (ln + m.length) c e
    have hnl : news.length = m.length * i.size := hsl.1
    have hrow : RowOk ι1 Θ (avA av0 ι1 Θ) w.drew ((l ++ m).flatten.map (⟨·, .no⟩)) (xs.toArray ++ news.toArray ++ Builtin.zeroCells zv.cells (grownCap w (ln + m.length) c e - (ln + m.length))) := row_of hrep fun j u hj => by
      have hjl := (List.getElem?_eq_some_iff.1 hj).1
      rw [Array.getElem?_append_left (by simp only [Array.size_append, List.size_toArray]; simpa using hjl)]
      simpa using hj
    obtain ⟨ι', h⟩ := R1.new hd hD e hrow (x := .ref d s1.next i.size 0 (ln + m.length) (ln + m.length)) (v := .slice (some ⟨w.heap.size, 0, none⟩) (ln + m.length) (grownCap w (ln + m.length) c e)) (fun ι' h hz => ⟨_, h, Nat.le_refl _, _, hge, by
      rw [show ι'.z w.drew.heap.size = _ from hz, Nat.zero_add]
      simp only [Array.size_append, List.size_toArray, size_zeroCells, hzs, hxs, hnl, ← Nat.add_mul]
      exact Nat.mul_le_mul_right _ (by omega), rfl⟩)
    exact ⟨_, _, hexec _ _ hrun, ι', Θ, h⟩
  have drewHeld : Held (avA av0 ι Θ) (avA av0 ι Θ) w w.drew := Held.grown (fun _ _ => rfl) fun _ _ _ h => h
  simp only [K.run] at hr
  split at hr
  · rename_i b l m hxv hel
    split at hr
    · rename_i hcond
      obtain ⟨hroom, hall⟩ := hcond
      have hall' : ∀ c ∈ l ++ m, c.length = i.size := fun c hc => by simpa using List.all_eq_true.1 hall c hc
      have hm' : ∀ c ∈ m, c.length = i.size := fun c hc => hall' c (List.mem_append_right _ hc)
      have hl' : ∀ c ∈ l, c.length = i.size := fun c hc => hall' c (List.mem_append_left _ hc)
      obtain ⟨news, hnews, hsl⟩ := elems_sl R hY hel hpos hm'
      rw [hxv] at hX
      have hXs := hX.1
      rw [repS_sl] at hXs
      obtain ⟨xs, hxs, hxsl⟩ := elems_sl (cl := cl) R hX.1 (m := l) rfl hpos hl'
      simp only [Rep] at hXs
      obtain ⟨A, c, hv, hlc, hu, hn, hs⟩ := hXs
      have hxlen : xs.length = l.length * i.size := hxsl.1
      have hxcell : ∀ a', A = some a' → ∀ j u, xs[j]? = some u → w.cell? (a'.add j) = some u := fun a' ha j u hj => by
        obtain ⟨_, A2, c2, hv2, _, h2⟩ := hxsl
        rw [hv] at hv2
        injection hv2 with e1 e2 e3
        subst e1
        have hp : 0 < l.length := by
          rcases Nat.eq_zero_or_pos l.length with h | h
          · rw [h] at hxlen; have := (List.getElem?_eq_some_iff.1 hj).1; omega
          · exact h
        obtain ⟨b', off, hA, _, _, hcl⟩ := h2 hp
        rw [ha] at hA
        injection hA with hA
        subst hA
        rw [Addr.add_lit]
        exact hcl j u hj
      split at hr
      · rename_i hA0
        rw [hA0] at hX
        obtain ⟨A', n', hex⟩ := hX.2
        rw [hv] at hex
        injection hex with e1 e2 e3
        split at hr
        · rename_i hme
          injection hr with hr
          subst hr
          have hm0 : m = [] := by simpa using hme
          subst hm0
          simp only [OpC.eff] at he
          injection he with he
          subst he
          have hrun := append_zero (P := P) (w := w) ht hi o.type (A := A) hlc hsl
          rw [← hv] at hrun
          exact ⟨_, _, hexec _ _ hrun, ι, Θ, (R.putN (d := o.dst) (x := ⟨.sl b l, .ex⟩) (fun t h => by rw [hdst] at h; injection h with h; omega) hX.1 ⟨A, n', by rw [hv, e2, e3]⟩).more fun _ h => .inl h⟩
        · rename_i hme
          injection hr with hr
          subst hr
          have hm0 : 0 < m.length := by
            cases m with
            | nil => simp at hme
            | cons => simp
          simp only [OpC.eff, hdst] at he
          injection he with he
          subst he
          rw [hdst]
          exact grow R.drew hv hxlen (fun hA => by
            cases b with
            | true => have := hn rfl; exact ⟨this.2.1, this.2.2⟩
            | false =>
              obtain ⟨h1, h2⟩ := hs rfl
              refine ⟨?_, h1 hA⟩
              rcases Nat.eq_zero_or_pos l.length with h0 | h0
              · exact h0
              · obtain ⟨_, _, ha, _⟩ := h2 h0; rw [hA] at ha; cases ha) hxcell rfl hsl (by omega) hlc (by rw [List.flatten_append]; exact RepL_append (RepL.held drewHeld _ _ hxs) (RepL.held drewHeld _ _ hnews)) hroom
      · cases hr
    · cases hr
  · cases hr
theorem op_appm (R : Rel P O nt B F0 av0 w0 D s a w ι Θ) {t e : TypeId} {i : TypeInfo} {z : List AV} (ht : P.underlying t = some (.slice e)) (hi : P.info? e = some i) (hz : tZero P e = some z) (hsz : z.length = i.size) (hpos : 0 < i.size) {X Y : Operand} {x y : Opd} (hx : opd X = some x) (hy : opd Y = some y)
    (ho : o.op = .call { callee := .builtin .append, args := #[X, Y], argTypes := #[t, t] }) {d : Nat} (hdst : o.dst = some d) (hd : d < nt) (hD : ¬ D d) {cl : Cl} {call} {xe : Slot × Eff} (hr : (K.appm cl e i.size i.bytes x y).run call s = some xe) {g} {s' : MSt} (he : OpC.eff ⟨o.dst, .appm cl e i.size i.bytes x y, g⟩ s xe = some s') :
    ∃ v w', (execOp a.eval o).run P w = .ok (.value v) w' ∧ RelE P O nt B F0 av0 w0 (fun t => D t ∨ t = d) s' (a.put o.dst v) w' := by
  obtain ⟨zv, i', hi', hiz, hzrun, hl⟩ := tZero_run hz w
  rw [hi] at hi'
  injection hi' with hi'
  subst hi'
  have hzs : zv.cells.size = i.size := by
    have := avAll_length hl
    simp only [Array.length_toList] at this
    omega
  have hX := R.opd hx
  have hY := (R.opd hy).1
  have hexec : ∀ v w', (Builtin.append_ #[t, t] o.type #[a.eval X, a.eval Y]).run P w = .ok v w' → (execOp a.eval o).run P w = .ok (.value v) w' := fun v w' h => by
    simp only [execOp, ho, resolve, invoke, builtin, Sem.run_bind, Sem.run_pure, Result.andThen_ok, List.map_toArray, List.map_cons, List.map_nil, h]
  -- a new block for l ++ m
  have grow : ∀ {s1 : MSt} {ι1 : Ix} {l m : List (List AV)} {xs news : List Value} {A : Option Addr} {ln c : Nat}, Rel P O nt B F0 av0 w0 D s1 a w.drew ι1 Θ → a.eval X = .slice A ln c → xs.length = ln * i.size → (A = none → ln = 0 ∧ c = 0) → (∀ a', A = some a' → ∀ j u, xs[j]? = some u → w.cell? (a'.add j) = some u) →
      l.length = ln → Sl (fun _ => False) w i.size (a.eval Y) m.length news → c < ln + m.length → ln ≤ c → RepL (avA av0 ι1 Θ) w.drew (l ++ m).flatten (xs ++ news) → roomOk i.bytes (ln + m.length) = true →
      ∃ v w', (execOp a.eval o).run P w = .ok (.value v) w' ∧ RelE P O nt B F0 av0 w0 (fun t => D t ∨ t = d) ((s1.setRow d s1.next ((l ++ m).flatten.map (⟨·, .no⟩))).put (some d) ⟨.ref d s1.next i.size 0 (ln + m.length) (ln + m.length), .no⟩) (a.put (some d) v) w' := by
    intro s1 ι1 l m xs news A ln c R1 hv hxs hA hxc hll hsl hlt hlc hrep hroom
    obtain ⟨hbytes, hcap⟩ := roomOk_iff.1 hroom
    have hrun := append_grow (P := P) (w := w) ht hi hiz o.type hxs hA hxc hsl hlt hlc hcap hbytes
    rw [← hv] at hrun
    have hge := grownCap_ge w (ln + m.length) c e
    have hnl : news.length = m.length * i.size := hsl.1
    have hrow : RowOk ι1 Θ (avA av0 ι1 Θ) w.drew ((l ++ m).flatten.map (⟨·, .no⟩)) (xs.toArray ++ news.toArray ++ Builtin.zeroCells zv.cells (grownCap w (ln + m.length) c e - (ln + m.length))) := row_of hrep fun j u hj => by
      have hjl := (List.getElem?_eq_some_iff.1 hj).1
      rw [Array.getElem?_append_left (by simp only [Array.size_append, List.size_toArray]; simpa using hjl)]
      simpa using hj
    obtain ⟨ι', h⟩ := R1.new hd hD e hrow (x := .ref d s1.next i.size 0 (ln + m.length) (ln + m.length)) (v := .slice (some ⟨w.heap.size, 0, none⟩) (ln + m.length) (grownCap w (ln + m.length) c e)) (fun ι' h hz => ⟨_, h, Nat.le_refl _, _, hge, by
      rw [show ι'.z w.drew.heap.size = _ from hz, Nat.zero_add]
      simp only [Array.size_append, List.size_toArray, size_zeroCells, hzs, hxs, hnl, ← Nat.add_mul]
      exact Nat.mul_le_mul_right _ (by omega), rfl⟩)
    exact ⟨_, _, hexec _ _ hrun, ι', Θ, h⟩
  have drewHeld : Held (avA av0 ι Θ) (avA av0 ι Θ) w w.drew := Held.grown (fun _ _ => rfl) fun _ _ _ h => h
  simp only [K.run] at hr
  split at hr
  · rename_i b l m hxv hel
    exact op_appf R ht hi hz hsz hpos hx hy ho hdst hd hD (cl := cl) (call := call) (xe := xe) (by simp only [K.run, hxv, hel]; exact hr) (g := g) he
  · rename_i t' n sz off ln cp m hxv hel
    split at hr
    · rename_i l hll
      split at hr
      · rename_i hcond
        obtain ⟨rfl, rfl, hroom, hall⟩ := hcond
        injection hr with hr
        subst hr
        have hm' : ∀ c ∈ m, c.length = i.size := fun c hc => by simpa using List.all_eq_true.1 hall c hc
        obtain ⟨news, hnews, hsl⟩ := elems_sl R hY hel hpos hm'
        rw [hxv] at hX
        obtain ⟨b, hb, hle, cc, hcc, hzb, hv⟩ := repS_ref.1 hX.1
        simp only [AV.elems] at hll
        split at hll
        · cases hm : s.mem t' n with
          | none => rw [hm] at hll; cases hll
          | some r =>
            rw [hm, Option.bind_some] at hll
            obtain ⟨hno, b', cur, ty, hb', hheap, hrow, hBb, hcz⟩ := R.rows t' n r hm
            rw [hb] at hb'
            injection hb' with hb'
            subst hb'
            obtain ⟨hln, hl', xs, hxs, hxcell⟩ := rowEls_read hrow hheap hll
            simp only [Nat.zero_add] at hxcell hzb
            have hflen : ∀ {q : List (List AV)}, (∀ c ∈ q, c.length = i.size) → q.flatten.length = q.length * i.size := fun {q} hq => by
              induction q with
              | nil => simp
              | cons c r ih => rw [List.flatten_cons, List.length_append, hq c (by simp), ih (fun c hc => hq c (by simp [hc])), List.length_cons, Nat.succ_mul]; omega
            have hxlen : xs.length = ln * i.size := by
              have := RepCL_length (RepCL_ofL (ι := ι) hxs)
              rw [this, hflen hl', hln]
            have hmlen : news.length = m.length * i.size := hsl.1
            have hrep : RepL (avA av0 ι Θ) w (l ++ m).flatten (xs ++ news) := by rw [List.flatten_append]; exact RepL_append hxs hnews
            simp only [OpC.eff, hdst, MSt.killO] at he
            injection he with he
            subst he
            rw [hdst]
            rcases Nat.lt_or_ge cc (ln + m.length) with hlt | hge
            · have hlk : Held (avA av0 ι Θ) (avA av0 (ι.del t' n) Θ) w w.drew := Held.grown (fun _ _ => rfl) fun b o _ h => h.imp id fun h => h.imp (fun h => h.imp (fun ⟨t', n', h⟩ => ⟨t', n', (Ix.del_some h).1⟩) id) id
              exact grow (R.drew.kill hm) hv hxlen (fun h => by cases h) (fun a' ha j u hj => by
                injection ha with ha
                subst ha
                rw [Addr.add_lit, Nat.zero_add]
                exact hxcell j u hj) hln hsl hlt (Nat.le_trans hle hcc) (RepL.held hlk _ _ hrep) hroom
            · obtain ⟨new, hnew⟩ : ∃ new, new = (cur.toList.take (ln * i.size) ++ news ++ cur.toList.drop (ln * i.size + news.length)).toArray := ⟨_, rfl⟩
              have hfit : ln * i.size + news.length ≤ cur.size := by
                rw [hmlen, ← Nat.add_mul, hcz]
                exact Nat.le_trans (Nat.mul_le_mul_right _ hge) hzb
              have hrun : (Builtin.append_ #[t, t] o.type #[a.eval X, a.eval Y]).run P w = .ok (.slice (some ⟨b, 0, none⟩) (ln + m.length) cc) (w.setRow b new) := by
                rw [hv, hnew]
                obtain ⟨hl0, A, c', hsv, hc, hcell⟩ := hsl
                rw [hsv]
                cases A with
                | none =>
                  have hm0 : m.length = 0 := by
                    rcases Nat.eq_zero_or_pos m.length with h | h
                    · exact h
                    · obtain ⟨b, off, hA, _⟩ := hcell h; cases hA
                  have hnn : news = [] := List.eq_nil_of_length_eq_zero (by rw [hmlen, hm0, Nat.zero_mul])
                  subst hnn
                  rw [hm0] at hge ⊢
                  have hself : w.setRow b (cur.toList.take (ln * i.size) ++ [] ++ cur.toList.drop (ln * i.size + ([] : List Value).length)).toArray = w := by
                    simp only [List.append_nil, List.length_nil, Nat.add_zero, List.take_append_drop, Array.toArray_toList]
                    exact setRow_self w b cur ty (0, 0) hheap
                  rw [hself]
                  simp only [Nat.add_zero] at hge
                  simp [Builtin.append_, run_underlying ht, sizeOf, typeInfo, hi, Builtin.lenOf, Builtin.firstCells, hge, storeCells]
                | some a' =>
                  have hnews' : ∀ (j : Nat) (u : Value), news[j]? = some u → w.cell? (a'.add j) = some u := fun j u hu => by
                    have hm0 : 0 < m.length := by
                      rcases Nat.eq_zero_or_pos m.length with h | h
                      · rw [h] at hmlen; have := (List.getElem?_eq_some_iff.1 hu).1; omega
                      · exact h
                    obtain ⟨b, off, hA, _, _, hcl⟩ := hcell hm0
                    injection hA with hA
                    subst hA
                    rw [Addr.add_lit]
                    exact hcl j u hu
                  have hld := run_loadCells_list (P := P) w a' news hnews'
                  rw [hmlen] at hld
                  have hst := run_storeCells_at P b (ln * i.size) ty news 0 cur w hheap (by simpa using hfit) (RepL_one hnews)
                  simp only [Nat.add_zero] at hst
                  simp [Builtin.append_, run_underlying ht, sizeOf, typeInfo, hi, Builtin.lenOf, Builtin.firstCells, hge, hld, Addr.add_lit, hst]
              have hns : new.size = cur.size := by
                rw [hnew]
                simp only [List.size_toArray, List.length_append, List.length_take, List.length_drop, Array.length_toList]
                omega
              have hrow' : RowOk ι Θ (avA av0 ι Θ) w ((l ++ m).flatten.map (⟨·, .no⟩)) new := row_of hrep fun j u hj => by
                have htk : (cur.toList.take (ln * i.size)).length = ln * i.size := by rw [List.length_take, Array.length_toList]; omega
                rw [hnew, List.getElem?_toArray, List.append_assoc]
                rcases Nat.lt_or_ge j (ln * i.size) with h | h
                · rw [List.getElem?_append_left (by omega)] at hj
                  have := hxcell j u hj
                  rw [cell_of_row w b j cur ty (0, 0) hheap] at this
                  rw [List.getElem?_append_left (by omega), List.getElem?_take, if_pos h]
                  simpa using this
                · rw [List.getElem?_append_right (by omega), hxlen] at hj
                  have hjn := (List.getElem?_eq_some_iff.1 hj).1
                  rw [List.getElem?_append_right (by omega), htk, List.getElem?_append_left hjn]
                  exact hj
              have R1 := R.set hb hno hheap hrow' hBb (hns.trans hcz)
              have R2 := R1.ren (t := t') (n := n) (d := d) (r := (l ++ m).flatten.map (⟨·, .no⟩)) (by simp [MSt.setRow]) (RepL_free hrep _ _) hd hD (x := .ref d s.next i.size 0 (ln + m.length) (ln + m.length)) (v := .slice (some ⟨b, 0, none⟩) (ln + m.length) cc) (fun ι' h1 h2 => ⟨b, h1.trans hb, Nat.le_refl _, cc, hge, by rw [h2, Nat.zero_add]; exact hzb, rfl⟩)
              rw [setRow_kill] at R2
              obtain ⟨ι', R2⟩ := R2
              exact ⟨_, _, hexec _ _ hrun, ι', Θ, R2⟩
        · cases hll
      · cases hr
    · cases hr
  · cases hr
end
end Go.Proofs.Ytinpinjjdkilpaa
/- Calls; every operation. -/
namespace Go.Proofs.Ytinpinjjdkilpaa
open Go Go.RowKit
section
variable {P : Program} {O : Objs} {nt B : Nat} {F0 : Own} {av0 : Av} {w0 : World} {D : Nat → Prop} {s : MSt} {a : Act} {w w' : World} {ι : Ix} {Θ : Fam} {o : Oper}
/-- arguments -/
def RepA (ι : Ix) (av avl : Av) (w : World) : List AV → List Value → Prop
  | [], us => us = []
  | x :: r, us => ∃ u us', us = u :: us' ∧ RepS ι av avl w x u ∧ RepA ι av avl w r us'
def Ix.one (p : Nat) : Ix := ⟨fun t n => if t = 0 ∧ n = 0 then some p else .none, fun _ _ => .none, fun _ => 0⟩
/-- a result one of which is the object -/
def RepO (p : Nat) (av : Av) (w : World) (x : AV) (v : Value) : Prop := if x.isObj then v = .pointer (some ⟨p, 0, none⟩) else Rep av w x v
def RepOs (p : Nat) (av : Av) (w : World) : List AV → List Value → Prop
  | [], us => us = []
  | x :: r, us => ∃ u us', us = u :: us' ∧ RepO p av w x u ∧ RepOs p av w r us'
def RepN (p : Nat) (av : Av) (w : World) : AV → Value → Prop
  | .tup vs, v => ∃ us, v = .tuple us ∧ RepOs p av w vs us.toList
  | x, v => RepO p av w x v
/-- a slice of numbers and letters that nobody else knows of -/
def OwnV (base : Nat) (H : Nat → Prop) (w : World) (l : List (List AV)) (v : Value) : Prop :=
  (l = [] ∧ ∃ A c, v = .slice A 0 c ∧ (A = none → c = 0)) ∨ ∃ g c cur ty, v = .slice (some ⟨g, 0, none⟩) l.length c ∧ base ≤ g ∧ ¬ H g ∧ w.heap[g]? = some (.cells cur ty (0, 0)) ∧ l.length ≤ c ∧ (∀ sz, elsOk sz l = true → 0 < l.length → c * sz ≤ cur.size) ∧ ∀ (j : Nat) (x : AV), l.flatten[j]? = some x → cur[j]? = some x.scalV
def CallOwn (P : Program) (O : Objs) (f : FuncId) (args : List AV) (S0 : Option AV) (r : RV) : Prop :=
  (∀ xs w, (callFunc f xs).run P w = .ok (.enter f xs) w) ∧
  match S0, r with
  | some S, (.sl false l, some S') => ∀ (av : Av) (w : World) (vs : List Value) (p : Nat) (H : Nat → Prop), (∀ b o, av b o → b < w.heap.size) → (∀ b o, H b → av b o) → O.at_ S H p w → RepA (Ix.one p) av (fun b _ => H b) w args vs →
    Calls P f vs.toArray w fun e w' => ∃ v H', e = .returned v ∧ OwnV w.heap.size H' w' l v ∧ O.at_ S' H' p w' ∧ (∀ b, H' b → H b ∨ w.heap.size ≤ b) ∧ Keep H w w'
  | _, _ => True
/-- what a call of f gives, whatever the world: without an object; with one; one that is made -/
def CallOk0 (P : Program) (O : Objs) (f : FuncId) (args : List AV) (S0 : Option AV) (r : RV) : Prop :=
  (∀ xs w, (callFunc f xs).run P w = .ok (.enter f xs) w) ∧
  match S0, r.2 with
  | none, none => ∀ (av : Av) (w : World) (vs : List Value), (∀ b o, av b o → b < w.heap.size) → RepA Ix.none av (fun _ _ => False) w args vs →
    Calls P f vs.toArray w fun e w' => ∃ v, e = .returned v ∧ Rep av w' r.1 v ∧ Below w.heap.size w w'
  | some S, some S' => ∀ (av : Av) (w : World) (vs : List Value) (p : Nat) (H : Nat → Prop), (∀ b o, av b o → b < w.heap.size) → (∀ b o, H b → av b o) → O.at_ S H p w → RepA (Ix.one p) av (fun b _ => H b) w args vs →
    Calls P f vs.toArray w fun e w' => ∃ v H', e = .returned v ∧ Rep (fun b o => av b o ∨ H' b) w' r.1 v ∧ O.at_ S' H' p w' ∧ (∀ b, H' b → H b ∨ w.heap.size ≤ b) ∧ Keep H w w'
  | none, some S' => ∀ (av : Av) (w : World) (vs : List Value), (∀ b o, av b o → b < w.heap.size) → RepA Ix.none av (fun _ _ => False) w args vs →
    Calls P f vs.toArray w fun e w' => ∃ v p H', e = .returned v ∧ RepN p (fun b o => av b o ∨ H' b) w' r.1 v ∧ O.at_ S' H' p w' ∧ (∀ b, H' b → w.heap.size ≤ b) ∧ Below w.heap.size w w'
  | some _, none => True
def CallOk (P : Program) (O : Objs) (f : FuncId) (args : List AV) (S0 : Option AV) (r : RV) : Prop := match args with
  | .undef :: rest => CallOwn P O f rest S0 r
  | _ => CallOk0 P O f args S0 r
theorem CallOk.of {P : Program} {O : Objs} {f : FuncId} {args : List AV} {S0 : Option AV} {r : RV} (hm : marked args = false) : CallOk P O f args S0 r ↔ CallOk0 P O f args S0 r := by
  unfold CallOk
  split
  · cases hm
  · exact Iff.rfl
theorem free_rep {ι' : Ix} {av avb avl : Av} {x : AV} {v : Value} (h : RepS ι av avb w x v) (hx : x.free = true) : RepS ι' av avl w x v := by
  cases x <;> first
    | exact h
    | (simp [AV.free, AV.free0] at hx; done)
    | (obtain ⟨us, hv, hc⟩ := h
       exact ⟨us, hv, RepCL_ofL (RepL_ofCL hc fun y hy => List.all_eq_true.1 hx y hy)⟩)
theorem CellsB_mk {av avb : Av} : ∀ {cs : List AV} {us : List Value} {b off : Nat}, RepL av w cs us → (∀ (j : Nat) (u : Value), us[j]? = some u → w.cell? ⟨b, off + j, none⟩ = some u ∧ ¬ avb b (off + j)) → CellsB av avb w cs b off
  | [], _, _, _, _, _ => by simp [CellsB]
  | x :: r, _, b, off, h, hj => by
    simp only [RepL] at h
    obtain ⟨u, us', rfl, h0, h1, h⟩ := h
    simp only [CellsB]
    have h2 := hj 0 u rfl
    refine ⟨⟨u, h2.1, h0, h1⟩, h2.2, CellsB_mk h fun j v hv => ?_⟩
    have := hj (j + 1) v (by simpa using hv)
    rw [show off + 1 + j = off + (j + 1) from by omega]
    exact this
theorem lend_rep (R : Rel P O nt B F0 av0 w0 D s a w ι Θ) {avl : Av} (havl : ∀ b o, avl b o → ∃ t n H, ι.ob t n = some H ∧ H b) {cl : Cl} {y x : AV} {v : Value} {ι' : Ix} (hY : RepS ι (avA av0 ι Θ) (avB ι Θ) w y v) (h : lend s cl y = some x) (hob : ∀ t n, y = .ptr t n 0 → ι' 0 0 = ι t n) : RepS ι' (avA av0 ι Θ) avl w x v := by
  have hB : ∀ b o, avl b o → avB ι Θ b o := fun b o h => .inl (.inr (havl b o h))
  unfold lend at h
  split at h
  · rename_i t n sz off len cap
    split at h
    · cases hm : s.mem t n with
      | none => rw [hm] at h; cases h
      | some r =>
        rw [hm, Option.bind_some] at h
        cases hr : rowEls r sz off len with
        | none => rw [hr] at h; cases h
        | some m =>
          rw [hr] at h
          injection h with h
          subst h
          obtain ⟨b, hb, hle, cc, hcc, _, hv⟩ := repS_ref.1 hY
          obtain ⟨hno, b', cur, ty, hb', hheap, hrow, _⟩ := R.rows t n r hm
          rw [hb] at hb'
          injection hb' with hb'
          subst hb'
          obtain ⟨h1, h2, us, hl, hus⟩ := rowEls_read hrow hheap hr
          subst h1
          exact ⟨_, cc, hv, Nat.le_trans hle hcc, fun c hc c' hc' => (h2 c hc).trans (h2 c' hc').symm, fun _ => ⟨b, off, rfl, RowsB_flat.2 (CellsB_mk hl fun j u hj => ⟨hus j u hj, fun h => by
            obtain ⟨t', n', H, ho, hH⟩ := havl _ _ h
            obtain ⟨e1, e2⟩ := ((R.obs _ _ _ ho).1 _ hH).2.2.1 _ _ hb
            rw [e1, e2, ho] at hno
            cases hno⟩)⟩⟩
    · cases h
  · injection h with h
    subst h
    obtain ⟨a', c, hv, hc, hu, hs⟩ := hY
    refine ⟨a', c, hv, hc, hu, fun h0 => ?_⟩
    obtain ⟨b, off, ha, hr⟩ := hs h0
    exact ⟨b, off, ha, RowsB.held (Held.refl _ _) (Held.less hB) _ _ _ hr⟩
  · injection h with h
    subst h
    obtain ⟨b, off, hv, hc⟩ := hY
    exact ⟨b, off, hv, CellsB.held (Held.refl _ _) (Held.less hB) _ _ _ hc⟩
  · rename_i t n off
    split at h
    · rename_i hc
      injection h with h
      subst h
      obtain ⟨h0, _, _⟩ := hc
      subst h0
      obtain ⟨b, hb, hv⟩ := repS_ptr.1 hY
      exact ⟨b, (hob t n rfl).trans hb, hv⟩
    · cases h
  · split at h
    · rename_i hf
      injection h with h
      subst h
      exact free_rep hY hf
    · cases h
theorem lendAll_rep (R : Rel P O nt B F0 av0 w0 D s a w ι Θ) {avl : Av} (havl : ∀ b o, avl b o → ∃ t n H, ι.ob t n = some H ∧ H b) {cl : Cl} {ι' : Ix} : ∀ {Xs : List Operand} {xs : List Opd} {vs : List AV}, opdL Xs = some xs → lendAll s cl xs = some vs → (∀ x ∈ xs, ∀ t n, x.get s = .ptr t n 0 → ι' 0 0 = ι t n) → RepA ι' (avA av0 ι Θ) avl w vs (Xs.map a.eval)
  | [], xs, vs, h, hl, _ => by
    injection h with h
    subst h
    injection hl with hl
    subst hl
    rfl
  | X :: Xs, xs, vs, h, hl, hob => by
    unfold opdL at h
    split at h
    · rename_i x l hx hr
      injection h with h
      subst h
      unfold lendAll at hl
      split at hl
      · rename_i v vs' hv hr'
        injection hl with hl
        subst hl
        exact ⟨_, _, rfl, lend_rep R havl (R.opd hx).1 hv (hob x (List.mem_cons_self)), lendAll_rep R havl hr hr' fun y hy => hob y (List.mem_cons_of_mem _ hy)⟩
      · cases hl
    · cases h
theorem named_rep {p d n : Nat} {ι' : Ix} {av avb : Av} {x : AV} {v : Value} (h : RepN p av w x v) (hp : ι' d n = some p) (hx : x.backN = true) : RepS ι' av avb w (x.named d n) v := by
  have one : ∀ {x : AV} {u : Value}, RepO p av w x u → RepC ι' av w (if x.isObj then .ptr d n 0 else x) u := fun {x u} h => by
    unfold RepO at h
    split at h
    · rename_i ho; rw [if_pos ho]; exact ⟨p, hp, h⟩
    · rename_i ho; rw [if_neg ho]; exact RepC_of_rep h
  have all : ∀ {xs : List AV} {us : List Value}, RepOs p av w xs us → RepCT ι' av w (xs.map fun v => if v.isObj then .ptr d n 0 else v) us := by
    intro xs
    induction xs with
    | nil => intro us h; simpa [RepOs, RepCT] using h
    | cons x r ih =>
      intro us h
      simp only [RepOs] at h
      obtain ⟨u, us', rfl, h0, h⟩ := h
      exact ⟨u, us', rfl, one h0, ih h⟩
  cases x with
  | tup vs =>
    obtain ⟨us, hv, hc⟩ := h
    exact ⟨us, hv, all hc⟩
  | ptr t' n' off =>
    have h1 := one (x := .ptr t' n' off) h
    have h2 : (AV.ptr t' n' off).isObj = true := hx
    simp only [h2, if_true] at h1
    show RepS ι' av avb w (if (AV.ptr t' n' off).isObj then .ptr d n 0 else .ptr t' n' off) v
    rw [if_pos h2]
    exact h1
  | _ => simp [AV.backN, AV.isObj] at hx
theorem RepO.held {p : Nat} {av av' : Av} {w w' : World} (h : Held av av' w w') {x : AV} {v : Value} (hr : RepO p av w x v) : RepO p av' w' x v := by
  unfold RepO at hr ⊢
  split at hr
  · rename_i ho; rw [if_pos ho]; exact hr
  · rename_i ho; rw [if_neg ho]; exact Rep.held h _ _ hr
theorem RepN.held {p : Nat} {av av' : Av} {w w' : World} (h : Held av av' w w') {x : AV} {v : Value} (hr : RepN p av w x v) : RepN p av' w' x v := by
  have all : ∀ {xs : List AV} {us : List Value}, RepOs p av w xs us → RepOs p av' w' xs us := by
    intro xs
    induction xs with
    | nil => intro us h; exact h
    | cons x r ih =>
      intro us h'
      simp only [RepOs] at h' ⊢
      obtain ⟨u, us', rfl, h0, h'⟩ := h'
      exact ⟨u, us', rfl, RepO.held h h0, ih h'⟩
  cases x <;> first | exact RepO.held h hr | (obtain ⟨us, hv, hc⟩ := hr; exact ⟨us, hv, all hc⟩)
theorem Rel.turnObj (R : Rel P O nt B F0 av0 w0 D s a w ι Θ) {t n p : Nat} {H H' : Nat → Prop} {S' : AV} (hp : ι t n = some p) (hob : ι.ob t n = some H) (hat : O.at_ S' H' p w') (hH : ∀ b, H' b → H b ∨ w.heap.size ≤ b) (hk : Keep H w w') :
    ∃ ι' : Ix, Rel P O nt B F0 av0 w0 D (s.setObj t n S') a w' ι' Θ ∧ Held (fun b o => avA av0 ι Θ b o ∨ H' b) (avA av0 ι' Θ) w' w' := by
  obtain ⟨hob1, hob2⟩ := R.obs t n H hob
  have hobq : ∀ t' n' H1, (if t' = t ∧ n' = n then some H' else ι.ob t' n') = some H1 → (t' = t ∧ n' = n ∧ H1 = H') ∨ (¬ (t' = t ∧ n' = n) ∧ ι.ob t' n' = some H1) := fun t' n' H1 h => by
    split at h
    · rename_i e; injection h with h; exact .inl ⟨e.1, e.2, h.symm⟩
    · rename_i e; exact .inr ⟨e, h⟩
  have hBx : ∀ b o, b < w.heap.size → avB ⟨ι.f, fun t' n' => if t' = t ∧ n' = n then some H' else ι.ob t' n', ι.z⟩ Θ b o → avB ι Θ b o := fun b o hb h => h.imp (fun h => h.imp id fun ⟨t', n', H1, h1, h2⟩ => by
    rcases hobq _ _ _ h1 with ⟨e1, e2, e3⟩ | ⟨_, h1⟩
    · subst e3
      rcases hH b h2 with h3 | h3
      · exact ⟨t, n, H, hob, h3⟩
      · omega
    · exact ⟨t', n', H1, h1, h2⟩) id
  have hcell : ∀ b o u, w.cell? ⟨b, o, none⟩ = some u → ¬ H b → w'.cell? ⟨b, o, none⟩ = some u := fun b o u hc hn => (World.cell?_of_block (w := w) (a := ⟨b, o, none⟩) (hk.block b (cell_lt hc) hn)).trans hc
  have hB : Held (avB ι Θ) (avB ⟨ι.f, fun t' n' => if t' = t ∧ n' = n then some H' else ι.ob t' n', ι.z⟩ Θ) w w' := ⟨fun b o u hc hn => ⟨hcell b o u hc fun h => hn (.inl (.inr ⟨t, n, H, hob, h⟩)), fun h => hn (hBx b o (cell_lt hc) h)⟩⟩
  have hA : Held (avA av0 ι Θ) (avA av0 ⟨ι.f, fun t' n' => if t' = t ∧ n' = n then some H' else ι.ob t' n', ι.z⟩ Θ) w w' := ⟨fun b o u hc hn => ⟨hcell b o u hc fun h => hn (.inr (.inl (.inr ⟨t, n, H, hob, h⟩))), fun h => hn (h.imp id (hBx b o (cell_lt hc)))⟩⟩
  have hBle := R.lowB
  have hsz := hk.size
  have henv : ∀ t1, RepS ⟨ι.f, fun t' n' => if t' = t ∧ n' = n then some H' else ι.ob t' n', ι.z⟩ (avA av0 ⟨ι.f, fun t' n' => if t' = t ∧ n' = n then some H' else ι.ob t' n', ι.z⟩ Θ) (avB ⟨ι.f, fun t' n' => if t' = t ∧ n' = n then some H' else ι.ob t' n', ι.z⟩ Θ) w' (s.env t1).v (a.tmps.getD t1 undef) := fun t1 => RepS.held (ι := ι) (ι' := ⟨ι.f, fun t' n' => if t' = t ∧ n' = n then some H' else ι.ob t' n', ι.z⟩) ⟨fun _ _ _ h => h, fun _ _ _ _ => rfl⟩ hA hB _ _ (R.env t1)
  refine ⟨⟨ι.f, fun t' n' => if t' = t ∧ n' = n then some H' else ι.ob t' n', ι.z⟩, ⟨R.defers, R.size, henv, R.ann, fun t' n' r hr => ?_, fun t' n' b h => ?_, R.inj, fun k o h => ?_, R.tinj, R.apart, R.out, (fun p' h => ⟨(R.pin p' h).1, by
    obtain ⟨H1, h1⟩ := (R.pin p' h).2
    show ∃ H2, (if 0 = t ∧ 0 = n then some H' else ι.ob 0 0) = some H2
    split
    · exact ⟨_, rfl⟩
    · exact ⟨H1, h1⟩⟩), ?_, R.base, fun t' n' S1 h => ?_, fun t' n' H1 h => ?_⟩, ?_⟩
  · obtain ⟨h0, b, cur, ty, h1, h2, h3, h8⟩ := R.rows t' n' r hr
    have hne : ¬ (t' = t ∧ n' = n) := fun e => by rw [e.1, e.2, hob] at h0; cases h0
    have hbn : ¬ H b := fun hb => hne ((hob1 b hb).2.2.1 t' n' h1)
    exact ⟨by simp only [if_neg hne]; exact h0, b, cur, ty, h1, (hk.block b (lt_of_heap h2) hbn).trans h2, h3.held ⟨fun _ _ _ h => h, fun _ _ _ _ => rfl⟩ hA (fun _ _ h => h), h8⟩
  · obtain ⟨h1, h2, h3⟩ := R.mine t' n' b h
    exact ⟨h1, by omega, h3⟩
  · obtain ⟨h1, h2, h3, h4, cur', h5, h6⟩ := R.tok k o h
    exact ⟨h1, h2, h3, h4, cur', (hk.block _ (lt_of_heap h5) (R.apob h hob)).trans h5, h6⟩
  · refine R.kept.trans hk fun i hi h => ?_
    have := R.base
    rcases (hob1 i h).1 with h1 | h1
    · omega
    · exact h1
  · simp only [MSt.setObj] at h
    split at h
    · rename_i e
      injection h with h
      subst h
      exact ⟨p, H', by rw [e.1, e.2]; exact hp, by simp only [if_pos e], hat⟩
    · rename_i e
      obtain ⟨p1, H1, h1, h2, h3⟩ := R.objs t' n' S1 h
      refine ⟨p1, H1, h1, by simp only [if_neg e]; exact h2, O.keep h3 (fun b hb => hk.block b (O.lt h3 hb) fun hb' => e ?_) hsz⟩
      have := (hob1 b hb').2.2.2.2 t' n' H1 h2 hb
      exact this
  · rcases hobq _ _ _ h with ⟨e1, e2, e3⟩ | ⟨e, h⟩
    · subst e1; subst e2; subst e3
      refine ⟨fun b hb => ?_, hob2⟩
      rcases hH b hb with h1 | h1
      · obtain ⟨g1, g2, g3, g4, g5⟩ := hob1 b h1
        refine ⟨g1, by omega, g3, g4, fun t1 n1 H2 h2 h3 => ?_⟩
        rcases hobq _ _ _ h2 with ⟨e1, e2, _⟩ | ⟨_, h2⟩
        · exact ⟨e1, e2⟩
        · exact g5 t1 n1 H2 h2 h3
      · refine ⟨.inl (by omega), O.lt hat hb, fun t1 n1 h2 => ?_, fun k o h2 e => ?_, fun t1 n1 H2 h2 h3 => ?_⟩
        · have := (R.mine _ _ _ h2).2.1; omega
        · obtain ⟨_, _, _, _, cur', h5, _⟩ := R.tok k o h2; have := lt_of_heap h5; omega
        · rcases hobq _ _ _ h2 with ⟨e1, e2, _⟩ | ⟨_, h2⟩
          · exact ⟨e1, e2⟩
          · have := ((R.obs _ _ _ h2).1 b h3).2.1; omega
    · obtain ⟨h1, h2⟩ := R.obs t' n' H1 h
      refine ⟨fun b hb => ?_, h2⟩
      obtain ⟨g1, g2, g3, g4, g5⟩ := h1 b hb
      refine ⟨g1, by omega, g3, g4, fun t1 n1 H2 h2 h3 => ?_⟩
      rcases hobq _ _ _ h2 with ⟨e1, e2, e3⟩ | ⟨_, h2⟩
      · subst e3
        rcases hH b h3 with h4 | h4
        · have := g5 t n H hob h4
          exact absurd ⟨this.1.symm, this.2.symm⟩ e
        · omega
      · exact g5 t1 n1 H2 h2 h3
  · refine Held.less fun b o h => ?_
    rcases h with h | h | h
    · exact .inl (.inl h)
    · rcases h with h | ⟨t1, n1, H2, h2, h3⟩
      · exact .inl (.inr (.inl (.inl h)))
      · rcases hobq _ _ _ h2 with ⟨_, _, e3⟩ | ⟨_, h2⟩
        · subst e3; exact .inr h3
        · exact .inl (.inr (.inl (.inr ⟨t1, n1, H2, h2, h3⟩)))
    · exact .inl (.inr (.inr h))
theorem Rel.newObj (R : Rel P O nt B F0 av0 w0 D s a w ι Θ) {d p : Nat} {H : Nat → Prop} {S : AV} (hb : Below w.heap.size w w') (hD : ¬ D d) (hat : O.at_ S H p w') (hH : ∀ b, H b → w.heap.size ≤ b) :
    ∃ ι' : Ix, Rel P O nt B F0 av0 w0 (fun t => D t ∨ t = d) (s.setObj d s.next S) a w' ι' Θ ∧ ι' d s.next = some p ∧ Held (fun b o => avA av0 ι Θ b o ∨ H b) (avA av0 ι' Θ) w' w' := by
  have hBle := R.lowB
  have hsz := hb.size
  have hpH := hH p (O.main hat)
  have hfresh : ι d s.next = none := by
    cases h : ι d s.next with
    | none => rfl
    | some b =>
      rcases (R.mine _ _ _ h).2.2 with h1 | h1
      · omega
      · exact absurd h1.2 hD
  have hfresh' : ι.ob d s.next = none := by
    cases h : ι.ob d s.next with
    | none => rfl
    | some b =>
      rcases (R.obs _ _ _ h).2 with h1 | h1
      · omega
      · exact absurd h1.2 hD
  have hmemn : s.mem d s.next = none := by
    cases h : s.mem d s.next with
    | none => rfl
    | some r => obtain ⟨_, b, cur, ty, h1, _⟩ := R.rows _ _ _ h; rw [hfresh] at h1; cases h1
  obtain ⟨ι', hι'⟩ : ∃ ι' : Ix, ι' = ⟨fun t' n' => if t' = d ∧ n' = s.next then some p else ι t' n', fun t' n' => if t' = d ∧ n' = s.next then some H else ι.ob t' n', ι.z⟩ := ⟨_, rfl⟩
  have hf : ∀ t' n' b, ι' t' n' = some b → (t' = d ∧ n' = s.next ∧ b = p) ∨ (¬ (t' = d ∧ n' = s.next) ∧ ι t' n' = some b) := fun t' n' b h => by
    subst hι'
    have h' : (if t' = d ∧ n' = s.next then some p else ι t' n') = some b := h
    split at h'
    · rename_i e; injection h' with h'; exact .inl ⟨e.1, e.2, h'.symm⟩
    · rename_i e; exact .inr ⟨e, h'⟩
  have ho : ∀ t' n' H1, ι'.ob t' n' = some H1 → (t' = d ∧ n' = s.next ∧ H1 = H) ∨ (¬ (t' = d ∧ n' = s.next) ∧ ι.ob t' n' = some H1) := fun t' n' H1 h => by
    subst hι'
    simp only at h
    split at h
    · rename_i e; injection h with h; exact .inl ⟨e.1, e.2, h.symm⟩
    · rename_i e; exact .inr ⟨e, h⟩
  have hsub : ∀ t n b, ι t n = some b → ι' t n = some b := fun t n b h => by
    subst hι'
    show (if t = d ∧ n = s.next then some p else ι t n) = some b
    split
    · rename_i e; rw [e.1, e.2, hfresh] at h; cases h
    · exact h
  have hsubo : ∀ t n H1, ¬ (t = d ∧ n = s.next) → ι.ob t n = H1 → ι'.ob t n = H1 := fun t n H1 e h => by
    subst hι'
    simp only [if_neg e]
    exact h
  have hnew : ι' d s.next = some p := by
    subst hι'
    show (if d = d ∧ s.next = s.next then some p else ι d s.next) = some p
    rw [if_pos ⟨rfl, rfl⟩]
  have hnewo : ι'.ob d s.next = some H := by subst hι'; simp
  have hzz : ∀ b, ι'.z b = ι.z b := fun b => by subst hι'; rfl
  have hle : Ix.Le ι ι' := ⟨hsub, fun _ _ _ _ => hzz _⟩
  clear hι'
  have hBx : ∀ b o, b < w.heap.size → avB ι' Θ b o → avB ι Θ b o := fun b o hbl h => h.imp (fun h => by
    rcases h with ⟨t', n', h⟩ | ⟨t', n', H1, h, h2⟩
    · rcases hf _ _ _ h with ⟨_, _, e⟩ | ⟨_, h⟩
      · omega
      · exact .inl ⟨t', n', h⟩
    · rcases ho _ _ _ h with ⟨_, _, e⟩ | ⟨_, h⟩
      · subst e; have := hH b h2; omega
      · exact .inr ⟨t', n', H1, h, h2⟩) id
  have hB : Held (avB ι Θ) (avB ι' Θ) w w' := Held.grown (fun b hb' => hb.block b hb') hBx
  have hA : Held (avA av0 ι Θ) (avA av0 ι' Θ) w w' := Held.grown (fun b hb' => hb.block b hb') fun b o hbl h => h.imp id (hBx b o hbl)
  refine ⟨ι', ⟨R.defers, R.size, fun t => RepS.held hle hA hB _ _ (R.env t), R.ann, fun t' n' r hr => ?_, fun t' n' b h => ?_, fun t n t' n' b h h' => ?_, fun k o h => ?_, R.tinj, fun k o t n h h' => ?_, R.out, fun p h => ⟨hsub _ _ _ (R.pin p h).1, by
    obtain ⟨H1, h1⟩ := (R.pin p h).2
    by_cases e : 0 = d ∧ 0 = s.next
    · exact ⟨H, by rw [← e.1, ← e.2] at hnewo; exact hnewo⟩
    · exact ⟨H1, hsubo _ _ _ e h1⟩⟩, R.kept.trans_below hb, R.base, fun t' n' S1 h => ?_, fun t' n' H1 h => ?_⟩, hnew, ?_⟩
  · obtain ⟨h0, b, cur, ty, h1, h2, h3, h8, h9⟩ := R.rows t' n' r hr
    have hne : ¬ (t' = d ∧ n' = s.next) := fun e => by
      have hr' : s.mem t' n' = some r := hr
      rw [e.1, e.2, hmemn] at hr'; cases hr'
    exact ⟨hsubo _ _ _ hne h0, b, cur, ty, hsub _ _ _ h1, (hb.block b (lt_of_heap h2)).trans h2, h3.held hle hA (fun _ _ h => h), h8, h9.trans (hzz _).symm⟩
  · rcases hf _ _ _ h with ⟨e1, e2, e⟩ | ⟨_, h⟩
    · subst e
      exact ⟨.inl (by omega), O.lt hat (O.main hat), .inr ⟨e2, .inr e1⟩⟩
    · obtain ⟨h1, h2, h3⟩ := R.mine t' n' b h
      exact ⟨h1, by omega, h3.imp id fun ⟨e, d⟩ => ⟨e, .inl d⟩⟩
  · rcases hf _ _ _ h with ⟨e1, e2, e⟩ | ⟨_, h⟩ <;> rcases hf _ _ _ h' with ⟨g1, g2, g⟩ | ⟨_, h'⟩
    · exact ⟨e1.trans g1.symm, e2.trans g2.symm⟩
    · have := (R.mine _ _ _ h').2.1; omega
    · have := (R.mine _ _ _ h).2.1; omega
    · exact R.inj t n t' n' b h h'
  · obtain ⟨h1, h2, h3, h4, cur', h5, h6⟩ := R.tok k o h
    exact ⟨h1, h2, h3, h4, cur', (hb.block _ (lt_of_heap h5)).trans h5, h6⟩
  · obtain ⟨_, _, _, _, cur', h5, _⟩ := R.tok k o h
    have hlt := lt_of_heap h5
    rcases hf _ _ _ h' with ⟨_, _, e⟩ | ⟨_, h'⟩
    · omega
    · exact R.apart k o t n h h'
  · simp only [MSt.setObj] at h
    split at h
    · rename_i e
      injection h with h
      subst h
      exact ⟨p, H, by rw [e.1, e.2]; exact hnew, by rw [e.1, e.2]; exact hnewo, hat⟩
    · rename_i e
      obtain ⟨p1, H1, h1, h2, h3⟩ := R.objs t' n' S1 h
      exact ⟨p1, H1, hsub _ _ _ h1, hsubo _ _ _ e h2, O.keep h3 (fun b hb' => hb.block b (O.lt h3 hb')) hsz⟩
  · rcases ho _ _ _ h with ⟨e1, e2, e⟩ | ⟨_, h⟩
    · subst e
      refine ⟨fun b hb' => ⟨.inl (by have := hH b hb'; omega), O.lt hat hb', fun t1 n1 h2 => ?_, fun k o h2 e => ?_, fun t1 n1 H2 h2 h3 => ?_⟩, .inr ⟨e2, .inr e1⟩⟩
      · have := hH b hb'
        rcases hf _ _ _ h2 with ⟨g1, g2, _⟩ | ⟨_, h2⟩
        · exact ⟨g1.trans e1.symm, g2.trans e2.symm⟩
        · have := (R.mine _ _ _ h2).2.1; omega
      · have := hH b hb'
        obtain ⟨_, _, _, _, cur', h5, _⟩ := R.tok k o h2; have := lt_of_heap h5; omega
      · have := hH b hb'
        rcases ho _ _ _ h2 with ⟨g1, g2, _⟩ | ⟨_, h2⟩
        · exact ⟨g1.trans e1.symm, g2.trans e2.symm⟩
        · have := ((R.obs _ _ _ h2).1 b h3).2.1; omega
    · obtain ⟨h1, h2⟩ := R.obs t' n' H1 h
      refine ⟨fun b hb' => ?_, h2.imp id fun ⟨e, d⟩ => ⟨e, .inl d⟩⟩
      obtain ⟨g1, g2, g3, g4, g5⟩ := h1 b hb'
      refine ⟨g1, by omega, fun t1 n1 h2 => ?_, g4, fun t1 n1 H2 h2 h3 => ?_⟩
      · rcases hf _ _ _ h2 with ⟨_, _, e⟩ | ⟨_, h2⟩
        · omega
        · exact g3 t1 n1 h2
      · rcases ho _ _ _ h2 with ⟨_, _, e⟩ | ⟨_, h2⟩
        · subst e; have := hH b h3; omega
        · exact g5 t1 n1 H2 h2 h3
  · refine Held.less fun b o h => ?_
    rcases h with h | h | h
    · exact .inl (.inl h)
    · rcases h with ⟨t', n', h⟩ | ⟨t', n', H1, h, h2⟩
      · rcases hf _ _ _ h with ⟨_, _, e⟩ | ⟨_, h⟩
        · subst e; exact .inr (O.main hat)
        · exact .inl (.inr (.inl (.inl ⟨t', n', h⟩)))
      · rcases ho _ _ _ h with ⟨_, _, e⟩ | ⟨_, h⟩
        · subst e; exact .inr h2
        · exact .inl (.inr (.inl (.inr ⟨t', n', H1, h, h2⟩)))
    · exact .inl (.inr (.inr h))
theorem lend_mark {s : MSt} {cl : Cl} : ∀ {xs : List Opd} {vs : List AV}, lendAll s cl xs = some vs → marked vs = false
  | [], vs, h => by injection h with h; subst h; rfl
  | x :: r, vs, h => by
    unfold lendAll at h
    split at h
    · rename_i v us hv hr
      injection h with h
      subst h
      cases v with
      | undef =>
        exfalso
        unfold lend at hv
        split at hv
        · split at hv
          · obtain ⟨_, _, hv⟩ := Option.map_eq_some_iff.1 hv; cases hv
          · cases hv
        · injection hv with hv; cases hv
        · injection hv with hv; cases hv
        · split at hv
          · injection hv with hv; cases hv
          · cases hv
        · split at hv
          · rename_i hf; injection hv with hv; rw [hv] at hf; cases hf
          · cases hv
      | _ => rfl
    · cases h
theorem op_call (R : Rel P O nt B F0 av0 w0 D s a w ι Θ) {call : CallT} (hcall : ∀ f args S r, call f args S = some r → CallOk P O f args S r) {f : FuncId} {Xs : Array Operand} {ts : Array TypeId} {xs : List Opd} (hx : opdL Xs.toList = some xs) (ho : o.op = .call { callee := .value (.func f), args := Xs, argTypes := ts }) (hd : ∀ d, o.dst = some d → d < nt) (hD : ∀ d, o.dst = some d → ¬ D d) {cl : Cl} {xe : Slot × Eff} (hr : (K.call cl f xs).run call s = some xe) {g} {s' : MSt} (he : OpC.eff ⟨o.dst, .call cl f xs, g⟩ s xe = some s')
    {Kn : Act → World → Prop} {Q : Exit → Act → World → Prop} (hK : ∀ a' w', RelE P O nt B F0 av0 w0 (fun t => D t ∨ o.dst = some t) s' a' w' → Kn a' w') : o.wp P a w Kn Q := by
  simp only [K.run] at hr
  obtain ⟨vs, hl, hr⟩ := Option.bind_eq_some_iff.1 hr
  have he0 : (Xs.toList.map a.eval).toArray = Xs.map a.eval := by rw [← Array.toList_map, Array.toArray_toList]
  have run : ∀ {S0 : Option AV} {r : RV}, CallOk0 P O f vs S0 r → (execOp a.eval o).run P w = .ok (.enter f (Xs.map a.eval)) w := fun h => by
    simp only [execOp, ho, resolve, Act.eval, Deferred.ofValue, Sem.run_bind, Sem.run_pure, Result.andThen_ok, invoke]
    have := h.1 (#[] ++ Xs.map a.eval ++ #[]) w
    simp only [Array.empty_append, Array.append_empty] at this ⊢
    exact this
  have hlow : ∀ b o, avA av0 ι Θ b o → b < w.heap.size := fun b o h => R.low h
  split at hr
  · rename_i hnob
    have nob : ∀ x ∈ xs, ∀ t n, x.get s = .ptr t n 0 → False := fun x hx t n h => by
      have : (t, n) ∈ objsOf s xs := List.mem_filterMap.2 ⟨x, hx, by rw [h]⟩
      rw [hnob] at this
      cases this
    have hargs := lendAll_rep (ι' := Ix.none) (avl := fun _ _ => False) R (fun _ _ h => h.elim) hx hl fun x hx t n h => (nob x hx t n h).elim
    obtain ⟨r, hc, hr⟩ := Option.bind_eq_some_iff.1 hr
    have hok := (CallOk.of (lend_mark hl)).1 (hcall f vs none r hc)
    obtain ⟨r1, r2⟩ := r
    unfold Oper.wp
    rw [run hok, Oper.upon_enter]
    cases r2 with
    | none =>
      simp only at hr
      split at hr
      · injection hr with hr
        subst hr
        simp only [OpC.eff] at he
        injection he with he
        subst he
        have hC := hok.2 (avA av0 ι Θ) w _ hlow hargs
        rw [he0] at hC
        refine hC.mono ?_
        rintro e w' ⟨v, rfl, hv, hb⟩
        have R' : Rel P O nt B F0 av0 w0 D s a w' ι Θ := R.grow (fun b hb' => hb.block b hb') hb.size (R.kept.trans_below hb)
        exact hK _ _ ⟨ι, Θ, (R'.putN (x := ⟨_, .no⟩) hd (Rep_to_S hv) trivial).more fun _ h => .inl h⟩
      · cases hr
    | some S' =>
      simp only at hr
      split at hr
      · rename_i hback
        injection hr with hr
        subst hr
        simp only [OpC.eff] at he
        split at he
        · cases he
        · rename_i d hdst
          injection he with he
          subst he
          have hC := hok.2 (avA av0 ι Θ) w _ hlow hargs
          rw [he0] at hC
          refine hC.mono ?_
          rintro e w' ⟨v, p, H', rfl, hv, hat, hH, hb⟩
          obtain ⟨ι', R2, hι, hav⟩ := R.newObj (d := d) hb (hD d hdst) hat hH
          rw [hdst]
          refine hK _ _ ⟨ι', Θ, (R2.put (x := ⟨_, .no⟩) (hd d hdst) (named_rep (RepN.held hav hv) hι hback.1) trivial).more fun t h => h.imp id fun e => by rw [hdst, e]⟩
      · cases hr
  · rename_i t n hone
    obtain ⟨r, hc, hr⟩ := Option.bind_eq_some_iff.1 hr
    obtain ⟨r1, r2⟩ := r
    cases r2 with
    | none => cases hr
    | some S' =>
      simp only at hr
      split at hr
      · rename_i hcond
        injection hr with hr
        subst hr
        simp only [OpC.eff] at he
        injection he with he
        subst he
        obtain ⟨S, hS⟩ := Option.isSome_iff_exists.1 hcond.2
        rw [hS] at hc
        have hok := (CallOk.of (lend_mark hl)).1 (hcall f vs (some S) _ hc)
        obtain ⟨p, H, hp, hob, hat⟩ := R.objs t n S hS
        have hargs := lendAll_rep (ι' := Ix.one p) (avl := fun b _ => H b) R (fun b _ h => ⟨t, n, H, hob, h⟩) hx hl fun x hx t' n' h => by
          have : (t', n') ∈ objsOf s xs := List.mem_filterMap.2 ⟨x, hx, by rw [h]⟩
          rw [hone] at this
          have := List.mem_singleton.1 this
          injection this with e1 e2
          rw [e1, e2, hp]
          rfl
        unfold Oper.wp
        rw [run hok, Oper.upon_enter]
        have hC := hok.2 (avA av0 ι Θ) w _ p H hlow (fun b o h => .inr (.inl (.inr ⟨t, n, H, hob, h⟩))) hat hargs
        rw [he0] at hC
        refine hC.mono ?_
        rintro e w' ⟨v, H', rfl, hv, hat', hH, hk⟩
        obtain ⟨ι', R', hav⟩ := R.turnObj hp hob hat' hH hk
        refine hK _ _ ⟨ι', Θ, (R'.putN (x := ⟨_, .no⟩) hd (Rep_to_S (Rep.held hav _ _ hv)) trivial).more fun _ h => .inl h⟩
      · cases hr
  · cases hr
end
end Go.Proofs.Ytinpinjjdkilpaa
/- Maps of the call's own. -/
namespace Go.Proofs.Ytinpinjjdkilpaa
open Go Go.RowKit
section
variable {P : Program} {O : Objs} {nt B : Nat} {F0 : Own} {av0 : Av} {w0 : World} {D : Nat → Prop} {s : MSt} {a : Act} {w w' : World} {ι : Ix} {Θ : Fam} {o : Oper}
theorem scal_rep {av : Av} {x : AV} (h : x.scal = true) : Rep av w x x.scalV ∧ x.scalV.oneCell' = true := by
  cases x <;> first | (simp [AV.scal] at h; done) | exact ⟨rfl, rfl⟩
theorem scals_rep {av : Av} : ∀ {cs : List AV}, cs.all AV.scal = true → RepL av w cs (cs.map AV.scalV)
  | [], _ => rfl
  | x :: r, h => by
    simp only [List.all_cons, Bool.and_eq_true] at h
    exact ⟨_, _, rfl, (scal_rep h.1).1, (scal_rep (av := av) (w := w) h.1).2, scals_rep h.2⟩
theorem flat_rep {av : Av} {x : AV} (h : x.flat = true) : Rep av w x x.flatV := by
  cases x with
  | agg cs => exact ⟨_, rfl, by simpa using scals_rep (av := av) (w := w) h⟩
  | int k n => exact (scal_rep (x := .int k n) rfl).1
  | bool b => exact (scal_rep (x := .bool b) rfl).1
  | str b => exact (scal_rep (x := .str b) rfl).1
  | _ => simp [AV.flat, AV.scal] at h
theorem flat_S {av avb : Av} {x : AV} (h : x.flat = true) : RepS ι av avb w x x.flatV := by
  have h1 := flat_rep (av := av) (w := w) h
  cases x with
  | agg cs => obtain ⟨us, hv, hc⟩ := h1; exact ⟨us, hv, RepCL_ofL hc⟩
  | _ => first | exact h1 | (simp [AV.flat, AV.scal] at h; done)
theorem flat_unS {av avb : Av} {x : AV} {v : Value} (hf : x.flat = true) (h : RepS ι av avb w x v) : v = x.flatV := by
  cases x with
  | agg cs =>
    obtain ⟨us, hv, hc⟩ := h
    subst hv
    have key : ∀ {cs : List AV} {us : List Value}, cs.all AV.scal = true → RepCL ι av w cs us → us = cs.map AV.scalV := by
      intro cs
      induction cs with
      | nil => intro us _ h; simpa [RepCL] using h
      | cons x r ih =>
        intro us hf h
        simp only [RepCL] at h
        obtain ⟨u, us', rfl, h0, _, h⟩ := h
        simp only [List.all_cons, Bool.and_eq_true] at hf
        rw [List.map_cons, ih hf.2 h]
        congr 1
        cases x <;> first | exact h0 | (simp [AV.scal] at hf; done)
    have := key hf hc
    show Value.agg us = .agg (cs.map AV.scalV).toArray
    rw [← this, Array.toArray_toList]
  | int k n => exact h
  | bool b => exact h
  | str b => exact h
  | _ => simp [AV.flat, AV.scal] at hf
theorem avC_flat {v : Value} {x : AV} (h : avC v = some x) (hf : x.flat = true) : v = x.flatV :=
  flat_unS (ι := Ix.none) (av := fun _ _ => False) (avb := fun _ _ => False) (w := default) hf (avC_rep h _ _ _ _)
theorem ba_beq (a b : ByteArray) : (a == b) = decide (a = b) := by
  obtain ⟨a⟩ := a
  obtain ⟨b⟩ := b
  rw [Bool.eq_iff_iff]
  simp only [decide_eq_true_eq, ByteArray.mk.injEq]
  exact beq_iff_eq (α := Array UInt8)
def findSpec {κ : Type} [DecidableEq κ] (L : List (κ × Value)) (n : κ) (m : Nat) : Option (Nat × Value) := ((L.map (·.1)).idxOf? n).bind fun i => (L[i]?).map fun p => (m + i, p.2)
theorem findSpec_cons {κ : Type} [DecidableEq κ] (p : κ × Value) (L : List (κ × Value)) (n : κ) (m : Nat) : findSpec (p :: L) n m = if n = p.1 then some (m, p.2) else findSpec L n (m + 1) := by
  unfold findSpec
  simp only [List.map_cons, List.idxOf?_cons]
  by_cases hk : n = p.1
  · subst hk; simp
  · have hb : (p.1 == n) = false := by simpa using fun e : p.1 = n => hk e.symm
    simp only [hb, hk, if_false]
    cases hi : List.idxOf? n (List.map (fun x => x.1) L) with
    | none => simp
    | some i => simp [Nat.add_assoc, Nat.add_comm 1 i]
theorem findNow_int (k : IntKind) (n : Int) : ∀ (es : List MapEntry) (L : List (Int × Value)) (m : Nat), es.map (fun e => (e.key, e.val)) = L.map (fun p => (Value.int k p.1, p.2)) →
      Instr.findNow (.int k) (.int k n) es m = some (findSpec L n m)
  | [], [], m, _ => by simp [Instr.findNow, findSpec]
  | [], _ :: _, _, h => by simp at h
  | _ :: _, [], _, h => by simp at h
  | e :: es, p :: L, m, h => by
    simp only [List.map_cons, List.cons.injEq, Prod.mk.injEq] at h
    obtain ⟨⟨h1, h2⟩, h3⟩ := h
    have ih := findNow_int k n es L (m + 1) h3
    have hs : Instr.sameNow (.int k) (.int k n) e.key = some (n == p.1) := by rw [h1]; simp [Instr.sameNow]
    simp only [Instr.findNow, hs, findSpec_cons]
    by_cases hk : n = p.1
    · subst hk; simp [h2]
    · have hb' : (n == p.1) = false := by simpa using hk
      simp only [hb', ih, hk, if_false]
theorem findNow_str (n : ByteArray) : ∀ (es : List MapEntry) (L : List (ByteArray × Value)) (m : Nat), es.map (fun e => (e.key, e.val)) = L.map (fun p => (Value.string p.1, p.2)) →
      Instr.findNow .string (.string n) es m = some (findSpec L n m)
  | [], [], m, _ => by simp [Instr.findNow, findSpec]
  | [], _ :: _, _, h => by simp at h
  | _ :: _, [], _, h => by simp at h
  | e :: es, p :: L, m, h => by
    simp only [List.map_cons, List.cons.injEq, Prod.mk.injEq] at h
    obtain ⟨⟨h1, h2⟩, h3⟩ := h
    have ih := findNow_str n es L (m + 1) h3
    have hs : Instr.sameNow .string (.string n) e.key = some (decide (n = p.1)) := by
      rw [h1]
      simp only [Instr.sameNow, ba_beq]
    simp only [Instr.findNow, hs, findSpec_cons]
    by_cases hk : n = p.1
    · subst hk; simp [h2]
    · simp only [hk, decide_false, ih, if_false]
theorem law_int {T : TypeId} {k : IntKind} (u : P.underlying T = some (.int k)) : KeyLaw P T (fun n : Int => Value.int k n) where
  check empty n w := by
    have hq : ∀ (d : Nat), (Instr.checkKey empty (d + 1) T (.int k n)).run P w = .ok () w := fun d => by simp [Instr.checkKey, run_underlying u]
    exact hq 9999
  find n es L w h := by
    simp only [Instr.findKey, Sem.run_bind, run_underlying u, Result.andThen_ok, findNow_int k n es L 0 h, findSpec, Nat.zero_add, Sem.run_pure]
  same n := by
    have hq : ∀ (d : Nat), Instr.sameBits (d + 1) (.int k n) (.int k n) = true := fun d => by simp [Instr.sameBits]
    exact hq 9999
theorem law_str {T : TypeId} (u : P.underlying T = some .string) : KeyLaw P T Value.string where
  check empty n w := by
    have hq : ∀ (d : Nat), (Instr.checkKey empty (d + 1) T (.string n)).run P w = .ok () w := fun d => by simp [Instr.checkKey, run_underlying u]
    exact hq 9999
  find n es L w h := by
    simp only [Instr.findKey, Sem.run_bind, run_underlying u, Result.andThen_ok, findNow_str n es L 0 h, findSpec, Nat.zero_add, Sem.run_pure]
  same n := by
    have hq : ∀ (d : Nat), Instr.sameBits (d + 1) (.string n) (.string n) = true := fun d => by simp [Instr.sameBits, ba_beq]
    exact hq 9999
/-- one kind of keys -/
structure Keyed (ty : Option IntKind) (κ : Type) [DecidableEq κ] (ke : κ → Value) (kx : κ → AV) : Prop where
  val : ∀ a, (kx a).flatV = ke a
  eq : ∀ a b, keyEq (kx a) (kx b) = decide (a = b)
  of : ∀ x, keyOk ty x = true → ∃ a, x = kx a
section
variable {κ : Type} [DecidableEq κ] {ke : κ → Value} {kx : κ → AV} {ty : Option IntKind}
theorem keyed_get (K : Keyed ty κ ke kx) (n : κ) : ∀ M : List (κ × AV), mapGet (M.map fun p => [kx p.1, p.2]) (kx n) = getA M n
  | [] => rfl
  | p :: r => by
    simp only [List.map_cons, mapGet, getA, K.eq, decide_eq_true_eq, keyed_get K n r]
    by_cases h : p.1 = n
    · rw [if_pos h, if_pos h.symm]
    · rw [if_neg h, if_neg fun e => h e.symm]
theorem keyed_set (K : Keyed ty κ ke kx) (n : κ) (v : AV) : ∀ M : List (κ × AV), mapSet (M.map fun p => [kx p.1, p.2]) (kx n) v = (setA M n v).map fun p => [kx p.1, p.2]
  | [] => rfl
  | p :: r => by
    simp only [List.map_cons, mapSet, setA, K.eq, decide_eq_true_eq, keyed_set K n v r]
    by_cases h : p.1 = n
    · rw [if_pos h, if_pos h.symm]; rfl
    · rw [if_neg h, if_neg fun e => h e.symm]; rfl
theorem getA_val (g : AV → Value) (n : κ) : ∀ M : List (κ × AV), getA (M.map fun p => (p.1, g p.2)) n = (getA M n).map g
  | [] => rfl
  | p :: r => by
    simp only [List.map_cons, getA, getA_val g n r]
    split <;> rfl
theorem setA_val (g : AV → Value) (n : κ) (v : AV) : ∀ M : List (κ × AV), setA (M.map fun p => (p.1, g p.2)) n (g v) = (setA M n v).map fun p => (p.1, g p.2)
  | [] => rfl
  | p :: r => by
    simp only [List.map_cons, setA, setA_val g n v r]
    split <;> rfl
theorem keyed_dec (K : Keyed ty κ ke kx) : ∀ L : List (List AV), keysOk ty L = true → ∃ M : List (κ × AV), L = M.map (fun p => [kx p.1, p.2]) ∧ ∀ p ∈ M, p.2.flat = true
  | [], _ => ⟨[], rfl, fun _ h => by cases h⟩
  | e :: r, h => by
    unfold keysOk at h
    simp only [List.all_cons, Bool.and_eq_true] at h
    obtain ⟨M, hM, hf⟩ := keyed_dec K r h.2
    have h1 := h.1
    split at h1
    · rename_i k v
      simp only [Bool.and_eq_true] at h1
      obtain ⟨n, rfl⟩ := K.of k h1.1
      exact ⟨(n, v) :: M, by rw [hM]; rfl, fun p hp => by
        rcases List.mem_cons.1 hp with rfl | hp
        · exact h1.2
        · exact hf p hp⟩
    · cases h1
theorem keyed_ent (K : Keyed ty κ ke kx) (M : List (κ × AV)) : (M.map fun p => [kx p.1, p.2]).map entV = (M.map fun p => (p.1, p.2.flatV)).map fun p => (ke p.1, p.2) := by
  rw [List.map_map, List.map_map]
  apply List.map_congr_left
  intro p _
  simp [entV, K.val]
end
theorem keyed_int (k : IntKind) : Keyed (some k) Int (fun n => Value.int k n) (fun n => .int k n) where
  val _ := rfl
  eq a b := by simp [keyEq]
  of x h := by
    cases x <;> first | (simp [keyOk] at h; done) | (simp only [keyOk, decide_eq_true_eq] at h; subst h; exact ⟨_, rfl⟩)
theorem keyed_str : Keyed none ByteArray Value.string AV.str where
  val _ := rfl
  eq a b := by simp [keyEq]
  of x h := by
    cases x <;> first | (simp [keyOk] at h; done) | exact ⟨_, rfl⟩
theorem zero_run {e : TypeId} {z : AV} (h : ((P.info? e).bind (·.zero)).bind avC = some z) (w : World) : ∃ zv, (zeroValue e).run P w = .ok zv w ∧ avC zv = some z := by
  obtain ⟨zv, h1, h2⟩ := Option.bind_eq_some_iff.1 h
  obtain ⟨i, hi, hz⟩ := Option.bind_eq_some_iff.1 h1
  exact ⟨zv, by simp [zeroValue, typeInfo, hi, hz], h2⟩
/-- what a map reads as, and its law -/
theorem map_read {κ : Type} [DecidableEq κ] {ke : κ → Value} {kx : κ → AV} {ty : Option IntKind} (R : Rel P O nt B F0 av0 w0 D s a w ι Θ) (K : Keyed ty κ ke kx) {t n : Nat} {v : Value} (hv : RepS ι (avA av0 ι Θ) (avB ι Θ) w (.mp t n) v) {L : List (List AV)} (hL : (s.obj t n).bind mapOf = some L) (hk : keysOk ty L = true) :
    ∃ (b : Nat) (H : Nat → Prop) (M : List (κ × AV)), v = .map (some b) ∧ ι t n = some b ∧ ι.ob t n = some H ∧ (∀ x, H x ↔ x = b) ∧ L = M.map (fun p => [kx p.1, p.2]) ∧ (∀ p ∈ M, p.2.flat = true) ∧ MapAt ke w b (M.map fun p => (p.1, p.2.flatV)) := by
  obtain ⟨b, hb, rfl⟩ := hv
  obtain ⟨S, hS, hm⟩ := Option.bind_eq_some_iff.1 hL
  obtain ⟨p, H, hp, hob, hat⟩ := R.objs t n S hS
  rw [hb] at hp
  injection hp with hp
  subst hp
  have hSL : S = mapAV L := by
    unfold mapOf at hm
    split at hm
    · injection hm with hm; subst hm; rfl
    · cases hm
  subst hSL
  obtain ⟨hH, es, clock, he, hent⟩ := (O.maps L H b w).1 hat
  obtain ⟨M, rfl, hf⟩ := keyed_dec K L hk
  exact ⟨b, H, M, rfl, hb, hob, hH, rfl, hf, es, clock, he, hent.trans (keyed_ent K M)⟩
theorem getA_flat {κ : Type} [DecidableEq κ] : ∀ {M : List (κ × AV)} {n : κ} {x : AV}, (∀ p ∈ M, p.2.flat = true) → getA M n = some x → x.flat = true
  | [], _, _, _, h => by cases h
  | p :: r, n, x, hf, h => by
    unfold getA at h
    split at h
    · injection h with h; subst h; exact hf p List.mem_cons_self
    · exact getA_flat (fun q hq => hf q (List.mem_cons_of_mem _ hq)) h
theorem setA_flat {κ : Type} [DecidableEq κ] {v : AV} (hv : v.flat = true) : ∀ {M : List (κ × AV)} {n : κ}, (∀ p ∈ M, p.2.flat = true) → ∀ p ∈ setA M n v, p.2.flat = true
  | [], n, _, p, h => by simp [setA] at h; subst h; exact hv
  | q :: r, n, hf, p, h => by
    unfold setA at h
    split at h
    · rcases List.mem_cons.1 h with rfl | h
      · exact hv
      · exact hf p (List.mem_cons_of_mem _ h)
    · rcases List.mem_cons.1 h with rfl | h
      · exact hf _ List.mem_cons_self
      · exact setA_flat hv (fun q hq => hf q (List.mem_cons_of_mem _ hq)) p h
theorem mget_gen {κ : Type} [DecidableEq κ] {ke : κ → Value} {kx : κ → AV} {ty : Option IntKind} (R : Rel P O nt B F0 av0 w0 D s a w ι Θ) (K : Keyed ty κ ke kx) {T kT eT : TypeId} (KL : KeyLaw P kT ke) (hT : P.underlying T = some (.map kT eT)) {zero : AV} (hz : ((P.info? eT).bind (·.zero)).bind avC = some zero) (hzf : zero.flat = true)
    {X I : Operand} {y i : Opd} (hx : opd X = some y) (hi : opd I = some i) {ok : Bool} (ho : o.op = .lookup T X I ok) {t n : Nat} (hy : y.get s = .mp t n) {L : List (List AV)} (hL : (s.obj t n).bind mapOf = some L) (hk : keysOk ty L = true) (hkey : keyOk ty (i.get s) = true) :
    Val P av0 a w ι Θ o ⟨if ok then .tup [(mapGet L (i.get s)).getD zero, .bool (mapGet L (i.get s)).isSome] else (mapGet L (i.get s)).getD zero, .no⟩ := by
  have hX := (R.opd hx).1
  have hI := (R.opd hi).1
  rw [hy] at hX
  obtain ⟨b, H, M, hv, hb, hob, hH, rfl, hf, hat⟩ := map_read R K hX hL hk
  obtain ⟨k, hkx⟩ := K.of _ hkey
  rw [hkx] at hI ⊢
  have hkf : (kx k).flat = true := by
    rw [← hkx]
    generalize i.get s = x at hkey
    cases ty <;> cases x <;> first | rfl | (simp [keyOk] at hkey; done)
  have hIv : a.eval I = ke k := (flat_unS hkf hI).trans (K.val k)
  obtain ⟨zv, hzr, hzc⟩ := zero_run hz w
  have hzv := avC_flat hzc hzf
  rw [keyed_get K]
  have hres : (getA (M.map fun p => (p.1, p.2.flatV)) k).getD zv = ((getA M k).getD zero).flatV := by
    rw [getA_val, hzv]
    cases getA M k <;> rfl
  have hflat : ((getA M k).getD zero).flat = true := by
    cases hg : getA M k with
    | none => exact hzf
    | some x => exact getA_flat hf hg
  cases ok with
  | false =>
    have hrun := hat.lookup KL hT hzr k
    rw [hres] at hrun
    refine ⟨((getA M k).getD zero).flatV, by simp only [execOp, ho, hv, hIv, Sem.run_bind, hrun, Result.andThen_ok, Sem.run_pure], ?_, trivial⟩
    exact flat_S hflat
  | true =>
    have hrun := hat.lookup_ok KL hT hzr k
    rw [hres] at hrun
    have hsome : (getA (M.map fun p => (p.1, p.2.flatV)) k).isSome = (getA M k).isSome := by rw [getA_val]; cases getA M k <;> rfl
    rw [hsome] at hrun
    refine ⟨.tuple #[((getA M k).getD zero).flatV, .bool (getA M k).isSome], by simp only [execOp, ho, hv, hIv, Sem.run_bind, hrun, Result.andThen_ok, Sem.run_pure], ?_, trivial⟩
    refine ⟨_, rfl, _, _, rfl, ?_, _, _, rfl, rfl, rfl⟩
    exact RepC_of_rep (flat_rep hflat)
theorem mset_gen {κ : Type} [DecidableEq κ] {ke : κ → Value} {kx : κ → AV} {ty : Option IntKind} (R : Rel P O nt B F0 av0 w0 D s a w ι Θ) (K : Keyed ty κ ke kx) {T kT eT : TypeId} (KL : KeyLaw P kT ke) (hT : P.underlying T = some (.map kT eT))
    {X I Y : Operand} {x i y : Opd} (hx : opd X = some x) (hi : opd I = some i) (hyo : opd Y = some y) (ho : o.op = .mapUpdate T X I Y) (hd : ∀ d, o.dst = some d → d < nt) {t n : Nat} (hxv : x.get s = .mp t n) {L : List (List AV)} (hL : (s.obj t n).bind mapOf = some L) (hk : keysOk ty L = true) (hkey : keyOk ty (i.get s) = true) (hvf : (y.get s).flat = true) :
    ∃ w', (execOp a.eval o).run P w = .ok .skip w' ∧ RelE P O nt B F0 av0 w0 D ((s.setObj t n (mapAV (mapSet L (i.get s) (y.get s)))).put o.dst ⟨.undef, .no⟩) (a.put o.dst undef) w' := by
  have hX := (R.opd hx).1
  have hI := (R.opd hi).1
  have hY := flat_unS hvf (R.opd hyo).1
  rw [hxv] at hX
  obtain ⟨b, H, M, hv, hb, hob, hH, rfl, hf, hat⟩ := map_read R K hX hL hk
  obtain ⟨k, hkx⟩ := K.of _ hkey
  rw [hkx] at hI ⊢
  have hkf : (kx k).flat = true := by
    rw [← hkx]
    generalize i.get s = x at hkey
    cases ty <;> cases x <;> first | rfl | (simp [keyOk] at hkey; done)
  have hIv : a.eval I = ke k := (flat_unS hkf hI).trans (K.val k)
  have hlt := hat.lt
  obtain ⟨es, clock, hrun, hent⟩ := hat.update KL hT k (y.get s).flatV
  rw [setA_val] at hent
  have hat' : O.at_ (mapAV (mapSet (M.map fun p => [kx p.1, p.2]) (kx k) (y.get s))) H b { w with heap := w.heap.setIfInBounds b (.map es clock) } := by
    refine (O.maps _ _ _ _).2 ⟨hH, es, clock, by simp [hlt], ?_⟩
    rw [keyed_set K, keyed_ent K]
    exact hent
  have hkeep : Keep H w { w with heap := w.heap.setIfInBounds b (.map es clock) } := ⟨rfl, rfl, rfl, by simp, fun j _ hn => by
    have : j ≠ b := fun e => hn ((hH j).2 e)
    simp only [Array.getElem?_setIfInBounds]
    rw [if_neg fun e : b = j => this e.symm]⟩
  obtain ⟨ι', R2, _⟩ := R.turnObj hb hob hat' (fun x hx => .inl hx) hkeep
  refine ⟨_, by simp only [execOp, ho, hv, hIv, hY, Sem.run_bind, hrun, Result.andThen_ok, Sem.run_pure], ι', Θ, R2.putN (x := ⟨.undef, .no⟩) hd trivial trivial⟩
theorem op_mkm (R : Rel P O nt B F0 av0 w0 D s a w ι Θ) {T : TypeId} (ho : o.op = .makeMap T none) {d : Nat} (hdst : o.dst = some d) (hd : d < nt) (hD : ¬ D d) :
    ∃ v w', (execOp a.eval o).run P w = .ok (.value v) w' ∧ RelE P O nt B F0 av0 w0 (fun t => D t ∨ t = d) ((s.setObj d s.next (mapAV [])).put (some d) ⟨.mp d s.next, .no⟩) (a.put o.dst v) w' := by
  have hrun : (execOp a.eval o).run P w = .ok (.value (.map (some w.heap.size))) (w.alloc (.map #[] 0)) := by
    simp [execOp, ho, Instr.makeMap]
  have hb : Below w.heap.size w (w.alloc (.map #[] 0)) := Below.alloc (Below.refl _ _) (Nat.le_refl _) _
  obtain ⟨ι', R2, hι, _⟩ := R.newObj (d := d) (p := w.heap.size) (H := fun b => b = w.heap.size) (S := mapAV []) hb hD ((O.maps _ _ _ _).2 ⟨fun b => Iff.rfl, #[], 0, new_at rfl, rfl⟩) (fun b h => Nat.le_of_eq h.symm)
  rw [hdst]
  exact ⟨_, _, hrun, ι', Θ, R2.put (x := ⟨.mp d s.next, .no⟩) hd ⟨_, hι, rfl⟩ trivial⟩
theorem op_mlen (R : Rel P O nt B F0 av0 w0 D s a w ι Θ) {T : TypeId} {kT eT : TypeId} (hT : P.underlying T = some (.map kT eT)) {X : Operand} {x : Opd} (hx : opd X = some x) (ho : o.op = .call { callee := .builtin .len, args := #[X], argTypes := #[T] }) {t n : Nat} (hxv : x.get s = .mp t n) {L : List (List AV)} (hL : (s.obj t n).bind mapOf = some L) :
    Val P av0 a w ι Θ o ⟨.int .i64 L.length, .no⟩ := by
  have hX := (R.opd hx).1
  rw [hxv] at hX
  obtain ⟨b, hb, hv⟩ := hX
  obtain ⟨S, hS, hm⟩ := Option.bind_eq_some_iff.1 hL
  obtain ⟨p, H, hp, hob, hat⟩ := R.objs t n S hS
  rw [hb] at hp
  injection hp with hp
  subst hp
  have hSL : S = mapAV L := by
    unfold mapOf at hm
    split at hm
    · injection hm with hm; subst hm; rfl
    · cases hm
  subst hSL
  obtain ⟨hH, es, clock, he, hent⟩ := (O.maps L H b w).1 hat
  have hlen : es.size = L.length := by simpa using congrArg List.length hent
  have hg : (getObj b).run P w = .ok (.map es clock) w := by simp [getObj, Sem.run, he]
  refine ⟨.int .i64 L.length, ?_, by rw [repS_int], trivial⟩
  simp [execOp, ho, resolve, invoke, builtin, Builtin.len_, run_underlying hT, hv, hg, goInt, hlen]
/-- the object turns, and a new block becomes memory of the call's own -/
theorem Rel.turnNew (R : Rel P O nt B F0 av0 w0 D s a w ι Θ) {t n p : Nat} {H H' : Nat → Prop} {S' : AV} (hp : ι t n = some p) (hob : ι.ob t n = some H) (hat : O.at_ S' H' p w') (hH : ∀ b, H' b → H b ∨ w.heap.size ≤ b) (hk : Keep H w w')
    {d g : Nat} (hD : ¬ D d) (hg : w.heap.size ≤ g) (hgH : ¬ H' g) {cur : Array Value} {ty : TypeId} (hgw : w'.heap[g]? = some (.cells cur ty (0, 0))) {l : List AV} (hl : l.all AV.scal = true) (hcur : ∀ (j : Nat) (x : AV), l[j]? = some x → cur[j]? = some x.scalV) (hcs : l.length ≤ cur.size) :
    ∃ ι' : Ix, Rel P O nt B F0 av0 w0 (fun j => D j ∨ j = d) ((s.setObj t n S').setRow d s.next (l.map (⟨·, .no⟩))) a w' ι' Θ ∧ ι' d s.next = some g ∧ ι'.z g = cur.size := by
  obtain ⟨hob1, hob2⟩ := R.obs t n H hob
  have hgl := lt_of_heap hgw
  have hfresh : ι d s.next = none := by
    cases h : ι d s.next with
    | none => rfl
    | some b =>
      rcases (R.mine _ _ _ h).2.2 with h1 | h1
      · omega
      · exact absurd h1.2 hD
  have hfresh' : ι.ob d s.next = none := by
    cases h : ι.ob d s.next with
    | none => rfl
    | some b =>
      rcases (R.obs _ _ _ h).2 with h1 | h1
      · omega
      · exact absurd h1.2 hD
  have hnd : ¬ (t = d ∧ n = s.next) := fun e => by rw [e.1, e.2, hfresh] at hp; cases hp
  obtain ⟨ι', hι'⟩ : ∃ ι' : Ix, ι' = ⟨fun t' n' => if t' = d ∧ n' = s.next then some g else ι t' n', fun t' n' => if t' = t ∧ n' = n then some H' else ι.ob t' n', fun b => if b = g then cur.size else ι.z b⟩ := ⟨_, rfl⟩
  have hf : ∀ t' n' b, ι' t' n' = some b → (t' = d ∧ n' = s.next ∧ b = g) ∨ (¬ (t' = d ∧ n' = s.next) ∧ ι t' n' = some b) := fun t' n' b h => by
    subst hι'
    have h' : (if t' = d ∧ n' = s.next then some g else ι t' n') = some b := h
    split at h'
    · rename_i e; injection h' with h'; exact .inl ⟨e.1, e.2, h'.symm⟩
    · rename_i e; exact .inr ⟨e, h'⟩
  have hobq : ∀ t' n' H1, ι'.ob t' n' = some H1 → (t' = t ∧ n' = n ∧ H1 = H') ∨ (¬ (t' = t ∧ n' = n) ∧ ι.ob t' n' = some H1) := fun t' n' H1 h => by
    subst hι'
    simp only at h
    split at h
    · rename_i e; injection h with h; exact .inl ⟨e.1, e.2, h.symm⟩
    · rename_i e; exact .inr ⟨e, h⟩
  have hsub : ∀ t n b, ι t n = some b → ι' t n = some b := fun t n b h => by
    subst hι'
    show (if t = d ∧ n = s.next then some g else ι t n) = some b
    split
    · rename_i e; rw [e.1, e.2, hfresh] at h; cases h
    · exact h
  have hnew : ι' d s.next = some g := by subst hι'; show (if d = d ∧ s.next = s.next then some g else ι d s.next) = _; rw [if_pos ⟨rfl, rfl⟩]
  have hobt : ι'.ob t n = some H' := by subst hι'; simp
  have hobn : ∀ t' n', ¬ (t' = t ∧ n' = n) → ι'.ob t' n' = ι.ob t' n' := fun t' n' e => by subst hι'; simp only [if_neg e]
  have hzg : ι'.z g = cur.size := by subst hι'; simp
  have hle : Ix.Le ι ι' := ⟨hsub, fun t n b h => by
    have := (R.mine t n b h).2.1
    subst hι'
    show (if b = g then cur.size else ι.z b) = ι.z b
    rw [if_neg (by omega)]⟩
  clear hι'
  have hsz := hk.size
  have hBle := R.lowB
  have hBx : ∀ b o, b < w.heap.size → avB ι' Θ b o → avB ι Θ b o := fun b o hb h => h.imp (fun h => h.imp (fun ⟨t', n', h⟩ => by
    rcases hf _ _ _ h with ⟨_, _, e⟩ | ⟨_, h⟩
    · omega
    · exact ⟨t', n', h⟩) fun ⟨t', n', H1, h1, h2⟩ => by
    rcases hobq _ _ _ h1 with ⟨e1, e2, e3⟩ | ⟨_, h1⟩
    · subst e3
      rcases hH b h2 with h3 | h3
      · exact ⟨t, n, H, hob, h3⟩
      · omega
    · exact ⟨t', n', H1, h1, h2⟩) id
  have hcell : ∀ b o u, w.cell? ⟨b, o, none⟩ = some u → ¬ H b → w'.cell? ⟨b, o, none⟩ = some u := fun b o u hc hn => (World.cell?_of_block (w := w) (a := ⟨b, o, none⟩) (hk.block b (cell_lt hc) hn)).trans hc
  have hB : Held (avB ι Θ) (avB ι' Θ) w w' := ⟨fun b o u hc hn => ⟨hcell b o u hc fun h => hn (.inl (.inr ⟨t, n, H, hob, h⟩)), fun h => hn (hBx b o (cell_lt hc) h)⟩⟩
  have hA : Held (avA av0 ι Θ) (avA av0 ι' Θ) w w' := ⟨fun b o u hc hn => ⟨hcell b o u hc fun h => hn (.inr (.inl (.inr ⟨t, n, H, hob, h⟩))), fun h => hn (h.imp id (hBx b o (cell_lt hc)))⟩⟩
  refine ⟨ι', ⟨R.defers, R.size, fun j => RepS.held hle hA hB _ _ (R.env j), R.ann, fun t' n' r hr => ?_, fun t' n' b h => ?_, fun t1 n1 t2 n2 b h h' => ?_, fun k o h => ?_, R.tinj, fun k o t' n' h h' => ?_, R.out, fun p' h => ⟨hsub _ _ _ (R.pin p' h).1, ?_⟩, ?_, R.base, fun t' n' S1 h => ?_, fun t' n' H1 h => ?_⟩, hnew, hzg⟩
  · simp only [MSt.setRow] at hr
    split at hr
    · rename_i e
      injection hr with hr
      subst hr
      have hoo : ι'.ob t' n' = none := by
        rw [hobn t' n' (fun e' => hnd ⟨e'.1.symm.trans e.1, e'.2.symm.trans e.2⟩), e.1, e.2]
        exact hfresh'
      refine ⟨hoo, g, cur, ty, by rw [e.1, e.2]; exact hnew, hgw, ⟨by simpa using hcs, fun j x hx => ?_⟩, by omega, hzg.symm⟩
      rw [List.getElem?_map] at hx
      cases hj : l[j]? with
      | none => rw [hj] at hx; cases hx
      | some y =>
        rw [hj] at hx
        injection hx with hx
        subst hx
        have hy := List.all_eq_true.1 hl y (List.mem_of_getElem? hj)
        have hr := scal_rep (av := avA av0 ι' Θ) (w := w') hy
        exact ⟨_, hcur j y hj, hr.2, RepC_of_rep hr.1, trivial⟩
    · have hr' : s.mem t' n' = some r := hr
      obtain ⟨h0, b, cur', ty', h1, h2, h3, h8, h9⟩ := R.rows t' n' r hr'
      have hne : ¬ (t' = t ∧ n' = n) := fun e => by rw [e.1, e.2, hob] at h0; cases h0
      have hbn : ¬ H b := fun hb => hne ((hob1 b hb).2.2.1 t' n' h1)
      exact ⟨by rw [hobn _ _ hne]; exact h0, b, cur', ty', hsub _ _ _ h1, (hk.block b (lt_of_heap h2) hbn).trans h2, h3.held hle hA (fun _ _ h => h), h8, h9.trans (hle.z _ _ _ h1).symm⟩
  · rcases hf _ _ _ h with ⟨e1, e2, e3⟩ | ⟨_, h⟩
    · subst e3
      exact ⟨.inl (by omega), hgl, .inr ⟨e2, .inr e1⟩⟩
    · obtain ⟨h1, h2, h3⟩ := R.mine t' n' b h
      exact ⟨h1, by omega, h3.imp id fun ⟨e, d⟩ => ⟨e, .inl d⟩⟩
  · rcases hf _ _ _ h with ⟨e1, e2, e3⟩ | ⟨_, h⟩ <;> rcases hf _ _ _ h' with ⟨f1, f2, f3⟩ | ⟨_, h'⟩
    · exact ⟨e1.trans f1.symm, e2.trans f2.symm⟩
    · have := (R.mine _ _ _ h').2.1; omega
    · have := (R.mine _ _ _ h).2.1; omega
    · exact R.inj _ _ _ _ _ h h'
  · obtain ⟨h1, h2, h3, h4, cur', h5, h6⟩ := R.tok k o h
    exact ⟨h1, h2, h3, h4, cur', (hk.block _ (lt_of_heap h5) (R.apob h hob)).trans h5, h6⟩
  · obtain ⟨_, _, _, _, cur', h5, _⟩ := R.tok k o h
    have hlt := lt_of_heap h5
    rcases hf _ _ _ h' with ⟨_, _, e⟩ | ⟨_, h'⟩
    · omega
    · exact R.apart k o t' n' h h'
  · obtain ⟨H1, h1⟩ := (R.pin p' h).2
    by_cases e : 0 = t ∧ 0 = n
    · exact ⟨H', by rw [← e.1, ← e.2] at hobt; exact hobt⟩
    · exact ⟨H1, by rw [hobn _ _ e]; exact h1⟩
  · refine R.kept.trans hk fun i hi h => ?_
    have := R.base
    rcases (hob1 i h).1 with h1 | h1
    · omega
    · exact h1
  · simp only [MSt.setRow, MSt.setObj] at h
    split at h
    · rename_i e
      injection h with h
      subst h
      exact ⟨p, H', by rw [e.1, e.2]; exact hsub _ _ _ hp, by rw [e.1, e.2]; exact hobt, hat⟩
    · rename_i e
      obtain ⟨p1, H1, h1, h2, h3⟩ := R.objs t' n' S1 h
      refine ⟨p1, H1, hsub _ _ _ h1, by rw [hobn _ _ e]; exact h2, O.keep h3 (fun b hb => hk.block b (O.lt h3 hb) fun hb' => e ?_) hsz⟩
      exact (hob1 b hb').2.2.2.2 t' n' H1 h2 hb
  · rcases hobq _ _ _ h with ⟨e1, e2, e3⟩ | ⟨e, h⟩
    · subst e1; subst e2; subst e3
      refine ⟨fun b hb => ?_, hob2.imp id fun ⟨e, d⟩ => ⟨e, .inl d⟩⟩
      have hbg : b ≠ g := fun e => hgH (e ▸ hb)
      rcases hH b hb with h1 | h1
      · obtain ⟨g1, g2, g3, g4, g5⟩ := hob1 b h1
        refine ⟨g1, by omega, fun t1 n1 h2 => ?_, g4, fun t1 n1 H2 h2 h3 => ?_⟩
        · rcases hf _ _ _ h2 with ⟨_, _, e⟩ | ⟨_, h2⟩
          · exact absurd e hbg
          · exact g3 t1 n1 h2
        · rcases hobq _ _ _ h2 with ⟨e1, e2, _⟩ | ⟨_, h2⟩
          · exact ⟨e1, e2⟩
          · exact g5 t1 n1 H2 h2 h3
      · refine ⟨.inl (by omega), O.lt hat hb, fun t1 n1 h2 => ?_, fun k o h2 e => ?_, fun t1 n1 H2 h2 h3 => ?_⟩
        · rcases hf _ _ _ h2 with ⟨_, _, e⟩ | ⟨_, h2⟩
          · exact absurd e hbg
          · have := (R.mine _ _ _ h2).2.1; omega
        · obtain ⟨_, _, _, _, cur', h5, _⟩ := R.tok k o h2; have := lt_of_heap h5; omega
        · rcases hobq _ _ _ h2 with ⟨e1, e2, _⟩ | ⟨_, h2⟩
          · exact ⟨e1, e2⟩
          · have := ((R.obs _ _ _ h2).1 b h3).2.1; omega
    · obtain ⟨h1, h2⟩ := R.obs t' n' H1 h
      refine ⟨fun b hb => ?_, h2.imp id fun ⟨e, d⟩ => ⟨e, .inl d⟩⟩
      obtain ⟨g1, g2, g3, g4, g5⟩ := h1 b hb
      refine ⟨g1, by omega, fun t1 n1 h2 => ?_, g4, fun t1 n1 H2 h2 h3 => ?_⟩
      · rcases hf _ _ _ h2 with ⟨_, _, e'⟩ | ⟨_, h2⟩
        · omega
        · exact g3 t1 n1 h2
      · rcases hobq _ _ _ h2 with ⟨e1, e2, e3⟩ | ⟨_, h2⟩
        · subst e3
          rcases hH b h3 with h4 | h4
          · have := g5 t n H hob h4
            exact absurd ⟨this.1.symm, this.2.symm⟩ e
          · omega
        · exact g5 t1 n1 H2 h2 h3
theorem op_callf (R : Rel P O nt B F0 av0 w0 D s a w ι Θ) {call : CallT} (hcall : ∀ f args S r, call f args S = some r → CallOk P O f args S r) {f : FuncId} {Xs : Array Operand} {ts : Array TypeId} {xs : List Opd} (hx : opdL Xs.toList = some xs) (ho : o.op = .call { callee := .value (.func f), args := Xs, argTypes := ts }) (hd : ∀ d, o.dst = some d → d < nt) (hD : ∀ d, o.dst = some d → ¬ D d) {cl : Cl} {sz : Nat} (hsz : 0 < sz) {xe : Slot × Eff} (hr : (K.callf cl f sz xs).run call s = some xe) {g} {s' : MSt} (he : OpC.eff ⟨o.dst, .callf cl f sz xs, g⟩ s xe = some s')
    {Kn : Act → World → Prop} {Q : Exit → Act → World → Prop} (hK : ∀ a' w', RelE P O nt B F0 av0 w0 (fun t => D t ∨ o.dst = some t) s' a' w' → Kn a' w') : o.wp P a w Kn Q := by
  simp only [K.run] at hr
  obtain ⟨vs, hl, hr⟩ := Option.bind_eq_some_iff.1 hr
  have he0 : (Xs.toList.map a.eval).toArray = Xs.map a.eval := by rw [← Array.toList_map, Array.toArray_toList]
  have hlow : ∀ b o, avA av0 ι Θ b o → b < w.heap.size := fun b o h => R.low h
  split at hr
  · rename_i t n hone
    obtain ⟨r, hc, hr⟩ := Option.bind_eq_some_iff.1 hr
    split at hr
    · rename_i l S'
      split at hr
      · rename_i hcond
        obtain ⟨hsome, hels, hscal⟩ := hcond
        obtain ⟨S, hS⟩ := Option.isSome_iff_exists.1 hsome
        rw [hS] at hc
        have hok : CallOwn P O f vs (some S) (.sl false l, some S') := hcall f (.undef :: vs) (some S) _ hc
        obtain ⟨p, H, hp, hob, hat⟩ := R.objs t n S hS
        have hargs := lendAll_rep (ι' := Ix.one p) (avl := fun b _ => H b) R (fun b _ h => ⟨t, n, H, hob, h⟩) hx hl fun x hx t' n' h => by
          have : (t', n') ∈ objsOf s xs := List.mem_filterMap.2 ⟨x, hx, by rw [h]⟩
          rw [hone] at this
          have := List.mem_singleton.1 this
          injection this with e1 e2
          rw [e1, e2, hp]
          rfl
        have hrun : (execOp a.eval o).run P w = .ok (.enter f (Xs.map a.eval)) w := by
          simp only [execOp, ho, resolve, Act.eval, Deferred.ofValue, Sem.run_bind, Sem.run_pure, Result.andThen_ok, invoke]
          have := hok.1 (#[] ++ Xs.map a.eval ++ #[]) w
          simp only [Array.empty_append, Array.append_empty] at this ⊢
          exact this
        unfold Oper.wp
        rw [hrun, Oper.upon_enter]
        have hC := hok.2 (avA av0 ι Θ) w _ p H hlow (fun b o h => .inr (.inl (.inr ⟨t, n, H, hob, h⟩))) hat hargs
        rw [he0] at hC
        refine hC.mono ?_
        rintro e w' ⟨v, H', rfl, hv, hat', hH, hk⟩
        split at hr
        · rename_i hemp
          injection hr with hr
          subst hr
          simp only [OpC.eff] at he
          injection he with he
          subst he
          have hl0 : l = [] := by simpa using hemp
          subst hl0
          obtain ⟨ι', R', hav⟩ := R.turnObj hp hob hat' hH hk
          have hv' : ∃ A c, v = .slice A 0 c ∧ (A = none → c = 0) := by
            rcases hv with ⟨_, A, c, h1, h2⟩ | ⟨g, c, cur, ty, h1, _⟩
            · exact ⟨A, c, h1, h2⟩
            · exact ⟨_, c, h1, fun h => by cases h⟩
          obtain ⟨A, c, rfl, hA⟩ := hv'
          refine hK _ _ ⟨ι', Θ, (R'.putN (x := ⟨.sl false [], .no⟩) hd ?_ trivial).more fun _ h => .inl h⟩
          rw [repS_sl]
          simp only [Rep, List.length_nil]
          exact ⟨A, c, rfl, Nat.zero_le _, (fun x hx => by cases hx), (fun h => by cases h), fun _ => ⟨hA, fun h => absurd h (Nat.lt_irrefl 0)⟩⟩
        · rename_i hemp
          injection hr with hr
          subst hr
          cases hdst : o.dst with
          | none => simp [OpC.eff, hdst] at he
          | some d =>
            simp only [OpC.eff, hdst] at he
            injection he with he
            subst he
            have hne : l ≠ [] := fun h => hemp (by simp [h])
            have hpos : 0 < l.length := List.length_pos_iff.2 hne
            rcases hv with ⟨h0, _⟩ | ⟨g, c, cur, ty, rfl, h2, h3, h4, h5, h6, h7⟩
            · exact absurd h0 hne
            · have hcz := h6 sz hels hpos
              have hfl : l.flatten.length = l.length * sz := by
                have hind : ∀ q : List (List AV), elsOk sz q = true → q.flatten.length = q.length * sz := fun q => by
                  induction q with
                  | nil => simp
                  | cons c r ih =>
                    intro h
                    rw [elsOk_cons] at h
                    simp only [Bool.and_eq_true, decide_eq_true_eq] at h
                    rw [List.flatten_cons, List.length_append, ih h.2, h.1, List.length_cons, Nat.succ_mul]
                    omega
                exact hind l hels
              have hsc : l.flatten.all AV.scal = true := by
                rw [List.all_flatten]
                exact hscal
              obtain ⟨ι', R', hι, hz⟩ := R.turnNew (d := d) (g := g) hp hob hat' hH hk (hD d hdst) h2 h3 h4 hsc h7 (by rw [hfl]; exact Nat.le_trans (Nat.mul_le_mul_right _ h5) hcz)
              refine hK _ _ ⟨ι', Θ, ?_⟩
              rw [hdst]
              exact (R'.put (x := ⟨.ref d s.next sz 0 l.length l.length, .no⟩) (hd d hdst) ⟨g, hι, Nat.le_refl _, c, h5, by rw [hz, Nat.zero_add]; exact hcz, rfl⟩ trivial).more fun t h => h.imp id fun e => by rw [e]
      · cases hr
    · cases hr
  · cases hr
end
end Go.Proofs.Ytinpinjjdkilpaa
/- Every operation. -/
namespace Go.Proofs.Ytinpinjjdkilpaa
open Go Go.RowKit
section
variable {P : Program} {O : Objs} {nt B : Nat} {F0 : Own} {av0 : Av} {w0 : World} {D : Nat → Prop} {s : MSt} {a : Act} {w w' : World} {ι : Ix} {Θ : Fam} {o : Oper}
theorem val_wp (R : Rel P O nt B F0 av0 w0 D s a w ι Θ) {x : Slot} {e : Eff} (hv : e = .none ∧ Val P av0 a w ι Θ o x) (hd : ∀ d, o.dst = some d → d < nt) {k : K} {g} {s' : MSt} (he : OpC.eff ⟨o.dst, k, g⟩ s (x, e) = some s')
    {Kn : Act → World → Prop} {Q : Exit → Act → World → Prop} (hK : ∀ a' w', RelE P O nt B F0 av0 w0 D s' a' w' → Kn a' w') : o.wp P a w Kn Q := by
  obtain ⟨rfl, v, hrun, hS, hA⟩ := hv
  simp only [OpC.eff] at he
  injection he with he
  subst he
  unfold Oper.wp
  rw [hrun, Oper.upon_value]
  exact hK _ _ ⟨ι, Θ, R.putN hd hS hA⟩
theorem run_wp {s' : MSt} (h : ∃ v w', (execOp a.eval o).run P w = .ok (.value v) w' ∧ RelE P O nt B F0 av0 w0 D s' (a.put o.dst v) w')
    {Kn : Act → World → Prop} {Q : Exit → Act → World → Prop} (hK : ∀ a' w', RelE P O nt B F0 av0 w0 D s' a' w' → Kn a' w') : o.wp P a w Kn Q := by
  obtain ⟨v, w', hrun, hR⟩ := h
  unfold Oper.wp
  rw [hrun, Oper.upon_value]
  exact hK _ _ hR
theorem opt2 {α β γ : Type} {x : Option α} {y : Option β} {f : α → β → Option γ} {z : γ} (h : (match x, y with | some a, some b => f a b | _, _ => none) = some z) : ∃ a b, x = some a ∧ y = some b ∧ f a b = some z := by
  cases x <;> cases y <;> first | exact ⟨_, _, rfl, rfl, h⟩ | cases h
theorem optmap {α β : Type} {x : Option α} {f : α → β} {z : β} (h : x.map f = some z) : ∃ a, x = some a ∧ f a = z := by
  cases x with
  | none => cases h
  | some a => exact ⟨a, rfl, by injection h⟩
theorem op_sound (R : Rel P O nt B F0 av0 w0 D s a w ι Θ) {call : CallT} (hcall : ∀ f args S r, call f args S = some r → CallOk P O f args S r) {cl : Cl} {mu : Option Bool} {k : K} (hk : compOp P cl mu o.op = some k) (hmu : mu ≠ none → o.dst ≠ none) (hd : ∀ d, o.dst = some d → d < nt) (hD : ∀ d, o.dst = some d → (isA k || isO k) = true → ¬ D d)
    {xe : Slot × Eff} (hr : k.run call s = some xe) {g} {s' : MSt} (he : OpC.eff ⟨o.dst, k, g⟩ s xe = some s')
    {Kn : Act → World → Prop} {Q : Exit → Act → World → Prop} (hK : ∀ a' w', RelE P O nt B F0 av0 w0 (fun t => D t ∨ o.dst = some t) s' a' w' → Kn a' w') : o.wp P a w Kn Q := by
  have hK' : ∀ a' w', RelE P O nt B F0 av0 w0 D s' a' w' → Kn a' w' := fun a' w' ⟨ι', Θ', h⟩ => hK a' w' ⟨ι', Θ', h.more fun _ h => .inl h⟩
  have hnew : ∀ d, o.dst = some d → (∃ v w', (execOp a.eval o).run P w = .ok (.value v) w' ∧ RelE P O nt B F0 av0 w0 (fun t => D t ∨ t = d) s' (a.put o.dst v) w') → o.wp P a w Kn Q := fun d hdst h =>
    run_wp h fun a' w' ⟨ι', Θ', h⟩ => hK a' w' ⟨ι', Θ', h.more fun t h => h.imp id fun e => by rw [hdst, e]⟩
  obtain ⟨x, e⟩ := xe
  cases hop : o.op <;> rw [hop] at hk <;> simp only [compOp] at hk
  case move X => obtain ⟨y, hy, rfl⟩ := optmap hk; simp only [K.run] at hr; injection hr with hr; injection hr with h1 h2; subst h1; subst h2; exact val_wp R ⟨rfl, val_mv R hy (.inl hop)⟩ hd he hK'
  case assign X => obtain ⟨y, hy, rfl⟩ := optmap hk; simp only [K.run] at hr; injection hr with hr; injection hr with h1 h2; subst h1; subst h2; exact val_wp R ⟨rfl, val_mv R hy (.inr hop)⟩ hd he hK'
  case pick C X Y =>
    split at hk
    · rename_i c x' y' hc hx hy
      injection hk with hk
      subst hk
      simp only [K.run] at hr
      split at hr
      · rename_i t ht
        injection hr with hr; injection hr with h1 h2; subst h1; subst h2
        exact val_wp R ⟨rfl, val_pick R hc hx hy hop ht⟩ hd he hK'
      · cases hr
    · cases hk
  case alloc t =>
    obtain ⟨z, hz, rfl⟩ := optmap hk
    cases hdst : o.dst with
    | none => simp [K.run] at hr; obtain ⟨rfl, rfl⟩ := hr; simp [OpC.eff, hdst] at he
    | some d => exact hnew d hdst (op_alloc R hz hop hdst (hd d hdst) (hD d hdst rfl) hr he)
  case box t X =>
    split at hk
    · rename_i z x' hz hx
      injection hk with hk
      subst hk
      cases hdst : o.dst with
      | none =>
        simp only [K.run] at hr
        split at hr
        · split at hr
          · injection hr with hr; injection hr with h1 h2; subst h1; subst h2; simp [OpC.eff, hdst] at he
          · cases hr
        · split at hr
          · injection hr with hr; injection hr with h1 h2; subst h1; subst h2; simp [OpC.eff, hdst] at he
          · cases hr
      | some d => exact hnew d hdst (op_boxE R hx hop hdst (hd d hdst) (hD d hdst rfl) hr he)
    · cases hk
  case build t ps =>
    split at hk
    · rename_i fs z ys ht hz hy
      split at hk
      · rename_i pl hpl
        obtain ⟨zs, hzs, rfl⟩ := optmap hk
        obtain ⟨zv, i, hi, hiz, _, hl⟩ := tZero_run hz w
        refine val_wp R (val_build R hl (pl := (pl.toArray[·]?)) ?_ hy hzs hop hr) hd he hK'
        simp [Program.built, hi, ht, hiz, hpl]
      · cases hk
    · rename_i n el z ys ht hz hy
      split at hk
      · rename_i ie hie
        obtain ⟨zs, hzs, rfl⟩ := optmap hk
        obtain ⟨zv, i, hi, hiz, _, hl⟩ := tZero_run hz w
        refine val_wp R (val_build R hl (pl := fun i => some (i * ie.size, ie.size)) ?_ hy hzs hop hr) hd he hK'
        simp [Program.built, hi, ht, hiz, hie]
      · cases hk
    · cases hk
  case buildSlice t n ps =>
    split at hk
    · rename_i el ys ht hy
      split at hk
      · rename_i z kk hz hs
        split at hk
        · rename_i hc
          injection hk with hk
          subst hk
          obtain ⟨rfl, v, w', hrun, R', hS, hA⟩ := op_bsl R ht hz hs hc.1 hc.2.1 hc.2.2 hy hop hr
          simp only [OpC.eff] at he
          injection he with he
          subst he
          unfold Oper.wp
          rw [hrun, Oper.upon_value]
          exact hK' _ _ ⟨ι, Θ, R'.putN hd hS hA⟩
        · cases hk
      · cases hk
    · cases hk
  case load t X =>
    split at hk
    · rename_i ag z y hA hz hx
      injection hk with hk
      subst hk
      exact val_wp R (val_load R hA hz hx hop hr) hd he hK'
    · cases hk
  case store t X Y =>
    split at hk
    · rename_i ag z x' y' hA hz hx hy
      split at hk
      · rename_i hag
        injection hk with hk
        subst hk
        obtain ⟨w', hrun, hR⟩ := op_store R hz (by simpa using hag) hx hy hop hd hr he
        unfold Oper.wp
        rw [hrun, Oper.upon_skip]
        exact hK' _ _ hR
      · cases hk
    · cases hk
  case nilCheck X => obtain ⟨y, hy, rfl⟩ := optmap hk; exact val_wp R (val_nilchk R hy hop hr) hd he hK'
  case binOp op t X Y t' =>
    split at hk
    · rename_i x' y' hx hy
      split at hk
      · injection hk with hk
        subst hk
        simp only [K.run] at hr
        obtain ⟨v, hv, hr⟩ := optmap hr
        injection hr with h1 h2; subst h1; subst h2
        refine val_wp R ⟨rfl, val_bin R (fun hb => ?_) hx hy hop hv⟩ hd he hK'
        split at hb
        · assumption
        · cases hb
      · split at hk
        · split at hk
          · rename_i el ht; injection hk with hk; subst hk; exact val_wp R (val_eqn R (neg := false) (ptr := false) ⟨el, ht⟩ hx hy hop hr) hd he hK'
          · rename_i el ht; injection hk with hk; subst hk; exact val_wp R (val_eqn R (neg := false) (ptr := true) ⟨el, ht⟩ hx hy hop hr) hd he hK'
          · obtain ⟨ks, ht, rfl⟩ := optmap hk; exact val_wp R (val_eqa R (neg := false) ht hx hy hop hr) hd he hK'
        · split at hk
          · rename_i el ht; injection hk with hk; subst hk; exact val_wp R (val_eqn R (neg := true) (ptr := false) ⟨el, ht⟩ hx hy hop hr) hd he hK'
          · rename_i el ht; injection hk with hk; subst hk; exact val_wp R (val_eqn R (neg := true) (ptr := true) ⟨el, ht⟩ hx hy hop hr) hd he hK'
          · obtain ⟨ks, ht, rfl⟩ := optmap hk; exact val_wp R (val_eqa R (neg := true) ht hx hy hop hr) hd he hK'
        · cases hk
    · cases hk
  case unOp op t X =>
    split at hk
    · obtain ⟨y, hy, rfl⟩ := optmap hk; exact val_wp R (val_un R hy hop hr) hd he hK'
    · cases hk
  case convert t t' X =>
    split at hk
    · rename_i j kk x' h1 h2 hx; injection hk with hk; subst hk; exact val_wp R (val_conv R (k := some kk) ⟨⟨j, h1⟩, h2⟩ hx hop hr) hd he hK'
    · rename_i x' h1 h2 hx; injection hk with hk; subst hk; exact val_wp R (val_conv R (k := none) ⟨h1, h2⟩ hx hop hr) hd he hK'
    · cases hk
  case makeSlice t L C =>
    split at hk
    · rename_i el l c ht hl hc
      split at hk
      · rename_i z i hz hi
        split at hk
        · rename_i hcond
          injection hk with hk
          subst hk
          cases hdst : o.dst with
          | none =>
            simp only [K.run] at hr
            split at hr
            · split at hr
              · injection hr with hr; injection hr with h1 h2; subst h1; subst h2; simp [OpC.eff, hdst] at he
              · cases hr
            · cases hr
          | some d => exact hnew d hdst (op_mks R ht hi hz hcond.1 hl hc hop hdst (hd d hdst) (hD d hdst rfl) hr he)
        · cases hk
      · cases hk
    · cases hk
  case slice t X L H M =>
    split at hk
    · rename_i x' l h m hx hl hh hm
      split at hk
      · rename_i ht
        injection hk with hk
        subst hk
        cases M with
        | none => injection hm with hm; subst hm; exact val_wp R (val_slc R (str := true) ht hx hl hh hop hr) hd he hK'
        | some M => simp only [opdO] at hm; obtain ⟨m', _, rfl⟩ := optmap hm; simp [K.run] at hr
      · rename_i el ht
        obtain ⟨z, hz, rfl⟩ := optmap hk
        cases M with
        | none => injection hm with hm; subst hm; exact val_wp R (val_slc R (str := false) ⟨el, ht, hz⟩ hx hl hh hop hr) hd he hK'
        | some M => simp only [opdO] at hm; obtain ⟨m', _, rfl⟩ := optmap hm; simp [K.run] at hr
      · cases hk
    · cases hk
  case fieldAddr t X i =>
    split at hk
    · rename_i fs x' ht hx
      split at hk
      · rename_i f hf
        split at hk
        · rename_i n hn; injection hk with hk; subst hk; exact val_wp R (val_faddr R ht hf hn hx hop hr) hd he hK'
        · cases hk
      · cases hk
    · cases hk
  case field t X i =>
    split at hk
    · rename_i fs x' ht hx
      split at hk
      · rename_i f hf
        split at hk
        · rename_i ag z hA hz; injection hk with hk; subst hk; exact val_wp R (val_field R ht hf hA hz hx hop hr) hd he hK'
        · cases hk
      · cases hk
    · cases hk
  case indexAddr t X I =>
    split at hk
    · rename_i el x' i' ht hx hi
      obtain ⟨z, hz, rfl⟩ := optmap hk
      exact val_wp R (val_iaddr R ht hz hx hi hop hr) hd he hK'
    · rename_i n' e x' i' ht hx hi
      obtain ⟨z, hz, rfl⟩ := optmap hk
      exact val_wp R (val_aaddr R ht hz hx hi hop hr) hd he hK'
    · cases hk
  case index t X I =>
    split at hk
    · rename_i x' i' ht hx hi
      injection hk with hk
      subst hk
      exact val_wp R (val_index R ht hx hi hop hr) hd he hK'
    · cases hk
  case makeMap t r =>
    split at hk
    · rename_i kT eT ht
      obtain ⟨ty, hty, rfl⟩ := optmap hk
      simp only [K.run] at hr
      injection hr with hr; injection hr with h1 h2; subst h1; subst h2
      cases hdst : o.dst with
      | none => simp [OpC.eff, hdst] at he
      | some d =>
        simp only [OpC.eff, hdst] at he
        injection he with he
        subst he
        have h := op_mkm R hop hdst (hd d hdst) (hD d hdst rfl)
        exact hnew d hdst h
    · cases hk
  case lookup t X I ok =>
    split at hk
    · rename_i kT eT x' i' ht hx hi
      split at hk
      · rename_i ty z hty hz
        injection hk with hk
        subst hk
        simp only [K.run] at hr
        split at hr
        · rename_i t' n hxv
          split at hr
          · rename_i L hL
            split at hr
            · rename_i hcond
              injection hr with hr; injection hr with h1 h2; subst h1; subst h2
              unfold keyTy at hty
              split at hty
              · rename_i kk hkk
                injection hty with hty
                subst hty
                exact val_wp R ⟨rfl, mget_gen R (keyed_int kk) (law_int hkk) ht hz hcond.2.2 hx hi hop hxv hL hcond.1 hcond.2.1⟩ hd he hK'
              · rename_i hkk
                injection hty with hty
                subst hty
                exact val_wp R ⟨rfl, mget_gen R keyed_str (law_str hkk) ht hz hcond.2.2 hx hi hop hxv hL hcond.1 hcond.2.1⟩ hd he hK'
              · cases hty
            · cases hr
          · cases hr
        · cases hr
      · cases hk
    · cases hk
  case mapUpdate t X I Y =>
    split at hk
    · rename_i kT eT x' i' y' ht hx hi hy
      obtain ⟨ty, hty, rfl⟩ := optmap hk
      simp only [K.run] at hr
      split at hr
      · rename_i t' n hxv
        split at hr
        · rename_i L hL
          split at hr
          · rename_i hcond
            injection hr with hr; injection hr with h1 h2; subst h1; subst h2
            simp only [OpC.eff] at he
            injection he with he
            subst he
            have key : ∃ w', (execOp a.eval o).run P w = .ok .skip w' ∧ RelE P O nt B F0 av0 w0 D ((s.setObj t' n (mapAV (mapSet L (i'.get s) (y'.get s)))).put o.dst ⟨.undef, .no⟩) (a.put o.dst undef) w' := by
              unfold keyTy at hty
              split at hty
              · rename_i kk hkk
                injection hty with hty
                subst hty
                exact mset_gen R (keyed_int kk) (law_int hkk) ht hx hi hy hop hd hxv hL hcond.1 hcond.2.1 hcond.2.2
              · rename_i hkk
                injection hty with hty
                subst hty
                exact mset_gen R keyed_str (law_str hkk) ht hx hi hy hop hd hxv hL hcond.1 hcond.2.1 hcond.2.2
              · cases hty
            obtain ⟨w', hrun, hR⟩ := key
            unfold Oper.wp
            rw [hrun, Oper.upon_skip]
            exact hK' _ _ hR
          · cases hr
        · cases hr
      · cases hr
    · cases hk
  case extract X i => obtain ⟨y, hy, rfl⟩ := optmap hk; exact val_wp R (val_ext R hy hop hr) hd he hK'
  case call c =>
    obtain ⟨callee, xs, ts⟩ := c
    cases callee with
    | invoke r m => cases hk
    | value f =>
      cases f with
      | func f =>
        have plain : (opdL xs.toList).map (.call cl f) = some k → o.wp P a w Kn Q := fun hk => by
          obtain ⟨ys, hy, rfl⟩ := optmap hk
          exact op_call R hcall hy hop hd (fun d h => hD d h rfl) hr he hK
        cases mu with
        | none => exact plain hk
        | some b =>
          cases b with
          | true => exact plain hk
          | false =>
            have hk' : (match P.funcs[f]? with
              | some fn => (match fn.resultTypes.toList with
                | [t] => (match P.underlying t with
                  | some (.slice e) => (match tSize P e, opdL xs.toList with
                    | some z, some xs => if 0 < z then some (K.callf cl f z xs) else none
                    | _, _ => none)
                  | _ => none)
                | _ => none)
              | none => none) = some k := hk
            clear hk
            split at hk'
            · split at hk'
              · split at hk'
                · split at hk'
                  · rename_i z ys hz hy
                    split at hk'
                    · rename_i hpos
                      injection hk' with hk'
                      subst hk'
                      exact op_callf R hcall hy hop hd (fun d h => hD d h rfl) hpos hr he hK
                    · cases hk'
                  · cases hk'
                · cases hk'
              · cases hk'
            · cases hk'
      | _ => cases hk
    | builtin b =>
    cases b
    case len =>
      simp only at hk
      split at hk
      · rename_i x' t hx htt
        have hts : ts = #[t] := by have h0 := congrArg List.toArray htt; rwa [Array.toArray_toList] at h0
        subst hts
        obtain ⟨X, hX, hx'⟩ : ∃ X, xs = #[X] ∧ opd X = some x' := by
          obtain ⟨l⟩ := xs
          match l, hx with
          | [X], hx =>
            unfold opdL at hx
            split at hx
            · rename_i y l hy hl; injection hx with hx; injection hx with h1 h2; subst h1; exact ⟨X, rfl, hy⟩
            · cases hx
          | [], hx => simp [opdL] at hx
          | X :: Y :: r, hx =>
            unfold opdL at hx
            split at hx
            · rename_i y l hy hl
              injection hx with hx
              injection hx with h1 h2
              subst h2
              unfold opdL at hl
              split at hl
              · injection hl with hl; cases hl
              · cases hl
            · cases hx
        subst hX
        split at hk
        · rename_i ht; injection hk with hk; subst hk; exact val_wp R (val_len R (str := true) ht hx' hop hr) hd he hK'
        · rename_i el ht; injection hk with hk; subst hk; exact val_wp R (val_len R (str := false) ⟨el, ht⟩ hx' hop hr) hd he hK'
        · rename_i kT eT ht
          injection hk with hk
          subst hk
          simp only [K.run] at hr
          split at hr
          · rename_i t n hxv
            split at hr
            · rename_i L hL
              injection hr with hr; injection hr with h1 h2; subst h1; subst h2
              exact val_wp R ⟨rfl, op_mlen R ht hx' hop hxv hL⟩ hd he hK'
            · cases hr
          · cases hr
        · cases hk
      · cases hk
    case max =>
      simp only at hk
      split at hk
      · rename_i X Y hxs
        have hX : xs = #[X, Y] := by rw [← Array.toArray_toList (xs := xs), hxs]
        subst hX
        split at hk
        · rename_i x' y' hx hy
          injection hk with hk; subst hk
          simp only [K.run] at hr
          obtain ⟨v, hv, hr⟩ := optmap hr
          injection hr with h1 h2; subst h1; subst h2
          exact val_wp R ⟨rfl, val_mm R (mx := true) hx hy hop hv⟩ hd he hK'
        · cases hk
      · cases hk
    case min =>
      simp only at hk
      split at hk
      · rename_i X Y hxs
        have hX : xs = #[X, Y] := by rw [← Array.toArray_toList (xs := xs), hxs]
        subst hX
        split at hk
        · rename_i x' y' hx hy
          injection hk with hk; subst hk
          simp only [K.run] at hr
          obtain ⟨v, hv, hr⟩ := optmap hr
          injection hr with h1 h2; subst h1; subst h2
          exact val_wp R ⟨rfl, val_mm R (mx := false) hx hy hop hv⟩ hd he hK'
        · cases hk
      · cases hk
    case append =>
      simp only at hk
      split at hk
      · rename_i x' y' t t' hx htt
        split at hk
        · rename_i htt'
          subst htt'
          have hts : ts = #[t, t] := by have h0 := congrArg List.toArray htt; rwa [Array.toArray_toList] at h0
          subst hts
          obtain ⟨X, Y, hX, hx', hy'⟩ : ∃ X Y, xs = #[X, Y] ∧ opd X = some x' ∧ opd Y = some y' := by
            obtain ⟨l⟩ := xs
            have key : ∀ {r : List Operand} {ys : List Opd}, opdL r = some ys → r.length = ys.length ∧ ∀ j (h : j < r.length), opd r[j] = ys[j]? := by
              intro r
              induction r with
              | nil => intro ys h; injection h with h; subst h; exact ⟨rfl, fun j h => by simp at h⟩
              | cons X r ih =>
                intro ys h
                unfold opdL at h
                split at h
                · rename_i y l hy hl
                  injection h with h
                  subst h
                  obtain ⟨h1, h2⟩ := ih hl
                  refine ⟨by simp [h1], fun j hj => ?_⟩
                  cases j with
                  | zero => simpa using hy
                  | succ j => simpa using h2 j (by simpa using hj)
                · cases h
            obtain ⟨h1, h2⟩ := key hx
            match l, h1, h2 with
            | [X, Y], _, h2 => exact ⟨X, Y, rfl, h2 0 (by simp), h2 1 (by simp)⟩
          subst hX
          split at hk
          · rename_i el ht
            split at hk
            · rename_i i z hi hz
              split at hk
              · rename_i hcond
                injection hk with hk
                cases mu with
                | some m =>
                  cases hdst : o.dst with
                  | none => exact absurd hdst (hmu (by simp))
                  | some d =>
                    cases m with
                    | true => simp only at hk; subst hk; exact hnew d hdst (op_appm R ht hi hz hcond.1 hcond.2 hx' hy' hop hdst (hd d hdst) (hD d hdst rfl) hr he)
                    | false => simp only at hk; subst hk; exact hnew d hdst (op_appf R ht hi hz hcond.1 hcond.2 hx' hy' hop hdst (hd d hdst) (hD d hdst rfl) hr he)
                | none =>
                simp only at hk
                subst hk
                cases hdst : o.dst with
                | none =>
                  have : ∃ A, e = .app A 0 := by
                    simp only [K.run] at hr
                    split at hr
                    · split at hr
                      · split at hr
                        · cases hr
                        · split at hr
                          · injection hr with hr; injection hr with h1 h2; exact ⟨_, h2.symm⟩
                          · cases hr
                        · injection hr with hr; injection hr with h1 h2; exact ⟨_, h2.symm⟩
                      · cases hr
                    · cases hr
                  obtain ⟨A, rfl⟩ := this
                  simp [OpC.eff, hdst] at he
                | some d => exact run_wp (op_app R ht hi hz hcond.1 hcond.2 hx' hy' hop hdst (hd d hdst) hr he) hK'
              · cases hk
            · cases hk
          · cases hk
        · cases hk
      · cases hk
    all_goals cases hk
  all_goals cases hk
end
end Go.Proofs.Ytinpinjjdkilpaa
/- Operations whose order does not matter may change places. -/
namespace Go.Proofs.Ytinpinjjdkilpaa
open Go
section
variable {call : CallT} {s s' s1 s2 : MSt}
/-- what an operation does to a state but for its own slot -/
inductive Tr where
  | id
  | row (t n : Nat) (r : List Slot)
  | an (A : An) (d : Nat)
  | obj (t n : Nat) (S : AV)
  | rn (k : Option (Nat × Nat)) (t n : Nat) (r : List Slot)
  | ob2 (t n : Nat) (S : AV) (d m : Nat) (r : List Slot)
def Tr.ap : Tr → MSt → MSt
  | .id, s => s
  | .row t n r, s => s.setRow t n r
  | .an A d, s => (s.stripA A).strip d
  | .obj t n S, s => s.setObj t n S
  | .rn k t n r, s => (s.killO k).setRow t n r
  | .ob2 t n S d m r, s => (s.setObj t n S).setRow d m r
def Tr.f : Tr → An → An
  | .an A d, x => match A with
    | .own k _ => (x.strip k).strip d
    | _ => x.strip d
  | _, x => x
theorem Tr.ends (T : Tr) : Ends T.f := by
  cases T with
  | an A d =>
    have h : ∀ k j e, (An.own j e).strip k ≠ .ex := fun k j e => by simp only [An.strip]; split <;> simp
    have h' : ∀ k k' j e, ((An.own j e).strip k).strip k' ≠ .ex := fun k k' j e => by
      by_cases hj : j = k
      · simp [An.strip, hj]
      · rw [show (An.own j e).strip k = An.own j e from if_neg hj]
        exact h k' j e
    cases A with
    | own k e => exact ⟨rfl, rfl, fun j e => h' k d j e⟩
    | no => exact ⟨rfl, rfl, fun j e => h d j e⟩
    | ex => exact ⟨rfl, rfl, fun j e => h d j e⟩
  | _ => exact ⟨rfl, rfl, fun _ _ h => by cases h⟩
theorem Tr.ap_an (A : An) (d : Nat) (s : MSt) : (Tr.an A d).ap s = s.mapAn (Tr.an A d).f := by
  cases A with
  | own k e => simp [Tr.ap, MSt.stripA, MSt.strip, MSt.mapAn, Slot.strip, Tr.f, Function.comp_def]
  | no => rfl
  | ex => rfl
def OpC.runG (call : CallT) (o : OpC) (s : MSt) : Option (Slot × Eff) :=
  match o.guard with
  | none => o.op.run call s
  | some (t, want) => match (s.env t).v with
    | .bool b => if b = want then o.op.run call s else some (⟨.tup [], .no⟩, .none)
    | .tup [] => some (⟨.tup [], .no⟩, .none)
    | _ => none
def OpC.effT (o : OpC) (next : Nat) : Slot × Eff → Option (Tr × Slot)
  | (x, .none) => some (.id, x)
  | (x, .new r) => match o.dst with
    | none => none
    | some d => some (.row d next r, ⟨match x.v with | .ref _ _ sz off l c => .ref d next sz off l c | _ => .ptr d next 0, .no⟩)
  | (_, .set t n r) => some (.row t n r, ⟨.undef, .no⟩)
  | (x, .app a _) => match o.dst with
    | none => none
    | some d => some (.an a d, ⟨x.v, match x.a with | .own _ e => .own d e | a => a⟩)
  | (x, .obj t n S) => some (.obj t n S, x)
  | (x, .mk S) => match o.dst with
    | none => none
    | some d => some (.obj d next S, ⟨x.v.named d next, .no⟩)
  | (x, .ob2 t n S r) => match o.dst with
    | none => none
    | some d => some (.ob2 t n S d next r, ⟨match x.v with | .ref _ _ sz off l c => .ref d next sz off l c | _ => .ptr d next 0, .no⟩)
  | (x, .rn k r) => match o.dst with
    | none => none
    | some d => some (.rn k d next r, ⟨match x.v with | .ref _ _ sz off l c => .ref d next sz off l c | _ => .ptr d next 0, .no⟩)
theorem step_eq (o : OpC) (s : MSt) : o.step call s = (o.runG call s).bind fun p => (o.effT s.next p).map fun q => (q.1.ap s).put o.dst q.2 := by
  have h : ∀ p, o.eff s p = (o.effT s.next p).map fun q => (q.1.ap s).put o.dst q.2 := by
    rintro ⟨x, e⟩
    cases e with
    | none => rfl
    | new r => simp only [OpC.eff, OpC.effT]; cases o.dst <;> rfl
    | set t n r => rfl
    | app a k => simp only [OpC.eff, OpC.effT]; cases o.dst <;> rfl
    | obj t n S => rfl
    | mk S => simp only [OpC.eff, OpC.effT]; cases o.dst <;> rfl
    | rn k r => simp only [OpC.eff, OpC.effT]; cases o.dst <;> rfl
    | ob2 t n S r => simp only [OpC.eff, OpC.effT]; cases o.dst <;> rfl
  have hf : o.eff s = fun p => (o.effT s.next p).map fun q => (q.1.ap s).put o.dst q.2 := funext h
  unfold OpC.step OpC.runG
  rw [← hf]
  cases o.guard with
  | none => rfl
  | some p =>
    obtain ⟨t, want⟩ := p
    simp only
    generalize (s.env t).v = y
    cases y with
    | bool b => simp only; split <;> rfl
    | tup l => cases l <;> rfl
    | _ => rfl
theorem run_eff (k : K) {x : Slot} {e : Eff} (h : k.run call s = some (x, e)) : match e with
    | .none => True
    | .new _ => isA k = true
    | .set t _ _ => isS k = true ∧ (k.cl = some .any ∨ k.cl = some (.root t))
    | .app _ _ => isT k = true
    | .obj _ _ _ => isO k = true ∧ isR k = false
    | .mk _ => isO k = true ∧ isR k = false
    | .rn _ _ => isM k = true
    | .ob2 _ _ _ _ => isO k = true ∧ isR k = false ∧ isA k = true := by
  have hn : e = .none → (match e with
    | .none => True
    | .new _ => isA k = true
    | .set t _ _ => isS k = true ∧ (k.cl = some .any ∨ k.cl = some (.root t))
    | .app _ _ => isT k = true
    | .obj _ _ _ => isO k = true ∧ isR k = false
    | .mk _ => isO k = true ∧ isR k = false
    | .rn _ _ => isM k = true
    | .ob2 _ _ _ _ => isO k = true ∧ isR k = false ∧ isA k = true) := fun h => by subst h; trivial
  cases k with
  | alloc z => simp only [K.run] at h; injection h with h; injection h with _ h; subst h; rfl
  | box z x =>
    simp only [K.run] at h
    split at h <;> split at h <;> first | (cases h; done) | (injection h with h; injection h with _ h; subst h; rfl)
  | mks z b zs l c =>
    simp only [K.run] at h
    split at h
    · split at h
      · injection h with h; injection h with _ h; subst h; rfl
      · cases h
    · cases h
  | store cl g z x y =>
    simp only [K.run] at h
    split at h
    · split at h
      · rename_i t n off _ hok
        obtain ⟨r, _, h⟩ := Option.map_eq_some_iff.1 h
        injection h with _ h
        subst h
        refine ⟨rfl, ?_⟩
        cases cl with
        | any => exact .inl rfl
        | imm => simp [Cl.okPtr] at hok
        | root r => simp [Cl.okPtr] at hok; subst hok; exact .inr rfl
      · cases h
    · cases h
  | app cl e z b x y =>
    simp only [K.run] at h
    split at h
    · split at h
      · split at h
        · cases h
        · split at h
          · injection h with h; injection h with _ h; subst h; rfl
          · cases h
        · injection h with h; injection h with _ h; subst h; rfl
      · cases h
    · cases h
  | appf cl e z b x y =>
    simp only [K.run] at h
    split at h
    · split at h
      · split at h
        · split at h
          · injection h with h; injection h with _ h; exact hn h.symm
          · injection h with h; injection h with _ h; subst h; rfl
        · cases h
      · cases h
    · cases h
  | appm cl e z b x y =>
    simp only [K.run] at h
    split at h
    · split at h
      · split at h
        · split at h
          · injection h with h; injection h with _ h; exact hn h.symm
          · injection h with h; injection h with _ h; subst h; rfl
        · cases h
      · cases h
    · split at h
      · split at h
        · injection h with h; injection h with _ h; subst h; rfl
        · cases h
      · cases h
    · cases h
  | mkm => simp only [K.run] at h; injection h with h; injection h with _ h; subst h; exact ⟨rfl, rfl⟩
  | mget ok ty z x k =>
    simp only [K.run] at h
    split at h
    · split at h
      · split at h
        · injection h with h; injection h with _ h; exact hn h.symm
        · cases h
      · cases h
    · cases h
  | mset ty x k v =>
    simp only [K.run] at h
    split at h
    · split at h
      · split at h
        · injection h with h; injection h with _ h; subst h; exact ⟨rfl, rfl⟩
        · cases h
      · cases h
    · cases h
  | mlen x =>
    simp only [K.run] at h
    split at h
    · split at h
      · injection h with h; injection h with _ h; exact hn h.symm
      · cases h
    · cases h
  | mv x => simp only [K.run] at h; injection h with h; injection h with _ h; exact hn h.symm
  | pick c a b =>
    simp only [K.run] at h
    split at h
    · injection h with h; injection h with _ h; exact hn h.symm
    · cases h
  | build z ps =>
    simp only [K.run] at h
    split at h
    · obtain ⟨r, _, h⟩ := Option.map_eq_some_iff.1 h; injection h with _ h; exact hn h.symm
    · cases h
  | bsl z n ps =>
    simp only [K.run] at h
    split at h
    · injection h with h; injection h with _ h; exact hn h.symm
    · cases h
  | load cl g z x =>
    simp only [K.run] at h
    split at h
    · split at h
      · obtain ⟨r, _, h⟩ := Option.map_eq_some_iff.1 h; injection h with _ h; exact hn h.symm
      · cases h
    · split at h
      · cases h
      · obtain ⟨r, _, h⟩ := Option.map_eq_some_iff.1 h; injection h with _ h; exact hn h.symm
    · split at h
      · cases h
      · obtain ⟨r, _, h⟩ := Option.map_eq_some_iff.1 h; injection h with _ h; exact hn h.symm
    · cases h
  | mm b x y => simp only [K.run] at h; obtain ⟨r, _, h⟩ := Option.map_eq_some_iff.1 h; injection h with _ h; exact hn h.symm
  | bin op b x y => simp only [K.run] at h; obtain ⟨r, _, h⟩ := Option.map_eq_some_iff.1 h; injection h with _ h; exact hn h.symm
  | eqa n ks x y =>
    simp only [K.run] at h
    split at h
    · obtain ⟨r, _, h⟩ := Option.map_eq_some_iff.1 h; injection h with _ h; exact hn h.symm
    · cases h
  | eqn n p x y =>
    simp only [K.run] at h
    split at h <;> first | (cases h; done) | (obtain ⟨r, _, h⟩ := Option.map_eq_some_iff.1 h; injection h with _ h; exact hn h.symm)
  | un op x =>
    simp only [K.run] at h
    split at h <;> first | (cases h; done) | (injection h with h; injection h with _ h; exact hn h.symm)
  | conv o x =>
    simp only [K.run] at h
    split at h <;> first | (cases h; done) | (injection h with h; injection h with _ h; exact hn h.symm)
  | slc st z x lo hi mx =>
    cases mx with
    | some m => simp [K.run] at h
    | none =>
      simp only [K.run] at h
      split at h
      · cases h
      · split at h <;> first
          | (cases h; done)
          | (split at h
             · split at h
               · (try split at h) <;> (injection h with h; injection h with _ h; exact hn h.symm)
               · cases h
             · cases h)
  | faddr o x =>
    simp only [K.run] at h
    split at h <;> first | (cases h; done) | (injection h with h; injection h with _ h; exact hn h.symm)
  | field g o z x =>
    simp only [K.run] at h
    split at h
    · obtain ⟨r, _, h⟩ := Option.map_eq_some_iff.1 h; injection h with _ h; exact hn h.symm
    · cases h
  | aaddr l z x i =>
    simp only [K.run] at h
    split at h
    · split at h
      · split at h <;> first | (cases h; done) | (injection h with h; injection h with _ h; exact hn h.symm)
      · cases h
    · cases h
  | iaddr z x i =>
    simp only [K.run] at h
    split at h
    · split at h
      · obtain ⟨r, _, h⟩ := Option.bind_eq_some_iff.1 h; split at h <;> first | (cases h; done) | (injection h with h; injection h with _ h; exact hn h.symm)
      · obtain ⟨r, _, h⟩ := Option.bind_eq_some_iff.1 h; split at h <;> first | (cases h; done) | (injection h with h; injection h with _ h; exact hn h.symm)
      · split at h <;> first | (cases h; done) | (injection h with h; injection h with _ h; exact hn h.symm)
      · cases h
    · cases h
  | index x i =>
    simp only [K.run] at h
    split at h
    · obtain ⟨r, _, h⟩ := Option.map_eq_some_iff.1 h; injection h with _ h; exact hn h.symm
    · cases h
  | ext x i =>
    simp only [K.run] at h
    split at h
    · obtain ⟨r, _, h⟩ := Option.map_eq_some_iff.1 h; injection h with _ h; exact hn h.symm
    · cases h
  | call cl f xs =>
    simp only [K.run] at h
    obtain ⟨vs, _, h⟩ := Option.bind_eq_some_iff.1 h
    split at h
    · obtain ⟨r, _, h⟩ := Option.bind_eq_some_iff.1 h
      split at h
      · split at h <;> first | (cases h; done) | (injection h with h; injection h with _ h; exact hn h.symm)
      · split at h <;> first | (cases h; done) | (injection h with h; injection h with _ h; subst h; exact ⟨rfl, rfl⟩)
    · obtain ⟨r, _, h⟩ := Option.bind_eq_some_iff.1 h
      split at h
      · cases h
      · split at h <;> first | (cases h; done) | (injection h with h; injection h with _ h; subst h; exact ⟨rfl, rfl⟩)
    · cases h
  | callf cl f z xs =>
    simp only [K.run] at h
    obtain ⟨vs, _, h⟩ := Option.bind_eq_some_iff.1 h
    split at h
    · obtain ⟨r, _, h⟩ := Option.bind_eq_some_iff.1 h
      split at h
      · split at h
        · split at h
          · injection h with h; injection h with _ h; subst h; exact ⟨rfl, rfl⟩
          · injection h with h; injection h with _ h; subst h; exact ⟨rfl, rfl, rfl⟩
        · cases h
      · cases h
    · cases h
  | len st x =>
    simp only [K.run] at h
    split at h <;> first
      | (cases h; done)
      | (split at h <;> first | (cases h; done) | (injection h with h; injection h with _ h; exact hn h.symm))
  | nilchk x =>
    simp only [K.run] at h
    split at h <;> first | (cases h; done) | (injection h with h; injection h with _ h; exact hn h.symm)
/-- what the transformer tells of the operation -/
def Tr.of (T : Tr) (o : OpC) : Prop := match T with
  | .id => True
  | .row t _ _ => (isA o.op = true ∧ o.dst = some t) ∨ (isS o.op = true ∧ (o.op.cl = some .any ∨ o.op.cl = some (.root t)))
  | .an _ d => isT o.op = true ∧ o.dst = some d
  | .obj _ _ _ => isO o.op = true ∧ isR o.op = false
  | .rn .. => isM o.op = true
  | .ob2 _ _ _ d _ _ => (isO o.op = true ∧ isR o.op = false ∧ isA o.op = true) ∧ o.dst = some d
theorem runG_eff (o : OpC) {x : Slot} {e : Eff} (h : o.runG call s = some (x, e)) {n : Nat} {T : Tr} {v : Slot} (ht : o.effT n (x, e) = some (T, v)) : T.of o := by
  have key : o.op.run call s = some (x, e) ∨ e = .none := by
    unfold OpC.runG at h
    split at h
    · exact .inl h
    · split at h
      · split at h
        · exact .inl h
        · injection h with h; injection h with _ h; exact .inr h.symm
      · injection h with h; injection h with _ h; exact .inr h.symm
      · cases h
  cases e with
  | none => simp only [OpC.effT] at ht; injection ht with ht; injection ht with h1 _; subst h1; trivial
  | new r =>
    have := run_eff o.op (key.resolve_right (by simp))
    simp only [OpC.effT] at ht
    split at ht
    · cases ht
    · rename_i d hd; injection ht with ht; injection ht with h1 _; subst h1; exact .inl ⟨this, hd⟩
  | set t n r =>
    have := run_eff o.op (key.resolve_right (by simp))
    simp only [OpC.effT] at ht
    injection ht with ht; injection ht with h1 _; subst h1
    exact .inr this
  | app a k =>
    have := run_eff o.op (key.resolve_right (by simp))
    simp only [OpC.effT] at ht
    split at ht
    · cases ht
    · rename_i d hd; injection ht with ht; injection ht with h1 _; subst h1; exact ⟨this, hd⟩
  | obj t n S =>
    have := run_eff o.op (key.resolve_right (by simp))
    simp only [OpC.effT] at ht
    injection ht with ht; injection ht with h1 _; subst h1
    exact this
  | mk S =>
    have := run_eff o.op (key.resolve_right (by simp))
    simp only [OpC.effT] at ht
    split at ht
    · cases ht
    · injection ht with ht; injection ht with h1 _; subst h1; exact this
  | rn k r =>
    have := run_eff o.op (key.resolve_right (by simp))
    simp only [OpC.effT] at ht
    split at ht
    · cases ht
    · injection ht with ht; injection ht with h1 _; subst h1; exact this
  | ob2 t n S r =>
    have := run_eff o.op (key.resolve_right (by simp))
    simp only [OpC.effT] at ht
    split at ht
    · cases ht
    · rename_i d hd; injection ht with ht; injection ht with h1 _; subst h1; exact ⟨this, hd⟩
theorem get_put {o : Opd} {d : Option Nat} {x : Slot} (h : ∀ n, o = .t n → d ≠ some n) : o.get (s.put d x) = o.get s ∧ o.an (s.put d x) = o.an s := by
  cases d with
  | none => exact ⟨rfl, rfl⟩
  | some d =>
    cases o with
    | c v => exact ⟨rfl, by cases v <;> first | rfl | (rename_i b l; cases b <;> rfl)⟩
    | t n =>
      have : n ≠ d := fun e => h n rfl (by rw [e])
      simp [Opd.get, Opd.an, MSt.put, this]
theorem looks_opds {o : OpC} {n : Nat} {x : Opd} (h : x ∈ o.op.opds) (hx : x = .t n) : n ∈ o.looks := by
  unfold OpC.looks
  refine List.mem_append_left _ (List.mem_filterMap.2 ⟨x, h, ?_⟩)
  rw [hx]
theorem clear_spec {x y : OpC} (h : x.clear y = true) : (∀ n, x.dst = some n → n ∉ y.looks) ∧ (∀ n, x.dst = some n → y.dst ≠ some n) := by
  unfold OpC.clear at h
  constructor
  · intro n hn
    rw [hn] at h
    simp at h
    exact h.1
  · intro n hn
    rw [hn] at h
    simp at h
    exact h.2
theorem runG_put {y : OpC} {d : Option Nat} {v : Slot} (h : ∀ n, d = some n → n ∉ y.looks) : y.runG call (s.put d v) = y.runG call s := by
  have h1 : y.op.run call (s.put d v) = y.op.run call s := run_congr _ (fun o ho => get_put fun n hn hd => h n hd (looks_opds ho hn)) (fun t n _ => by cases d <;> rfl) (fun _ => by cases d <;> rfl)
  unfold OpC.runG
  rw [h1]
  cases hg : y.guard with
  | none => rfl
  | some p =>
    obtain ⟨t, want⟩ := p
    have : t ∈ y.looks := by unfold OpC.looks; rw [hg]; simp
    have he : ((s.put d v).env t) = s.env t := by
      cases d with
      | none => rfl
      | some d =>
        have : t ≠ d := fun e => h d rfl (e ▸ this)
        simp [MSt.put, this]
    simp only [he]
/-- an operation that does not look at what the transformer turns -/
def Tr.off (T : Tr) (o : OpC) : Prop := match T with
  | .id => True
  | .row t _ _ => ¬ o.op.reads t
  | .an _ _ => isT o.op = false
  | .obj _ _ _ => isO o.op = false
  | .rn .. => False
  | .ob2 _ _ _ d _ _ => isO o.op = false ∧ ¬ o.op.reads d
def Tr.act (T : Tr) (p : Slot × Eff) : Slot × Eff := match T with
  | .an _ _ => (p.1.mapAn T.f, p.2.mapAn T.f)
  | _ => p
theorem runG_tr {y : OpC} {T : Tr} (h : T.off y) : y.runG call (T.ap s) = (y.runG call s).map T.act := by
  cases T with
  | rn => exact absurd h id
  | ob2 t n S d m r =>
    have h1 : y.op.run call ((s.setObj t n S).setRow d m r) = y.op.run call s := run_congr _ (fun o ho => by
      cases o with
      | t n => exact ⟨rfl, rfl⟩
      | c v => exact ⟨rfl, by cases v <;> first | rfl | (rename_i b l; cases b <;> rfl)⟩) (fun t' n' hr => by
      simp only [MSt.setRow, MSt.setObj]
      rw [if_neg]
      rintro ⟨e, _⟩
      exact h.2 (e ▸ hr)) (fun ho => by
        have h' : isO y.op = false := h.1
        rw [h'] at ho; cases ho)
    have : y.runG call ((Tr.ob2 t n S d m r).ap s) = y.runG call s := by
      unfold OpC.runG Tr.ap
      rw [h1]
      rfl
    have h2 : (Tr.act (.ob2 t n S d m r) : Slot × Eff → Slot × Eff) = id := rfl
    rw [this, h2, Option.map_id]
    rfl
  | id =>
    have : (Tr.act .id : Slot × Eff → Slot × Eff) = id := rfl
    rw [this, Option.map_id]
    rfl
  | row t n r =>
    have h1 : y.op.run call (s.setRow t n r) = y.op.run call s := run_congr _ (fun o ho => by
      cases o with
      | t n => exact ⟨rfl, rfl⟩
      | c v => exact ⟨rfl, by cases v <;> first | rfl | (rename_i b l; cases b <;> rfl)⟩) (fun t' n' hr => by
      simp only [MSt.setRow]
      rw [if_neg]
      rintro ⟨e, _⟩
      exact h (e ▸ hr)) (fun _ => rfl)
    have : y.runG call ((Tr.row t n r).ap s) = y.runG call s := by
      unfold OpC.runG Tr.ap
      rw [h1]
      rfl
    have h2 : (Tr.act (.row t n r) : Slot × Eff → Slot × Eff) = id := rfl
    rw [this, h2, Option.map_id]
    rfl
  | obj t n S =>
    have h1 : y.op.run call (s.setObj t n S) = y.op.run call s := run_congr _ (fun o ho => by
      cases o with
      | t n => exact ⟨rfl, rfl⟩
      | c v => exact ⟨rfl, by cases v <;> first | rfl | (rename_i b l; cases b <;> rfl)⟩) (fun t' n' hr => rfl) (fun ho => by
        have h' : isO y.op = false := h
        rw [h'] at ho; cases ho)
    have : y.runG call ((Tr.obj t n S).ap s) = y.runG call s := by
      unfold OpC.runG Tr.ap
      rw [h1]
      rfl
    have h2 : (Tr.act (.obj t n S) : Slot × Eff → Slot × Eff) = id := rfl
    rw [this, h2, Option.map_id]
    rfl
  | an A d =>
    rw [Tr.ap_an]
    have h1 := run_mapAn (call := call) (s := s) (Tr.ends (.an A d)) y.op h
    unfold OpC.runG
    rw [h1]
    cases y.guard with
    | none => rfl
    | some p =>
      obtain ⟨t, want⟩ := p
      simp only [MSt.mapAn]
      generalize (s.env t).v = y
      cases y with
      | bool b =>
        simp only
        split
        · rfl
        · simp [Tr.act, Slot.mapAn, Eff.mapAn, (Tr.ends (.an A d)).no]
      | tup l => cases l <;> simp [Tr.act, Slot.mapAn, Eff.mapAn, (Tr.ends (.an A d)).no]
      | _ => rfl
theorem okPair_symm {x y : OpC} (h : okPair x y = true) : okPair y x = true := by
  unfold okPair at h ⊢
  simp only [Bool.and_eq_true] at h ⊢
  obtain ⟨⟨⟨⟨⟨⟨⟨m1, m2⟩, h1⟩, h0⟩, h2⟩, h3⟩, h4⟩, h5⟩ := h
  refine ⟨⟨⟨⟨⟨⟨⟨m2, m1⟩, by rw [Bool.or_comm]; exact h1⟩, by rw [Bool.or_comm (!isO y.op), Bool.and_comm]; exact h0⟩, ?_⟩, h4⟩, h3⟩, ?_⟩
  · cases hc : x.op.cl with
    | none => cases y.op.cl <;> rfl
    | some c =>
      cases hd : y.op.cl with
      | none => rfl
      | some d =>
        rw [hc, hd] at h2
        simp only [Bool.or_eq_true] at h2 ⊢
        refine h2.imp (fun h => by rw [Bool.or_comm]; exact h) fun h => ?_
        cases c <;> cases d <;> first | rfl | exact h | (simp at h ⊢; exact fun e => h e.symm)
  · simp only [Bool.or_eq_true] at h5 ⊢
    rcases h5 with (h | h) | h
    · exact .inl (.inr h)
    · exact .inl (.inl h)
    · exact .inr (by simp at h ⊢; exact fun e => h e.symm)
theorem off_of {T : Tr} {x y : OpC} (h : T.of x) (hok : okPair x y = true) : T.off y := by
  unfold okPair at hok
  simp only [Bool.and_eq_true] at hok
  obtain ⟨⟨⟨⟨⟨⟨⟨m1, m2⟩, h1⟩, h0⟩, h2⟩, h3⟩, h4⟩, h5⟩ := hok
  cases T with
  | id => trivial
  | rn k t n r =>
    have h' : isM x.op = true := h
    rw [h'] at m1
    cases m1
  | ob2 t n S d m r =>
    obtain ⟨⟨g1, g2, ha⟩, hd⟩ := h
    rw [g1, g2] at h0
    refine ⟨by simpa using h0, fun hr => ?_⟩
    unfold K.reads at hr
    rw [ha, hd] at h3
    cases hcl : y.op.cl with
    | none => rw [hcl] at hr; exact hr
    | some c =>
      rw [hcl] at hr h3
      cases c with
      | any => simp at h3
      | imm => exact hr
      | root r => simp at h3; exact h3 hr
  | an A d =>
    have := h.1
    rw [this] at h1
    show isT y.op = false
    simpa using h1
  | obj t n S =>
    obtain ⟨g1, g2⟩ : isO x.op = true ∧ isR x.op = false := h
    rw [g1, g2] at h0
    show isO y.op = false
    simpa using h0
  | row t n r =>
    intro hr
    unfold K.reads at hr
    rcases h with ⟨ha, hd⟩ | ⟨hs, hc⟩
    · rw [ha, hd] at h3
      cases hcl : y.op.cl with
      | none => rw [hcl] at hr; exact hr
      | some c =>
        rw [hcl] at hr h3
        cases c with
        | any => simp at h3
        | imm => exact hr
        | root r => simp at h3; exact h3 hr
    · cases hcl : y.op.cl with
      | none => rw [hcl] at hr; exact hr
      | some c =>
        rw [hcl] at hr
        rcases hc with hc | hc <;> rw [hc, hcl, hs] at h2
        · cases c with
          | imm => exact hr
          | any => simp at h2
          | root r => simp at h2
        · cases c with
          | imm => exact hr
          | any => simp at h2
          | root r => simp at h2; exact h2 hr
theorem row_ne {t n t' n' : Nat} {r r' : List Slot} {x y : OpC} (h : (Tr.row t n r).of x) (h' : (Tr.row t' n' r').of y) (hok : okPair x y = true) : t ≠ t' := by
  unfold okPair at hok
  simp only [Bool.and_eq_true] at hok
  obtain ⟨⟨⟨⟨⟨⟨⟨m1, m2⟩, h1⟩, h0⟩, h2⟩, h3⟩, h4⟩, h5⟩ := hok
  rintro rfl
  rcases h with ⟨ha, hd⟩ | ⟨hs, hc⟩ <;> rcases h' with ⟨ha', hd'⟩ | ⟨hs', hc'⟩
  · rw [ha, ha', hd, hd'] at h5; simp at h5
  · rw [ha, hd] at h3
    rcases hc' with hc' | hc' <;> rw [hc'] at h3 <;> simp at h3
  · rw [ha', hd'] at h4
    rcases hc with hc | hc <;> rw [hc] at h4 <;> simp at h4
  · rcases hc with hc | hc <;> rcases hc' with hc' | hc' <;> rw [hc, hc', hs] at h2 <;> simp at h2
def Tr.conj (T : Tr) : Tr → Tr
  | .row t n r => match T with
    | .an A d => .row t n (r.map (Slot.mapAn (Tr.an A d).f))
    | _ => .row t n r
  | .ob2 t n S d m r => match T with
    | .an A d' => .ob2 t n S d m (r.map (Slot.mapAn (Tr.an A d').f))
    | _ => .ob2 t n S d m r
  | T' => T'
def Tr.actS (T : Tr) (v : Slot) : Slot := match T with
  | .an A d => v.mapAn (Tr.an A d).f
  | _ => v
theorem effT_act {T : Tr} {o : OpC} {n : Nat} {p : Slot × Eff} {T' : Tr} {v : Slot} (h : o.effT n p = some (T', v)) (hT : (∃ A d, T = .an A d) → ∀ A d, T' ≠ .an A d) (hR : ∀ k t m r, T' ≠ .rn k t m r) : o.effT n (T.act p) = some (T.conj T', T.actS v) := by
  obtain ⟨x, e⟩ := p
  cases T with
  | id => rw [show Tr.id.act (x, e) = (x, e) from rfl, h]; cases T' <;> rfl
  | row t m r => rw [show (Tr.row t m r).act (x, e) = (x, e) from rfl, h]; cases T' <;> rfl
  | obj t m S => rw [show (Tr.obj t m S).act (x, e) = (x, e) from rfl, h]; cases T' <;> rfl
  | rn k t m r => rw [show (Tr.rn k t m r).act (x, e) = (x, e) from rfl, h]; cases T' <;> rfl
  | ob2 t n S d m r => rw [show (Tr.ob2 t n S d m r).act (x, e) = (x, e) from rfl, h]; cases T' <;> rfl
  | an A d =>
    cases e with
    | none => simp only [OpC.effT] at h; injection h with h; injection h with h1 h2; subst h1; subst h2; rfl
    | new r =>
      simp only [OpC.effT] at h
      split at h
      · cases h
      · rename_i d' hd
        injection h with h; injection h with h1 h2; subst h1; subst h2
        simp only [Tr.act, OpC.effT, Eff.mapAn, hd, Tr.conj, Tr.actS, Slot.mapAn, (Tr.ends (.an A d)).no]
    | set t m r =>
      simp only [OpC.effT] at h
      injection h with h; injection h with h1 h2; subst h1; subst h2
      simp only [Tr.act, OpC.effT, Eff.mapAn, Tr.conj, Tr.actS, Slot.mapAn, (Tr.ends (.an A d)).no]
    | app a k =>
      simp only [OpC.effT] at h
      split at h
      · cases h
      · injection h with h; injection h with h1 h2; subst h1; exact absurd rfl (hT ⟨A, d, rfl⟩ _ _)
    | obj t m S =>
      simp only [OpC.effT] at h
      injection h with h; injection h with h1 h2; subst h1; subst h2
      rfl
    | mk S =>
      simp only [OpC.effT] at h
      split at h
      · cases h
      · rename_i d' hd
        injection h with h; injection h with h1 h2; subst h1; subst h2
        simp only [Tr.act, OpC.effT, Eff.mapAn, hd, Tr.conj, Tr.actS, Slot.mapAn, (Tr.ends (.an A d)).no]
    | rn k r =>
      simp only [OpC.effT] at h
      split at h
      · cases h
      · injection h with h; injection h with h1 h2; exact absurd h1.symm (hR _ _ _ _)
    | ob2 t n S r =>
      simp only [OpC.effT] at h
      split at h
      · cases h
      · rename_i d' hd
        injection h with h; injection h with h1 h2; subst h1; subst h2
        simp only [Tr.act, OpC.effT, Eff.mapAn, hd, Tr.conj, Tr.actS, Slot.mapAn, (Tr.ends (.an A d)).no]
theorem put_comm {d d' : Option Nat} (h : ∀ n, d = some n → d' ≠ some n) (v v' : Slot) : (s.put d v).put d' v' = (s.put d' v').put d v := by
  cases d with
  | none => rfl
  | some d =>
    cases d' with
    | none => rfl
    | some d' =>
      have : d ≠ d' := fun e => h d rfl (by rw [e])
      simp only [MSt.put]
      congr 1
      funext t
      by_cases h1 : t = d'
      · by_cases h2 : t = d
        · exact absurd (h2.symm.trans h1) this
        · rw [h1]; simp only [if_true]; rw [if_neg (fun e => this e.symm)]
      · simp [h1]
theorem mapAn_put (f : An → An) (d : Option Nat) (v : Slot) : (s.put d v).mapAn f = (s.mapAn f).put d (v.mapAn f) := by
  cases d with
  | none => rfl
  | some d =>
    simp only [MSt.put, MSt.mapAn]
    congr 1
    funext t
    by_cases h : t = d <;> simp [h, Slot.mapAn]
theorem mapAn_setRow (f : An → An) (t n : Nat) (r : List Slot) : (s.setRow t n r).mapAn f = (s.mapAn f).setRow t n (r.map (Slot.mapAn f)) := by
  simp only [MSt.setRow, MSt.mapAn]
  congr 1
  funext t' n'
  by_cases h : t' = t ∧ n' = n
  · simp only [h, and_self, if_true, Option.map_some]; rfl
  · simp [h]
theorem setRow_put (d : Option Nat) (v : Slot) (t n : Nat) (r : List Slot) : (s.put d v).setRow t n r = (s.setRow t n r).put d v := by cases d <;> rfl
theorem setRow_comm {t n t' n' : Nat} (h : t ≠ t') (r r' : List Slot) : (s.setRow t n r).setRow t' n' r' = (s.setRow t' n' r').setRow t n r := by
  simp only [MSt.setRow]
  congr 1
  funext a b
  by_cases h1 : a = t'
  · have : ¬ (a = t ∧ b = n) := fun e => h (e.1.symm.trans h1)
    simp [this]
  · have : ¬ (a = t' ∧ b = n') := fun e => h1 e.1
    simp [this]
theorem setObj_put (d : Option Nat) (v : Slot) (t n : Nat) (S : AV) : (s.put d v).setObj t n S = (s.setObj t n S).put d v := by cases d <;> rfl
theorem mapAn_setObj (f : An → An) (t n : Nat) (S : AV) : (s.setObj t n S).mapAn f = (s.mapAn f).setObj t n S := rfl
theorem setRow_setObj (t n : Nat) (r : List Slot) (t' n' : Nat) (S : AV) : (s.setRow t n r).setObj t' n' S = (s.setObj t' n' S).setRow t n r := rfl
theorem T_row_of {t n : Nat} {S : AV} {d m : Nat} {r : List Slot} {o : OpC} (h : (Tr.ob2 t n S d m r).of o) : (Tr.row d m r).of o := .inl ⟨h.1.2.2, h.2⟩
theorem next_tr (T : Tr) (s : MSt) (d : Option Nat) (v : Slot) : ((T.ap s).put d v).next = s.next := by
  have : (T.ap s).next = s.next := by
    cases T with
    | an A d => rw [Tr.ap_an]; rfl
    | rn k t n r => cases k <;> rfl
    | _ => rfl
  cases d <;> exact this
theorem commute {x y : OpC} (hap : apartC x y = true) (hok : okPair x y = true) (h1 : x.step call s = some s1) (h2 : y.step call s1 = some s2) : ∃ s1', y.step call s = some s1' ∧ x.step call s1' = some s2 := by
  unfold apartC at hap
  simp only [Bool.and_eq_true] at hap
  obtain ⟨a1, a2⟩ := clear_spec hap.1
  obtain ⟨a3, a4⟩ := clear_spec hap.2
  rw [step_eq] at h1 h2
  obtain ⟨p, hp, h1⟩ := Option.bind_eq_some_iff.1 h1
  obtain ⟨⟨Tx, vx⟩, hx, h1⟩ := Option.map_eq_some_iff.1 h1
  obtain ⟨q, hq, h2⟩ := Option.bind_eq_some_iff.1 h2
  obtain ⟨⟨Ty, vy⟩, hy, h2⟩ := Option.map_eq_some_iff.1 h2
  simp only at h1 h2
  subst h1
  have ofx : Tx.of x := runG_eff x (x := p.1) (e := p.2) hp hx
  have offy := off_of ofx hok
  rw [runG_put a1, runG_tr offy] at hq
  obtain ⟨q0, hq0, rfl⟩ := Option.map_eq_some_iff.1 hq
  rw [next_tr] at hy
  -- y in the first state
  have hy0 : ∃ Ty0 vy0, y.effT s.next q0 = some (Ty0, vy0) := by
    obtain ⟨u, e⟩ := q0
    cases e with
    | none => exact ⟨_, _, rfl⟩
    | new r =>
      cases hd : y.dst with
      | none =>
        exfalso
        cases Tx <;> simp [Tr.act, OpC.effT, Eff.mapAn, hd] at hy
      | some d => exact ⟨.row d s.next r, _, by simp only [OpC.effT, hd]; rfl⟩
    | set t n r => exact ⟨_, _, rfl⟩
    | obj t n S => exact ⟨_, _, rfl⟩
    | mk S =>
      cases hd : y.dst with
      | none =>
        exfalso
        cases Tx <;> simp [Tr.act, OpC.effT, Eff.mapAn, hd] at hy
      | some d => exact ⟨.obj d s.next S, _, by simp only [OpC.effT, hd]; rfl⟩
    | app a k =>
      cases hd : y.dst with
      | none =>
        exfalso
        cases Tx <;> simp [Tr.act, OpC.effT, Eff.mapAn, hd] at hy
      | some d => exact ⟨.an a d, _, by simp only [OpC.effT, hd]; rfl⟩
    | rn k r =>
      cases hd : y.dst with
      | none =>
        exfalso
        cases Tx <;> simp [Tr.act, OpC.effT, Eff.mapAn, hd] at hy
      | some d => exact ⟨.rn k d s.next r, _, by simp only [OpC.effT, hd]; rfl⟩
    | ob2 t n S r =>
      cases hd : y.dst with
      | none =>
        exfalso
        cases Tx <;> simp [Tr.act, OpC.effT, Eff.mapAn, hd] at hy
      | some d => exact ⟨.ob2 t n S d s.next r, _, by simp only [OpC.effT, hd]; rfl⟩
  obtain ⟨Ty0, vy0, hy0⟩ := hy0
  have ofy : Ty0.of y := runG_eff y (x := q0.1) (e := q0.2) hq0 hy0
  have offx := off_of ofy (okPair_symm hok)
  have notT : ∀ A d A' d', Tx = .an A d → Ty0 = .an A' d' → False := fun A d A' d' e e' => by
    subst e; subst e'
    have := ofy.1
    rw [show isT y.op = false from offy] at this
    cases this
  have noM : ∀ {T : Tr} {o : OpC}, T.of o → isM o.op = false → ∀ k t m r, T ≠ .rn k t m r := fun h hm k t m r e => by
    subst e
    have h' : isM _ = true := h
    rw [hm] at h'
    cases h'
  have hMx : isM x.op = false := by unfold okPair at hok; simp only [Bool.and_eq_true] at hok; simpa using hok.1.1.1.1.1.1.1
  have hMy : isM y.op = false := by unfold okPair at hok; simp only [Bool.and_eq_true] at hok; simpa using hok.1.1.1.1.1.1.2
  have nx := noM ofx hMx
  have ny := noM ofy hMy
  have hyc := effT_act (T := Tx) hy0 (hR := ny) (fun ⟨A, d, e⟩ A' d' e' => notT A d A' d' e e')
  rw [hyc] at hy
  injection hy with hy
  injection hy with e1 e2
  subst e1; subst e2
  have hxc := effT_act (T := Ty0) hx (hR := nx) (fun ⟨A, d, e⟩ A' d' e' => notT A' d' A d e' e)
  refine ⟨(Ty0.ap s).put y.dst vy0, by rw [step_eq, hq0, Option.bind_some, hy0]; rfl, ?_⟩
  rw [step_eq, runG_put a3, runG_tr offx, hp]
  simp only [Option.map_some, Option.bind_some, next_tr, hxc]
  rw [← h2]
  congr 1
  have notO : ∀ t n S t' n' S', Tx = .obj t n S → Ty0 = .obj t' n' S' → False := fun t n S t' n' S' e e' => by
    subst e; subst e'
    have h1 : isO y.op = true := ofy.1
    rw [show isO y.op = false from offy] at h1
    cases h1
  cases Tx with
  | rn => exact absurd rfl (nx _ _ _ _)
  | id =>
    cases Ty0 with
    | rn => exact absurd rfl (ny _ _ _ _)
    | ob2 t n S d m r => simp only [Tr.ap, Tr.conj, Tr.actS]; rw [setObj_put, setRow_put]; exact (put_comm a2 _ _).symm
    | id => exact (put_comm a2 _ _).symm
    | row t n r => simp only [Tr.ap, Tr.conj, Tr.actS]; rw [setRow_put]; exact (put_comm a2 _ _).symm
    | an A d =>
      simp only [Tr.conj, Tr.actS, Tr.ap_an, mapAn_put]
      exact (put_comm a2 _ _).symm
    | obj t n S => simp only [Tr.ap, Tr.conj, Tr.actS]; rw [setObj_put]; exact (put_comm a2 _ _).symm
  | row t n r =>
    cases Ty0 with
    | rn => exact absurd rfl (ny _ _ _ _)
    | ob2 t' n' S d m r' =>
      have hne := row_ne (x := x) (y := y) ofx (T_row_of ofy) hok
      simp only [Tr.ap, Tr.conj, Tr.actS]
      rw [setRow_put, setObj_put, setRow_put, setRow_setObj, setRow_comm hne]
      exact (put_comm a2 _ _).symm
    | id => simp only [Tr.ap, Tr.conj, Tr.actS]; rw [setRow_put]; exact (put_comm a2 _ _).symm
    | row t' n' r' =>
      simp only [Tr.ap, Tr.conj, Tr.actS]
      rw [setRow_put, setRow_put, setRow_comm (row_ne ofx ofy hok)]
      exact (put_comm a2 _ _).symm
    | an A d =>
      simp only [Tr.conj, Tr.actS, Tr.ap_an, mapAn_put]
      simp only [Tr.ap, mapAn_setRow, setRow_put]
      exact (put_comm a2 _ _).symm
    | obj t' n' S =>
      simp only [Tr.ap, Tr.conj, Tr.actS]
      rw [setObj_put, setRow_put]
      exact (put_comm a2 _ _).symm
  | an A d =>
    cases Ty0 with
    | rn => exact absurd rfl (ny _ _ _ _)
    | ob2 t' n' S d' m r' =>
      simp only [Tr.conj, Tr.actS, Tr.ap_an, mapAn_put]
      simp only [Tr.ap, mapAn_setRow, mapAn_setObj, setObj_put, setRow_put]
      exact (put_comm a2 _ _).symm
    | id =>
      simp only [Tr.conj, Tr.actS, Tr.ap_an, mapAn_put]
      exact (put_comm a2 _ _).symm
    | row t' n' r' =>
      simp only [Tr.conj, Tr.actS, Tr.ap_an, mapAn_put]
      simp only [Tr.ap, mapAn_setRow, setRow_put]
      exact (put_comm a2 _ _).symm
    | an A' d' => exact (notT A d A' d' rfl rfl).elim
    | obj t' n' S =>
      simp only [Tr.conj, Tr.actS, Tr.ap_an, mapAn_put]
      simp only [Tr.ap, mapAn_setObj, setObj_put]
      exact (put_comm a2 _ _).symm
  | obj t n S =>
    cases Ty0 with
    | rn => exact absurd rfl (ny _ _ _ _)
    | ob2 t' n' S' d m r' => exact absurd ofy.1.1 (by rw [show isO y.op = false from offy]; decide)
    | id => simp only [Tr.ap, Tr.conj, Tr.actS]; rw [setObj_put]; exact (put_comm a2 _ _).symm
    | row t' n' r' =>
      simp only [Tr.ap, Tr.conj, Tr.actS]
      rw [setRow_put, setObj_put]
      exact (put_comm a2 _ _).symm
    | an A d =>
      simp only [Tr.conj, Tr.actS, Tr.ap_an, mapAn_put]
      simp only [Tr.ap, mapAn_setObj, setObj_put]
      exact (put_comm a2 _ _).symm
    | obj t' n' S' => exact (notO t n S t' n' S' rfl rfl).elim
  | ob2 t n S d m r =>
    have hyO : isO y.op = false := offy.1
    cases Ty0 with
    | rn => exact absurd rfl (ny _ _ _ _)
    | id => simp only [Tr.ap, Tr.conj, Tr.actS]; rw [setObj_put, setRow_put]; exact (put_comm a2 _ _).symm
    | row t' n' r' =>
      have hne := row_ne (x := x) (y := y) (T_row_of ofx) ofy hok
      simp only [Tr.ap, Tr.conj, Tr.actS]
      rw [setRow_put, setObj_put, setRow_put, ← setRow_setObj, setRow_comm hne]
      exact (put_comm a2 _ _).symm
    | an A d' =>
      simp only [Tr.conj, Tr.actS, Tr.ap_an, mapAn_put]
      simp only [Tr.ap, mapAn_setRow, mapAn_setObj, setObj_put, setRow_put]
      exact (put_comm a2 _ _).symm
    | obj t' n' S' => exact absurd ofy.1 (by rw [hyO]; decide)
    | ob2 t' n' S' d' m' r' => exact absurd ofy.1.1 (by rw [hyO]; decide)
end
end Go.Proofs.Ytinpinjjdkilpaa
/- A region: whatever order the model draws, it gives what the machine gives. -/
namespace Go.Proofs.Ytinpinjjdkilpaa
open Go Go.RowKit
section
variable {P : Program} {O : Objs} {nt B : Nat} {F0 : Own} {av0 : Av} {w0 : World} {s s' : MSt} {a : Act} {w w' : World} {call : CallT} {Q : Exit → Act → World → Prop}
/-- an operation and its translation -/
structure OpOk (P : Program) (nt : Nat) (ops : Array Oper) (o : Oper) (c : OpC) : Prop where
  dst : c.dst = o.dst
  op : ∃ cl mu, compOp P cl mu o.op = some c.op ∧ (mu ≠ none → o.dst ≠ none)
  lt : ∀ d, o.dst = some d → d < nt
  guard : match o.guard with
    | none => c.guard = none
    | some (g, want) => ∃ t, (ops[g]?).bind (·.dst) = some t ∧ c.guard = some (t, want)
theorem compOps_get {boxes : List Nat} {all : List Oper} {draw : Bool} : ∀ {ops : List Oper} {cs : List OpC}, compOps P boxes nt all draw ops = some cs → cs.length = ops.length ∧ ∀ (i : Nat) (o : Oper), ops[i]? = some o → ∃ c, cs[i]? = some c ∧ OpOk P nt all.toArray o c
  | [], cs, h => by injection h with h; subst h; exact ⟨rfl, fun i o ho => by simp at ho⟩
  | o :: r, cs, h => by
    unfold compOps at h
    split at h
    · rename_i k l hk hl
      split at h
      · rename_i hlt
        have hlt' : ∀ d, o.dst = some d → d < nt := fun d hd => by rw [hd] at hlt; simpa [dstOk] using hlt
        obtain ⟨h1, h2⟩ := compOps_get hl
        have fin : ∀ c, cs = c :: l → OpOk P nt all.toArray o c → cs.length = (o :: r).length ∧ ∀ (i : Nat) (o' : Oper), (o :: r)[i]? = some o' → ∃ c, cs[i]? = some c ∧ OpOk P nt all.toArray o' c := fun c e hc => by
          subst e
          refine ⟨by simp [h1], fun i o' ho => ?_⟩
          cases i with
          | zero => simp at ho; subst ho; exact ⟨c, rfl, hc⟩
          | succ i => simpa using h2 i o' (by simpa using ho)
        have hmu : (match o.dst with | some d => if boxes.contains (nt + 1 + (2 * d + 1)) then some true else if boxes.contains (nt + 1 + 2 * d) then some false else none | none => none) ≠ none → o.dst ≠ none := fun h e => by rw [e] at h; exact h rfl
        cases hg : o.guard with
        | none =>
          simp only [hg] at h
          injection h with h
          exact fin _ h.symm ⟨rfl, ⟨_, _, hk, hmu⟩, hlt', by rw [hg]⟩
        | some p =>
          obtain ⟨g, want⟩ := p
          simp only [hg] at h
          split at h
          · rename_i t ht
            injection h with h
            exact fin _ h.symm ⟨rfl, ⟨_, _, hk, hmu⟩, hlt', by rw [hg]; exact ⟨t, by simpa using ht, rfl⟩⟩
          · cases h
      · cases h
    · cases h
theorem step_sound {D : Nat → Prop} (R : RelE P O nt B F0 av0 w0 D s a w) (hcall : ∀ f args S r, call f args S = some r → CallOk P O f args S r) {ops : Array Oper} {i : Nat} {o : Oper} {c : OpC} (ho : ops[i]? = some o) (ok : OpOk P nt ops o c) (hD : ∀ d, o.dst = some d → (isA c.op || isO c.op) = true → ¬ D d) (hs : c.step call s = some s')
    {Kn : Act → World → Prop} (hK : ∀ a' w', RelE P O nt B F0 av0 w0 (fun t => D t ∨ o.dst = some t) s' a' w' → Kn a' w') : wpOp P ops Q i Kn a w := by
  obtain ⟨ι, Θ, R⟩ := R
  obtain ⟨cl, mu, hop, hmu⟩ := ok.op
  obtain ⟨cd, cop, cg⟩ := c
  have hdst : cd = o.dst := ok.dst
  subst hdst
  have main : cop.run call s ≠ none → (cop.run call s).bind (OpC.eff ⟨o.dst, cop, cg⟩ s) = some s' → o.wp P a w Kn Q := fun _ h => by
    obtain ⟨xe, hx, he⟩ := Option.bind_eq_some_iff.1 h
    exact op_sound R hcall hop hmu ok.lt hD hx he hK
  have main' : (cop.run call s).bind (OpC.eff ⟨o.dst, cop, cg⟩ s) = some s' → o.wp P a w Kn Q := fun h => main (fun e => by rw [e] at h; cases h) h
  unfold wpOp
  simp only [ho]
  have hun : RepS ι (avA av0 ι Θ) (avB ι Θ) w (.tup []) undef := ⟨#[], rfl, rfl⟩
  have hg := ok.guard
  cases hgo : o.guard with
  | none =>
    rw [hgo] at hg
    simp only at hg
    subst hg
    have : Region.wanted o (yielded ops a.tmps) = true := by simp [Region.wanted, hgo]
    rw [if_pos this]
    exact .inl (main' hs)
  | some p =>
    obtain ⟨g, want⟩ := p
    rw [hgo] at hg
    obtain ⟨t, ht, hg⟩ := hg
    simp only at hg
    subst hg
    unfold OpC.step at hs
    simp only at hs
    split at hs
    · rename_i b hb
      have hr := R.env t
      rw [hb, repS_bool] at hr
      have hy : yielded ops a.tmps g = some b := by
        unfold yielded
        rw [ht]
        simp only [Option.bind_some]
        rw [Array.getD_eq_getD_getElem?] at hr
        cases hh : a.tmps[t]? with
        | none => rw [hh] at hr; simp [undef] at hr
        | some v => rw [hh] at hr; simp only [Option.getD_some] at hr; subst hr; rfl
      have hw : Region.wanted o (yielded ops a.tmps) = (b == want) := by
        simp only [Region.wanted, hgo, hy]
        cases b <;> cases want <;> rfl
      rw [hw]
      split at hs
      · rename_i e
        subst e
        rw [if_pos (by simp)]
        exact .inl (main' hs)
      · rename_i e
        injection hs with hs
        subst hs
        rw [if_neg (by simpa using e)]
        exact hK _ _ ⟨ι, Θ, (R.putN ok.lt (x := ⟨.tup [], .no⟩) hun trivial).more fun _ h => .inl h⟩
    · rename_i hb
      have hr := R.env t
      rw [hb] at hr
      obtain ⟨us, hv, hus⟩ := hr
      have hy : yielded ops a.tmps g = none := by
        unfold yielded
        rw [ht]
        simp only [Option.bind_some]
        rw [Array.getD_eq_getD_getElem?] at hv
        cases hh : a.tmps[t]? with
        | none => rfl
        | some v => rw [hh] at hv; simp only [Option.getD_some] at hv; subst hv; rfl
      have hw : Region.wanted o (yielded ops a.tmps) = false := by
        simp only [Region.wanted, hgo, hy]
        cases want <;> rfl
      rw [hw]
      injection hs with hs
      subst hs
      rw [if_neg (by decide)]
      exact hK _ _ ⟨ι, Θ, (R.putN ok.lt (x := ⟨.tup [], .no⟩) hun trivial).more fun _ h => .inl h⟩
    · cases hs
theorem RelE.next {D : Nat → Prop} (R : RelE P O nt B F0 av0 w0 D s a w) : RelE P O nt B F0 av0 w0 (fun _ => False) { s with next := s.next + 1 } a w := by
  obtain ⟨ι, Θ, R⟩ := R
  exact ⟨ι, Θ, R.defers, R.size, R.env, R.ann, R.rows, fun t n b h => let ⟨h1, h2, h3⟩ := R.mine t n b h; ⟨h1, h2, .inl (by rcases h3 with h | h <;> simp only <;> omega)⟩, R.inj, R.tok, R.tinj, R.apart, R.out, R.pin, R.kept, R.base, R.objs, fun t n H h => let ⟨h1, h2⟩ := R.obs t n H h; ⟨h1, .inl (by rcases h2 with h | h <;> simp only <;> omega)⟩⟩
theorem fresh_spec {cs : List OpC} (h : freshOk cs = true) {i j : Nat} {x y : OpC} (hx : cs[i]? = some x) (hy : cs[j]? = some y) (hne : i ≠ j) (hA : (isA y.op || isO y.op) = true) (hsome : y.dst.isSome = true) : x.dst ≠ y.dst := by
  have hj := (List.getElem?_eq_some_iff.1 hy).1
  have hi := (List.getElem?_eq_some_iff.1 hx).1
  have h1 := List.all_eq_true.1 h j (List.mem_range.2 hj)
  rw [hy] at h1
  simp only [hA, hsome, Bool.true_and, Bool.not_true, Bool.false_or] at h1
  have h2 := List.all_eq_true.1 h1 i (List.mem_range.2 hi)
  rw [hx] at h2
  simp only [Bool.or_eq_true] at h2
  rcases h2 with h2 | h2
  · exact absurd (by simpa using h2) hne
  · simpa using h2
/-- operations one behind the other -/
theorem ops_sound {ops : Array Oper} {cs : List OpC} (hcall : ∀ f args S r, call f args S = some r → CallOk P O f args S r) (hok : ∀ (i : Nat) (o : Oper), ops[i]? = some o → ∃ c, cs[i]? = some c ∧ OpOk P nt ops o c) (hlen : cs.length = ops.size) (hf : freshOk cs = true) :
    ∀ (n i : Nat) (s s' : MSt) (a : Act) (w : World), i + n = ops.size → RelE P O nt B F0 av0 w0 (fun t => ∃ j c, j < i ∧ cs[j]? = some c ∧ c.dst = some t) s a w → runOps call (cs.drop i) s = some s' →
      (∀ a' w', RelE P O nt B F0 av0 w0 (fun _ => True) s' a' w' → Q .normal a' w') → wpOps P ops Q (List.range' i n) a w
  | 0, i, s, s', a, w, hi, R, hr, hQ => by
    have : cs.drop i = [] := List.drop_eq_nil_of_le (by omega)
    rw [this] at hr
    injection hr with hr
    subst hr
    obtain ⟨ι, Θ, R⟩ := R
    exact hQ a w ⟨ι, Θ, R.more fun _ _ => trivial⟩
  | n + 1, i, s, s', a, w, hi, R, hr, hQ => by
    have hlt : i < ops.size := by omega
    obtain ⟨c, hc, ok⟩ := hok i ops[i] (Array.getElem?_eq_getElem hlt)
    have hcl : i < cs.length := by omega
    have hci : cs[i] = c := (List.getElem?_eq_some_iff.1 hc).2
    rw [List.drop_eq_getElem_cons hcl, hci] at hr
    unfold runOps at hr
    obtain ⟨s1, h1, h2⟩ := Option.bind_eq_some_iff.1 hr
    rw [List.range'_succ, wpOps_cons]
    refine step_sound R hcall (Array.getElem?_eq_getElem hlt) ok (fun d hd hA ⟨j, c', hj, hc', hd'⟩ => ?_) h1 fun a' w' R' => ?_
    · exact fresh_spec hf hc' hc (by omega) hA (by rw [ok.dst, hd]; rfl) (by rw [hd', ok.dst, hd])
    · refine ops_sound hcall hok hlen hf n (i + 1) s1 s' a' w' (by omega) ?_ h2 hQ
      obtain ⟨ι, Θ, R'⟩ := R'
      refine ⟨ι, Θ, R'.more fun t ht => ?_⟩
      rcases ht with ⟨j, c', hj, hc', hd'⟩ | ht
      · exact ⟨j, c', by omega, hc', hd'⟩
      · exact ⟨i, c, by omega, hc, by rw [ok.dst, ht]⟩
end
end Go.Proofs.Ytinpinjjdkilpaa
/- A region whose order is drawn. -/
namespace Go.Proofs.Ytinpinjjdkilpaa
open Go Go.RowKit
section
variable {P : Program} {O : Objs} {nt B : Nat} {F0 : Own} {av0 : Av} {w0 : World} {s s' : MSt} {a : Act} {w w' : World} {call : CallT} {Q : Exit → Act → World → Prop}
def runIdx (call : CallT) (cs : List OpC) : List Nat → MSt → Option MSt
  | [], s => some s
  | i :: r, s => match cs[i]? with
    | some c => (c.step call s).bind (runIdx call cs r)
    | none => none
theorem runOps_idx (cs : List OpC) : ∀ (n i : Nat) (s : MSt), i + n = cs.length → runOps call (cs.drop i) s = runIdx call cs (List.range' i n) s
  | 0, i, s, h => by rw [List.drop_eq_nil_of_le (by omega)]; rfl
  | n + 1, i, s, h => by
    have hlt : i < cs.length := by omega
    rw [List.drop_eq_getElem_cons hlt, List.range'_succ]
    unfold runOps runIdx
    rw [List.getElem?_eq_getElem hlt]
    congr 1
    funext s1
    exact runOps_idx cs n (i + 1) s1 (by omega)
theorem bubble {cs : List OpC} {i : Nat} {c : OpC} (hc : cs[i]? = some c) {L2 : List Nat} : ∀ {L1 : List Nat} {s s' : MSt}, (∀ r ∈ L1, ∃ cr, cs[r]? = some cr ∧ apartC cr c = true ∧ okPair cr c = true) → runIdx call cs (L1 ++ i :: L2) s = some s' →
    ∃ s1, c.step call s = some s1 ∧ runIdx call cs (L1 ++ L2) s1 = some s'
  | [], s, s', _, h => by
    simp only [List.nil_append, runIdx, hc] at h
    obtain ⟨s1, h1, h2⟩ := Option.bind_eq_some_iff.1 h
    exact ⟨s1, h1, h2⟩
  | r :: L1, s, s', hL, h => by
    obtain ⟨cr, hr, ha, ho⟩ := hL r (List.mem_cons_self)
    simp only [List.cons_append, runIdx, hr] at h
    obtain ⟨s1, h1, h2⟩ := Option.bind_eq_some_iff.1 h
    obtain ⟨s2, h3, h4⟩ := bubble hc (fun q hq => hL q (List.mem_cons_of_mem _ hq)) h2
    obtain ⟨s1', h5, h6⟩ := commute ha ho h1 h3
    refine ⟨s1', h5, ?_⟩
    simp only [List.cons_append, runIdx, hr, h6, Option.bind_some]
    exact h4
theorem mem_edges {o : Oper} {e : Nat} : e ∈ edgesOf o ↔ ∃ d ∈ o.after, Region.binds .any d = true ∧ d.on = e := by
  unfold edgesOf
  rw [List.mem_filterMap]
  constructor
  · rintro ⟨d, hd, h⟩
    split at h
    · rename_i hb; injection h with h; exact ⟨d, by simpa using hd, hb, h⟩
    · cases h
  · rintro ⟨d, hd, hb, rfl⟩
    exact ⟨d, by simpa using hd, by rw [if_pos hb]⟩
theorem bf_spec {ops : List Oper} {bf : List Nat} (h : bfOk ops bf = true) {i : Nat} {o : Oper} (ho : ops[i]? = some o) : (∀ e ∈ edgesOf o, e < i) ∧ ∀ r, r < i → (bf.getD i 0).testBit r = true → ∃ e ∈ edgesOf o, e = r ∨ (r < e ∧ (bf.getD e 0).testBit r = true) := by
  have hi := (List.getElem?_eq_some_iff.1 ho).1
  have h1 := List.all_eq_true.1 h i (List.mem_range.2 hi)
  rw [ho] at h1
  simp only [Bool.and_eq_true] at h1
  refine ⟨fun e he => by simpa using List.all_eq_true.1 h1.1 e he, fun r hr hb => ?_⟩
  have h2 := List.all_eq_true.1 h1.2 r (List.mem_range.2 hr)
  simp only [hb, Bool.not_true, Bool.false_or, List.any_eq_true, Bool.or_eq_true, beq_iff_eq, Bool.and_eq_true, decide_eq_true_eq] at h2
  exact h2
/-- whom the bits name is listed -/
theorem bf_listed {ops : List Oper} {bf : List Nat} (h : bfOk ops bf = true) {L : List Nat} (hcl : ∀ (j : Nat) (o : Oper), ops[j]? = some o → j ∉ L → ∀ e ∈ edgesOf o, e ∉ L) : ∀ (n i : Nat) (o : Oper), i < n → ops[i]? = some o → (∀ e ∈ edgesOf o, e ∉ L) → ∀ r, r < i → (bf.getD i 0).testBit r = true → r ∉ L
  | 0, i, o, hn, _, _, _, _, _ => by omega
  | n + 1, i, o, hn, ho, hed, r, hr, hb => by
    obtain ⟨h1, h2⟩ := bf_spec h ho
    obtain ⟨e, he, hor⟩ := h2 r hr hb
    rcases hor with rfl | ⟨hre, hbe⟩
    · exact hed _ he
    · have hei := h1 e he
      have hlt : i < ops.length := (List.getElem?_eq_some_iff.1 ho).1
      have hoe : ops[e]? = some ops[e] := List.getElem?_eq_getElem (by omega)
      exact bf_listed h hcl n e _ (by omega) hoe (hcl e _ hoe (hed e he)) r hre hbe
theorem draw_pair {ops : List Oper} {cs : List OpC} (h : drawOk ops cs = true) {i j : Nat} (hj : j < ops.length) (hij : i < j) (hb : ((befores ops).getD j 0).testBit i = false) : ∃ x y, cs[i]? = some x ∧ cs[j]? = some y ∧ apartC x y = true ∧ okPair x y = true := by
  unfold drawOk at h
  simp only [Bool.and_eq_true] at h
  have h1 := List.all_eq_true.1 h.2 j (List.mem_range.2 hj)
  have h2 := List.all_eq_true.1 h1 i (List.mem_range.2 hij)
  rw [hb, Bool.false_or] at h2
  split at h2
  · rename_i x y hx hy
    simp only [Bool.and_eq_true] at h2
    exact ⟨x, y, hx, hy, h2.1, h2.2⟩
  · cases h2
theorem any_sound {ops : Array Oper} {cs : List OpC} (hcall : ∀ f args S r, call f args S = some r → CallOk P O f args S r) (hok : ∀ (i : Nat) (o : Oper), ops[i]? = some o → ∃ c, cs[i]? = some c ∧ OpOk P nt ops o c) (hlen : cs.length = ops.size) (hf : freshOk cs = true) (hdr : drawOk ops.toList cs = true) (s' : MSt)
    (hQ : ∀ a' w', RelE P O nt B F0 av0 w0 (fun _ => True) s' a' w' → Q .normal a' w') :
    ∀ (fuel : Nat) (L : List Nat) (listed : Array Bool) (s : MSt) (a : Act) (w : World), L.length = fuel → (∀ i, i < ops.size → (listed.getD i true = false ↔ i ∈ L)) → listed.size = ops.size → L.Pairwise (· < ·) → (∀ i ∈ L, i < ops.size) →
      (∀ (j : Nat) (o : Oper), ops.toList[j]? = some o → j ∉ L → ∀ e ∈ edgesOf o, e ∉ L) → RelE P O nt B F0 av0 w0 (fun t => ∃ j c, j ∉ L ∧ cs[j]? = some c ∧ c.dst = some t) s a w → runIdx call cs L s = some s' → wpAny P .any ops Q fuel listed a w
  | 0, L, listed, s, a, w, hl, hlist, hsz, _, _, _, R, hr => by
    have : L = [] := List.eq_nil_of_length_eq_zero hl
    subst this
    injection hr with hr
    subst hr
    refine ⟨?_, ?_⟩
    · refine List.eq_nil_iff_forall_not_mem.2 fun i hi => ?_
      obtain ⟨hun, o, ho, _⟩ := mem_ready.1 hi
      have hi' := (Array.getElem?_eq_some_iff.1 ho).1
      have := (hlist i hi').1 hun
      cases this
    · obtain ⟨ι, Θ, R⟩ := R
      exact hQ a w ⟨ι, Θ, R.more fun _ _ => trivial⟩
  | fuel + 1, L, listed, s, a, w, hl, hlist, hsz, hsort, hin, hcl, R, hr => by
    have hbf : bfOk ops.toList (befores ops.toList) = true := by
      unfold drawOk at hdr
      simp only [Bool.and_eq_true] at hdr
      exact hdr.1
    refine ⟨fun hnone => ?_, fun i hi => ?_⟩
    · exfalso
      cases L with
      | nil => simp at hl
      | cons i0 L0 =>
        have hi0 := hin i0 (List.mem_cons_self)
        have ho : ops.toList[i0]? = some ops[i0] := by simp [hi0]
        have hmem : i0 ∈ Region.ready .any ops listed := by
          refine mem_ready.2 ⟨(hlist i0 hi0).2 (List.mem_cons_self), ops[i0], Array.getElem?_eq_getElem hi0, fun e he hb => ?_⟩
          have hlt := (bf_spec hbf ho).1 e.on (mem_edges.2 ⟨e, he, hb, rfl⟩)
          have hnot : e.on ∉ i0 :: L0 := fun hm => by
            rcases List.mem_cons.1 hm with h | h
            · omega
            · have := (List.pairwise_cons.1 hsort).1 _ h; omega
          have h1 : listed.getD e.on true ≠ false := fun h => hnot ((hlist e.on (by omega)).1 h)
          have hs : e.on < listed.size := by omega
          simp only [Array.getD_eq_getD_getElem?, Array.getElem?_eq_getElem hs, Option.getD_some] at h1 ⊢
          simpa using h1
        rw [hnone] at hmem
        cases hmem
    · obtain ⟨hun, o, ho, hed⟩ := mem_ready.1 hi
      have hi' := (Array.getElem?_eq_some_iff.1 ho).1
      have hiL := (hlist i hi').1 hun
      have hol : ops.toList[i]? = some o := by simpa using ho
      have hedL : ∀ e ∈ edgesOf o, e ∉ L := fun e he => by
        obtain ⟨d, hd, hb, rfl⟩ := mem_edges.1 he
        have h1 := hed d hd hb
        intro hm
        have hlt := hin _ hm
        have h2 := (hlist _ hlt).2 hm
        have hs : d.on < listed.size := by omega
        simp only [Array.getD_eq_getD_getElem?, Array.getElem?_eq_getElem hs, Option.getD_some] at h1 h2
        rw [h1] at h2
        cases h2
      obtain ⟨L1, L2, rfl⟩ := List.append_of_mem hiL
      obtain ⟨c, hc, ok⟩ := hok i o ho
      have hsort' := List.pairwise_append.1 hsort
      have hL1 : ∀ r ∈ L1, ∃ cr, cs[r]? = some cr ∧ apartC cr c = true ∧ okPair cr c = true := fun r hr => by
        have hri : r < i := hsort'.2.2 r hr i (List.mem_cons_self)
        have hbit : ((befores ops.toList).getD i 0).testBit r = false := by
          cases hb : ((befores ops.toList).getD i 0).testBit r with
          | false => rfl
          | true => exact absurd (List.mem_append_left _ hr) (bf_listed hbf hcl (i + 1) i o (by omega) hol hedL r hri hb)
        obtain ⟨x, y, hx, hy, h1, h2⟩ := draw_pair hdr (by simpa using hi') hri hbit
        rw [hc] at hy
        injection hy with hy
        subst hy
        exact ⟨x, hx, h1, h2⟩
      obtain ⟨s1, h1, h2⟩ := bubble hc hL1 hr
      have hnd : i ∉ L1 ++ L2 := fun hm => by
        rcases List.mem_append.1 hm with h | h
        · have := hsort'.2.2 i h i (List.mem_cons_self); omega
        · have := (List.pairwise_cons.1 hsort'.2.1).1 i h; omega
      have hsub : ∀ j, j ∉ L1 ++ i :: L2 ↔ (j ∉ L1 ++ L2 ∧ j ≠ i) := fun j => by
        simp only [List.mem_append, List.mem_cons, not_or]
        exact ⟨fun ⟨h1, h2, h3⟩ => ⟨⟨h1, h3⟩, h2⟩, fun ⟨⟨h1, h3⟩, h2⟩ => ⟨h1, h2, h3⟩⟩
      refine step_sound R hcall ho ok (fun d hd hA ⟨j, c', hj, hc', hd'⟩ => ?_) h1 fun a' w' R' => ?_
      · have : j ≠ i := ((hsub j).1 hj).2
        exact fresh_spec hf hc' hc this hA (by rw [ok.dst, hd]; rfl) (by rw [hd', ok.dst, hd])
      · refine any_sound hcall hok hlen hf hdr s' hQ fuel (L1 ++ L2) (listed.setIfInBounds i true) s1 a' w' (by simp at hl ⊢; omega) (fun j hj => ?_) (by simpa using hsz) ?_ (fun j hj => hin j ?_) (fun j o' ho' hj e he hm => ?_) ?_ h2
        · have hjs : j < listed.size := by omega
          by_cases e : i = j
          · subst e
            simp only [Array.getD_eq_getD_getElem?, Array.getElem?_setIfInBounds, if_true, hjs, Option.getD_some]
            exact ⟨fun h => by simp at h, fun h => absurd h hnd⟩
          · simp only [Array.getD_eq_getD_getElem?, Array.getElem?_setIfInBounds, if_neg e]
            have := hlist j hj
            simp only [Array.getD_eq_getD_getElem?] at this
            rw [this]
            simp only [List.mem_append, List.mem_cons]
            exact ⟨fun h => by rcases h with h | h | h; exact .inl h; exact absurd h.symm e; exact .inr h, fun h => by rcases h with h | h; exact .inl h; exact .inr (.inr h)⟩
        · exact List.pairwise_append.2 ⟨hsort'.1, (List.pairwise_cons.1 hsort'.2.1).2, fun x hx y hy => hsort'.2.2 x hx y (List.mem_cons_of_mem _ hy)⟩
        · rcases List.mem_append.1 hj with h | h
          · exact List.mem_append_left _ h
          · exact List.mem_append_right _ (List.mem_cons_of_mem _ h)
        · have hm' : e ∈ L1 ++ i :: L2 := by
            rcases List.mem_append.1 hm with h | h
            · exact List.mem_append_left _ h
            · exact List.mem_append_right _ (List.mem_cons_of_mem _ h)
          by_cases e' : j = i
          · subst e'
            rw [hol] at ho'
            injection ho' with ho'
            subst ho'
            exact hedL e he hm'
          · exact hcl j o' ho' ((hsub j).2 ⟨hj, e'⟩) e he hm'
        · obtain ⟨ι, Θ, R'⟩ := R'
          refine ⟨ι, Θ, R'.more fun t ht => ?_⟩
          rcases ht with ⟨j, c', hj, hc', hd'⟩ | ht
          · exact ⟨j, c', ((hsub j).1 hj).1, hc', hd'⟩
          · exact ⟨i, c, hnd, hc, by rw [ok.dst, ht]⟩
/-- a region -/
theorem region_sound (hm : P.follows .mixedOrders = true) (hcall : ∀ f args S r, call f args S = some r → CallOk P O f args S r) {boxes : List Nat} {id : Nat} {ops : Array Oper} {draw : Bool} {cs : List OpC} (hc : compOps P boxes nt ops.toList draw ops.toList = some cs) (hf : freshOk cs = true) (hd : draw = true → drawOk ops.toList cs = true)
    (R : RelE P O nt B F0 av0 w0 (fun _ => False) s a w) (hr : runOps call cs s = some s') (hQ : ∀ a' w', RelE P O nt B F0 av0 w0 (fun _ => False) { s' with next := s'.next + 1 } a' w' → Q .normal a' w') : (Code.region id ops draw).wp P Q a w := by
  obtain ⟨hlen, hget⟩ := compOps_get hc
  have hlen' : cs.length = ops.size := by simpa using hlen
  have hok : ∀ (i : Nat) (o : Oper), ops[i]? = some o → ∃ c, cs[i]? = some c ∧ OpOk P nt ops o c := fun i o ho => by
    have := hget i o (by simpa using ho)
    rw [Array.toArray_toList] at this
    exact this
  have hQ' : ∀ a' w', RelE P O nt B F0 av0 w0 (fun _ => True) s' a' w' → Q .normal a' w' := fun a' w' h => hQ a' w' h.next
  cases draw with
  | false =>
    refine wp_region ?_
    rw [List.range_eq_range']
    refine ops_sound hcall hok hlen' hf ops.size 0 s s' a w (by omega) ?_ (by simpa using hr) hQ'
    obtain ⟨ι, Θ, R⟩ := R
    exact ⟨ι, Θ, R.more fun _ h => h.elim⟩
  | true =>
    refine wp_region_any hm ?_
    have hrun : runIdx call cs (List.range' 0 ops.size) s = some s' := by
      rw [← hlen', ← runOps_idx cs cs.length 0 s (by omega)]
      simpa using hr
    refine any_sound hcall hok hlen' hf (hd rfl) s' hQ' ops.size (List.range' 0 ops.size) _ s a _ (by simp) (fun i hi => ?_) (by simp) List.pairwise_lt_range' (fun i hi => ?_) (fun j o ho hj => ?_) ?_ hrun
    · simp [hi]
    · simpa using hi
    · have := (List.getElem?_eq_some_iff.1 ho).1
      exact absurd (by simpa using this) (by simpa using hj)
    · obtain ⟨ι, Θ, R⟩ := R
      exact ⟨ι, Θ, (R.grow (w' := w.drew) (fun _ _ => rfl) (Nat.le_refl _) R.kept.drew).more fun _ h => h.elim⟩
end
end Go.Proofs.Ytinpinjjdkilpaa
/- Whole functions. -/
namespace Go.Proofs.Ytinpinjjdkilpaa
open Go Go.RowKit
section
variable {P : Program} {O : Objs} {nt B : Nat} {F0 : Own} {av0 : Av} {w0 : World} {s s' : MSt} {a : Act} {w w' : World} {call : CallT} {lp : LpT}
def exOf : Ex → Exit
  | .nrm => .normal
  | .exit id => .exit id
  | .ret => .ret
/-- what a machine's loop says of the code's loop, at the given number of rounds -/
def LpOk (P : Program) (O : Objs) (N : Nat) (lp : LpT) : Prop :=
  ∀ (boxes : List Nat) (nt B : Nat) (F0 : Own) (av0 : Av) (w0 : World) (code : Code) (b : C) (s : MSt) (k : Ex → MSt → Option RV) (r : RV) (a : Act) (w : World) (Q : Exit → Act → World → Prop), comp P boxes nt code = some b → lp b s k = some r → RelE P O nt B F0 av0 w0 (fun _ => False) s a w →
    (∀ e s' a' w', RelE P O nt B F0 av0 w0 (fun _ => False) s' a' w' → k e s' = some r → Q (exOf e) a' w') → Code.rounds P code Q N a w
theorem code_sound (hm : P.follows .mixedOrders = true) (hcall : ∀ f args S r, call f args S = some r → CallOk P O f args S r) {N : Nat} (hlp : LpOk P O N lp) {boxes : List Nat} :
    ∀ (code : Code) (c : C) (s : MSt) (k : Ex → MSt → Option RV) (r : RV) (a : Act) (w : World) (Q : Exit → Act → World → Prop), comp P boxes nt code = some c → c.run call lp s k = some r → RelE P O nt B F0 av0 w0 (fun _ => False) s a w →
      (∀ e s' a' w', RelE P O nt B F0 av0 w0 (fun _ => False) s' a' w' → k e s' = some r → Q (exOf e) a' w') → code.wp P Q a w
  | .skip, c, s, k, r, a, w, Q, hc, hr, R, hk => by
    injection hc with hc
    subst hc
    exact wp_skip (hk .nrm s a w R hr)
  | .seq x y, c, s, k, r, a, w, Q, hc, hr, R, hk => by
    unfold comp at hc
    split at hc
    · rename_i cx cy hx hy
      injection hc with hc
      subst hc
      refine wp_seq (code_sound hm hcall hlp x cx s _ r a w _ hx hr R fun e s' a' w' R' he => ?_)
      cases e with
      | nrm => exact code_sound hm hcall hlp y cy s' k r a' w' Q hy he R' hk
      | exit id => exact hk _ _ _ _ R' he
      | ret => exact hk _ _ _ _ R' he
    · cases hc
  | .region id ops draw, c, s, k, r, a, w, Q, hc, hr, R, hk => by
    unfold comp at hc
    split at hc
    · rename_i cs hcs
      split at hc
      · rename_i hok
        injection hc with hc
        subst hc
        simp only [Bool.and_eq_true, Bool.or_eq_true] at hok
        simp only [C.run] at hr
        split at hr
        · rename_i s1 hs1
          exact region_sound hm hcall hcs hok.1 (fun h => by rcases hok.2 with h' | h'; rw [h] at h'; cases h'; exact h') R hs1 fun a' w' R' => hk .nrm _ _ _ R' hr
        · cases hr
      · cases hc
    · cases hc
  | .cond x t e, c, s, k, r, a, w, Q, hc, hr, R, hk => by
    unfold comp at hc
    split at hc
    · rename_i cx ct ce hx ht he
      injection hc with hc
      subst hc
      simp only [C.run] at hr
      split at hr
      · rename_i b hb
        have hv : a.eval x = .bool b := by
          obtain ⟨ι, Θ, R⟩ := R
          have := (R.opd hx).1
          rwa [hb, repS_bool] at this
        cases b with
        | true => exact wp_cond_true hv (code_sound hm hcall hlp t ct s k r a w Q ht (by simpa using hr) R hk)
        | false => exact wp_cond_false hv (code_sound hm hcall hlp e ce s k r a w Q he (by simpa using hr) R hk)
      · cases hr
    · cases hc
  | .block id b, c, s, k, r, a, w, Q, hc, hr, R, hk => by
    unfold comp at hc
    obtain ⟨cb, hb, rfl⟩ := Option.map_eq_some_iff.1 hc
    refine wp_block (code_sound hm hcall hlp b cb s _ r a w _ hb hr R fun e s' a' w' R' he => ?_)
    cases e with
    | nrm => exact hk _ _ _ _ R' he
    | ret => exact hk _ _ _ _ R' he
    | exit j =>
      simp only at he
      show Exit.inBlock id Q (.exit j) a' w'
      unfold Exit.inBlock
      split at he
      · rename_i e; simp only [e, if_true]; exact hk _ _ _ _ R' he
      · rename_i e; simp only [e, if_false]; exact hk _ _ _ _ R' he
  | .loop b, c, s, k, r, a, w, Q, hc, hr, R, hk => by
    unfold comp at hc
    obtain ⟨cb, hb, rfl⟩ := Option.map_eq_some_iff.1 hc
    exact wp_loop_rounds N (hlp boxes nt B F0 av0 w0 b cb s k r a w Q hb hr R hk)
  | .exit id, c, s, k, r, a, w, Q, hc, hr, R, hk => by
    injection hc with hc
    subst hc
    exact wp_exit (hk (.exit id) s a w R hr)
  | .ret, c, s, k, r, a, w, Q, hc, hr, R, hk => by
    injection hc with hc
    subst hc
    exact wp_ret (hk .ret s a w R hr)
  | .scope b, c, s, k, r, a, w, Q, hc, hr, R, hk => by
    unfold comp at hc
    refine wp_scope_straight (code_sound hm hcall hlp b c s k r a w _ hc hr R fun e s' a' w' R' he => ?_)
    have := hk _ _ _ _ R' he
    cases e <;> exact this
  | .rangeFunc .., _, _, _, _, _, _, _, hc, _, _, _ => by cases hc
  | .label _, _, _, _, _, _, _, _, hc, _, _, _ => by cases hc
  | .goto _, _, _, _, _, _, _, _, hc, _, _, _ => by cases hc
  | .refuse _, _, _, _, _, _, _, _, hc, _, _, _ => by cases hc
theorem rep_of_S {ι : Ix} {av : Av} {x : AV} {v : Value} (h : RepS ι av (fun _ _ => False) w x v) (hx : x.free = true) : Rep av w x v := by
  cases x <;> first
    | exact h
    | (simp [AV.free, AV.free0] at hx; done)
    | (obtain ⟨us, hv, hc⟩ := h
       exact ⟨us, hv, RepL_ofCL hc fun y hy => List.all_eq_true.1 hx y hy⟩)
theorem RepT_length {av : Av} : ∀ {xs : List AV} {us : List Value}, RepT av w xs us → us.length = xs.length
  | [], _, h => by simp only [RepT] at h; subst h; rfl
  | x :: r, _, h => by
    simp only [RepT] at h
    obtain ⟨u, us', rfl, _, h⟩ := h
    simp [RepT_length h]
theorem RepOs_length {p : Nat} {av : Av} : ∀ {xs : List AV} {us : List Value}, RepOs p av w xs us → us.length = xs.length
  | [], _, h => by simp only [RepOs] at h; subst h; rfl
  | x :: r, _, h => by
    simp only [RepOs] at h
    obtain ⟨u, us', rfl, _, h⟩ := h
    simp [RepOs_length h]
/-- the results, before they are named -/
def RepSL (ι : Ix) (av avb : Av) (w : World) : List AV → List Value → Prop
  | [], us => us = []
  | x :: r, us => ∃ u us', us = u :: us' ∧ RepS ι av avb w x u ∧ RepSL ι av avb w r us'
theorem RepS.toRep {ι : Ix} {av av' avb : Av} {x : AV} {v : Value} (h : RepS ι av avb w x v) (hx : x.free = true) (hav : ∀ b o, av' b o → av b o) : Rep av' w x v :=
  Rep.held (Held.less hav) _ _ (rep_of_S (free_rep (ι' := ι) h hx) hx)
theorem RepSL.toT {ι : Ix} {av av' avb : Av} (hav : ∀ b o, av' b o → av b o) : ∀ {xs : List AV} {us : List Value}, RepSL ι av avb w xs us → (∀ v ∈ xs, v.free = true) → RepT av' w xs us
  | [], _, h, _ => h
  | x :: r, _, h, hf => by
    simp only [RepSL] at h
    obtain ⟨u, us', rfl, h0, h⟩ := h
    exact ⟨u, us', rfl, h0.toRep (hf x List.mem_cons_self) hav, h.toT hav fun v hv => hf v (List.mem_cons_of_mem _ hv)⟩
theorem unname_ptr {t n : Nat} {x : AV} (h : (unname t n x).isObj = true) : x = .ptr t n 0 := by
  cases x with
  | ptr t' n' o =>
    simp only [unname] at h
    split at h
    · rename_i e; obtain ⟨rfl, rfl, rfl⟩ := e; rfl
    · cases h
  | _ => cases h
theorem unname_free {t n : Nat} {x : AV} (h : (unname t n x).free = true) : unname t n x = x := by
  cases x with
  | ptr t' n' o =>
    simp only [unname] at h
    split at h <;> cases h
  | _ => rfl
theorem RepSL.toO {ι : Ix} {av av' avb : Av} {t n p : Nat} (hp : ι t n = some p) (hav : ∀ b o, av' b o → av b o) : ∀ {xs : List AV} {us : List Value}, RepSL ι av avb w xs us → (∀ v ∈ xs, ((unname t n v).free || (unname t n v).isObj) = true) → RepOs p av' w (xs.map (unname t n)) us
  | [], _, h, _ => h
  | x :: r, _, h, hf => by
    simp only [RepSL] at h
    obtain ⟨u, us', rfl, h0, h⟩ := h
    refine ⟨u, us', rfl, ?_, h.toO hp hav fun v hv => hf v (List.mem_cons_of_mem _ hv)⟩
    have h1 := hf x List.mem_cons_self
    unfold RepO
    split
    · rename_i ho
      have := unname_ptr ho
      subst this
      obtain ⟨b, hb, hv⟩ := h0
      rw [hp] at hb
      injection hb with hb
      rw [hv, hb]
    · rename_i ho
      have hfr : (unname t n x).free = true := by
        rcases Bool.or_eq_true_iff.1 h1 with h | h
        · exact h
        · exact absurd h ho
      have hsame := unname_free hfr
      rw [hsame] at hfr ⊢
      exact h0.toRep hfr hav
/-- what is left for the caller to know of: not the rows -/
def avF (s : MSt) (av : Av) (ι : Ix) : Av := fun b o => av b o ∧ ¬ ∃ t n r, s.mem t n = some r ∧ ι t n = some b
theorem RepC.frz {D : Nat → Prop} {ι : Ix} {Θ : Fam} (R : Rel P O nt B F0 av0 w0 D s a w ι Θ) {x : AV} {u : Value} (h : RepC ι (avA av0 ι Θ) w x u) : RepC ι (avF s (avA av0 ι Θ) ι) w (x.frz0 s) u := by
  have less : Held (avA av0 ι Θ) (avF s (avA av0 ι Θ) ι) w w := Held.less fun b o h => h.1
  have same := RepC.held (Ix.Le.refl ι) less x u h
  cases x with
  | ref t n sz off len c =>
    simp only [AV.frz0]
    split
    · rename_i l hl
      obtain ⟨r, hm, hl⟩ := Option.bind_eq_some_iff.1 hl
      obtain ⟨b, hb, hle, cc, hcc, hz, hv⟩ := h
      obtain ⟨hno, b', cur, ty, hb', hheap, hrow, _⟩ := R.rows t n r hm
      rw [hb] at hb'
      injection hb' with hb'
      subst hb'
      obtain ⟨h1, h2, us, hL, hus⟩ := rowEls_read hrow hheap hl
      subst h1
      show Rep _ w (.sl false l) u
      simp only [Rep]
      refine ⟨_, cc, hv, Nat.le_trans hle hcc, fun x hx y hy => (h2 x hx).trans (h2 y hy).symm, (fun h => by cases h), fun _ => ⟨fun h => (by cases h), fun _ => ⟨b, off, rfl, ?_⟩⟩⟩
      rw [Rows_flat]
      exact Cells_mk (RepL.held less _ _ hL) fun j u hj => ⟨hus j u hj, fun h => h.2 ⟨t, n, r, hm, hb⟩⟩
    · exact same
  | _ => exact same
theorem RepCL.frz {D : Nat → Prop} {ι : Ix} {Θ : Fam} (R : Rel P O nt B F0 av0 w0 D s a w ι Θ) : ∀ {xs : List AV} {us : List Value}, RepCL ι (avA av0 ι Θ) w xs us → RepCL ι (avF s (avA av0 ι Θ) ι) w (xs.map (AV.frz0 s)) us
  | [], _, h => h
  | x :: r, _, h => by
    simp only [RepCL] at h
    obtain ⟨u, us', rfl, h0, h1, h⟩ := h
    exact ⟨u, us', rfl, h0.frz R, h1, h.frz R⟩
theorem RepS.frz {D : Nat → Prop} {ι : Ix} {Θ : Fam} (R : Rel P O nt B F0 av0 w0 D s a w ι Θ) {x : AV} {u : Value} (h : RepS ι (avA av0 ι Θ) (avB ι Θ) w x u) : RepS ι (avF s (avA av0 ι Θ) ι) (avB ι Θ) w (x.frz s) u := by
  have less : Held (avA av0 ι Θ) (avF s (avA av0 ι Θ) ι) w w := Held.less fun b o h => h.1
  have same := RepS.held (Ix.Le.refl ι) less (Held.refl _ _) x u h
  cases x with
  | agg cs => obtain ⟨us, hv, hc⟩ := h; exact ⟨us, hv, hc.frz R⟩
  | ref t n sz off len c =>
    have := RepC.frz R (x := .ref t n sz off len c) h
    show RepS _ _ _ w (AV.frz0 s (.ref t n sz off len c)) u
    generalize hy : AV.frz0 s (.ref t n sz off len c) = y at this ⊢
    simp only [AV.frz0] at hy
    split at hy <;> (subst hy; exact this)
  | _ => exact same
theorem RepSL.frz {D : Nat → Prop} {ι : Ix} {Θ : Fam} (R : Rel P O nt B F0 av0 w0 D s a w ι Θ) : ∀ {xs : List AV} {us : List Value}, RepSL ι (avA av0 ι Θ) (avB ι Θ) w xs us → RepSL ι (avF s (avA av0 ι Θ) ι) (avB ι Θ) w (xs.map (AV.frz s)) us
  | [], _, h => h
  | x :: r, _, h => by
    simp only [RepSL] at h
    obtain ⟨u, us', rfl, h0, h⟩ := h
    exact ⟨u, us', rfl, h0.frz R, h.frz R⟩
def packV (us : List Value) : Value := if h : us.toArray.size = 1 then us.toArray[0] else .tuple us.toArray
theorem pack_rep {av : Av} : ∀ {xs : List AV} {us : List Value}, RepT av w xs us → Rep av w (pack xs) (packV us)
  | [], us, h => by simp only [RepT] at h; subst h; exact ⟨#[], rfl, rfl⟩
  | [x], us, h => by
    simp only [RepT] at h
    obtain ⟨u, us', rfl, h0, rfl⟩ := h
    exact h0
  | x :: y :: r, us, h => by
    have hl := RepT_length h
    have : ¬ us.toArray.size = 1 := by simp; simp at hl; omega
    unfold packV
    rw [dif_neg this]
    exact ⟨_, rfl, h⟩
theorem pack_repN {p : Nat} {av : Av} : ∀ {xs : List AV} {us : List Value}, RepOs p av w xs us → (∀ v ∈ xs, (v.free || v.isObj) = true) → RepN p av w (pack xs) (packV us)
  | [], us, h, _ => by simp only [RepOs] at h; subst h; exact ⟨#[], rfl, rfl⟩
  | [x], us, h, hf => by
    simp only [RepOs] at h
    obtain ⟨u, us', rfl, h0, rfl⟩ := h
    have := hf x List.mem_cons_self
    cases x with
    | tup vs => cases this
    | _ => exact h0
  | x :: y :: r, us, h, _ => by
    have hl := RepOs_length h
    have : ¬ us.toArray.size = 1 := by simp; simp at hl; omega
    unfold packV
    rw [dif_neg this]
    exact ⟨_, rfl, h⟩
/-- results -/
def resOne (tmps : Array Value) : ResultVar → Sem Value
  | .tmp t => pure (tmps.getD t undef)
  | .cell b t => do loadVar t (← asAddr (tmps.getD b undef))
theorem res_run {D : Nat → Prop} {ι : Ix} {Θ : Fam} (R : Rel P O nt B F0 av0 w0 D s a w ι Θ) : ∀ {rs : List ResultVar} {cs : List ResC} {vs : List AV}, compRes P rs = some cs → resC s cs = some vs →
    ∃ us, (rs.mapM (resOne a.tmps)).run P w = Result.ok us w ∧ RepSL ι (avA av0 ι Θ) (avB ι Θ) w vs us
  | [], cs, vs, h, hr => by
    injection h with h
    subst h
    injection hr with hr
    subst hr
    exact ⟨[], by simp, rfl⟩
  | .tmp t :: rs, cs, vs, h, hr => by
    unfold compRes at h
    obtain ⟨l, hl, rfl⟩ := Option.map_eq_some_iff.1 h
    simp only [resC] at hr
    obtain ⟨vs', hv, rfl⟩ := Option.map_eq_some_iff.1 hr
    obtain ⟨us, hu, hT⟩ := res_run R hl hv
    refine ⟨a.tmps.getD t undef :: us, by rw [List.mapM_cons]; simp only [resOne, Sem.run_bind, Sem.run_pure, Result.andThen_ok, hu], _, us, rfl, R.env t, hT⟩
  | .cell b t :: rs, cs, vs, h, hr => by
    unfold compRes at h
    split at h
    · rename_i ag z l hA hz hl
      injection h with h
      subst h
      simp only [resC] at hr
      split at hr
      · rename_i t' n off hb
        cases hm : s.mem t' n with
        | none => rw [hm] at hr; cases hr
        | some row =>
          rw [hm, Option.bind_some] at hr
          obtain ⟨x, hx, hr⟩ := Option.bind_eq_some_iff.1 hr
          obtain ⟨vs', hv, rfl⟩ := Option.map_eq_some_iff.1 hr
          obtain ⟨us, hu, hT⟩ := res_run R hl hv
          have hv := R.env b
          rw [hb, repS_ptr] at hv
          obtain ⟨bb, hbb, hv⟩ := hv
          obtain ⟨hnob, b', cur, ty, hb', hheap, hrow, _⟩ := R.rows t' n row hm
          rw [hbb] at hb'
          injection hb' with hb'
          subst hb'
          have hcell : ∀ (j : Nat) (u : Value), ((cur.toList.take row.length).drop off)[j]? = some u → w.cell? ⟨bb, off + j, none⟩ = some u := fun j u hu => by
            rw [cell_of_row w bb (off + j) cur ty (0, 0) hheap]
            rw [List.getElem?_drop, List.getElem?_take] at hu
            split at hu
            · simpa using hu
            · cases hu
          have hrep := RepCL_drop off hrow.rep
          have hi : loadI ag z ((row.map (·.v)).drop off) = some x.v := by
            cases ag with
            | true =>
              simp only [loadC, if_true] at hx
              split at hx
              · rename_i hle
                injection hx with hx
                subst hx
                simp only [loadI, if_true, List.length_drop, List.length_map]
                rw [if_pos (by omega)]
                simp [List.map_take, List.map_drop]
              · cases hx
            | false =>
              simp only [loadC, Bool.false_eq_true, if_false] at hx
              simp [loadI, List.getElem?_drop, hx]
          obtain ⟨u, hrun, hS, _⟩ := load_run (P := P) (avb := avB ι Θ) hA hz hrep hcell hi
          refine ⟨u :: us, by rw [List.mapM_cons]; simp only [resOne, Sem.run_bind, hv, asAddr, Sem.run_pure, Result.andThen_ok, hrun, hu], _, us, rfl, hS, hT⟩
      · cases hr
    · cases h
/-- the table of functions -/
structure FnOk (P : Program) (f : FuncId) (c : FnC) : Prop where
  enter : ∀ xs w, (callFunc f xs).run P w = .ok (.enter f xs) w
  fn : ∃ fn, P.funcs[f]? = some fn ∧ compF P c.mu fn = some c
theorem RepA_length {ι : Ix} {av avl : Av} : ∀ {xs : List AV} {us : List Value}, RepA ι av avl w xs us → us.length = xs.length
  | [], _, h => by simp only [RepA] at h; subst h; rfl
  | x :: r, _, h => by
    simp only [RepA] at h
    obtain ⟨u, us', rfl, _, h⟩ := h
    simp [RepA_length h]
theorem RepA_get {ι : Ix} {av avl : Av} : ∀ {xs : List AV} {us : List Value} (_ : RepA ι av avl w xs us) (t : Nat), RepS ι av avl w (xs.getD t .undef) (us.getD t undef)
  | [], _, _, _ => by simp [RepS]
  | x :: r, _, h, t => by
    simp only [RepA] at h
    obtain ⟨u, us', rfl, h0, h⟩ := h
    cases t with
    | zero => simpa using h0
    | succ t => simpa using RepA_get h t
/-- a call begins -/
theorem init_size {vs : List Value} {args : List AV} {ι : Ix} {av avl : Av} {np : Nat} (h : RepA ι av avl w args vs) (hl : args.length = np) (hn : np ≤ nt) : (vs.toArray ++ Array.replicate (nt - vs.toArray.size) undef).size = nt := by
  have := RepA_length h
  simp
  omega
theorem init_env {vs : List Value} {args : List AV} {ι ι' : Ix} {av av' avb avl : Av} {S0 : Option AV} (h : RepA ι av avl w args vs) (hι : Ix.Le ι ι') (hA : Held av av' w w) (hB : Held avl avb w w) (t : Nat) :
    RepS ι' av' avb w ((MSt.init args S0).env t).v ((vs.toArray ++ Array.replicate (nt - vs.toArray.size) undef).getD t undef) := by
  have h1 := RepS.held hι hA hB _ _ (RepA_get h t)
  have h2 : (vs.toArray ++ Array.replicate (nt - vs.toArray.size) undef).getD t undef = vs.getD t undef := by
    simp only [Array.getD_eq_getD_getElem?, List.getD_eq_getElem?_getD, Array.getElem?_append, List.size_toArray, List.getElem?_toArray]
    split
    · rfl
    · rename_i hge
      rw [List.getElem?_eq_none (by omega)]
      simp only [Array.getElem?_replicate]
      split <;> rfl
  rw [h2]
  exact h1
theorem init_none {vs : List Value} {args : List AV} {av : Av} {np : Nat} (h : RepA Ix.none av (fun _ _ => False) w args vs) (hav : ∀ b o, av b o → b < w.heap.size) (hl : args.length = np) (hn : np ≤ nt) :
    RelE P O nt w.heap.size ⟨fun _ => False, none⟩ av w (fun _ => False) (MSt.init args none) { tmps := vs.toArray ++ Array.replicate (nt - vs.toArray.size) undef, defers := [] } w := by
  have hB0 : ∀ b o, avB Ix.none (fun _ => none) b o → False := fun b o h => by rcases h with (⟨t, n, h⟩ | ⟨t, n, H, h, _⟩) | ⟨k, ow, h, _⟩ <;> cases h
  have hA : Held av (avA av Ix.none (fun _ => none)) w w := Held.less fun b o h => h.resolve_right (hB0 b o)
  have hB : Held (fun _ _ => False) (avB Ix.none (fun _ => none)) w w := Held.less fun b o h => hB0 b o h
  exact ⟨Ix.none, fun _ => none, rfl, init_size h hl hn, fun t => init_env h (Ix.Le.refl _) hA hB t, fun t => trivial, fun t n r h => (by cases h), fun t n b h => (by cases h), fun _ _ _ _ _ h => (by cases h), fun _ _ h => (by cases h), fun _ _ _ _ h => (by cases h), fun _ _ _ _ h => (by cases h), hav, fun _ h => (by cases h), Keep.refl _ _, rfl, fun t n S h => (by simp [MSt.init] at h), fun t n H h => (by cases h)⟩
theorem init_some {vs : List Value} {args : List AV} {av : Av} {np p : Nat} {H : Nat → Prop} {S : AV} (h : RepA (Ix.one p) av (fun b _ => H b) w args vs) (hav : ∀ b o, av b o → b < w.heap.size) (hH : ∀ b o, H b → av b o) (hat : O.at_ S H p w) (hl : args.length = np) (hn : np ≤ nt) :
    RelE P O nt w.heap.size ⟨H, some p⟩ av w (fun _ => False) (MSt.init args (some S)) { tmps := vs.toArray ++ Array.replicate (nt - vs.toArray.size) undef, defers := [] } w := by
  obtain ⟨ι, hι⟩ : ∃ ι : Ix, ι = ⟨fun t n => if t = 0 ∧ n = 0 then some p else none, fun t n => if t = 0 ∧ n = 0 then some H else none, fun _ => 0⟩ := ⟨_, rfl⟩
  have hf : ∀ t n b, ι t n = some b → t = 0 ∧ n = 0 ∧ b = p := fun t n b h => by
    subst hι
    have h' : (if t = 0 ∧ n = 0 then some p else none) = some b := h
    split at h'
    · rename_i e; injection h' with h'; exact ⟨e.1, e.2, h'.symm⟩
    · cases h'
  have ho : ∀ t n H1, ι.ob t n = some H1 → t = 0 ∧ n = 0 ∧ H1 = H := fun t n b h => by
    subst hι
    simp only at h
    split at h
    · rename_i e; injection h with h'; exact ⟨e.1, e.2, h'.symm⟩
    · cases h
  have h0 : ι 0 0 = some p := by subst hι; rfl
  have h1 : ι.ob 0 0 = some H := by subst hι; rfl
  have hsub : ∀ t n b, Ix.one p t n = some b → ι t n = some b := fun t n b h => by subst hι; exact h
  have hle : Ix.Le (Ix.one p) ι := ⟨hsub, fun _ _ _ _ => by subst hι; rfl⟩
  clear hι
  have hpH := O.main hat
  have hB0 : ∀ b o, avB ι (fun _ => none) b o → H b := fun b o h => by
    rcases h with (⟨t, n, h⟩ | ⟨t, n, H1, h, hb⟩) | ⟨k, ow, h, _⟩
    · rw [(hf _ _ _ h).2.2]; exact hpH
    · rw [(ho _ _ _ h).2.2] at hb; exact hb
    · cases h
  have hA : Held av (avA av ι (fun _ => none)) w w := Held.less fun b o h => h.elim id fun h => hH b o (hB0 b o h)
  refine ⟨ι, fun _ => none, rfl, init_size h hl hn, fun t => ?_, fun t => trivial, fun t n r h => (by cases h), fun t n b h => ?_, fun t n t' n' b h h' => ?_, fun _ _ h => (by cases h), fun _ _ _ _ h => (by cases h), fun _ _ _ _ h => (by cases h), hav, fun q h => ?_, Keep.refl _ _, rfl, fun t n S1 h => ?_, fun t n H1 h => ?_⟩
  · exact init_env h hle hA (Held.less fun b o h => hB0 b o h) t
  · obtain ⟨rfl, rfl, rfl⟩ := hf _ _ _ h
    exact ⟨.inr hpH, O.lt hat hpH, .inl (by simp [MSt.init])⟩
  · obtain ⟨rfl, rfl, _⟩ := hf _ _ _ h
    obtain ⟨rfl, rfl, _⟩ := hf _ _ _ h'
    exact ⟨rfl, rfl⟩
  · injection h with h
    subst h
    exact ⟨h0, H, h1⟩
  · simp only [MSt.init] at h
    split at h
    · rename_i e
      injection h with h
      subst h
      exact ⟨p, H, by rw [e.1, e.2]; exact h0, by rw [e.1, e.2]; exact h1, hat⟩
    · cases h
  · obtain ⟨rfl, rfl, rfl⟩ := ho _ _ _ h
    refine ⟨fun b hb => ⟨.inr hb, O.lt hat hb, fun t' n' h => ?_, fun _ _ h => (by cases h), fun t' n' H' h _ => ?_⟩, .inl (by simp [MSt.init])⟩
    · obtain ⟨rfl, rfl, _⟩ := hf _ _ _ h; exact ⟨rfl, rfl⟩
    · obtain ⟨rfl, rfl, _⟩ := ho _ _ _ h; exact ⟨rfl, rfl⟩
theorem call_sound (hm : P.follows .mixedOrders = true) {T : Nat → Option FnC} {ext : CallT} (hT : ∀ f c, T f = some c → FnOk P f c) (hext : ∀ f args S r, ext f args S = some r → CallOk P O f args S r) :
    ∀ N, (∀ f args S r, callN T ext N f args S = some r → CallOk P O f args S r) ∧ LpOk P O N (lpN T ext N)
  | 0 => by
    refine ⟨fun f args S r h => ?_, fun _ _ _ _ _ _ _ _ _ _ _ _ _ _ _ h _ _ => (by cases h)⟩
    unfold callN at h
    split at h
    · exact hext f args S r h
    · cases h
  | N + 1 => by
    obtain ⟨ih1, ih2⟩ := call_sound hm hT hext N
    refine ⟨fun f args S0 r h => ?_, fun boxes nt B F0 av0 w0 code b s k r a w Q hc h R hk => ?_⟩
    · unfold callN at h
      split at h
      · exact hext f args S0 r h
      · rename_i c hTc
        obtain ⟨henter, fn, hfn, hcF⟩ := hT f c hTc
        split at h
        · rename_i hlm
          obtain ⟨hlen, hmark⟩ := hlm
          unfold compF at hcF
          split at hcF
          · cases hcF
          · rename_i code hbody
            split at hcF
            · rename_i cc rr hcc hrr
              split at hcF
              · rename_i hcond
                injection hcF with hcF
                obtain ⟨mu, hmu⟩ : ∃ mu, mu = c.mu := ⟨_, rfl⟩
                rw [← hmu] at hcF hcc
                clear hmu
                subst hcF
                have hnp : fn.params.size ≤ fn.ntmps := by have := hcond.2; omega
                have ending : ∀ {F0 : Own} {av : Av} {w : World} {vs : List Value} {E : Ending → World → Prop},
                    RelE P O fn.ntmps w.heap.size F0 av w (fun _ => False) (MSt.init args S0) { tmps := vs.toArray ++ Array.replicate (fn.ntmps - vs.toArray.size) undef, defers := [] } w →
                    (∀ (s' : MSt) (a' : Act) (w' : World) (ι : Ix) (Θ : Fam) (us : List Value) (xs : List AV), Rel P O fn.ntmps w.heap.size F0 av w (fun _ => False) s' a' w' ι Θ → RepSL ι (avF s' (avA av ι Θ) ι) (avB ι Θ) w' xs us → finV S0 s' xs = some r → E (.returned (packV us)) w') → Calls P f vs.toArray w E := fun {F0 av w vs E} R hE => by
                  refine calls_of_wp hfn hbody ?_
                  refine code_sound hm ih1 ih2 code cc _ _ r _ w _ hcc h R fun e s' a' w' R' he => ?_
                  have hfin : e = .nrm ∨ e = .ret := by
                    cases e with
                    | nrm => exact .inl rfl
                    | ret => exact .inr rfl
                    | exit id => cases he
                  have he' : ∃ xs, resC s' rr = some xs ∧ finV S0 s' (xs.map (AV.frz s')) = some r := by
                    rcases hfin with rfl | rfl <;> exact Option.bind_eq_some_iff.1 he
                  obtain ⟨xs, hxs, hfv⟩ := he'
                  obtain ⟨ι, Θ, R'⟩ := R'
                  obtain ⟨us, hus, hT'⟩ := res_run R' hrr hxs
                  have hres : (results fn a'.tmps).run P w' = .ok (packV us) w' := by
                    have he : results fn a'.tmps = (do let vs ← fn.results.mapM (resOne a'.tmps); pure (if h : vs.size = 1 then vs[0] else .tuple vs)) := rfl
                    rw [he, Array.mapM_eq_mapM_toList]
                    simp only [Sem.run_bind, Sem.run_map, hus, Result.andThen_ok, Sem.run_pure]
                    rfl
                  have post : a'.defers = [] ∧ ∃ v, (results fn a'.tmps).run P w' = .ok v w' ∧ E (.returned v) w' := ⟨R'.defers, _, hres, hE s' a' w' ι Θ us _ R' (hT'.frz R') hfv⟩
                  rcases hfin with rfl | rfl <;> exact post
                refine (CallOk.of hmark).2 ⟨henter, ?_⟩
                obtain ⟨r1, r2⟩ := r
                cases S0 with
                | none =>
                  cases r2 with
                  | none =>
                    intro av w vs hav hargs
                    refine ending (init_none hargs hav hlen hnp) fun s' a' w' ι Θ us xs R' hs hfv => ?_
                    refine ⟨_, rfl, ?_, R'.kept.below⟩
                    simp only [finV] at hfv
                    split at hfv
                    · rename_i hall
                      injection hfv with hfv
                      injection hfv with hfv
                      subst hfv
                      exact pack_rep (hs.toT (fun b o h => ⟨.inl h, fun ⟨t, n, r, hm, hb⟩ => by
                        obtain ⟨_, b', cur, ty, hb', _, _, hBb, _⟩ := R'.rows t n r hm
                        rw [hb] at hb'
                        injection hb' with hb'
                        subst hb'
                        have := hav _ _ h
                        omega⟩) fun v hv => List.all_eq_true.1 hall v hv)
                    · split at hfv
                      · split at hfv
                        · split at hfv <;> cases hfv
                        · cases hfv
                      · cases hfv
                  | some S' =>
                    intro av w vs hav hargs
                    refine ending (init_none hargs hav hlen hnp) fun s' a' w' ι Θ us xs R' hs hfv => ?_
                    simp only [finV] at hfv
                    split at hfv
                    · cases hfv
                    · split at hfv
                      · rename_i t n _
                        split at hfv
                        · rename_i S hS
                          split at hfv
                          · rename_i hall
                            injection hfv with hfv
                            injection hfv with hfv1 hfv2
                            injection hfv2 with hfv2
                            subst hfv1
                            subst hfv2
                            obtain ⟨p, H, hp, hob, hat⟩ := R'.objs t n S hS
                            refine ⟨_, p, H, rfl, ?_, hat, fun b hb => (((R'.obs t n H hob).1 b hb).1).elim id False.elim, R'.kept.below⟩
                            have hall' : ∀ v ∈ xs, ((unname t n v).free || (unname t n v).isObj) = true := fun v hv => List.all_eq_true.1 hall _ (List.mem_map_of_mem hv)
                            refine pack_repN (hs.toO hp (fun b o h => ?_) hall') fun v hv => List.all_eq_true.1 hall v hv
                            refine ⟨?_, fun ⟨t', n', r, hm, hb⟩ => ?_⟩
                            · rcases h with h | h
                              · exact .inl h
                              · exact .inr (.inl (.inr ⟨t, n, H, hob, h⟩))
                            · obtain ⟨hno, b', cur, ty, hb', _, _, hBb, _⟩ := R'.rows t' n' r hm
                              rw [hb] at hb'
                              injection hb' with hb'
                              subst hb'
                              rcases h with h | h
                              · have := hav _ _ h
                                omega
                              · have e := ((R'.obs t n H hob).1 b h).2.2.1 t' n' hb
                                rw [e.1, e.2, hob] at hno
                                cases hno
                          · cases hfv
                        · cases hfv
                      · cases hfv
                | some S =>
                  cases r2 with
                  | none =>
                    trivial
                  | some S' =>
                    intro av w vs p H hav hH hat hargs
                    refine ending (init_some hargs hav hH hat hlen hnp) fun s' a' w' ι Θ us xs R' hs hfv => ?_
                    simp only [finV] at hfv
                    split at hfv
                    · rename_i hall
                      obtain ⟨S1, hS1, hfv⟩ := Option.map_eq_some_iff.1 hfv
                      injection hfv with hfv1 hfv2
                      injection hfv2 with hfv2
                      subst hfv1
                      subst hfv2
                      obtain ⟨p', H', hp, hob, hat'⟩ := R'.objs 0 0 S1 hS1
                      have hpp := (R'.pin p rfl).1
                      rw [hpp] at hp
                      injection hp with hp
                      subst hp
                      refine ⟨_, H', rfl, pack_rep (hs.toT (fun b o h => ?_) fun v hv => List.all_eq_true.1 hall v hv), hat', fun b hb => (((R'.obs 0 0 H' hob).1 b hb).1).symm, R'.kept⟩
                      refine ⟨?_, fun ⟨t', n', r, hm, hb⟩ => ?_⟩
                      · rcases h with h | h
                        · exact .inl h
                        · exact .inr (.inl (.inr ⟨0, 0, H', hob, h⟩))
                      · obtain ⟨hno, b', cur, ty, hb', _, _, hBb, _⟩ := R'.rows t' n' r hm
                        rw [hb] at hb'
                        injection hb' with hb'
                        subst hb'
                        rcases h with h | h
                        · have := hav _ _ h
                          omega
                        · have e := ((R'.obs 0 0 H' hob).1 b h).2.2.1 t' n' hb
                          rw [e.1, e.2, hob] at hno
                          cases hno
                    · cases hfv
              · cases hcF
            · cases hcF
        · cases h
    · unfold lpN at h
      rw [rounds_succ]
      refine code_sound hm ih1 ih2 code b s _ r a w _ hc h R fun e s' a' w' R' he => ?_
      cases e with
      | nrm => exact ih2 boxes nt B F0 av0 w0 code b s' k r a' w' Q hc he R' hk
      | exit id => exact hk _ _ _ _ R' he
      | ret => exact hk _ _ _ _ R' he
end
end Go.Proofs.Ytinpinjjdkilpaa
