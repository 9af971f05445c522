/- The operations, one by one: append, calls. -/
import Derived.Test.YtinpinjjdkilpaaEl
import Derived.Test.YtinpinjjdkilpaaEq
namespace Go.Proofs.Ytinpinjjdkilpaa
open Go Go.RowKit
section
variable {P : Program} {O : Objs} {nt B : Nat} {F0 : Own} {av0 : Av} {w0 : World} {D : Nat → Prop} {s : MSt} {a : Act} {w w' : World} {ι : Ix} {Θ : Fam} {o : Oper}
theorem chunks {α : Type} (sz : Nat) : ∀ (len : Nat) (L : List α), len * sz ≤ L.length → ((List.range len).map fun i => (L.drop (i * sz)).take sz).flatten = L.take (len * sz)
  | 0, L, _ => by simp
  | len + 1, L, h => by
    have h1 : len * sz ≤ L.length := by rw [Nat.succ_mul] at h; omega
    rw [List.range_succ, List.map_append, List.flatten_append, chunks sz len L h1]
    simp only [List.map_cons, List.map_nil, List.flatten_cons, List.flatten_nil, List.append_nil]
    rw [Nat.succ_mul, List.take_add]
theorem rowEls_read {av : Av} {r : List Slot} {cur : Array Value} (hrow : RowOk ι Θ av w r cur) {b : Nat} {ty : TypeId} (hb : w.heap[b]? = some (.cells cur ty (0, 0))) {sz off len : Nat} {m : List (List AV)} (h : rowEls r sz off len = some m) :
    m.length = len ∧ (∀ c ∈ m, c.length = sz) ∧ ∃ us, RepL av w m.flatten us ∧ ∀ (j : Nat) (u : Value), us[j]? = some u → w.cell? ⟨b, off + j, none⟩ = some u := by
  unfold rowEls at h
  split at h
  · rename_i hc
    injection h with h
    subst h
    have hfree : ∀ x ∈ r.map (·.v), x.free0 = true := fun x hx => by
      obtain ⟨y, hy, rfl⟩ := List.mem_map.1 hx
      exact List.all_eq_true.1 hc.2 y hy
    have hflat : ((List.range len).map fun i => ((r.drop (off + i * sz)).take sz).map (·.v)).flatten = ((r.map (·.v)).drop off).take (len * sz) := by
      rw [← chunks sz len _ (by simp; omega)]
      congr 1
      apply List.map_congr_left
      intro i _
      rw [List.drop_drop, List.map_take, List.map_drop]
    have hrep := RepCL_take (len * sz) (RepCL_drop off hrow.rep)
    refine ⟨by simp, fun c hcm => ?_, (cur.toList.drop off).take (len * sz), ?_, fun j u hu => ?_⟩
    · obtain ⟨i, hi, rfl⟩ := List.mem_map.1 hcm
      have hi' : i < len := by simpa using hi
      have : (i + 1) * sz ≤ len * sz := Nat.mul_le_mul_right _ hi'
      rw [Nat.succ_mul] at this
      simp
      omega
    · rw [hflat]
      exact RepL_ofCL hrep fun x hx => hfree x (List.mem_of_mem_drop (List.mem_of_mem_take hx))
    · rw [cell_of_row w b (off + j) cur ty (0, 0) hb]
      rw [List.getElem?_take] at hu
      split at hu
      · simpa [List.getElem?_drop] using hu
      · cases hu
  · cases h
/-- what the elements of a slice are in memory -/
theorem elems_sl (R : Rel P O nt B F0 av0 w0 D s a w ι Θ) {v : Value} {y : AV} (hY : RepS ι (avA av0 ι Θ) (avB ι Θ) w y v) {cl : Cl} {m : List (List AV)} (h : y.elems s cl = some m) {sz : Nat} (hpos : 0 < sz) (hsz : ∀ c ∈ m, c.length = sz) :
    ∃ us, RepL (avA av0 ι Θ) w m.flatten us ∧ Sl (fun _ => False) w sz v m.length us := by
  have hflen : m.flatten.length = m.length * sz := by
    clear h hY
    induction m with
    | nil => simp
    | cons c r ih => rw [List.flatten_cons, List.length_append, hsz c (by simp), ih (fun c hc => hsz c (by simp [hc])), List.length_cons, Nat.succ_mul]; omega
  have hlen : ∀ {av : Av} {us : List Value}, RepL av w m.flatten us → us.length = m.length * sz := fun h => by
    have := RepCL_length (RepCL_ofL (ι := ι) h)
    omega
  cases y with
  | sl nil l =>
    injection h with h
    subst h
    rw [repS_sl] at hY
    simp only [Rep] at hY
    obtain ⟨A, c, hv, hc, _, hn, hs⟩ := hY
    rcases Nat.eq_zero_or_pos l.length with h0 | h0
    · have : l = [] := List.eq_nil_of_length_eq_zero h0
      subst this
      exact ⟨[], rfl, by simp, A, c, hv, hc, fun h => by simp at h⟩
    · cases nil with
      | true => have := (hn rfl).2.1; omega
      | false =>
        obtain ⟨b, off, rfl, hrow⟩ := (hs rfl).2 h0
        obtain ⟨us, hl, hus⟩ := Cells_read (Rows_flat.1 hrow)
        refine ⟨us, hl, hlen hl, _, c, hv, hc, fun _ => ⟨b, off, rfl, ?_, fun h => h, fun j u hu => (hus j u hu).1⟩⟩
        have hp : 0 < us.length := by rw [hlen hl]; exact Nat.mul_pos h0 hpos
        exact cell_lt (hus 0 us[0] (List.getElem?_eq_getElem hp)).1
  | bl l =>
    injection h with h
    subst h
    obtain ⟨a', c, hv, hc, _, hs⟩ := hY
    rcases Nat.eq_zero_or_pos l.length with h0 | h0
    · have : l = [] := List.eq_nil_of_length_eq_zero h0
      subst this
      exact ⟨[], rfl, by simp, some a', c, hv, hc, fun h => by simp at h⟩
    · obtain ⟨b, off, rfl, hrow⟩ := hs h0
      obtain ⟨us, hl, hus⟩ := CellsB_read (RowsB_flat.1 hrow)
      refine ⟨us, hl, hlen hl, _, c, hv, hc, fun _ => ⟨b, off, rfl, ?_, fun h => h, fun j u hu => (hus j u hu).1⟩⟩
      have hp : 0 < us.length := by rw [hlen hl]; exact Nat.mul_pos h0 hpos
      exact cell_lt (hus 0 us[0] (List.getElem?_eq_getElem hp)).1
  | ref t n sz' off len cap =>
    simp only [AV.elems] at h
    split at h
    · cases hm : s.mem t n with
      | none => rw [hm] at h; cases h
      | some r =>
        rw [hm, Option.bind_some] at h
        obtain ⟨b, hb, hle, hv⟩ := repS_ref.1 hY
        obtain ⟨hnob, b', cur, ty, hb', hheap, hrow⟩ := R.rows t n r hm
        rw [hb] at hb'
        injection hb' with hb'
        subst hb'
        obtain ⟨h1, h2, us, hl, hus⟩ := rowEls_read hrow hheap h
        subst h1
        exact ⟨us, hl, hlen hl, _, cap, hv, hle, fun _ => ⟨b, off, rfl, lt_of_heap hheap, fun h => h, hus⟩⟩
    · cases h
  | _ => simp [AV.elems] at h
/-- append: nothing new, or into the block's spare cells, or into a new block -/
theorem append_room {t e : TypeId} {i : TypeInfo} {z : Value} (ht : P.underlying t = some (.slice e)) (hi : P.info? e = some i) (ty : TypeId) {g n c : Nat} {cur : Array Value} (hg : w.heap[g]? = some (.cells cur e (0, 0))) (hcur : cur.size = c * i.size) (_hz : i.zero = some z)
    {src : Value} {m : Nat} {news : List Value} (hs : Sl (fun _ => False) w i.size src m news) (h1 : ∀ u ∈ news, u.oneCell' = true) (hle : n + m ≤ c) :
    (Builtin.append_ #[t, t] ty #[.slice (some ⟨g, 0, none⟩) n c, src]).run P w = .ok (.slice (some ⟨g, 0, none⟩) (n + m) c) (w.setRow g (cur.toList.take (n * i.size) ++ news ++ cur.toList.drop (n * i.size + news.length)).toArray) := by
  obtain ⟨hl, A, c', rfl, hc, hcell⟩ := hs
  have hfit : n * i.size + news.length ≤ cur.size := by rw [hl, hcur, ← Nat.add_mul]; exact Nat.mul_le_mul_right _ hle
  cases A with
  | none =>
    have hm : m = 0 := by
      rcases Nat.eq_zero_or_pos m with h | h
      · exact h
      · obtain ⟨b, off, hA, _⟩ := hcell h; cases hA
    subst hm
    have hnn : news = [] := List.eq_nil_of_length_eq_zero (by simpa using hl)
    subst hnn
    simp only [Nat.add_zero] at hle
    have hself : w.setRow g (cur.toList.take (n * i.size) ++ [] ++ cur.toList.drop (n * i.size + ([] : List Value).length)).toArray = w := by
      simp only [List.append_nil, List.length_nil, Nat.add_zero, List.take_append_drop, Array.toArray_toList]
      exact setRow_self w g cur e (0, 0) hg
    rw [hself]
    simp [Builtin.append_, run_underlying ht, sizeOf, typeInfo, hi, Builtin.lenOf, Builtin.firstCells, hle, storeCells]
  | some a =>
    refine run_append_room (P := P) w t ty e i ht hi g n c cur hg a m c' news hl (fun j u hu => ?_) h1 hle hfit
    have hm : 0 < m := by
      rcases Nat.eq_zero_or_pos m with h | h
      · subst h; have := (List.getElem?_eq_some_iff.1 hu).1; omega
      · exact h
    obtain ⟨b, off, hA, _, _, hcl⟩ := hcell hm
    injection hA with hA
    subst hA
    rw [Addr.add_lit]
    exact hcl j u hu
theorem append_zero {t e : TypeId} {i : TypeInfo} (ht : P.underlying t = some (.slice e)) (hi : P.info? e = some i) (ty : TypeId) {A : Option Addr} {n c : Nat} (hle : n ≤ c) {src : Value} {news : List Value} (hs : Sl (fun _ => False) w i.size src 0 news) :
    (Builtin.append_ #[t, t] ty #[.slice A n c, src]).run P w = .ok (.slice A n c) w := by
  obtain ⟨hl, A', c', rfl, hc, hcell⟩ := hs
  cases A' <;> cases A <;> simp [Builtin.append_, run_underlying ht, sizeOf, typeInfo, hi, Builtin.lenOf, Builtin.firstCells, hle, storeCells, loadCells, loadCellsFrom]
def grewW (w : World) (xs news : List Value) (z : Value) (e : TypeId) (need c : Nat) : World := w.drew.alloc (.cells (xs.toArray ++ news.toArray ++ Builtin.zeroCells z.cells (grownCap w need c e - need)) e)
theorem append_grow {t e : TypeId} {i : TypeInfo} {z : Value} (ht : P.underlying t = some (.slice e)) (hi : P.info? e = some i) (hz : i.zero = some z) (ty : TypeId) {A : Option Addr} {n c : Nat} {xs : List Value} (hxs : xs.length = n * i.size) (hA : A = none → n = 0 ∧ c = 0) (hx : ∀ a, A = some a → ∀ j u, xs[j]? = some u → w.cell? (a.add j) = some u)
    {src : Value} {m : Nat} {news : List Value} (hs : Sl (fun _ => False) w i.size src m news) (hlt : c < n + m) (hnc : n ≤ c) (h63 : n + m ≤ 140737488355328) (hbytes : (n + m) * i.bytes ≤ 140737488355328) :
    (Builtin.append_ #[t, t] ty #[.slice A n c, src]).run P w = .ok (.slice (some ⟨w.heap.size, 0, none⟩) (n + m) (grownCap w (n + m) c e)) (grewW w xs news z e (n + m) c) := by
  obtain ⟨hl, A', c', rfl, hc, hcell⟩ := hs
  have hm : 0 < m := by omega
  obtain ⟨b, off, rfl, _, _, hcl⟩ := hcell hm
  have hnews : ∀ j u, news[j]? = some u → w.cell? ((⟨b, off, none⟩ : Addr).add j) = some u := fun j u hu => by rw [Addr.add_lit]; exact hcl j u hu
  cases A with
  | none =>
    obtain ⟨rfl, rfl⟩ := hA rfl
    have hx0 : xs = [] := List.eq_nil_of_length_eq_zero (by simpa using hxs)
    subst hx0
    have := run_append_nil (P := P) w t ty e i z ht hi hz ⟨b, off, none⟩ m c' news hl hnews hm (by omega) (by rw [Nat.zero_add] at hbytes; omega)
    simpa [grewW] using this
  | some a =>
    exact run_append_grow (P := P) w t ty e i z ht hi hz a n c xs hxs (hx a rfl) ⟨b, off, none⟩ m c' news hl hnews hlt (by omega) (growslice_fits (by omega) hbytes)

theorem Rel.fam (R : Rel P O nt B F0 av0 w0 D s a w ι Θ) (Θ' : Fam) (f : An → An) (hav : ∀ b o, avB ι Θ' b o → avB ι Θ b o) (han : ∀ A v, AnOk Θ A v → AnOk Θ' (f A) v)
    (tok : ∀ k o, Θ' k = some o → B ≤ o.g ∧ 0 < o.sz ∧ o.n ≤ o.c ∧ o.c ≤ maxLen ∧ ∃ cur, w.heap[o.g]? = some (.cells cur o.e (0, 0)) ∧ (cur.size = o.c * o.sz ∧ tSize P o.e = some o.sz)) (tinj : ∀ k k' o o', Θ' k = some o → Θ' k' = some o' → o.g = o'.g → k = k') (apart : ∀ k o t n, Θ' k = some o → ι t n ≠ some o.g)
    (apob : ∀ k o t n H, Θ' k = some o → ι.ob t n = some H → ¬ H o.g) :
    Rel P O nt B F0 av0 w0 D (s.mapAn f) a w ι Θ' := by
  have hB : Held (avB ι Θ) (avB ι Θ') w w := Held.less hav
  have hA : Held (avA av0 ι Θ) (avA av0 ι Θ') w w := Held.less fun b o h => h.imp id (hav b o)
  refine ⟨R.defers, R.size, fun t => RepS.held (fun _ _ _ h => h) hA hB _ _ (R.env t), fun t => han _ _ (R.ann t), fun t n r hr => ?_, R.mine, R.inj, tok, tinj, apart, R.out, R.pin, R.kept, R.base, R.objs, fun t n H h => ?_⟩
  · simp only [MSt.mapAn] at hr
    cases hm : s.mem t n with
    | none => rw [hm] at hr; cases hr
    | some r0 =>
      rw [hm] at hr
      injection hr with hr
      subst hr
      obtain ⟨h0, b, cur, ty, h1, h2, h3, h4⟩ := R.rows t n r0 hm
      refine ⟨h0, b, cur, ty, h1, h2, by simpa using h3, fun j x hx => ?_⟩
      rw [List.getElem?_map] at hx
      cases hj : r0[j]? with
      | none => rw [hj] at hx; cases hx
      | some y =>
        rw [hj] at hx
        injection hx with hx
        subst hx
        obtain ⟨u, hu, h5, h6, h7⟩ := h4 j y hj
        exact ⟨u, hu, h5, RepC.held (fun _ _ _ h => h) hA _ _ h6, han _ _ h7⟩
  · obtain ⟨h1, h2⟩ := R.obs t n H h
    exact ⟨fun b hb => let ⟨g1, g2, g3, _, g5⟩ := h1 b hb; ⟨g1, g2, g3, fun k o hk e => apob k o t n H hk h (e ▸ hb), g5⟩, h2⟩
/-- the spare cells of a family's block are written -/
theorem Rel.spare (R : Rel P O nt B F0 av0 w0 D s a w ι Θ) {k : Nat} {ow : Ow} (hk : Θ k = some ow) {cur new : Array Value} (hcur : w.heap[ow.g]? = some (.cells cur ow.e (0, 0))) (hsz : new.size = cur.size) (hsame : ∀ j, j < ow.n * ow.sz → new[j]? = cur[j]?) :
    Rel P O nt B F0 av0 w0 D s a (w.setRow ow.g new) ι Θ := by
  have hne : ∀ b', b' ≠ ow.g → (w.setRow ow.g new).heap[b']? = w.heap[b']? := fun b' h => setRow_other w ow.g b' new h
  have hat : (w.setRow ow.g new).heap[ow.g]? = some (.cells new ow.e (0, 0)) := setRow_heap w ow.g cur new ow.e (0, 0) hcur
  have hkeep : ∀ b o u, w.cell? ⟨b, o, none⟩ = some u → (b = ow.g → o < ow.n * ow.sz) → (w.setRow ow.g new).cell? ⟨b, o, none⟩ = some u := fun b o u hc hlt => by
    by_cases hb : b = ow.g
    · subst hb
      rw [cell_of_row _ ow.g o new ow.e (0, 0) hat, hsame o (hlt rfl), ← cell_of_row w ow.g o cur ow.e (0, 0) hcur]
      exact hc
    · exact (World.cell?_of_block (w := w) (a := ⟨b, o, none⟩) (hne b hb)).trans hc
  have hB : Held (avB ι Θ) (avB ι Θ) w (w.setRow ow.g new) := ⟨fun b o u hc hn => ⟨hkeep b o u hc fun e => by
    rcases Nat.lt_or_ge o (ow.n * ow.sz) with h | h
    · exact h
    · exact absurd (.inr ⟨k, ow, hk, e.symm, h⟩) hn, hn⟩⟩
  have hA : Held (avA av0 ι Θ) (avA av0 ι Θ) w (w.setRow ow.g new) := ⟨fun b o u hc hn => ⟨hkeep b o u hc fun e => by
    rcases Nat.lt_or_ge o (ow.n * ow.sz) with h | h
    · exact h
    · exact absurd (.inr (.inr ⟨k, ow, hk, e.symm, h⟩)) hn, hn⟩⟩
  refine ⟨R.defers, R.size, fun t => RepS.held (fun _ _ _ h => h) hA hB _ _ (R.env t), R.ann, fun t n r hr => ?_, fun t n b h => ?_, R.inj, fun j o h => ?_, R.tinj, R.apart, R.out, R.pin, ?_, R.base, fun t n S h => ?_, fun t n H h => (R.obs t n H h).grow (by simp)⟩
  · obtain ⟨h0, b, cur', ty, h1, h2, h3⟩ := R.rows t n r hr
    have : b ≠ ow.g := fun e => R.apart k ow t n hk (e ▸ h1)
    exact ⟨h0, b, cur', ty, h1, (hne b this).trans h2, h3.held (fun _ _ _ h => h) hA (fun _ _ h => h)⟩
  · obtain ⟨h1, h2, h3⟩ := R.mine t n b h
    exact ⟨h1, by simpa using h2, h3⟩
  · obtain ⟨h1, h2, h3, h4, cur', h5, h6⟩ := R.tok j o h
    by_cases hg : o.g = ow.g
    · have := R.tinj _ _ _ _ h hk hg
      subst this
      rw [hk] at h
      injection h with h
      subst h
      rw [hcur] at h5
      injection h5 with h5
      injection h5 with h5
      subst h5
      exact ⟨h1, h2, h3, h4, new, hat, hsz.trans h6.1, h6.2⟩
    · exact ⟨h1, h2, h3, h4, cur', (hne _ hg).trans h5, h6⟩
  · have := (R.tok k ow hk).1
    have hb := R.base
    exact R.kept.setRow (fun hlt => by omega) _
  · obtain ⟨p, H, h1, h2, h3⟩ := R.objs t n S h
    exact ⟨p, H, h1, h2, O.keep h3 (fun b' hH => hne b' fun e => (((R.obs _ _ _ h2).1 _ hH).2.2.2.1 k ow hk) e.symm) (by simp)⟩
/-- a new block that the family d owns -/
theorem Rel.fresh (R : Rel P O nt B F0 av0 w0 D s a w ι Θ) {d : Nat} (hd : Θ d = none) {cur : Array Value} {e : TypeId} {n c sz : Nat} (hcur : cur.size = c * sz) (hsz : 0 < sz) (hn : n ≤ c) (hc : c ≤ maxLen) (htz : tSize P e = some sz) :
    Rel P O nt B F0 av0 w0 D s a (w.drew.alloc (.cells cur e)) ι (fun j => if j = d then some ⟨w.heap.size, n, c, sz, e⟩ else Θ j) := by
  have hblk : ∀ b, b < w.heap.size → (w.drew.alloc (.cells cur e)).heap[b]? = w.heap[b]? := fun b hb => Below.heap_alloc w.drew _ b hb
  have hBx : ∀ b o, b < w.heap.size → avB ι (fun j => if j = d then some ⟨w.heap.size, n, c, sz, e⟩ else Θ j) b o → avB ι Θ b o := fun b o hb h => h.imp id fun ⟨k, ow, h, h1, h2⟩ => by
    by_cases e : k = d
    · simp only [if_pos e] at h; injection h with h; subst h; simp only at h1; omega
    · simp only [if_neg e] at h; exact ⟨k, ow, h, h1, h2⟩
  have hB : Held (avB ι Θ) (avB ι (fun j => if j = d then some ⟨w.heap.size, n, c, sz, e⟩ else Θ j)) w (w.drew.alloc (.cells cur e)) := Held.grown hblk hBx
  have hA : Held (avA av0 ι Θ) (avA av0 ι (fun j => if j = d then some ⟨w.heap.size, n, c, sz, e⟩ else Θ j)) w (w.drew.alloc (.cells cur e)) := Held.grown hblk fun b o hb h => h.imp id (hBx b o hb)
  have hΘ : ∀ k o, Θ k = some o → (fun j => if j = d then some ⟨w.heap.size, n, c, sz, e⟩ else Θ j) k = some o := fun k o h => by
    by_cases e : k = d
    · subst e; rw [hd] at h; cases h
    · simp only [if_neg e]; exact h
  have han : ∀ A v, AnOk Θ A v → AnOk (fun j => if j = d then some ⟨w.heap.size, n, c, sz, e⟩ else Θ j) A v := fun A v h => by
    cases A with
    | no => trivial
    | ex => exact h
    | own k e' => exact h.imp id fun ⟨ow, h1, h2⟩ => ⟨ow, hΘ _ _ h1, h2⟩
  have hsize : w.heap.size ≤ (w.drew.alloc (.cells cur e)).heap.size := by
    have : (w.drew.alloc (.cells cur e)).heap.size = w.drew.heap.size + 1 := World.size_alloc _ _
    have h4 : w.drew.heap.size = w.heap.size := rfl
    omega
  refine ⟨R.defers, R.size, fun t => RepS.held (fun _ _ _ h => h) hA hB _ _ (R.env t), fun t => han _ _ (R.ann t), fun t n r hr => ?_, fun t n b h => ?_, R.inj, fun j o h => ?_, fun k k' o o' h h' hg => ?_, fun k o t n h h' => ?_, R.out, R.pin, R.kept.drew.alloc _, R.base, fun t n S h => ?_, fun t n H h => ?_⟩
  · obtain ⟨h0, b, cur', ty, h1, h2, h3⟩ := R.rows t n r hr
    exact ⟨h0, b, cur', ty, h1, (hblk b (lt_of_heap h2)).trans h2, h3.held (fun _ _ _ h => h) hA hΘ⟩
  · obtain ⟨h1, h2, h3⟩ := R.mine t n b h
    exact ⟨h1, by omega, h3⟩
  · by_cases e' : j = d
    · simp only [if_pos e'] at h
      injection h with h
      subst h
      exact ⟨R.lowB, hsz, hn, hc, cur, new_at rfl, hcur, htz⟩
    · simp only [if_neg e'] at h
      obtain ⟨h1, h2, h3, h4, cur', h5, h6⟩ := R.tok j o h
      exact ⟨h1, h2, h3, h4, cur', (hblk _ (lt_of_heap h5)).trans h5, h6⟩
  · by_cases e1 : k = d <;> by_cases e2 : k' = d
    · rw [e1, e2]
    · simp only [if_pos e1] at h; simp only [if_neg e2] at h'
      injection h with h; subst h
      obtain ⟨_, _, _, _, cur', h5, _⟩ := R.tok _ _ h'
      have := lt_of_heap h5
      simp only at hg; omega
    · simp only [if_neg e1] at h; simp only [if_pos e2] at h'
      injection h' with h'; subst h'
      obtain ⟨_, _, _, _, cur', h5, _⟩ := R.tok _ _ h
      have := lt_of_heap h5
      simp only at hg; omega
    · simp only [if_neg e1] at h; simp only [if_neg e2] at h'
      exact R.tinj _ _ _ _ h h' hg
  · by_cases e' : k = d
    · simp only [if_pos e'] at h
      injection h with h
      subst h
      have := (R.mine _ _ _ h').2.1
      simp only at this; omega
    · simp only [if_neg e'] at h
      exact R.apart k o t n h h'
  · obtain ⟨p, H, h1, h2, h3⟩ := R.objs t n S h
    exact ⟨p, H, h1, h2, O.keep h3 (fun b' hH => hblk b' (O.lt h3 hH)) hsize⟩
  · obtain ⟨h1, h2⟩ := R.obs t n H h
    refine ⟨fun b hb => ?_, h2⟩
    obtain ⟨g1, g2, g3, g4, g5⟩ := h1 b hb
    refine ⟨g1, by omega, g3, fun k o hk => ?_, g5⟩
    by_cases e' : k = d
    · simp only [if_pos e'] at hk
      injection hk with hk
      subst hk
      simp only
      omega
    · simp only [if_neg e'] at hk
      exact g4 k o hk
end
end Go.Proofs.Ytinpinjjdkilpaa
