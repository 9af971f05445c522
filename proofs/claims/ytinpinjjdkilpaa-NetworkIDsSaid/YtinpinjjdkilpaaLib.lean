/- Words for memory that all walks of this seat use: worlds that keep all but some blocks, slices that read as lists, maps that read as lists of pairs. No function of the program. -/
import Derived.Test.YtinpinjjdkilpaaRows
import Derived.WalkKit
import Derived.WalkSpells
import Derived.WalkLawsBesides
import Derived.Handy
import Derived.Maps.AppendAt
namespace Go.Proofs.Ytinpinjjdkilpaa
open Go.RowKit

/-- All that was there, but the blocks of F, is as it was. -/
structure Keep (F : Nat → Prop) (w w' : World) : Prop where
  os : w'.os = w.os
  tape : w'.tape = w.tape
  output : w'.output = w.output
  size : w.heap.size ≤ w'.heap.size
  block : ∀ k, k < w.heap.size → ¬ F k → w'.heap[k]? = w.heap[k]?

section
variable {F G : Nat → Prop} {w w1 w2 : World}
theorem Keep.refl (F : Nat → Prop) (w : World) : Keep F w w := ⟨rfl, rfl, rfl, Nat.le_refl _, fun _ _ _ => rfl⟩
theorem Keep.trans (h : Keep F w w1) (k : Keep G w1 w2) (hG : ∀ i, i < w.heap.size → G i → F i) : Keep F w w2 :=
  ⟨k.os.trans h.os, k.tape.trans h.tape, k.output.trans h.output, Nat.le_trans h.size k.size, fun i hi hF =>
    (k.block i (Nat.lt_of_lt_of_le hi h.size) (fun g => hF (hG i hi g))).trans (h.block i hi hF)⟩
theorem Keep.mono (h : Keep F w w1) (hG : ∀ i, i < w.heap.size → F i → G i) : Keep G w w1 :=
  ⟨h.os, h.tape, h.output, h.size, fun i hi hg => h.block i hi fun hf => hg (hG i hi hf)⟩
theorem Keep.of_below (h : Below w.heap.size w w1) (F : Nat → Prop) : Keep F w w1 := ⟨h.os, h.tape, h.output, h.size, fun k hk _ => h.block k hk⟩
theorem Keep.below (h : Keep (fun _ => False) w w1) : Below w.heap.size w w1 := ⟨h.os, h.tape, h.output, h.size, fun k hk => h.block k hk id⟩
/-- From a block number B on everything may have turned. -/
theorem Keep.below_of {B : Nat} (h : Keep F w w1) (hB : B ≤ w.heap.size) (hF : ∀ i, F i → B ≤ i) : Below B w w1 :=
  ⟨h.os, h.tape, h.output, h.size, fun k hk => h.block k (by omega) fun hf => by have := hF k hf; omega⟩
theorem Keep.alloc (h : Keep F w w1) (o : Obj) : Keep F w (w1.alloc o) :=
  ⟨h.os, h.tape, h.output, by have := h.size; simp; omega, fun k hk hF => (Below.heap_alloc w1 o k (Nat.lt_of_lt_of_le hk h.size)).trans (h.block k hk hF)⟩
theorem Keep.drew (h : Keep F w w1) : Keep F w w1.drew := ⟨h.os, h.tape, h.output, h.size, h.block⟩
theorem Keep.setCell (h : Keep F w w1) {a : Addr} (ha : a.block < w.heap.size → F a.block) (u : Value) : Keep F w (w1.setCell a u) :=
  ⟨h.os, h.tape, h.output, by have := h.size; simpa [World.setCell] using this, fun k hk hF =>
    (Below.heap_setCell w1 a u k (fun e => hF (e ▸ ha (e ▸ hk)))).trans (h.block k hk hF)⟩
theorem Keep.trans_below (h : Keep F w w1) (k : Below w1.heap.size w1 w2) : Keep F w w2 := h.trans (Keep.of_below k (fun _ => False)) (fun _ _ h => h.elim)
theorem Keep.grown (h : Keep F w w1) {row : Option Nat} (hg : w1.grownBy w2 row) (hr : ∀ k, k < w.heap.size → row = some k → F k) : Keep F w w2 :=
  ⟨hg.os.trans h.os, hg.tape.trans h.tape, hg.output.trans h.output, Nat.le_trans h.size hg.size, fun k hk hF =>
    (hg.block k (Nat.lt_of_lt_of_le hk h.size) (fun e => hF (hr k hk e.symm))).trans (h.block k hk hF)⟩
theorem Keep.cell (h : Keep F w w1) {a : Addr} (ha : a.block < w.heap.size) (hF : ¬ F a.block) : w1.cell? a = w.cell? a := World.cell?_of_block (w := w) (h.block _ ha hF)
theorem Keep.frozen (h : Keep F w w1) {a : Addr} (ha : a.block < w.heap.size) (hF : ¬ F a.block) : w1.frozen? a = w.frozen? a := World.frozen?_of_block (w := w) (h.block _ ha hF)
end

/-- a fact kept from the walk -/
theorem hid {p : Prop} (h : p) : Hid p := h

theorem lt_of_heap {w : World} {k : Nat} {o : Obj} (h : w.heap[k]? = some o) : k < w.heap.size := by
  rcases Nat.lt_or_ge k w.heap.size with h' | h'
  · exact h'
  · rw [Array.getElem?_eq_none h'] at h; cases h

theorem Keep.at_ {F : Nat → Prop} {w w1 : World} (h : Keep F w w1) {a : Addr} {v : Value} (hc : w.cell? a = some v) (hF : ¬ F a.block) : w1.cell? a = some v := (h.cell (World.block_lt_of_cell? w a hc) hF).trans hc
theorem Keep.fz {F : Nat → Prop} {w w1 : World} (h : Keep F w w1) {a : Addr} (hc : w.frozen? a = false) (hl : a.block < w.heap.size) (hF : ¬ F a.block) : w1.frozen? a = false := (h.frozen hl hF).trans hc
theorem bcell {w w1 : World} (hb : Below w.heap.size w w1) : ∀ b o, b < w.heap.size → w1.cell? ⟨b, o, none⟩ = w.cell? ⟨b, o, none⟩ := fun b o h => hb.cell (p := ⟨b, o, none⟩) h
theorem undrew {w w1 : World} (h : Below w.drew.heap.size w.drew w1) : Below w.heap.size w w1 := ⟨h.os, h.tape, h.output, h.size, h.block⟩
theorem new_at {w : World} {o : Obj} {n : Nat} (h : n = w.heap.size) : (w.alloc o).heap[n]? = some o := by rw [h]; exact heap_alloc_new w o
/-- A slice value that reads as the cells cs: n elements of sz cells each, in a block that is not one of av. -/
def Sl (av : Nat → Prop) (w : World) (sz : Nat) (v : Value) (n : Nat) (cs : List Value) : Prop :=
  cs.length = n * sz ∧ ∃ A c, v = .slice A n c ∧ n ≤ c ∧
    (0 < n → ∃ b off, A = some ⟨b, off, none⟩ ∧ b < w.heap.size ∧ ¬ av b ∧ ∀ j u, cs[j]? = some u → w.cell? ⟨b, off + j, none⟩ = some u)

section
variable {av av' : Nat → Prop} {w w' : World} {sz n : Nat} {v : Value} {cs : List Value}
theorem Sl.nil (av : Nat → Prop) (w : World) (sz : Nat) : Sl av w sz (.slice none 0 0) 0 [] := ⟨by simp, none, 0, rfl, Nat.le_refl _, fun h => absurd h (by omega)⟩
theorem Sl.keep {F : Nat → Prop} (h : Sl av w sz v n cs) (hk : Keep F w w') (hF : ∀ b, b < w.heap.size → F b → av b) : Sl av w' sz v n cs := by
  obtain ⟨hl, A, c, rfl, hc, hn⟩ := h
  refine ⟨hl, A, c, rfl, hc, fun h0 => ?_⟩
  obtain ⟨b, off, rfl, hb, hav, hcell⟩ := hn h0
  exact ⟨b, off, rfl, Nat.lt_of_lt_of_le hb hk.size, hav, fun j u hu => (hk.cell (a := ⟨b, off + j, none⟩) hb (fun f => hav (hF b hb f))).trans (hcell j u hu)⟩
theorem Sl.below (h : Sl av w sz v n cs) (hk : Below w.heap.size w w') : Sl av w' sz v n cs := h.keep (Keep.of_below hk (fun _ => False)) (fun _ _ h => h.elim)
theorem Sl.avoid (h : Sl av w sz v n cs) (ha : ∀ b, b < w.heap.size → av' b → av b) : Sl av' w sz v n cs := by
  obtain ⟨hl, A, c, rfl, hc, hn⟩ := h
  refine ⟨hl, A, c, rfl, hc, fun h0 => ?_⟩
  obtain ⟨b, off, rfl, hb, hav, hcell⟩ := hn h0
  exact ⟨b, off, rfl, hb, fun f => hav (ha b hb f), hcell⟩
theorem Sl.of_own {base : Nat} {e : TypeId} (h : w.ownsRow base e sz v n cs) (hav : ∀ b, v.ownBlock = some b → ¬ av b) : Sl av w sz v n cs := by
  have hl := h.1
  rcases h.2 with ⟨rfl, rfl⟩ | ⟨g, cap, cur, rfl, hb, hg, hnc, _⟩
  · exact ⟨hl, none, 0, rfl, Nat.le_refl _, fun h => absurd h (by omega)⟩
  · refine ⟨hl, some ⟨g, 0, none⟩, cap, rfl, hnc, fun _ => ⟨g, 0, rfl, lt_of_heap hg, hav g rfl, fun j u hu => ?_⟩⟩
    have := h.cells (g := g) rfl j u hu
    rw [Addr.add_lit] at this
    exact this
theorem Sl.len (h : Sl av w sz v n cs) : cs.length = n * sz := h.1
/-- the empty one -/
theorem Sl.zero (av : Nat → Prop) (w : World) (sz : Nat) (A : Option Addr) (c : Nat) : Sl av w sz (.slice A 0 c) 0 [] := ⟨by simp, A, c, rfl, Nat.zero_le _, fun h => absurd h (by omega)⟩
end

/-- What an owned row is kept over. -/
theorem own_keep {w w' : World} {F : Nat → Prop} {base : Nat} {e : TypeId} {size n : Nat} {v : Value} {xs : List Value} (h : w.ownsRow base e size v n xs) (hk : Keep F w w') (hF : ∀ b, v.ownBlock = some b → ¬ F b) : w'.ownsRow base e size v n xs := by
  refine ⟨h.1, ?_⟩
  rcases h.2 with h2 | ⟨g, cap, cur, rfl, hb, hg, r⟩
  · exact .inl h2
  · exact .inr ⟨g, cap, cur, rfl, hb, by rw [hk.block g (lt_of_heap hg) (hF g rfl)]; exact hg, r⟩
theorem own_lt {w : World} {base : Nat} {e : TypeId} {size n : Nat} {v : Value} {xs : List Value} (h : w.ownsRow base e size v n xs) {b : Nat} (hb : v.ownBlock = some b) : b < w.heap.size := (h.lt b hb).2
/-- An owned row and a block of another make lie apart. -/
theorem own_ne {w : World} {base : Nat} {e : TypeId} {size n : Nat} {v : Value} {xs : List Value} {k : Nat} {o : Obj} (h : w.ownsRow base e size v n xs) (hk : w.heap[k]? = some o) (ho : ∀ cs f, o ≠ .cells cs e f) : v.ownBlock ≠ some k := by
  rcases h.2 with ⟨rfl, _⟩ | ⟨g, cap, cur, rfl, hb, hg, r⟩
  · simp [Value.ownBlock]
  · intro e1
    simp only [Value.ownBlock, Option.some.injEq] at e1
    subst e1
    rw [hk] at hg
    exact ho _ _ (by injection hg)
/-- The first k of an owned row. -/
theorem own_take {w : World} {base : Nat} {e : TypeId} {size n : Nat} {g cap : Nat} {xs : List Value} (h : w.ownsRow base e size (.slice (some ⟨g, 0, none⟩) n cap) n xs) {k : Nat} (hk : k ≤ n) : w.ownsRow base e size (.slice (some ⟨g, 0, none⟩) k cap) k (xs.take (k * size)) := by
  rcases h.2 with ⟨h2, _⟩ | ⟨g', cap', cur, h3, hb, hg, hnc, hm, hs, ht⟩
  · cases h2
  · injection h3 with h4 h5 h6
    injection h4 with h4
    injection h4 with h4
    subst h4; subst h6
    have hx := h.1
    have hle : k * size ≤ n * size := Nat.mul_le_mul_right _ hk
    refine ⟨by rw [List.length_take, hx]; omega, .inr ⟨g, cap, cur, rfl, hb, hg, by omega, hm, hs, ?_⟩⟩
    rw [← ht, List.take_take, Nat.min_eq_left hle]

/-- append onto an owned row, whatever slice the new elements come from: what comes back, what is kept, where it lies -/
theorem append_sl {P : Program} {av : Nat → Prop} (w : World) (base : Nat) (t ty e : TypeId) (i : TypeInfo) (z : Value) (size bytes : Nat) (ht : P.underlying t = some (.slice e)) (hi : P.info? e = some i) (hz : i.zero = some z)
    (hsize : i.size = size) (hby : i.bytes = bytes) (hzs : z.cells.size = size) (hsz : 0 < size) (v : Value) (n : Nat) (xs : List Value) (hown : w.ownsRow base e size v n xs)
    (src : Value) (m : Nat) (news : List Value) (hs : Sl av w size src m news) (h1 : ∀ u ∈ news, u.oneCell' = true) (h63 : n + m ≤ maxLen) (hbytes : (n + m) * bytes ≤ 140737488355328) (hbase : base ≤ w.heap.size) :
    ∃ v' w', (Builtin.append_ #[t, t] ty #[v, src]).run P w = .ok v' w' ∧ w'.ownsRow base e size v' (n + m) (xs ++ news) ∧ Keep (fun b => v.ownBlock = some b) w w' ∧ (v'.ownBlock = v.ownBlock ∨ v'.ownBlock = some w.heap.size) := by
  obtain ⟨hl, A, c, rfl, hc, hcell⟩ := hs
  cases A with
  | none =>
    have hm : m = 0 := by
      rcases Nat.eq_zero_or_pos m with h | h
      · exact h
      · obtain ⟨b, off, hA, _⟩ := hcell h; cases hA
    subst hm
    have hnn : news = [] := List.eq_nil_of_length_eq_zero (by simpa using hl)
    subst hnn
    refine ⟨v, w, ?_, by simpa using hown, Keep.refl _ w, .inl rfl⟩
    rcases hown.2 with ⟨rfl, rfl⟩ | ⟨g, cap, cur, rfl, _, _, hnc, _⟩
    · simp [Builtin.append_, run_underlying ht, sizeOf, typeInfo, hi, Builtin.lenOf, Builtin.firstCells]
    · simp [Builtin.append_, run_underlying ht, sizeOf, typeInfo, hi, Builtin.lenOf, Builtin.firstCells, hnc, storeCells]
  | some a =>
    have hcells : ∀ j u, news[j]? = some u → w.cell? (a.add j) = some u := by
      intro j u hu
      have hj : j < news.length := (List.getElem?_eq_some_iff.1 hu).1
      have hm : 0 < m := by
        rcases Nat.eq_zero_or_pos m with h | h
        · subst h; omega
        · exact h
      obtain ⟨b, off, hA, _, _, hcl⟩ := hcell hm
      injection hA with hA
      subst hA
      rw [Addr.add_lit]
      exact hcl j u hu
    obtain ⟨v', w', hr, h2, h3, _, h5⟩ := run_append_own_at (P := P) w base t ty e i z size bytes ht hi hz hsize hby hzs hsz v n xs hown a m c news hl hcells h1 h63 hbytes hbase
    exact ⟨v', w', hr, h2, ⟨h3.os, h3.tape, h3.output, h3.size, fun k hk hF => h3.block k hk fun e => hF e.symm⟩, h5⟩

/-- append onto an owned row that has room -/
theorem append_fits_sl {P : Program} {av : Nat → Prop} (w : World) (base : Nat) (t ty e : TypeId) (i : TypeInfo) (size : Nat) (ht : P.underlying t = some (.slice e)) (hi : P.info? e = some i)
    (hsize : i.size = size) (g n cap : Nat) (xs : List Value) (hown : w.ownsRow base e size (.slice (some ⟨g, 0, none⟩) n cap) n xs)
    (src : Value) (m : Nat) (news : List Value) (hs : Sl av w size src m news) (h1 : ∀ u ∈ news, u.oneCell' = true) (hroom : n + m ≤ cap) :
    ∃ w', (Builtin.append_ #[t, t] ty #[.slice (some ⟨g, 0, none⟩) n cap, src]).run P w = .ok (.slice (some ⟨g, 0, none⟩) (n + m) cap) w' ∧ w'.ownsRow base e size (.slice (some ⟨g, 0, none⟩) (n + m) cap) (n + m) (xs ++ news) ∧ Keep (fun b => b = g) w w' := by
  obtain ⟨hl, A, c, rfl, hc, hcell⟩ := hs
  cases A with
  | none =>
    have hm : m = 0 := by
      rcases Nat.eq_zero_or_pos m with h | h
      · exact h
      · obtain ⟨b, off, hA, _⟩ := hcell h; cases hA
    subst hm
    have hnn : news = [] := List.eq_nil_of_length_eq_zero (by simpa using hl)
    subst hnn
    refine ⟨w, ?_, by simpa using hown, Keep.refl _ w⟩
    simp only [Nat.add_zero] at hroom
    simp [Builtin.append_, run_underlying ht, sizeOf, typeInfo, hi, Builtin.lenOf, Builtin.firstCells, hroom, storeCells]
  | some a =>
    have hcells : ∀ j u, news[j]? = some u → w.cell? (a.add j) = some u := by
      intro j u hu
      have hj : j < news.length := (List.getElem?_eq_some_iff.1 hu).1
      have hm : 0 < m := by
        rcases Nat.eq_zero_or_pos m with h | h
        · subst h; omega
        · exact h
      obtain ⟨b, off, hA, _, _, hcl⟩ := hcell hm
      injection hA with hA
      subst hA
      rw [Addr.add_lit]
      exact hcl j u hu
    obtain ⟨w', hr, h2, h3⟩ := run_append_fits (P := P) w base t ty e i size ht hi hsize g n cap xs hown a m c news hl hcells h1 hroom
    exact ⟨w', hr, h2, ⟨h3.os, h3.tape, h3.output, h3.size, fun k hk hF => h3.block k hk fun e => hF (by injection e)⟩⟩
/-- clear on a stretch of a block: the cells before it stay -/
theorem clear_at {P : Program} (w : World) (t e ty : TypeId) (z : Value) (ht : P.underlying t = some (.slice e)) (hz : (zeroValue e).run P w = .ok z w) (h1 : ∀ u ∈ z.cells.toList, u.oneCell' = true)
    (g off n c : Nat) (cur : Array Value) (hg : w.heap[g]? = some (.cells cur e (0, 0))) (hle : off + n * z.cells.size ≤ cur.size) :
    ∃ w' cur', (Builtin.clear_ #[t] ty #[.slice (some ⟨g, off, none⟩) n c]).run P w = .ok (.tuple #[]) w' ∧ w'.heap[g]? = some (.cells cur' e (0, 0)) ∧ cur'.size = cur.size ∧ cur'.toList.take off = cur.toList.take off ∧ Keep (fun b => b = g) w w' := by
  cases n with
  | zero =>
    refine ⟨w, cur, ?_, hg, rfl, rfl, Keep.refl _ w⟩
    simp [Builtin.clear_, run_underlying ht]
  | succ n =>
    have hzc : ∀ u ∈ (Builtin.zeroCells z.cells (n + 1)).toList, u.oneCell' = true := by
      intro u hu
      simp only [Builtin.zeroCells, Array.toList_map, List.mem_map, Array.toList_range, List.mem_range] at hu
      obtain ⟨j, hj, rfl⟩ := hu
      have hpos : 0 < z.cells.size := by
        rcases Nat.eq_zero_or_pos z.cells.size with h | h
        · rw [h] at hj; simp at hj
        · exact h
      have hlt := Nat.mod_lt j hpos
      rw [getElem!_pos z.cells _ hlt]
      exact h1 _ (by simp)
    have hsz : (Builtin.zeroCells z.cells (n + 1)).toList.length = (n + 1) * z.cells.size := by simp [size_zeroCells]
    have hst := run_storeCells_at P g off e (Builtin.zeroCells z.cells (n + 1)).toList 0 cur w hg (by rw [hsz]; simpa using hle) hzc
    simp only [Nat.add_zero] at hst
    obtain ⟨nw, hnw⟩ : ∃ nw, nw = (cur.toList.take off ++ (Builtin.zeroCells z.cells (n + 1)).toList ++ cur.toList.drop (off + (Builtin.zeroCells z.cells (n + 1)).toList.length)).toArray := ⟨_, rfl⟩
    rw [← hnw] at hst
    refine ⟨w.setRow g nw, nw, ?_, setRow_heap w g cur _ e _ hg, ?_, ?_, ?_⟩
    · simp [Builtin.clear_, run_underlying ht, hz, hst]
    · rw [hnw]
      simp only [List.size_toArray, List.length_append, List.length_take, List.length_drop, Array.length_toList, hsz]
      omega
    · rw [hnw, List.append_assoc]
      exact List.take_left' (by simp; omega)
    · exact ⟨rfl, rfl, rfl, by simp, fun k hk hF => setRow_other w g k _ hF⟩

/-- x[:k], x[k:], x[k:h] of a slice -/
theorem cut_hi {P : Program} (w : World) (t e : TypeId) (i : TypeInfo) (ht : P.underlying t = some (.slice e)) (hi : P.info? e = some i) (A : Option Addr) (n c k : Nat) (hk : k ≤ c) :
    (Instr.slice t (.slice A n c) none (some (.int .i64 k)) none).run P w = .ok (.slice A k c) w := by
  have h0 : (0 : Int) ≤ (k : Int) := by omega
  have h1 : (k : Int) ≤ (c : Int) := by omega
  cases A <;> simp [Instr.slice, run_underlying ht, Instr.sliceBounds, run_sliceBound, sizeOf, typeInfo, hi, h0, h1, Addr.add]
theorem cut_lo {P : Program} (w : World) (t e : TypeId) (i : TypeInfo) (size : Nat) (ht : P.underlying t = some (.slice e)) (hi : P.info? e = some i) (hs : i.size = size) (A : Option Addr) (n c k : Nat) (hk : k ≤ n) :
    (Instr.slice t (.slice A n c) (some (.int .i64 k)) none none).run P w = .ok (.slice (if c = k then A else A.map (·.add (k * size))) (n - k) (c - k)) w := by
  have h0 : (0 : Int) ≤ (k : Int) := by omega
  have h1 : (k : Int) ≤ (n : Int) := by omega
  simp [Instr.slice, run_underlying ht, Instr.sliceBounds, run_sliceBound, sizeOf, typeInfo, hi, hs, h0, h1]
theorem cut_lh {P : Program} (w : World) (t e : TypeId) (i : TypeInfo) (size : Nat) (ht : P.underlying t = some (.slice e)) (hi : P.info? e = some i) (hs : i.size = size) (A : Option Addr) (n c k h : Nat) (hk : k ≤ h) (hh : h ≤ c) :
    (Instr.slice t (.slice A n c) (some (.int .i64 k)) (some (.int .i64 h)) none).run P w = .ok (.slice (if c = k then A else A.map (·.add (k * size))) (h - k) (c - k)) w := by
  have h0 : (0 : Int) ≤ (k : Int) := by omega
  have h1 : (k : Int) ≤ (h : Int) := by omega
  have h2 : (0 : Int) ≤ (h : Int) := by omega
  have h3 : (h : Int) ≤ (c : Int) := by omega
  simp [Instr.slice, run_underlying ht, Instr.sliceBounds, run_sliceBound, sizeOf, typeInfo, hi, hs, h0, h1, h2, h3]

/-- a struct that fills a block: read whole, written whole -/
theorem load_whole {P : Program} (w : World) (T : TypeId) (B : Nat) (cs : Array Value) (t : TypeId) (fr : Nat × Nat) (hB : w.heap[B]? = some (.cells cs t fr)) (ha : (isAgg T).run P w = .ok true w) (hs : (sizeOf T).run P w = .ok cs.size w) :
    (loadVar T ⟨B, 0, none⟩).run P w = .ok (.agg cs) w := by
  have h := run_loadCells_list (P := P) w ⟨B, 0, none⟩ cs.toList (fun j u hu => by rw [Addr.add_lit, Nat.zero_add, cell_of_row w B j cs t fr hB]; simpa using hu)
  simp only [Array.length_toList, Array.toArray_toList] at h
  simp [loadVar, ha, hs, h]
theorem store_whole {P : Program} (w : World) (T : TypeId) (B : Nat) (cs new : Array Value) (t : TypeId) (hB : w.heap[B]? = some (.cells cs t (0, 0))) (hs : (sizeOf T).run P w = .ok new.size w) (hcs : cs.size = new.size) (h1 : ∀ u ∈ new.toList, u.oneCell' = true) :
    (Instr.storeAt T (.pointer (some ⟨B, 0, none⟩)) (.agg new)).run P w = .ok () (w.setRow B new) := by
  have hst := run_storeCells_at P B 0 t new.toList 0 cs w hB (by simp; omega) h1
  simp only [Nat.add_zero, Nat.zero_add, List.take_zero, List.nil_append, Array.length_toList] at hst
  rw [List.drop_eq_nil_of_le (by simp; omega), List.append_nil, Array.toArray_toList] at hst
  have hc : (Value.agg new).cells = new := rfl
  simp [Instr.storeAt, Instr.sureAddr, storeVar, hs, hc, hst]
theorem wpList_store_whole {P : Program} {w : World} {ops : Array Oper} {rest : List Oper} {o : Oper} {a : Act} {Q : Exit → Act → World → Prop} (hgd : o.guard = none) (T : TypeId) (x y : Operand) (ho : o.op = .store T x y) (B : Nat) (cs new : Array Value) (t : TypeId)
    (hx : a.eval x = .pointer (some ⟨B, 0, none⟩)) (hy : a.eval y = .agg new) (hB : w.heap[B]? = some (.cells cs t (0, 0))) (hs : ∀ w, (sizeOf T).run P w = .ok new.size w) (hcs : cs.size = new.size) (h1 : ∀ u ∈ new.toList, u.oneCell' = true)
    (h : wpList P ops Q rest (a.put o.dst undef) (w.setRow B new)) : wpList P ops Q (o :: rest) a w := by
  refine wpList_plain hgd fun K hK => ?_
  have hr := store_whole (P := P) w T B cs new t hB (hs w) hcs h1
  unfold Oper.wp execOp
  simp only [ho, hx, hy, Sem.run_bind, Result.andThen_ok, hr]
  exact hK _ _ h
theorem wp_store_whole {P : Program} {w : World} {o : Oper} {a : Act} {K : Act → World → Prop} {Q : Exit → Act → World → Prop} (T : TypeId) (x y : Operand) (ho : o.op = .store T x y) (B : Nat) (cs new : Array Value) (t : TypeId)
    (hx : a.eval x = .pointer (some ⟨B, 0, none⟩)) (hy : a.eval y = .agg new) (hB : w.heap[B]? = some (.cells cs t (0, 0))) (hs : ∀ w, (sizeOf T).run P w = .ok new.size w) (hcs : cs.size = new.size) (h1 : ∀ u ∈ new.toList, u.oneCell' = true)
    (h : K (a.put o.dst undef) (w.setRow B new)) : o.wp P a w K Q := by
  have hr := store_whole (P := P) w T B cs new t hB (hs w) hcs h1
  unfold Oper.wp execOp
  simp only [ho, hx, hy, Sem.run_bind, Result.andThen_ok, hr]
  exact h
/-- a cell of a block written: the block -/
theorem heap_setCell_at {w : World} {x i : Nat} {cs : Array Value} {t : TypeId} (h : w.heap[x]? = some (.cells cs t (0, 0))) (u : Value) : (w.setCell ⟨x, i, none⟩ u).heap[x]? = some (.cells (cs.setIfInBounds i u) t (0, 0)) := by
  simp [World.setCell, Array.getElem?_modify, h]
/-- two results that lie in memory -/
theorem results_cell2 {P : Program} {fn : Func} {p q : Tmp} {t u : TypeId} (h : fn.results = #[.cell p t, .cell q u]) (tmps : Array Value) (w : World) (B C : Nat) (x y : Value) (hp : tmps.getD p undef = .pointer (some ⟨B, 0, none⟩)) (hq : tmps.getD q undef = .pointer (some ⟨C, 0, none⟩))
    (hx : (loadVar t ⟨B, 0, none⟩).run P w = .ok x w) (hy : (loadVar u ⟨C, 0, none⟩).run P w = .ok y w) : (results fn tmps).run P w = .ok (.tuple #[x, y]) w := by
  simp only [Array.getD_eq_getD_getElem?] at hp hq
  simp only [results, h]
  simp [asAddr, hp, hq, hx, hy]
theorem results_cell1 {P : Program} {fn : Func} {p : Tmp} {t : TypeId} (h : fn.results = #[.cell p t]) (tmps : Array Value) (w : World) (B : Nat) (x : Value) (hp : tmps.getD p undef = .pointer (some ⟨B, 0, none⟩))
    (hx : (loadVar t ⟨B, 0, none⟩).run P w = .ok x w) : (results fn tmps).run P w = .ok x w := by
  simp only [Array.getD_eq_getD_getElem?] at hp
  simp only [results, h]
  simp [asAddr, hp, hx]
theorem Keep.setRow {F : Nat → Prop} {w w1 : World} (h : Keep F w w1) {B : Nat} (hF : B < w.heap.size → F B) (cs : Array Value) : Keep F w (w1.setRow B cs) :=
  ⟨h.os, h.tape, h.output, by have := h.size; simpa using this, fun k hk hn => (setRow_other w1 B k cs (fun e => hn (e ▸ hF (e ▸ hk)))).trans (h.block k hk hn)⟩

/-! maps -/
/-- the value behind a key -/
def getA {κ β : Type} [DecidableEq κ] : List (κ × β) → κ → Option β
  | [], _ => none
  | p :: l, k => if k = p.1 then some p.2 else getA l k
/-- the value behind a key set -/
def setA {κ β : Type} [DecidableEq κ] : List (κ × β) → κ → β → List (κ × β)
  | [], k, v => [(k, v)]
  | p :: l, k, v => if k = p.1 then (k, v) :: l else p :: setA l k v
section
variable {κ β : Type} [DecidableEq κ]
theorem getA_setA (l : List (κ × β)) (k k' : κ) (v : β) : getA (setA l k v) k' = if k' = k then some v else getA l k' := by
  induction l with
  | nil => simp [setA, getA]
  | cons p l ih =>
    unfold setA
    by_cases h : k = p.1
    · rw [if_pos h]
      unfold getA
      by_cases h2 : k' = k
      · rw [if_pos h2, if_pos h2]
      · rw [if_neg h2, if_neg h2, if_neg (by rw [← h]; exact h2)]
    · rw [if_neg h]
      unfold getA
      by_cases h2 : k' = p.1
      · rw [if_pos h2, if_neg (fun e => h (e.symm.trans h2)), if_pos h2]
      · rw [if_neg h2, ih, if_neg h2]
theorem length_setA (l : List (κ × β)) (k : κ) (v : β) : (setA l k v).length = l.length + if (getA l k).isSome then 0 else 1 := by
  induction l with
  | nil => simp [setA, getA]
  | cons p l ih =>
    unfold setA getA
    by_cases h : k = p.1
    · simp [h]
    · simp only [if_neg h, List.length_cons, ih]; omega
end

/-- how keys of a map type are spelt: what the model's own look at keys says of them -/
structure KeyLaw (P : Program) (T : TypeId) {κ : Type} [DecidableEq κ] (ke : κ → Value) : Prop where
  check : ∀ (empty : Bool) (k : κ) (w : World), (Instr.checkKey empty 10000 T (ke k)).run P w = .ok () w
  find : ∀ (k : κ) (es : List MapEntry) (L : List (κ × Value)) (w : World), es.map (fun e => (e.key, e.val)) = L.map (fun p => (ke p.1, p.2)) →
    (Instr.findKey T (ke k) es).run P w = .ok (((L.map (·.1)).idxOf? k).bind fun i => (L[i]?).map fun p => (i, p.2)) w
  same : ∀ (k : κ), Instr.sameBits 10000 (ke k) (ke k) = true

/-- block m is a map that reads as L -/
def MapAt {κ : Type} (ke : κ → Value) (w : World) (m : Nat) (L : List (κ × Value)) : Prop :=
  ∃ es clock, w.heap[m]? = some (.map es clock) ∧ es.toList.map (fun e => (e.key, e.val)) = L.map (fun p => (ke p.1, p.2))

theorem idx_get {κ β : Type} [DecidableEq κ] (L : List (κ × β)) (k : κ) : (((L.map (·.1)).idxOf? k).bind fun i => (L[i]?).map fun p => (i, p.2)).map (·.2) = getA L k := by
  induction L with
  | nil => simp [getA]
  | cons p l ih =>
    unfold getA
    simp only [List.map_cons, List.idxOf?_cons]
    by_cases h : p.1 = k
    · subst h; simp
    · have h' : (p.1 == k) = false := by simpa using h
      have h2 : ¬ k = p.1 := fun e => h e.symm
      rw [h', if_neg h2, ← ih]
      cases hi : List.idxOf? k (List.map (fun x => x.1) l) with
      | none => simp
      | some i => simp [Function.comp_def]

section
theorem MapAt.keep {κ : Type} {ke : κ → Value} {w : World} {m : Nat} {L : List (κ × Value)} {F : Nat → Prop} {w' : World} (h : MapAt ke w m L) (hk : Keep F w w') (hF : ¬ F m) : MapAt ke w' m L := by
  obtain ⟨es, clock, h1, h2⟩ := h
  exact ⟨es, clock, (hk.block m (lt_of_heap h1) hF).trans h1, h2⟩
theorem MapAt.set_ {κ : Type} {ke : κ → Value} {w : World} {m : Nat} {es : Array MapEntry} {clock : Nat} {L' : List (κ × Value)} (h : m < w.heap.size) (he : es.toList.map (fun e => (e.key, e.val)) = L'.map (fun p => (ke p.1, p.2))) :
    MapAt ke { w with heap := w.heap.setIfInBounds m (.map es clock) } m L' := ⟨es, clock, by simp [h], he⟩
theorem MapAt.lt {κ : Type} {ke : κ → Value} {w : World} {m : Nat} {L : List (κ × Value)} (h : MapAt ke w m L) : m < w.heap.size := by
  obtain ⟨es, clock, h1, h2⟩ := h
  exact lt_of_heap h1
theorem idx_set {κ β : Type} [DecidableEq κ] (L : List (κ × β)) (k : κ) (v : β) : setA L k v = match (L.map (·.1)).idxOf? k with | some i => L.set i (k, v) | none => L ++ [(k, v)] := by
  induction L with
  | nil => simp [setA]
  | cons p l ih =>
    unfold setA
    simp only [List.map_cons, List.idxOf?_cons]
    by_cases h : p.1 = k
    · subst h; simp
    · have h' : (p.1 == k) = false := by simpa using h
      have h2 : ¬ k = p.1 := fun e => h e.symm
      rw [h', if_neg h2, ih]
      cases hi : List.idxOf? k (List.map (fun x => x.1) l) <;> simp
variable {κ : Type} [DecidableEq κ] {P : Program} {T kT eT : TypeId} {ke : κ → Value} {w : World} {m : Nat} {L : List (κ × Value)}
theorem MapAt.lookup (h : MapAt ke w m L) (K : KeyLaw P kT ke) (hT : P.underlying T = some (.map kT eT)) {z : Value} (hz : (zeroValue eT).run P w = .ok z w) (k : κ) :
    (Instr.lookup T (.map (some m)) (ke k) false).run P w = .ok ((getA L k).getD z) w := by
  obtain ⟨es, clock, h1, h2⟩ := h
  have hg : (getObj m).run P w = .ok (.map es clock) w := by simp [getObj, Sem.run, h1]
  have hf := K.find k es.toList L w h2
  have hi := idx_get L k
  simp only [Instr.lookup, Sem.run_bind, run_underlying hT, Result.andThen_ok, hg, Sem.run_pure, K.check, hf]
  rw [← hi]
  cases hq : ((L.map (·.1)).idxOf? k).bind fun i => (L[i]?).map fun p => (i, p.2) with
  | none => simp [hz]
  | some x => obtain ⟨i, v⟩ := x; simp
theorem MapAt.lookup_ok (h : MapAt ke w m L) (K : KeyLaw P kT ke) (hT : P.underlying T = some (.map kT eT)) {z : Value} (hz : (zeroValue eT).run P w = .ok z w) (k : κ) :
    (Instr.lookup T (.map (some m)) (ke k) true).run P w = .ok (.tuple #[(getA L k).getD z, .bool (getA L k).isSome]) w := by
  obtain ⟨es, clock, h1, h2⟩ := h
  have hg : (getObj m).run P w = .ok (.map es clock) w := by simp [getObj, Sem.run, h1]
  have hf := K.find k es.toList L w h2
  have hi := idx_get L k
  simp only [Instr.lookup, Sem.run_bind, run_underlying hT, Result.andThen_ok, hg, Sem.run_pure, K.check, hf]
  rw [← hi]
  cases hq : ((L.map (·.1)).idxOf? k).bind fun i => (L[i]?).map fun p => (i, p.2) with
  | none => simp [hz]
  | some x => obtain ⟨i, v⟩ := x; simp
/-- a store: the world with the block set anew, and what it reads as -/
theorem MapAt.update (h : MapAt ke w m L) (K : KeyLaw P kT ke) (hT : P.underlying T = some (.map kT eT)) (k : κ) (v : Value) :
    ∃ es clock, (Instr.mapUpdate T (.map (some m)) (ke k) v).run P w = .ok () { w with heap := w.heap.setIfInBounds m (.map es clock) } ∧ es.toList.map (fun e => (e.key, e.val)) = (setA L k v).map (fun p => (ke p.1, p.2)) := by
  obtain ⟨es, clock, h1, h2⟩ := h
  have hg : (getObj m).run P w = .ok (.map es clock) w := by simp [getObj, Sem.run, h1]
  have hf := K.find k es.toList L w h2
  have hi := idx_set L k v
  have hl : es.toList.length = L.length := by simpa using congrArg List.length h2
  cases hq : (L.map (·.1)).idxOf? k with
  | none =>
    rw [hq] at hf hi
    refine ⟨es.push { key := ke k, val := v, born := clock }, clock + 1, ?_, by rw [hi]; simp [h2]⟩
    simp only [Instr.mapUpdate, Sem.run_bind, run_underlying hT, Result.andThen_ok, hg, K.check, hf, Option.bind_none]
    simp [setObj, Sem.run, h1]
  | some i =>
    rw [hq] at hf hi
    have hil : i < L.length := by have := List.idxOf?_eq_some_iff.1 hq; simpa using this.1
    have hk : (L[i]).1 = k := by have := List.idxOf?_eq_some_iff.1 hq; simpa using this.2.1
    have hie : i < es.size := by
      have : es.size = L.length := by simpa using hl
      omega
    have hkey : (es[i]).key = ke k := by
      have := congrArg (fun l => (l[i]?).map (·.1)) h2
      simp only [List.getElem?_map, Array.getElem?_toList, Array.getElem?_eq_getElem hie, Option.map_some, List.getElem?_eq_getElem hil, hk, Option.some.injEq] at this
      exact this
    refine ⟨es.modify i fun e => { e with key := ke k, val := v }, clock, ?_, ?_⟩
    · have hL : L[i]? = some L[i] := List.getElem?_eq_getElem hil
      have he : es[i]? = some es[i] := Array.getElem?_eq_getElem hie
      simp only [Instr.mapUpdate, Sem.run_bind, run_underlying hT, Result.andThen_ok, hg, K.check, hf, Option.bind_some, hL, Option.map_some, he, Option.getD_some, hkey]
      simp [Instr.keyThatStays, K.same, setObj, Sem.run, h1]
    · rw [hi]
      apply List.ext_getElem?
      intro j
      have hj := congrArg (fun l => l[j]?) h2
      simp only [List.getElem?_map, Array.getElem?_toList] at hj
      simp only [List.getElem?_map, Array.getElem?_toList, Array.getElem?_modify, List.getElem?_set]
      by_cases hij : i = j
      · subst hij
        simp [Array.getElem?_eq_getElem hie, hil]
      · simp only [if_neg hij]
        exact hj
theorem Keep.setObj {F : Nat → Prop} {w w1 : World} (h : Keep F w w1) {m : Nat} (hF : F m) (o : Obj) : Keep F w { w1 with heap := w1.heap.setIfInBounds m o } :=
  ⟨h.os, h.tape, h.output, by have := h.size; simpa using this, fun k hk hn => by
    have : m ≠ k := fun e => hn (e ▸ hF)
    show (w1.heap.setIfInBounds m o)[k]? = _
    rw [Array.getElem?_setIfInBounds_ne this]
    exact h.block k hk hn⟩
end
end Go.Proofs.Ytinpinjjdkilpaa
