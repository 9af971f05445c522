/- Packets as plain data, and how a list of them lies in memory. No function of the program. -/
import Derived.Test.YtinpinjjdkilpaaLib
namespace Go.Proofs.Ytinpinjjdkilpaa
open Go.RowKit
structure Pkt where
  id : Int
  src : Int
  dst : Int
  data : ByteArray
  deriving DecidableEq
def Pkt.val (p : Pkt) : Value := .agg #[.int .i64 p.id, .int .i64 p.src, .int .i64 p.dst, .string p.data]
def Pkt.cells (p : Pkt) : List Value := [.int .i64 p.id, .int .i64 p.src, .int .i64 p.dst, .string p.data]
def pc (l : List Pkt) : List Value := l.flatMap Pkt.cells
theorem pc_len (l : List Pkt) : (pc l).length = l.length * 4 := by
  induction l with
  | nil => rfl
  | cons p l ih => simp only [pc, List.flatMap_cons, List.length_append, List.length_cons] at ih ⊢; rw [ih]; simp [Pkt.cells]; omega
theorem pc_get (l : List Pkt) (k j : Nat) (hj : j < 4) (hk : k < l.length) : (pc l)[k * 4 + j]? = (l[k]).cells[j]? := by
  induction l generalizing k with
  | nil => simp at hk
  | cons p l ih =>
    simp only [pc, List.flatMap_cons]
    cases k with
    | zero => rw [List.getElem?_append_left (by simp [Pkt.cells]; omega)]; simp
    | succ k =>
      have h4 : p.cells.length = 4 := rfl
      rw [List.getElem?_append_right (by rw [h4]; omega), h4, show (k + 1) * 4 + j - 4 = k * 4 + j from by omega]
      exact ih k (by simpa using hk)
theorem pc_append (l r : List Pkt) : pc (l ++ r) = pc l ++ pc r := by simp [pc]
theorem pc_cons (p : Pkt) (r : List Pkt) : pc (p :: r) = p.cells ++ pc r := by simp [pc]
theorem pc_take (l : List Pkt) (k : Nat) : (pc l).take (k * 4) = pc (l.take k) := by
  induction l generalizing k with
  | nil => simp [pc]
  | cons p l ih =>
    cases k with
    | zero => simp [pc]
    | succ k =>
      have h4 : p.cells.length = 4 := rfl
      rw [pc_cons, List.take_succ_cons, pc_cons, List.take_append, h4, show (k + 1) * 4 - 4 = k * 4 from by omega, ih, List.take_of_length_le (by rw [h4]; omega)]
theorem pc_drop (l : List Pkt) (k : Nat) : (pc l).drop (k * 4) = pc (l.drop k) := by
  induction l generalizing k with
  | nil => simp [pc]
  | cons p l ih =>
    cases k with
    | zero => simp [pc]
    | succ k =>
      have h4 : p.cells.length = 4 := rfl
      rw [pc_cons, List.drop_succ_cons, List.drop_append, h4, show (k + 1) * 4 - 4 = k * 4 from by omega, ih, List.drop_eq_nil_of_le (by rw [h4]; omega), List.nil_append]
theorem pc_one (l : List Pkt) : ∀ u ∈ pc l, u.oneCell' = true := by
  intro u hu
  simp only [pc, List.mem_flatMap] at hu
  obtain ⟨p, _, hp⟩ := hu
  simp only [Pkt.cells, List.mem_cons, List.not_mem_nil, or_false] at hp
  rcases hp with rfl | rfl | rfl | rfl <;> rfl

/-- A slice that reads as packets. -/
abbrev PSl (av : Nat → Prop) (w : World) (v : Value) (l : List Pkt) : Prop := Sl av w 4 v l.length (pc l)

/-- its cells, asked for where k < length -/
theorem PSl.at_ {av : Nat → Prop} {w : World} {v : Value} {l : List Pkt} (h : PSl av w v l) {k : Nat} (hk : k < l.length) :
    ∃ b off c, v = .slice (some ⟨b, off, none⟩) l.length c ∧ b < w.heap.size ∧ ¬ av b ∧
      w.cell? ⟨b, off + k * 4, none⟩ = some (.int .i64 (l[k]).id) ∧ w.cell? ⟨b, off + k * 4 + 1, none⟩ = some (.int .i64 (l[k]).src) ∧
      w.cell? ⟨b, off + k * 4 + 2, none⟩ = some (.int .i64 (l[k]).dst) ∧ w.cell? ⟨b, off + k * 4 + 3, none⟩ = some (.string (l[k]).data) := by
  obtain ⟨hl, A, c, rfl, hc, hn⟩ := h
  obtain ⟨b, off, rfl, hb, hav, hcell⟩ := hn (by omega)
  refine ⟨b, off, c, rfl, hb, hav, ?_, ?_, ?_, ?_⟩
  · exact hcell (k * 4) _ (pc_get l k 0 (by omega) hk)
  · exact hcell (k * 4 + 1) _ (pc_get l k 1 (by omega) hk)
  · exact hcell (k * 4 + 2) _ (pc_get l k 2 (by omega) hk)
  · exact hcell (k * 4 + 3) _ (pc_get l k 3 (by omega) hk)
theorem PSl.shape {av : Nat → Prop} {w : World} {v : Value} {l : List Pkt} (h : PSl av w v l) : ∃ A c, v = .slice A l.length c ∧ l.length ≤ c := by
  obtain ⟨hl, A, c, rfl, hc, hn⟩ := h
  exact ⟨A, c, rfl, hc⟩

theorem uPs : Try.prog.underlying 27 = some (.slice 42) := by kernel_rfl
theorem iP : (Try.prog.info? 42).map (fun i => (i.zero, i.size, i.bytes)) = some (some (.agg #[.int .i64 0, .int .i64 0, .int .i64 0, .string ByteArray.empty]), 4, 40) := by kernel_rfl
/-- a slice against nil, in the walk's words -/
theorem eqNilP (A : Option Addr) (n c : Nat) (w : World) : (binOp .eql 27 (.slice A n c) (.slice none 0 0)).run Try.prog w = .ok (.bool A.isNone) w := by
  exact Lib.run_eql_slice_nil w _ _ A n c 0 0 uPs
/-- an owned row of packets -/
abbrev POwn (w : World) (v : Value) (l : List Pkt) : Prop := w.ownsRow 0 42 4 v l.length (pc l)

theorem appendP {av : Nat → Prop} (w : World) (ty : TypeId) (v src : Value) (l r : List Pkt) (hown : POwn w v l) (hs : PSl av w src r) (hb : l.length + r.length ≤ 1000000) :
    ∃ v' w', (Builtin.append_ #[27, 27] ty #[v, src]).run Try.prog w = .ok v' w' ∧ POwn w' v' (l ++ r) ∧ Keep (fun b => v.ownBlock = some b) w w' ∧ (v'.ownBlock = v.ownBlock ∨ v'.ownBlock = some w.heap.size) := by
  obtain ⟨i, hi, hz0, hz1, hz2⟩ := info_parts iP
  obtain ⟨v', w', h1, h2, h3, h4⟩ := append_sl (P := Try.prog) w 0 27 ty 42 i _ 4 40 uPs hi hz0 hz1 hz2 rfl (by omega) v l.length (pc l) hown src r.length (pc r) hs (pc_one r) (by unfold maxLen; omega) (by omega) (Nat.zero_le _)
  exact ⟨v', w', h1, by unfold POwn; rw [List.length_append, pc_append]; exact h2, h3, h4⟩
theorem wpList_appendP {av : Nat → Prop} {w : World} {ops : Array Oper} {rest : List Oper} {o : Oper} {a : Act} {Q : Exit → Act → World → Prop} (hgd : o.guard = none) (s x : Operand)
    (ho : o.op = .call { callee := .builtin .append, args := #[s, x], argTypes := #[27, 27] }) (v src : Value) (l r : List Pkt) (hs : a.eval s = v) (hx : a.eval x = src) (hown : POwn w v l) (hsl : PSl av w src r) (hb : l.length + r.length ≤ 1000000)
    (h : ∀ v' w', POwn w' v' (l ++ r) → Keep (fun b => v.ownBlock = some b) w w' → (v'.ownBlock = v.ownBlock ∨ v'.ownBlock = some w.heap.size) → wpList Try.prog ops Q rest (a.put o.dst v') w') : wpList Try.prog ops Q (o :: rest) a w := by
  refine wpList_plain hgd fun K hK => ?_
  obtain ⟨v', w', hr, h2, h3, h4⟩ := appendP w o.type v src l r hown hsl hb
  unfold Oper.wp execOp
  simp only [ho, resolve, invoke, builtin, Sem.run_bind, Sem.run_pure, Result.andThen_ok, List.map_toArray, List.map_cons, List.map_nil, hs, hx, hr]
  exact hK _ _ (h v' w' h2 h3 h4)
theorem appendP_fits {av : Nat → Prop} (w : World) (ty : TypeId) (g cap : Nat) (src : Value) (l r : List Pkt) (n m : Nat) (hn : l.length = n) (hm : r.length = m) (hown : POwn w (.slice (some ⟨g, 0, none⟩) n cap) l) (hs : PSl av w src r) (hroom : n + m ≤ cap) :
    ∃ w', (Builtin.append_ #[27, 27] ty #[.slice (some ⟨g, 0, none⟩) n cap, src]).run Try.prog w = .ok (.slice (some ⟨g, 0, none⟩) (n + m) cap) w' ∧ POwn w' (.slice (some ⟨g, 0, none⟩) (n + m) cap) (l ++ r) ∧ Keep (fun b => b = g) w w' := by
  subst hn; subst hm
  obtain ⟨i, hi, hz0, hz1, hz2⟩ := info_parts iP
  obtain ⟨w', h1, h2, h3⟩ := append_fits_sl (P := Try.prog) w 0 27 ty 42 i 4 uPs hi hz1 g l.length cap (pc l) hown src r.length (pc r) hs (pc_one r) hroom
  exact ⟨w', h1, by unfold POwn; rw [pc_append, List.length_append]; exact h2, h3⟩
/-- at a region that draws: the append with room -/
theorem step_appendP_fits {av : Nat → Prop} {w : World} {ops : Array Oper} {o : Oper} {a : Act} {K : Act → World → Prop} {Q : Exit → Act → World → Prop} {E : Prop} (hgd : o.guard = none) (s x : Operand)
    (ho : o.op = .call { callee := .builtin .append, args := #[s, x], argTypes := #[27, 27] }) (g cap : Nat) (src : Value) (l r : List Pkt) (n m : Nat) (hn : l.length = n) (hm : r.length = m) (hs : a.eval s = .slice (some ⟨g, 0, none⟩) n cap) (hx : a.eval x = src) (hown : POwn w (.slice (some ⟨g, 0, none⟩) n cap) l) (hsl : PSl av w src r) (hb : n + m ≤ cap)
    (h : ∀ w', POwn w' (.slice (some ⟨g, 0, none⟩) (n + m) cap) (l ++ r) → Keep (fun b => b = g) w w' → K (a.put o.dst (.slice (some ⟨g, 0, none⟩) (n + m) cap)) w') :
    if Region.wanted o (yielded ops a.tmps) = true then Oper.wp Try.prog o a w K Q else E := by
  have hw : Region.wanted o (yielded ops a.tmps) = true := by simp [Region.wanted, hgd]
  rw [if_pos hw]
  obtain ⟨w', hr, h2, h3⟩ := appendP_fits w o.type g cap src l r n m hn hm hown hsl hb
  unfold Oper.wp execOp
  simp only [ho, resolve, invoke, builtin, Sem.run_bind, Sem.run_pure, Result.andThen_ok, List.map_toArray, List.map_cons, List.map_nil, hs, hx, hr]
  exact h w' h2 h3
theorem zP (w : World) : (zeroValue 42).run Try.prog w = .ok (.agg #[.int .i64 0, .int .i64 0, .int .i64 0, .string ByteArray.empty]) w := by kernel_rfl
theorem hiP (A : Option Addr) (n c k : Nat) (hk : k ≤ c) (w : World) : (Instr.slice 27 (.slice A n c) none (some (.int .i64 k)) none).run Try.prog w = .ok (.slice A k c) w := by
  obtain ⟨i, hi, hz0, hz1, hz2⟩ := info_parts iP
  exact cut_hi w _ _ i uPs hi A n c k hk
theorem loP (A : Option Addr) (n c k : Nat) (hk : k ≤ n) (w : World) : (Instr.slice 27 (.slice A n c) (some (.int .i64 k)) none none).run Try.prog w = .ok (.slice (if c = k then A else A.map (·.add (k * 4))) (n - k) (c - k)) w := by
  obtain ⟨i, hi, hz0, hz1, hz2⟩ := info_parts iP
  exact cut_lo w _ _ i 4 uPs hi hz1 A n c k hk
theorem lhP (A : Option Addr) (n c k h : Nat) (hk : k ≤ h) (hh : h ≤ c) (w : World) : (Instr.slice 27 (.slice A n c) (some (.int .i64 k)) (some (.int .i64 h)) none).run Try.prog w = .ok (.slice (if c = k then A else A.map (·.add (k * 4))) (h - k) (c - k)) w := by
  obtain ⟨i, hi, hz0, hz1, hz2⟩ := info_parts iP
  exact cut_lh w _ _ i 4 uPs hi hz1 A n c k h hk hh
/-- clear on what stands behind the first k of a row -/
theorem clearP (w : World) (ty : TypeId) (g n cap : Nat) (l : List Pkt) (k : Nat) (hk : l.length = k) (hn : k ≤ n) (hc : n ≤ cap) (hown : POwn w (.slice (some ⟨g, 0, none⟩) k cap) l) (A : Option Addr) (c : Nat) (hA : k < n → A = some ⟨g, k * 4, none⟩) :
    ∃ w', (Builtin.clear_ #[27] ty #[.slice A (n - k) c]).run Try.prog w = .ok (.tuple #[]) w' ∧ POwn w' (.slice (some ⟨g, 0, none⟩) k cap) l ∧ Keep (fun b => b = g) w w' := by
  subst hk
  rcases Nat.lt_or_ge l.length n with hlt | hge
  · rw [hA hlt]
    rcases hown.2 with ⟨h2, _⟩ | ⟨g', cap', cur, h3, hb, hg, hnc, hm, hs, ht⟩
    · cases h2
    · injection h3 with h4 h5 h6
      injection h4 with h4
      injection h4 with h4
      subst h4; subst h6
      have hone : ∀ u ∈ (Value.agg #[.int .i64 0, .int .i64 0, .int .i64 0, .string ByteArray.empty]).cells.toList, u.oneCell' = true := by
        intro u hu
        simp [Value.cells] at hu
        rcases hu with rfl | rfl <;> rfl
      obtain ⟨w', cur', h1, h2, h3, h4, h5⟩ := clear_at (P := Try.prog) w 27 42 ty _ uPs (zP w) hone g (l.length * 4) (n - l.length) c cur hg (by simp [Value.cells]; omega)
      exact ⟨w', h1, ⟨hown.1, .inr ⟨g, cap, cur', rfl, hb, h2, hnc, hm, h3.trans hs, h4.trans ht⟩⟩, h5⟩
  · have : n - l.length = 0 := by omega
    rw [this]
    refine ⟨w, ?_, hown, Keep.refl _ w⟩
    cases A <;> simp [Builtin.clear_, run_underlying uPs]
theorem wp_appendP {av : Nat → Prop} {w : World} {o : Oper} {a : Act} {K : Act → World → Prop} {Q : Exit → Act → World → Prop} (s x : Operand)
    (ho : o.op = .call { callee := .builtin .append, args := #[s, x], argTypes := #[27, 27] }) (v src : Value) (l r : List Pkt) (hs : a.eval s = v) (hx : a.eval x = src) (hown : POwn w v l) (hsl : PSl av w src r) (hb : l.length + r.length ≤ 1000000)
    (h : ∀ v' w', POwn w' v' (l ++ r) → Keep (fun b => v.ownBlock = some b) w w' → (v'.ownBlock = v.ownBlock ∨ v'.ownBlock = some w.heap.size) → K (a.put o.dst v') w') : o.wp Try.prog a w K Q := by
  obtain ⟨v', w', hr, h2, h3, h4⟩ := appendP w o.type v src l r hown hsl hb
  unfold Oper.wp execOp
  simp only [ho, resolve, invoke, builtin, Sem.run_bind, Sem.run_pure, Result.andThen_ok, List.map_toArray, List.map_cons, List.map_nil, hs, hx, hr]
  exact h v' w' h2 h3 h4
theorem step_appendP {av : Nat → Prop} {w : World} {ops : Array Oper} {o : Oper} {a : Act} {K : Act → World → Prop} {Q : Exit → Act → World → Prop} {E : Prop} (hgd : o.guard = none) (s x : Operand)
    (ho : o.op = .call { callee := .builtin .append, args := #[s, x], argTypes := #[27, 27] }) (v src : Value) (l r : List Pkt) (hs : a.eval s = v) (hx : a.eval x = src) (hown : POwn w v l) (hsl : PSl av w src r) (hb : l.length + r.length ≤ 1000000)
    (h : ∀ v' w', POwn w' v' (l ++ r) → Keep (fun b => v.ownBlock = some b) w w' → (v'.ownBlock = v.ownBlock ∨ v'.ownBlock = some w.heap.size) → K (a.put o.dst v') w') :
    if Region.wanted o (yielded ops a.tmps) = true then Oper.wp Try.prog o a w K Q else E := by
  have hw : Region.wanted o (yielded ops a.tmps) = true := by simp [Region.wanted, hgd]
  rw [if_pos hw]
  obtain ⟨v', w', hr, h2, h3, h4⟩ := appendP w o.type v src l r hown hsl hb
  unfold Oper.wp execOp
  simp only [ho, resolve, invoke, builtin, Sem.run_bind, Sem.run_pure, Result.andThen_ok, List.map_toArray, List.map_cons, List.map_nil, hs, hx, hr]
  exact h v' w' h2 h3 h4
/-- what is left of a row when its end is cut off -/
theorem PSl.drop {av : Nat → Prop} {w : World} {A : Option Addr} {c : Nat} {l : List Pkt} (h : PSl av w (.slice A l.length c) l) {k : Nat} (hk : k ≤ l.length) :
    PSl av w (.slice (if c = k then A else A.map (·.add (k * 4))) (l.length - k) (c - k)) (l.drop k) := by
  obtain ⟨hl, A', c', he, hc, hn⟩ := h
  injection he with h1 h2 h3
  subst h1; subst h3
  refine ⟨by rw [pc_len], _, _, by rw [List.length_drop], by rw [List.length_drop]; omega, fun h0 => ?_⟩
  rw [List.length_drop] at h0
  obtain ⟨b, off, rfl, hb, hav, hcell⟩ := hn (by omega)
  refine ⟨b, off + k * 4, by rw [if_neg (by omega)]; simp [Addr.add_lit], hb, hav, fun j u hu => ?_⟩
  rw [← pc_drop, List.getElem?_drop] at hu
  rw [Nat.add_assoc]
  exact hcell _ u hu
/-- a fresh empty row -/
theorem own_empty {w : World} {B : Nat} (h : w.heap[B]? = some (.cells #[] 42 (0, 0))) : POwn w (.slice (some ⟨B, 0, none⟩) 0 0) [] :=
  ⟨rfl, .inr ⟨B, 0, #[], rfl, Nat.zero_le _, h, Nat.le_refl _, Nat.zero_le _, rfl, rfl⟩⟩
theorem own_nil (w : World) : POwn w (.slice none 0 0) [] := ⟨rfl, .inl ⟨rfl, rfl⟩⟩
/-- one packet that has just been laid -/
theorem sl_one {w : World} {B : Nat} {p : Pkt} (h : w.heap[B]? = some (.cells #[.int .i64 p.id, .int .i64 p.src, .int .i64 p.dst, .string p.data] 42 (0, 0))) : PSl (fun _ => False) w (.slice (some ⟨B, 0, none⟩) 1 1) [p] := by
  refine ⟨rfl, some ⟨B, 0, none⟩, 1, rfl, Nat.le_refl _, fun _ => ⟨B, 0, rfl, lt_of_heap h, fun h => h, fun j u hu => ?_⟩⟩
  rw [Nat.zero_add, cell_of_row w B j _ _ _ h]
  simpa [pc, Pkt.cells] using hu
/-- the cells of the packet at k of an owned row -/
theorem own_at {w : World} {g n cap : Nat} {cur : List Pkt} (h : POwn w (.slice (some ⟨g, 0, none⟩) n cap) cur) {k : Nat} (hk : k < cur.length) (p : Pkt) (hp : cur[k] = p) :
    g < w.heap.size ∧ w.cell? ⟨g, k * 4, none⟩ = some (.int .i64 p.id) ∧ w.cell? ⟨g, k * 4 + 1, none⟩ = some (.int .i64 p.src) ∧ w.cell? ⟨g, k * 4 + 2, none⟩ = some (.int .i64 p.dst) ∧ w.cell? ⟨g, k * 4 + 3, none⟩ = some (.string p.data) := by
  subst hp
  have hc := h.cells (g := g) rfl
  simp only [Addr.add_lit, Nat.zero_add] at hc
  exact ⟨own_lt h rfl, hc _ _ (pc_get cur k 0 (by omega) hk), hc _ _ (pc_get cur k 1 (by omega) hk), hc _ _ (pc_get cur k 2 (by omega) hk), hc _ _ (pc_get cur k 3 (by omega) hk)⟩
theorem pc_set (l : List Pkt) (m : Nat) (p : Pkt) (hm : m < l.length) : pc (l.set m p) = (pc l).take (m * 4) ++ p.cells ++ (pc l).drop (m * 4 + 4) := by
  rw [pc_take, show m * 4 + 4 = (m + 1) * 4 from by omega, pc_drop, List.set_eq_take_append_cons_drop, if_pos hm, pc_append, pc_cons, List.append_assoc]
/-- s[m] = p -/
theorem storeP (w : World) (g n cap : Nat) (cur : List Pkt) (m : Nat) (hm : m < cur.length) (hown : POwn w (.slice (some ⟨g, 0, none⟩) n cap) cur) (p : Pkt) :
    ∃ w', (Instr.storeAt 42 (.pointer (some ⟨g, m * 4, none⟩)) (.agg #[.int .i64 p.id, .int .i64 p.src, .int .i64 p.dst, .string p.data])).run Try.prog w = .ok () w' ∧ POwn w' (.slice (some ⟨g, 0, none⟩) n cap) (cur.set m p) ∧ Keep (fun b => b = g) w w' := by
  rcases hown.2 with ⟨h2, _⟩ | ⟨g', cap', cs, h3, hb, hg, hnc, hmx, hs, ht⟩
  · cases h2
  · injection h3 with h4 h5 h6
    injection h4 with h4
    injection h4 with h4
    subst h4; subst h5; subst h6
    obtain ⟨i, hi, hz0, hz1, hz2⟩ := info_parts iP
    have hst := run_storeCells_at Try.prog g (m * 4) 42 p.cells 0 cs w hg (by simp [Pkt.cells]; omega) (by intro u hu; simp [Pkt.cells] at hu; rcases hu with rfl | rfl | rfl | rfl <;> rfl)
    simp only [Nat.add_zero] at hst
    obtain ⟨nw, hnw⟩ : ∃ nw, nw = (cs.toList.take (m * 4) ++ p.cells ++ cs.toList.drop (m * 4 + p.cells.length)).toArray := ⟨_, rfl⟩
    rw [← hnw] at hst
    have h4 : p.cells.length = 4 := rfl
    have hlen : (pc cur).length = cur.length * 4 := pc_len cur
    refine ⟨w.setRow g nw, ?_, ⟨by rw [pc_len], .inr ⟨g, cap, nw, by rw [List.length_set], Nat.zero_le _, setRow_heap w g cs _ _ _ hg, by rw [List.length_set]; exact hnc, hmx, ?_, ?_⟩⟩, ⟨rfl, rfl, rfl, by simp, fun k hk hF => setRow_other w g k _ hF⟩⟩
    · have hc : (Value.agg #[.int .i64 p.id, .int .i64 p.src, .int .i64 p.dst, .string p.data]).cells.toList = p.cells := rfl
      simp [Instr.storeAt, Instr.sureAddr, storeVar, sizeOf, typeInfo, hi, hz1, hc, hst]
      rfl
    · rw [hnw]
      simp only [List.size_toArray, List.length_append, List.length_take, List.length_drop, Array.length_toList, h4]
      omega
    · rw [List.length_set, pc_set cur m p hm, ← ht, hnw]
      simp only [h4]
      have hcl : cs.toList.length = cap * 4 := by simpa using hs
      rw [List.take_take, Nat.min_eq_left (by omega), List.drop_take, List.append_assoc, List.append_assoc, List.take_append, List.take_append, List.take_take]
      congr 1
      · congr 1
        omega
      · rw [List.take_of_length_le (l := p.cells) (by simp [h4]; omega)]
        congr 2
        simp [h4]; omega
theorem wpList_storeP {w : World} {ops : Array Oper} {rest : List Oper} {o : Oper} {a : Act} {Q : Exit → Act → World → Prop} (hgd : o.guard = none) (x y : Operand) (ho : o.op = .store 42 x y) (g n cap : Nat) (cur : List Pkt) (m : Nat) (p : Pkt)
    (hx : a.eval x = .pointer (some ⟨g, m * 4, none⟩)) (hy : a.eval y = .agg #[.int .i64 p.id, .int .i64 p.src, .int .i64 p.dst, .string p.data]) (hm : m < cur.length) (hown : POwn w (.slice (some ⟨g, 0, none⟩) n cap) cur)
    (h : ∀ w', POwn w' (.slice (some ⟨g, 0, none⟩) n cap) (cur.set m p) → Keep (fun b => b = g) w w' → wpList Try.prog ops Q rest (a.put o.dst undef) w') : wpList Try.prog ops Q (o :: rest) a w := by
  refine wpList_plain hgd fun K hK => ?_
  obtain ⟨w', hr, h2, h3⟩ := storeP w g n cap cur m hm hown p
  unfold Oper.wp execOp
  simp only [ho, hx, hy, Sem.run_bind, Sem.run_pure, Result.andThen_ok, hr]
  exact hK _ _ (h w' h2 h3)
theorem aggP (w : World) : (isAgg 42).run Try.prog w = .ok true w := by kernel_rfl
theorem sizP (w : World) : (sizeOf 42).run Try.prog w = .ok 4 w := by kernel_rfl
theorem loadP {w : World} {B : Nat} {p : Pkt} {t : TypeId} (h : w.heap[B]? = some (.cells #[.int .i64 p.id, .int .i64 p.src, .int .i64 p.dst, .string p.data] t (0, 0))) : (loadVar 42 ⟨B, 0, none⟩).run Try.prog w = .ok p.val w :=
  load_whole w _ B _ t _ h (aggP w) (sizP w)
theorem one4 (a b c : Int) (d : ByteArray) : ∀ u ∈ (#[Value.int .i64 a, .int .i64 b, .int .i64 c, .string d]).toList, u.oneCell' = true := by
  intro u hu
  simp at hu
  rcases hu with rfl | rfl | rfl | rfl <;> rfl
end Go.Proofs.Ytinpinjjdkilpaa
