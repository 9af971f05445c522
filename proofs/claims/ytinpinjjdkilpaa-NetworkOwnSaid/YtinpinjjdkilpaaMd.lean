/- the rows' last step: a call that changed nothing below the old memory's end, and answered true -/
import Derived.Test.YtinpinjjdkilpaaMa
import Derived.Deep.RegionWith
import Derived.Deep.RegionHeld3
import Derived.BigQuiet
import Derived.Deep.RegionLaw
import Derived.Laws.ResultCell
import Derived.OrdersHeld
import Derived.Test.YtinpinjjdkilpaaRows
import Derived.ProofKit
import Derived.OpenShut
import Derived.JoinedCond
import Derived.Test.YtinpinjjdkilpaaMc
set_option linter.unusedSimpArgs false
set_option linter.unusedVariables false
set_option linter.unusedSectionVars false
/- Packets as plain data, and how a list of them lies in memory. No function of the program. -/
namespace Go.Proofs.Ytinpinjjdkilpaa
open Go.RowKit
structure Pkt where
  id : Int
  src : Int
  dst : Int
  data : ByteArray
  deriving DecidableEq
def Pkt.val (p : Pkt) : Value := .agg #[.int .i64 p.id, .int .i64 p.src, .int .i64 p.dst, .string p.data]
def Pkt.cells (p : Pkt) : List Value := [.int .i64 p.id, .int .i64 p.src, .int .i64 p.dst, .string p.data]
def pc (l : List Pkt) : List Value := l.flatMap Pkt.cells
theorem pc_len (l : List Pkt) : (pc l).length = l.length * 4 := by
  induction l with
  | nil => rfl
  | cons p l ih => simp only [pc, List.flatMap_cons, List.length_append, List.length_cons] at ih ⊢; rw [ih]; simp [Pkt.cells]; omega
theorem pc_get (l : List Pkt) (k j : Nat) (hj : j < 4) (hk : k < l.length) : (pc l)[k * 4 + j]? = (l[k]).cells[j]? := by
  induction l generalizing k with
  | nil => simp at hk
  | cons p l ih =>
    simp only [pc, List.flatMap_cons]
    cases k with
    | zero => rw [List.getElem?_append_left (by simp [Pkt.cells]; omega)]; simp
    | succ k =>
      have h4 : p.cells.length = 4 := rfl
      rw [List.getElem?_append_right (by rw [h4]; omega), h4, show (k + 1) * 4 + j - 4 = k * 4 + j from by omega]
      exact ih k (by simpa using hk)
theorem pc_append (l r : List Pkt) : pc (l ++ r) = pc l ++ pc r := by simp [pc]
theorem pc_cons (p : Pkt) (r : List Pkt) : pc (p :: r) = p.cells ++ pc r := by simp [pc]
theorem pc_take (l : List Pkt) (k : Nat) : (pc l).take (k * 4) = pc (l.take k) := by
  induction l generalizing k with
  | nil => simp [pc]
  | cons p l ih =>
    cases k with
    | zero => simp [pc]
    | succ k =>
      have h4 : p.cells.length = 4 := rfl
      rw [pc_cons, List.take_succ_cons, pc_cons, List.take_append, h4, show (k + 1) * 4 - 4 = k * 4 from by omega, ih, List.take_of_length_le (by rw [h4]; omega)]
theorem pc_drop (l : List Pkt) (k : Nat) : (pc l).drop (k * 4) = pc (l.drop k) := by
  induction l generalizing k with
  | nil => simp [pc]
  | cons p l ih =>
    cases k with
    | zero => simp [pc]
    | succ k =>
      have h4 : p.cells.length = 4 := rfl
      rw [pc_cons, List.drop_succ_cons, List.drop_append, h4, show (k + 1) * 4 - 4 = k * 4 from by omega, ih, List.drop_eq_nil_of_le (by rw [h4]; omega), List.nil_append]
theorem pc_one (l : List Pkt) : ∀ u ∈ pc l, u.oneCell' = true := by
  intro u hu
  simp only [pc, List.mem_flatMap] at hu
  obtain ⟨p, _, hp⟩ := hu
  simp only [Pkt.cells, List.mem_cons, List.not_mem_nil, or_false] at hp
  rcases hp with rfl | rfl | rfl | rfl <;> rfl

/-- A slice that reads as packets. -/
abbrev PSl (av : Nat → Prop) (w : World) (v : Value) (l : List Pkt) : Prop := Sl av w 4 v l.length (pc l)

/-- its cells, asked for where k < length -/
theorem PSl.at_ {av : Nat → Prop} {w : World} {v : Value} {l : List Pkt} (h : PSl av w v l) {k : Nat} (hk : k < l.length) :
    ∃ b off c, v = .slice (some ⟨b, off, none⟩) l.length c ∧ b < w.heap.size ∧ ¬ av b ∧
      w.cell? ⟨b, off + k * 4, none⟩ = some (.int .i64 (l[k]).id) ∧ w.cell? ⟨b, off + k * 4 + 1, none⟩ = some (.int .i64 (l[k]).src) ∧
      w.cell? ⟨b, off + k * 4 + 2, none⟩ = some (.int .i64 (l[k]).dst) ∧ w.cell? ⟨b, off + k * 4 + 3, none⟩ = some (.string (l[k]).data) := by
  obtain ⟨hl, A, c, rfl, hc, hn⟩ := h
  obtain ⟨b, off, rfl, hb, hav, hcell⟩ := hn (by omega)
  refine ⟨b, off, c, rfl, hb, hav, ?_, ?_, ?_, ?_⟩
  · exact hcell (k * 4) _ (pc_get l k 0 (by omega) hk)
  · exact hcell (k * 4 + 1) _ (pc_get l k 1 (by omega) hk)
  · exact hcell (k * 4 + 2) _ (pc_get l k 2 (by omega) hk)
  · exact hcell (k * 4 + 3) _ (pc_get l k 3 (by omega) hk)
theorem PSl.shape {av : Nat → Prop} {w : World} {v : Value} {l : List Pkt} (h : PSl av w v l) : ∃ A c, v = .slice A l.length c ∧ l.length ≤ c := by
  obtain ⟨hl, A, c, rfl, hc, hn⟩ := h
  exact ⟨A, c, rfl, hc⟩

theorem uPs : Try.prog.underlying 27 = some (.slice 42) := by kernel_rfl
theorem iP : (Try.prog.info? 42).map (fun i => (i.zero, i.size, i.bytes)) = some (some (.agg #[.int .i64 0, .int .i64 0, .int .i64 0, .string ByteArray.empty]), 4, 40) := by kernel_rfl
/-- a slice against nil, in the walk's words -/
theorem eqNilP (A : Option Addr) (n c : Nat) (w : World) : (binOp .eql 27 (.slice A n c) (.slice none 0 0)).run Try.prog w = .ok (.bool A.isNone) w := by
  exact Lib.run_eql_slice_nil w _ _ A n c 0 0 uPs
/-- an owned row of packets -/
abbrev POwn (w : World) (v : Value) (l : List Pkt) : Prop := w.ownsRow 0 42 4 v l.length (pc l)

theorem appendP {av : Nat → Prop} (w : World) (ty : TypeId) (v src : Value) (l r : List Pkt) (hown : POwn w v l) (hs : PSl av w src r) (hb : l.length + r.length ≤ 1000000) :
    ∃ v' w', (Builtin.append_ #[27, 27] ty #[v, src]).run Try.prog w = .ok v' w' ∧ POwn w' v' (l ++ r) ∧ Keep (fun b => v.ownBlock = some b) w w' ∧ (v'.ownBlock = v.ownBlock ∨ v'.ownBlock = some w.heap.size) := by
  obtain ⟨i, hi, hz0, hz1, hz2⟩ := info_parts iP
  obtain ⟨v', w', h1, h2, h3, h4⟩ := append_sl (P := Try.prog) w 0 27 ty 42 i _ 4 40 uPs hi hz0 hz1 hz2 rfl (by omega) v l.length (pc l) hown src r.length (pc r) hs (pc_one r) (by unfold maxLen; omega) (by omega) (Nat.zero_le _)
  exact ⟨v', w', h1, by unfold POwn; rw [List.length_append, pc_append]; exact h2, h3, h4⟩
theorem wpList_appendP {av : Nat → Prop} {w : World} {ops : Array Oper} {rest : List Oper} {o : Oper} {a : Act} {Q : Exit → Act → World → Prop} (hgd : o.guard = none) (s x : Operand)
    (ho : o.op = .call { callee := .builtin .append, args := #[s, x], argTypes := #[27, 27] }) (v src : Value) (l r : List Pkt) (hs : a.eval s = v) (hx : a.eval x = src) (hown : POwn w v l) (hsl : PSl av w src r) (hb : l.length + r.length ≤ 1000000)
    (h : ∀ v' w', POwn w' v' (l ++ r) → Keep (fun b => v.ownBlock = some b) w w' → (v'.ownBlock = v.ownBlock ∨ v'.ownBlock = some w.heap.size) → wpList Try.prog ops Q rest (a.put o.dst v') w') : wpList Try.prog ops Q (o :: rest) a w := by
  refine wpList_plain hgd fun K hK => ?_
  obtain ⟨v', w', hr, h2, h3, h4⟩ := appendP w o.type v src l r hown hsl hb
  unfold Oper.wp execOp
  simp only [ho, resolve, invoke, builtin, Sem.run_bind, Sem.run_pure, Result.andThen_ok, List.map_toArray, List.map_cons, List.map_nil, hs, hx, hr]
  exact hK _ _ (h v' w' h2 h3 h4)
theorem appendP_fits {av : Nat → Prop} (w : World) (ty : TypeId) (g cap : Nat) (src : Value) (l r : List Pkt) (n m : Nat) (hn : l.length = n) (hm : r.length = m) (hown : POwn w (.slice (some ⟨g, 0, none⟩) n cap) l) (hs : PSl av w src r) (hroom : n + m ≤ cap) :
    ∃ w', (Builtin.append_ #[27, 27] ty #[.slice (some ⟨g, 0, none⟩) n cap, src]).run Try.prog w = .ok (.slice (some ⟨g, 0, none⟩) (n + m) cap) w' ∧ POwn w' (.slice (some ⟨g, 0, none⟩) (n + m) cap) (l ++ r) ∧ Keep (fun b => b = g) w w' := by
  subst hn; subst hm
  obtain ⟨i, hi, hz0, hz1, hz2⟩ := info_parts iP
  obtain ⟨w', h1, h2, h3⟩ := append_fits_sl (P := Try.prog) w 0 27 ty 42 i 4 uPs hi hz1 g l.length cap (pc l) hown src r.length (pc r) hs (pc_one r) hroom
  exact ⟨w', h1, by unfold POwn; rw [pc_append, List.length_append]; exact h2, h3⟩
/-- at a region that draws: the append with room -/
theorem step_appendP_fits {av : Nat → Prop} {w : World} {ops : Array Oper} {o : Oper} {a : Act} {K : Act → World → Prop} {Q : Exit → Act → World → Prop} {E : Prop} (hgd : o.guard = none) (s x : Operand)
    (ho : o.op = .call { callee := .builtin .append, args := #[s, x], argTypes := #[27, 27] }) (g cap : Nat) (src : Value) (l r : List Pkt) (n m : Nat) (hn : l.length = n) (hm : r.length = m) (hs : a.eval s = .slice (some ⟨g, 0, none⟩) n cap) (hx : a.eval x = src) (hown : POwn w (.slice (some ⟨g, 0, none⟩) n cap) l) (hsl : PSl av w src r) (hb : n + m ≤ cap)
    (h : ∀ w', POwn w' (.slice (some ⟨g, 0, none⟩) (n + m) cap) (l ++ r) → Keep (fun b => b = g) w w' → K (a.put o.dst (.slice (some ⟨g, 0, none⟩) (n + m) cap)) w') :
    if Region.wanted o (yielded ops a.tmps) = true then Oper.wp Try.prog o a w K Q else E := by
  have hw : Region.wanted o (yielded ops a.tmps) = true := by simp [Region.wanted, hgd]
  rw [if_pos hw]
  obtain ⟨w', hr, h2, h3⟩ := appendP_fits w o.type g cap src l r n m hn hm hown hsl hb
  unfold Oper.wp execOp
  simp only [ho, resolve, invoke, builtin, Sem.run_bind, Sem.run_pure, Result.andThen_ok, List.map_toArray, List.map_cons, List.map_nil, hs, hx, hr]
  exact h w' h2 h3
theorem zP (w : World) : (zeroValue 42).run Try.prog w = .ok (.agg #[.int .i64 0, .int .i64 0, .int .i64 0, .string ByteArray.empty]) w := by kernel_rfl
theorem hiP (A : Option Addr) (n c k : Nat) (hk : k ≤ c) (w : World) : (Instr.slice 27 (.slice A n c) none (some (.int .i64 k)) none).run Try.prog w = .ok (.slice A k c) w := by
  obtain ⟨i, hi, hz0, hz1, hz2⟩ := info_parts iP
  exact cut_hi w _ _ i uPs hi A n c k hk
theorem loP (A : Option Addr) (n c k : Nat) (hk : k ≤ n) (w : World) : (Instr.slice 27 (.slice A n c) (some (.int .i64 k)) none none).run Try.prog w = .ok (.slice (if c = k then A else A.map (·.add (k * 4))) (n - k) (c - k)) w := by
  obtain ⟨i, hi, hz0, hz1, hz2⟩ := info_parts iP
  exact cut_lo w _ _ i 4 uPs hi hz1 A n c k hk
theorem lhP (A : Option Addr) (n c k h : Nat) (hk : k ≤ h) (hh : h ≤ c) (w : World) : (Instr.slice 27 (.slice A n c) (some (.int .i64 k)) (some (.int .i64 h)) none).run Try.prog w = .ok (.slice (if c = k then A else A.map (·.add (k * 4))) (h - k) (c - k)) w := by
  obtain ⟨i, hi, hz0, hz1, hz2⟩ := info_parts iP
  exact cut_lh w _ _ i 4 uPs hi hz1 A n c k h hk hh
/-- clear on what stands behind the first k of a row -/
theorem clearP (w : World) (ty : TypeId) (g n cap : Nat) (l : List Pkt) (k : Nat) (hk : l.length = k) (hn : k ≤ n) (hc : n ≤ cap) (hown : POwn w (.slice (some ⟨g, 0, none⟩) k cap) l) (A : Option Addr) (c : Nat) (hA : k < n → A = some ⟨g, k * 4, none⟩) :
    ∃ w', (Builtin.clear_ #[27] ty #[.slice A (n - k) c]).run Try.prog w = .ok (.tuple #[]) w' ∧ POwn w' (.slice (some ⟨g, 0, none⟩) k cap) l ∧ Keep (fun b => b = g) w w' := by
  subst hk
  rcases Nat.lt_or_ge l.length n with hlt | hge
  · rw [hA hlt]
    rcases hown.2 with ⟨h2, _⟩ | ⟨g', cap', cur, h3, hb, hg, hnc, hm, hs, ht⟩
    · cases h2
    · injection h3 with h4 h5 h6
      injection h4 with h4
      injection h4 with h4
      subst h4; subst h6
      have hone : ∀ u ∈ (Value.agg #[.int .i64 0, .int .i64 0, .int .i64 0, .string ByteArray.empty]).cells.toList, u.oneCell' = true := by
        intro u hu
        simp [Value.cells] at hu
        rcases hu with rfl | rfl <;> rfl
      obtain ⟨w', cur', h1, h2, h3, h4, h5⟩ := clear_at (P := Try.prog) w 27 42 ty _ uPs (zP w) hone g (l.length * 4) (n - l.length) c cur hg (by simp [Value.cells]; omega)
      exact ⟨w', h1, ⟨hown.1, .inr ⟨g, cap, cur', rfl, hb, h2, hnc, hm, h3.trans hs, h4.trans ht⟩⟩, h5⟩
  · have : n - l.length = 0 := by omega
    rw [this]
    refine ⟨w, ?_, hown, Keep.refl _ w⟩
    cases A <;> simp [Builtin.clear_, run_underlying uPs]
theorem wp_appendP {av : Nat → Prop} {w : World} {o : Oper} {a : Act} {K : Act → World → Prop} {Q : Exit → Act → World → Prop} (s x : Operand)
    (ho : o.op = .call { callee := .builtin .append, args := #[s, x], argTypes := #[27, 27] }) (v src : Value) (l r : List Pkt) (hs : a.eval s = v) (hx : a.eval x = src) (hown : POwn w v l) (hsl : PSl av w src r) (hb : l.length + r.length ≤ 1000000)
    (h : ∀ v' w', POwn w' v' (l ++ r) → Keep (fun b => v.ownBlock = some b) w w' → (v'.ownBlock = v.ownBlock ∨ v'.ownBlock = some w.heap.size) → K (a.put o.dst v') w') : o.wp Try.prog a w K Q := by
  obtain ⟨v', w', hr, h2, h3, h4⟩ := appendP w o.type v src l r hown hsl hb
  unfold Oper.wp execOp
  simp only [ho, resolve, invoke, builtin, Sem.run_bind, Sem.run_pure, Result.andThen_ok, List.map_toArray, List.map_cons, List.map_nil, hs, hx, hr]
  exact h v' w' h2 h3 h4
theorem step_appendP {av : Nat → Prop} {w : World} {ops : Array Oper} {o : Oper} {a : Act} {K : Act → World → Prop} {Q : Exit → Act → World → Prop} {E : Prop} (hgd : o.guard = none) (s x : Operand)
    (ho : o.op = .call { callee := .builtin .append, args := #[s, x], argTypes := #[27, 27] }) (v src : Value) (l r : List Pkt) (hs : a.eval s = v) (hx : a.eval x = src) (hown : POwn w v l) (hsl : PSl av w src r) (hb : l.length + r.length ≤ 1000000)
    (h : ∀ v' w', POwn w' v' (l ++ r) → Keep (fun b => v.ownBlock = some b) w w' → (v'.ownBlock = v.ownBlock ∨ v'.ownBlock = some w.heap.size) → K (a.put o.dst v') w') :
    if Region.wanted o (yielded ops a.tmps) = true then Oper.wp Try.prog o a w K Q else E := by
  have hw : Region.wanted o (yielded ops a.tmps) = true := by simp [Region.wanted, hgd]
  rw [if_pos hw]
  obtain ⟨v', w', hr, h2, h3, h4⟩ := appendP w o.type v src l r hown hsl hb
  unfold Oper.wp execOp
  simp only [ho, resolve, invoke, builtin, Sem.run_bind, Sem.run_pure, Result.andThen_ok, List.map_toArray, List.map_cons, List.map_nil, hs, hx, hr]
  exact h v' w' h2 h3 h4
/-- what is left of a row when its end is cut off -/
theorem PSl.drop {av : Nat → Prop} {w : World} {A : Option Addr} {c : Nat} {l : List Pkt} (h : PSl av w (.slice A l.length c) l) {k : Nat} (hk : k ≤ l.length) :
    PSl av w (.slice (if c = k then A else A.map (·.add (k * 4))) (l.length - k) (c - k)) (l.drop k) := by
  obtain ⟨hl, A', c', he, hc, hn⟩ := h
  injection he with h1 h2 h3
  subst h1; subst h3
  refine ⟨by rw [pc_len], _, _, by rw [List.length_drop], by rw [List.length_drop]; omega, fun h0 => ?_⟩
  rw [List.length_drop] at h0
  obtain ⟨b, off, rfl, hb, hav, hcell⟩ := hn (by omega)
  refine ⟨b, off + k * 4, by rw [if_neg (by omega)]; simp [Addr.add_lit], hb, hav, fun j u hu => ?_⟩
  rw [← pc_drop, List.getElem?_drop] at hu
  rw [Nat.add_assoc]
  exact hcell _ u hu
/-- a fresh empty row -/
theorem own_empty {w : World} {B : Nat} (h : w.heap[B]? = some (.cells #[] 42 (0, 0))) : POwn w (.slice (some ⟨B, 0, none⟩) 0 0) [] :=
  ⟨rfl, .inr ⟨B, 0, #[], rfl, Nat.zero_le _, h, Nat.le_refl _, Nat.zero_le _, rfl, rfl⟩⟩
theorem own_nil (w : World) : POwn w (.slice none 0 0) [] := ⟨rfl, .inl ⟨rfl, rfl⟩⟩
/-- one packet that has just been laid -/
theorem sl_one {w : World} {B : Nat} {p : Pkt} (h : w.heap[B]? = some (.cells #[.int .i64 p.id, .int .i64 p.src, .int .i64 p.dst, .string p.data] 42 (0, 0))) : PSl (fun _ => False) w (.slice (some ⟨B, 0, none⟩) 1 1) [p] := by
  refine ⟨rfl, some ⟨B, 0, none⟩, 1, rfl, Nat.le_refl _, fun _ => ⟨B, 0, rfl, lt_of_heap h, fun h => h, fun j u hu => ?_⟩⟩
  rw [Nat.zero_add, cell_of_row w B j _ _ _ h]
  simpa [pc, Pkt.cells] using hu
/-- the cells of the packet at k of an owned row -/
theorem own_at {w : World} {g n cap : Nat} {cur : List Pkt} (h : POwn w (.slice (some ⟨g, 0, none⟩) n cap) cur) {k : Nat} (hk : k < cur.length) (p : Pkt) (hp : cur[k] = p) :
    g < w.heap.size ∧ w.cell? ⟨g, k * 4, none⟩ = some (.int .i64 p.id) ∧ w.cell? ⟨g, k * 4 + 1, none⟩ = some (.int .i64 p.src) ∧ w.cell? ⟨g, k * 4 + 2, none⟩ = some (.int .i64 p.dst) ∧ w.cell? ⟨g, k * 4 + 3, none⟩ = some (.string p.data) := by
  subst hp
  have hc := h.cells (g := g) rfl
  simp only [Addr.add_lit, Nat.zero_add] at hc
  exact ⟨own_lt h rfl, hc _ _ (pc_get cur k 0 (by omega) hk), hc _ _ (pc_get cur k 1 (by omega) hk), hc _ _ (pc_get cur k 2 (by omega) hk), hc _ _ (pc_get cur k 3 (by omega) hk)⟩
theorem pc_set (l : List Pkt) (m : Nat) (p : Pkt) (hm : m < l.length) : pc (l.set m p) = (pc l).take (m * 4) ++ p.cells ++ (pc l).drop (m * 4 + 4) := by
  rw [pc_take, show m * 4 + 4 = (m + 1) * 4 from by omega, pc_drop, List.set_eq_take_append_cons_drop, if_pos hm, pc_append, pc_cons, List.append_assoc]
/-- s[m] = p -/
theorem storeP (w : World) (g n cap : Nat) (cur : List Pkt) (m : Nat) (hm : m < cur.length) (hown : POwn w (.slice (some ⟨g, 0, none⟩) n cap) cur) (p : Pkt) :
    ∃ w', (Instr.storeAt 42 (.pointer (some ⟨g, m * 4, none⟩)) (.agg #[.int .i64 p.id, .int .i64 p.src, .int .i64 p.dst, .string p.data])).run Try.prog w = .ok () w' ∧ POwn w' (.slice (some ⟨g, 0, none⟩) n cap) (cur.set m p) ∧ Keep (fun b => b = g) w w' := by
  rcases hown.2 with ⟨h2, _⟩ | ⟨g', cap', cs, h3, hb, hg, hnc, hmx, hs, ht⟩
  · cases h2
  · injection h3 with h4 h5 h6
    injection h4 with h4
    injection h4 with h4
    subst h4; subst h5; subst h6
    obtain ⟨i, hi, hz0, hz1, hz2⟩ := info_parts iP
    have hst := run_storeCells_at Try.prog g (m * 4) 42 p.cells 0 cs w hg (by simp [Pkt.cells]; omega) (by intro u hu; simp [Pkt.cells] at hu; rcases hu with rfl | rfl | rfl | rfl <;> rfl)
    simp only [Nat.add_zero] at hst
    obtain ⟨nw, hnw⟩ : ∃ nw, nw = (cs.toList.take (m * 4) ++ p.cells ++ cs.toList.drop (m * 4 + p.cells.length)).toArray := ⟨_, rfl⟩
    rw [← hnw] at hst
    have h4 : p.cells.length = 4 := rfl
    have hlen : (pc cur).length = cur.length * 4 := pc_len cur
    refine ⟨w.setRow g nw, ?_, ⟨by rw [pc_len], .inr ⟨g, cap, nw, by rw [List.length_set], Nat.zero_le _, setRow_heap w g cs _ _ _ hg, by rw [List.length_set]; exact hnc, hmx, ?_, ?_⟩⟩, ⟨rfl, rfl, rfl, by simp, fun k hk hF => setRow_other w g k _ hF⟩⟩
    · have hc : (Value.agg #[.int .i64 p.id, .int .i64 p.src, .int .i64 p.dst, .string p.data]).cells.toList = p.cells := rfl
      simp [Instr.storeAt, Instr.sureAddr, storeVar, sizeOf, typeInfo, hi, hz1, hc, hst]
      rfl
    · rw [hnw]
      simp only [List.size_toArray, List.length_append, List.length_take, List.length_drop, Array.length_toList, h4]
      omega
    · rw [List.length_set, pc_set cur m p hm, ← ht, hnw]
      simp only [h4]
      have hcl : cs.toList.length = cap * 4 := by simpa using hs
      rw [List.take_take, Nat.min_eq_left (by omega), List.drop_take, List.append_assoc, List.append_assoc, List.take_append, List.take_append, List.take_take]
      congr 1
      · congr 1
        omega
      · rw [List.take_of_length_le (l := p.cells) (by simp [h4]; omega)]
        congr 2
        simp [h4]; omega
theorem wpList_storeP {w : World} {ops : Array Oper} {rest : List Oper} {o : Oper} {a : Act} {Q : Exit → Act → World → Prop} (hgd : o.guard = none) (x y : Operand) (ho : o.op = .store 42 x y) (g n cap : Nat) (cur : List Pkt) (m : Nat) (p : Pkt)
    (hx : a.eval x = .pointer (some ⟨g, m * 4, none⟩)) (hy : a.eval y = .agg #[.int .i64 p.id, .int .i64 p.src, .int .i64 p.dst, .string p.data]) (hm : m < cur.length) (hown : POwn w (.slice (some ⟨g, 0, none⟩) n cap) cur)
    (h : ∀ w', POwn w' (.slice (some ⟨g, 0, none⟩) n cap) (cur.set m p) → Keep (fun b => b = g) w w' → wpList Try.prog ops Q rest (a.put o.dst undef) w') : wpList Try.prog ops Q (o :: rest) a w := by
  refine wpList_plain hgd fun K hK => ?_
  obtain ⟨w', hr, h2, h3⟩ := storeP w g n cap cur m hm hown p
  unfold Oper.wp execOp
  simp only [ho, hx, hy, Sem.run_bind, Sem.run_pure, Result.andThen_ok, hr]
  exact hK _ _ (h w' h2 h3)
theorem aggP (w : World) : (isAgg 42).run Try.prog w = .ok true w := by kernel_rfl
theorem sizP (w : World) : (sizeOf 42).run Try.prog w = .ok 4 w := by kernel_rfl
theorem loadP {w : World} {B : Nat} {p : Pkt} {t : TypeId} (h : w.heap[B]? = some (.cells #[.int .i64 p.id, .int .i64 p.src, .int .i64 p.dst, .string p.data] t (0, 0))) : (loadVar 42 ⟨B, 0, none⟩).run Try.prog w = .ok p.val w :=
  load_whole w _ B _ t _ h (aggP w) (sizP w)
theorem one4 (a b c : Int) (d : ByteArray) : ∀ u ∈ (#[Value.int .i64 a, .int .i64 b, .int .i64 c, .string d]).toList, u.oneCell' = true := by
  intro u hu
  simp at hu
  rcases hu with rfl | rfl | rfl | rfl <;> rfl
end Go.Proofs.Ytinpinjjdkilpaa
/- The two map types' keys, and equality of the structs that are compared. -/
namespace Go.Proofs.Ytinpinjjdkilpaa
open Go.RowKit

def keI (k : Int) : Value := .int .i64 k
def keP (k : Int × Int) : Value := .agg #[.int .i64 k.1, .int .i64 k.2]

theorem u73 : Try.prog.underlying 73 = some (.array 2 3) := by kernel_rfl
theorem u3 : Try.prog.underlying 3 = some (.int .i64) := by kernel_rfl
theorem u2 : Try.prog.underlying 2 = some (.int .i64) := by kernel_rfl
theorem part3 (cs : Array Value) (i : Nat) (v : Value) (w : World) (h : cs[i]? = some v) : (part 3 cs i).run Try.prog w = .ok v w := by
  simp [part, isAgg, run_underlying u3, h]

theorem eqP_d (d : Nat) (a b c e : Int) (w : World) : (Op.equalIn (d + 2) 73 (.agg #[.int .i64 a, .int .i64 b]) (.agg #[.int .i64 c, .int .i64 e])).run Try.prog w = .ok (a == c && b == e) w := by
  have h3 : (sizeOf 3).run Try.prog w = .ok 1 w := by kernel_rfl
  have hq : ∀ (x y : Int), (Op.equalIn (d + 1) 3 (.int .i64 x) (.int .i64 y)).run Try.prog w = .ok (x == y) w := fun x y => by simp [Op.equalIn, run_underlying u3]
  have p1 := part3 #[.int .i64 a, .int .i64 b] 0 _ w rfl
  have p2 := part3 #[.int .i64 a, .int .i64 b] 1 _ w rfl
  have p3 := part3 #[.int .i64 c, .int .i64 e] 0 _ w rfl
  have p4 := part3 #[.int .i64 c, .int .i64 e] 1 _ w rfl
  unfold Op.equalIn
  simp only [Sem.run_bind, run_underlying u73, Result.andThen_ok, h3]
  simp [Std.Legacy.Range.forIn_eq_forIn_range', Std.Legacy.Range.size, List.range', p1, p2, p3, p4, hq]
  by_cases h : a = c
  · by_cases h' : b = e <;> simp [h, h']
  · simp [h]
theorem eqP (a b c e : Int) (w : World) : (Op.equalIn 10000 73 (.agg #[.int .i64 a, .int .i64 b]) (.agg #[.int .i64 c, .int .i64 e])).run Try.prog w = .ok (a == c && b == e) w := eqP_d 9998 a b c e w

theorem checkP_d (d : Nat) (empty : Bool) (a b : Int) (w : World) : (Instr.checkKey empty (d + 2) 73 (.agg #[.int .i64 a, .int .i64 b])).run Try.prog w = .ok () w := by
  have h3 : (sizeOf 3).run Try.prog w = .ok 1 w := by kernel_rfl
  have hq : ∀ (x : Int), (Instr.checkKey empty (d + 1) 3 (.int .i64 x)).run Try.prog w = .ok () w := fun x => by simp [Instr.checkKey, run_underlying u3]
  have p1 := part3 #[.int .i64 a, .int .i64 b] 0 _ w rfl
  have p2 := part3 #[.int .i64 a, .int .i64 b] 1 _ w rfl
  unfold Instr.checkKey
  simp only [Sem.run_bind, run_underlying u73, Result.andThen_ok]
  simp [Std.Legacy.Range.forIn_eq_forIn_range', Std.Legacy.Range.size, List.range', h3, p1, p2, hq]

/-- asking one entry behind the other -/
theorem findAsking_run {κ : Type} [DecidableEq κ] {P : Program} {T : TypeId} {ke : κ → Value} (heq : ∀ (k k' : κ) (w : World), (Op.equal T (ke k) (ke k')).run P w = .ok (decide (k = k')) w) (k : κ) (w : World) :
    ∀ (es : List MapEntry) (L : List (κ × Value)) (n : Nat), es.map (fun e => (e.key, e.val)) = L.map (fun p => (ke p.1, p.2)) →
      (Instr.findAsking T (ke k) es n).run P w = .ok (((L.map (·.1)).idxOf? k).bind fun i => (L[i]?).map fun p => (n + i, p.2)) w
  | [], [], n, _ => by simp [Instr.findAsking]
  | [], _ :: _, _, h => by simp at h
  | _ :: _, [], _, h => by simp at h
  | e :: es, p :: L, n, h => by
    simp only [List.map_cons, List.cons.injEq, Prod.mk.injEq] at h
    obtain ⟨⟨h1, h2⟩, h3⟩ := h
    have ih := findAsking_run heq k w es L (n + 1) h3
    simp only [Instr.findAsking, Sem.run_bind, h1, heq, Result.andThen_ok, List.map_cons, List.idxOf?_cons]
    by_cases hk : k = p.1
    · subst hk; simp [h2]
    · have hb : (p.1 == k) = false := by simpa using fun e : p.1 = k => hk e.symm
      simp only [hk, decide_false, Bool.false_eq_true, if_false, hb, ih]
      cases hi : List.idxOf? k (List.map (fun x => x.1) L) with
      | none => simp
      | some i => simp [Nat.add_assoc, Nat.add_comm 1 i]

theorem findNow_P (a : Value) (es : List MapEntry) (n : Nat) : es ≠ [] → Instr.findNow (.array 2 3) a es n = none := by
  intro h
  cases es with
  | nil => exact absurd rfl h
  | cons e es => simp [Instr.findNow, Instr.sameNow]

theorem findNow_I (k : Int) : ∀ (es : List MapEntry) (L : List (Int × Value)) (n : Nat), es.map (fun e => (e.key, e.val)) = L.map (fun p => (keI p.1, p.2)) →
      Instr.findNow (.int .i64) (keI k) es n = some (((L.map (·.1)).idxOf? k).bind fun i => (L[i]?).map fun p => (n + i, p.2))
  | [], [], n, _ => by simp [Instr.findNow]
  | [], _ :: _, _, h => by simp at h
  | _ :: _, [], _, h => by simp at h
  | e :: es, p :: L, n, h => by
    simp only [List.map_cons, List.cons.injEq, Prod.mk.injEq] at h
    obtain ⟨⟨h1, h2⟩, h3⟩ := h
    have ih := findNow_I k es L (n + 1) h3
    have hs : Instr.sameNow (.int .i64) (keI k) e.key = some (k == p.1) := by rw [h1]; simp [keI, Instr.sameNow]
    simp only [Instr.findNow, hs, List.map_cons, List.idxOf?_cons]
    by_cases hk : k = p.1
    · subst hk; simp [h2]
    · have hb : (p.1 == k) = false := by simpa using fun e : p.1 = k => hk e.symm
      have hb' : (k == p.1) = false := by simpa using hk
      simp only [hb, hb', ih]
      cases hi : List.idxOf? k (List.map (fun x => x.1) L) with
      | none => simp
      | some i => simp [Nat.add_assoc, Nat.add_comm 1 i]

theorem lawP : KeyLaw Try.prog 73 keP where
  check empty k w := checkP_d 9998 empty k.1 k.2 w
  find k es L w h := by
    have heq : ∀ (k k' : Int × Int) (w : World), (Op.equal 73 (keP k) (keP k')).run Try.prog w = .ok (decide (k = k')) w := fun k k' w => by
      have := eqP k.1 k.2 k'.1 k'.2 w
      unfold Op.equal Op.maxDepth keP
      rw [this]
      congr 1
      rw [Bool.eq_iff_iff]
      simp [Prod.ext_iff]
    cases es with
    | nil =>
      cases L with
      | nil => simp [Instr.findKey, run_underlying u73, Instr.findNow]
      | cons p L => simp at h
    | cons e es =>
      have := findAsking_run heq k w (e :: es) L 0 h
      simp only [Instr.findKey, Sem.run_bind, run_underlying u73, Result.andThen_ok, findNow_P (keP k) (e :: es) 0 (by simp), this, Nat.zero_add]
  same k := by
    have hq : ∀ (d : Nat), Instr.sameBits (d + 2) (keP k) (keP k) = true := fun d => by simp [keP, Instr.sameBits]
    exact hq 9998
theorem lawI : KeyLaw Try.prog 2 keI where
  check empty k w := by
    have hq : ∀ (d : Nat), (Instr.checkKey empty (d + 1) 2 (keI k)).run Try.prog w = .ok () w := fun d => by simp [keI, Instr.checkKey, run_underlying u2]
    exact hq 9999
  find k es L w h := by
    simp only [Instr.findKey, Sem.run_bind, run_underlying u2, Result.andThen_ok, findNow_I k es L 0 h, Nat.zero_add, Sem.run_pure]
  same k := by
    have hq : ∀ (d : Nat), Instr.sameBits (d + 1) (keI k) (keI k) = true := fun d => by simp [keI, Instr.sameBits]
    exact hq 9999
end Go.Proofs.Ytinpinjjdkilpaa
namespace Go.Proofs.Ytinpinjjdkilpaa
open Go.RowKit
set_option maxHeartbeats 400000 in
theorem node_any (b: Nat) (n i : Int) (w : World) (h : w.cell? ⟨b, 0, none⟩ = some (.int .i64 n)) :
    Calls Try.prog 39 #[.pointer (some ⟨b, 0, none⟩), .int .i64 i] w fun e w' => e = .returned (.bool (decide (0 ≤ i) && decide (i < n))) ∧ w' = w := by
  go_enter Try.func39, Try.ntmps39
  go_wp2
  all_goals (go_ret; refine ⟨?_, rfl⟩; simp; try omega)
set_option maxHeartbeats 400000 in
theorem link_any (a b : Int) (w : World) :
    Calls Try.prog 31 #[.int .i64 a, .int .i64 b] w fun e w' => e = .returned (.agg #[.int .i64 (min a b), .int .i64 (max a b)]) ∧ w' = w.alloc (.cells #[.int .i64 (min a b), .int .i64 (max a b)] 73) := by
  by_cases h : a ≤ b
  · rw [Int.min_eq_left h, Int.max_eq_right h]
    by_cases h2 : a = b
    · subst h2
      go_enter Try.func31, Try.ntmps31
      go_wp2
      go_returns
      exact ⟨rfl, rfl⟩
    · have h3 : a < b := by omega
      go_enter Try.func31, Try.ntmps31
      go_wp2
      go_returns
      exact ⟨rfl, rfl⟩
  · have h3 : b < a := by omega
    rw [Int.min_eq_right (by omega), Int.max_eq_left (by omega)]
    go_enter Try.func31, Try.ntmps31
    go_wp2
    go_returns
    exact ⟨rfl, rfl⟩
theorem upon_run {P : Program} {o : Oper} {a : Act} {K : Act → World → Prop} {Q : Exit → Act → World → Prop} {s : Sem Value} {w w' : World} {v : Value} (hr : s.run P w = .ok v w') (h : K (a.put o.dst v) w') :
    Oper.upon P o a K Q ((s.run P w).andThen fun a w' => .ok (.value a) w') := by
  rw [hr]; exact h
theorem u68 : Try.prog.underlying 68 = some (.map 73 4) := by kernel_rfl
theorem z4 (w : World) : (zeroValue 4).run Try.prog w = .ok (.bool false) w := by kernel_rfl
theorem cut_look {w : World} {m : Nat} {L : List ((Int × Int) × Value)} (h : MapAt keP w m L) (a b : Int) :
    (Instr.lookup 68 (.map (some m)) (.agg #[.int .i64 a, .int .i64 b]) false).run Try.prog w = .ok ((getA L (a, b)).getD (.bool false)) w :=
  MapAt.lookup h lawP u68 (z4 w) (a, b)
set_option maxHeartbeats 400000 in
theorem ready1_any (c x m : Nat) (p0 p1 p2 : Int) (p3 : ByteArray) (L : List ((Int × Int) × Value)) (w : World) (hc : w.cell? ⟨c, 0, none⟩ = some (.pointer (some ⟨x, 0, none⟩))) (hx : w.cell? ⟨x, 3, none⟩ = some (.map (some m))) (hm : MapAt keP w m L) :
    Calls Try.prog 30 #[.agg #[.int .i64 p0, .int .i64 p1, .int .i64 p2, .string p3], .pointer (some ⟨c, 0, none⟩)] w fun e w' => e = .returned ((getA L (min p1 p2, max p1 p2)).getD (.bool false)) ∧ Below w.heap.size w w' := by
  have hcl : c < w.heap.size := World.block_lt_of_cell? w ⟨c, 0, none⟩ hc
  have hxl : x < w.heap.size := World.block_lt_of_cell? w ⟨x, 3, none⟩ hx
  have hml := hm.lt
  have hlk : ∀ w', Below w.heap.size w w' → (Instr.lookup 68 (.map (some m)) (.agg #[.int .i64 (min p1 p2), .int .i64 (max p1 p2)]) false).run Try.prog w' = .ok ((getA L (min p1 p2, max p1 p2)).getD (.bool false)) w' :=
    fun w' hb => cut_look (hm.keep (Keep.of_below hb (fun _ => False)) (fun h => h)) _ _
  clear hm
  go_enter Try.func30, Try.ntmps30
  go_wp2_with fail
  go_region_held3 (fun w' => w'.cell? ⟨c, 0, none⟩ = some (.pointer (some ⟨x, 0, none⟩)) ∧ w'.cell? ⟨x, 3, none⟩ = some (.map (some m)) ∧ w'.cell? ⟨w.heap.size, 1, none⟩ = some (.int .i64 p1) ∧ w'.cell? ⟨w.heap.size, 2, none⟩ = some (.int .i64 p2)) (go_keep) ((first | (go_at_call 31; refine (link_any _ _ _).mono ?_; rintro e w' ⟨rfl, rfl⟩) | ((with_reducible refine upon_run (hlk _ ?hb) ?_); (case hb => go_grown); simp only [Act.put, List.setIfInBounds_toArray, List.set_cons_zero, List.set_cons_succ])))
  go_wp2
  go_ret
  exact ⟨rfl, by go_grown⟩
set_option maxHeartbeats 400000 in
theorem find1_any (c : Nat) (id p0 p1 p2 : Int) (p3 : ByteArray) (w : World) (hc : w.cell? ⟨c, 0, none⟩ = some (.int .i64 id)) :
    Calls Try.prog 46 #[.agg #[.int .i64 p0, .int .i64 p1, .int .i64 p2, .string p3], .pointer (some ⟨c, 0, none⟩)] w fun e w' => e = .returned (.bool (p0 == id)) ∧ Below w.heap.size w w' := by
  have hcl : c < w.heap.size := World.block_lt_of_cell? w ⟨c, 0, none⟩ hc
  go_enter Try.func46, Try.ntmps46
  go_wp2
  go_ret
  exact ⟨rfl, by go_grown⟩
set_option maxHeartbeats 400000 in
theorem clear1_any (c : Nat) (nd p0 p1 p2 : Int) (p3 : ByteArray) (w : World) (hc : w.cell? ⟨c, 0, none⟩ = some (.int .i64 nd)) :
    Calls Try.prog 43 #[.agg #[.int .i64 p0, .int .i64 p1, .int .i64 p2, .string p3], .pointer (some ⟨c, 0, none⟩)] w fun e w' => e = .returned (.bool (p2 == nd)) ∧ Below w.heap.size w w' := by
  have hcl : c < w.heap.size := World.block_lt_of_cell? w ⟨c, 0, none⟩ hc
  go_enter Try.func43, Try.ntmps43
  go_wp2
  go_ret
  exact ⟨rfl, by go_grown⟩
end Go.Proofs.Ytinpinjjdkilpaa
/- slices.IndexFunc, Clone over packets -/

namespace Go.Proofs.Ytinpinjjdkilpaa
open Go.RowKit
/-- the first index at which p holds, or -1 -/
def idxI {α : Type} (p : α → Bool) (l : List α) : Int := match l.findIdx? p with | some i => i | none => -1
theorem idxI_none {α : Type} (p : α → Bool) (l : List α) (h : ∀ j (hj : j < l.length), p l[j] = false) : idxI p l = -1 := by
  have : l.findIdx? p = none := by
    rw [List.findIdx?_eq_none_iff]
    intro x hx
    obtain ⟨i, hi, rfl⟩ := List.getElem_of_mem hx
    exact h i hi
  simp [idxI, this]
theorem idxI_at {α : Type} (p : α → Bool) (l : List α) (k : Nat) (hk : k < l.length) (hp : p l[k] = true) (h : ∀ j (hj : j < k), p (l[j]'(by omega)) = false) : idxI p l = k := by
  have : l.findIdx? p = some k := by
    rw [List.findIdx?_eq_some_iff_getElem]
    exact ⟨hk, hp, fun j hj => by simp [h j hj]⟩
  simp [idxI, this]
set_option maxHeartbeats 400000 in
theorem index_any (fc : Nat) (cp : Value) (hfc : ∀ (xs : Array Value) (w : World), (callFunc fc xs).run Try.prog w = .ok (.enter fc xs) w)
    (pred : Pkt → Bool) (av : Nat → Prop) (w : World) (v : Value) (l : List Pkt) (hsl : PSl av w v l) (hlen : l.length ≤ 1000000)
    (hcall : ∀ w', Below w.heap.size w w' → ∀ p : Pkt, Calls Try.prog fc #[p.val, cp] w' fun e w'' => e = .returned (.bool (pred p)) ∧ Below w'.heap.size w' w'') :
    Calls Try.prog 44 #[v, .func (.func fc) #[] #[cp]] w fun e w' => e = .returned (.int .i64 (idxI pred l)) ∧ Below w.heap.size w w' := by
  obtain ⟨A, c, rfl, hc⟩ := PSl.shape hsl
  go_enter Try.func44, Try.ntmps44
  go_wp2
  go_loopw [8] (fun i wr => ∃ k : Nat, k ≤ l.length ∧ i = .int .i64 k ∧ Below w.heap.size w wr ∧ ∀ j (hj : j < k) (hj' : j < l.length), pred l[j] = false) (fun i _ => l.length - (intOf i).toNat)
  case atStart => exact ⟨0, by omega, rfl, Below.refl _ _, fun j hj => absurd hj (by omega)⟩
  case round =>
    obtain ⟨k, hk, rfl, hB, hno⟩ := hrel
    by_cases hlt : k < l.length
    · obtain ⟨b, off, c', hA, hbl, _, h0, h1, h2, h3⟩ := PSl.at_ (Sl.below hsl hB) hlt
      injection hA with hA _ hA'
      subst hA; subst hA'
      have HC := hid hcall
      have HN := hid hno
      clear hcall hno hsl
      by_cases hp : pred l[k] = true
      · have HP := hid hp
        clear hp
        go_wp2_with fail
        refine (HC.out wr hB l[k]).mono ?_
        rintro e w' ⟨rfl, hb'⟩
        rw [HP.out]
        go_wp2_with fail
        go_ret
        exact ⟨by rw [idxI_at pred l k hlt HP.out fun j hj => HN.out j hj (by omega)]; rfl, hB.trans (hb'.mono hB.size)⟩
      · have HP := hid (Bool.eq_false_iff.2 hp)
        clear hp
        go_wp2_with fail
        refine (HC.out wr hB l[k]).mono ?_
        rintro e w' ⟨rfl, hb'⟩
        rw [HP.out]
        go_wp2_with fail
        go_roundw
        case rel => exact ⟨k + 1, by omega, by go_num, hB.trans (hb'.mono hB.size), fun j hj hj' => by
          by_cases hjk : j = k
          · subst hjk; exact HP.out
          · exact HN.out j (by omega) hj'⟩
        case measure => simp [intOf]; omega
    · have HN := hid hno
      clear hno hcall hsl
      go_wp2
      go_ret
      exact ⟨by rw [idxI_none pred l fun j hj => HN.out j (by omega) hj]; rfl, hB⟩
end Go.Proofs.Ytinpinjjdkilpaa
/- find, Clone, Pending, Ready: what reads the network -/
namespace Go.Proofs.Ytinpinjjdkilpaa
open Go.RowKit
structure Net where
  n : Int
  last : Int
  l : List Pkt
  cut : List ((Int × Int) × Bool)
/-- the network in memory: its struct in block x, its map in block m, its packets' slice pk -/
def NetAt (w : World) (x m : Nat) (pk : Value) (S : Net) : Prop :=
  w.heap[x]? = some (.cells #[.int .i64 S.n, .int .i64 S.last, pk, .map (some m)] 70 (0, 0)) ∧ w.ownsRow 0 42 4 pk S.l.length (pc S.l) ∧ MapAt keP w m (S.cut.map fun p => (p.1, Value.bool p.2))
/-- its blocks -/
def NetF (x m : Nat) (pk : Value) (b : Nat) : Prop := b = x ∨ b = m ∨ pk.ownBlock = some b
section
variable {w w' : World} {x m : Nat} {pk : Value} {S : Net}
theorem NetAt.keep {F : Nat → Prop} (h : NetAt w x m pk S) (hk : Keep F w w') (hF : ∀ b, NetF x m pk b → ¬ F b) : NetAt w' x m pk S := by
  obtain ⟨h1, h2, h3⟩ := h
  exact ⟨(hk.block x (lt_of_heap h1) (hF x (.inl rfl))).trans h1, own_keep h2 hk fun b hb => hF b (.inr (.inr hb)), h3.keep hk (hF m (.inr (.inl rfl)))⟩
theorem NetAt.below (h : NetAt w x m pk S) (hk : Below w.heap.size w w') : NetAt w' x m pk S := h.keep (Keep.of_below hk (fun _ => False)) (fun _ _ h => h)
theorem NetAt.lt (h : NetAt w x m pk S) {b : Nat} (hb : NetF x m pk b) : b < w.heap.size := by
  obtain ⟨h1, h2, h3⟩ := h
  rcases hb with rfl | rfl | hb
  · exact lt_of_heap h1
  · exact h3.lt
  · exact own_lt h2 hb
theorem NetAt.ne_m (h : NetAt w x m pk S) : x ≠ m := by
  rintro rfl
  obtain ⟨h1, h2, es, c, h3, _⟩ := h
  rw [h1] at h3
  cases h3
theorem NetAt.ne_p (h : NetAt w x m pk S) : pk.ownBlock ≠ some x := own_ne h.2.1 h.1 (by intro cs f e; injection e with _ e; exact absurd e (by decide))
theorem NetAt.ne_pm (h : NetAt w x m pk S) : pk.ownBlock ≠ some m := by
  obtain ⟨h1, h2, es, c, h3, _⟩ := h
  exact own_ne h2 h3 (by intro cs f e; cases e)
theorem NetAt.sl (h : NetAt w x m pk S) {av : Nat → Prop} (hav : ∀ b, pk.ownBlock = some b → ¬ av b) : PSl av w pk S.l := Sl.of_own h.2.1 hav
theorem NetAt.c0 (h : NetAt w x m pk S) : w.cell? ⟨x, 0, none⟩ = some (.int .i64 S.n) := by rw [cell_of_row w x 0 _ _ _ h.1]; rfl
theorem NetAt.c1 (h : NetAt w x m pk S) : w.cell? ⟨x, 1, none⟩ = some (.int .i64 S.last) := by rw [cell_of_row w x 1 _ _ _ h.1]; rfl
theorem NetAt.c2 (h : NetAt w x m pk S) : w.cell? ⟨x, 2, none⟩ = some pk := by rw [cell_of_row w x 2 _ _ _ h.1]; rfl
theorem NetAt.c3 (h : NetAt w x m pk S) : w.cell? ⟨x, 3, none⟩ = some (.map (some m)) := by rw [cell_of_row w x 3 _ _ _ h.1]; rfl
theorem NetAt.fz (h : NetAt w x m pk S) (i : Nat) : w.frozen? ⟨x, i, none⟩ = false := by simp [World.frozen?, h.1]
end
/-- what idxI comes to -/
theorem idxI_cases {α : Type} (p : α → Bool) (l : List α) : (∃ i : Nat, ∃ h : i < l.length, idxI p l = i ∧ p l[i] = true ∧ l.findIdx? p = some i) ∨ (idxI p l = -1 ∧ l.findIdx? p = none) := by
  cases h : l.findIdx? p with
  | none => exact .inr ⟨by simp [idxI, h], rfl⟩
  | some i =>
    have := List.findIdx?_eq_some_iff_getElem.1 h
    exact .inl ⟨i, this.1, by simp [idxI, h], this.2.1, rfl⟩
theorem cf30 (xs : Array Value) (w : World) : (callFunc 30 xs).run Try.prog w = .ok (.enter 30 xs) w := by kernel_rfl
theorem cf43 (xs : Array Value) (w : World) : (callFunc 43 xs).run Try.prog w = .ok (.enter 43 xs) w := by kernel_rfl
theorem cf46 (xs : Array Value) (w : World) : (callFunc 46 xs).run Try.prog w = .ok (.enter 46 xs) w := by kernel_rfl

def Net.at_ (S : Net) (id : Int) : Option Nat := S.l.findIdx? (fun p => p.id == id)

set_option maxHeartbeats 400000 in
theorem find_some (x m : Nat) (pk : Value) (S : Net) (id : Int) (i : Nat) (w : World) (hN : NetAt w x m pk S) (hlen : S.l.length ≤ 100) (hi : S.at_ id = some i) :
    Calls Try.prog 41 #[.pointer (some ⟨x, 0, none⟩), .int .i64 id] w fun e w' => e = .returned (.tuple #[.int .i64 i, .int .i64 0]) ∧ Below w.heap.size w w' := by
  have hx := hN.lt (.inl rfl)
  have h2 := hN.c2
  have HI : Hid (idxI (fun p => p.id == id) S.l = i) := hid (by unfold Net.at_ at hi; simp [idxI, hi])
  have HN := hid hN
  clear hN hi
  go_enter Try.func41, Try.ntmps41
  go_wp2_with fail
  refine (index_any _ _ cf46 (fun p => p.id == id) (fun _ => False) _ pk S.l ((HN.out.below ((Below.refl _ _).alloc (Nat.le_refl _) _)).sl (fun _ _ h => h)) (by omega) ?_).mono ?_
  · intro w' hb p
    exact find1_any _ id p.id p.src p.dst p.data w' (by rw [hb.cell (p := ⟨w.heap.size, 0, none⟩) (by simp)]; simp)
  · rintro e w' ⟨rfl, hb⟩
    rw [HI.out]
    go_wp2_with fail
    go_ret2
    exact ⟨rfl, ((Below.refl _ _).alloc (Nat.le_refl _) _).trans (hb.mono (by simp))⟩
set_option maxHeartbeats 400000 in
theorem find_none (x m : Nat) (pk : Value) (S : Net) (id : Int) (w : World) (hN : NetAt w x m pk S) (hlen : S.l.length ≤ 100) (hi : S.at_ id = none) :
    Calls Try.prog 41 #[.pointer (some ⟨x, 0, none⟩), .int .i64 id] w fun e w' => e = .returned (.tuple #[.int .i64 0, .int .i64 4]) ∧ Below w.heap.size w w' := by
  have hx := hN.lt (.inl rfl)
  have h2 := hN.c2
  have HI : Hid (idxI (fun p => p.id == id) S.l = -1) := hid (by unfold Net.at_ at hi; simp [idxI, hi])
  have HN := hid hN
  clear hN hi
  go_enter Try.func41, Try.ntmps41
  go_wp2_with fail
  refine (index_any _ _ cf46 (fun p => p.id == id) (fun _ => False) _ pk S.l ((HN.out.below ((Below.refl _ _).alloc (Nat.le_refl _) _)).sl (fun _ _ h => h)) (by omega) ?_).mono ?_
  · intro w' hb p
    exact find1_any _ id p.id p.src p.dst p.data w' (by rw [hb.cell (p := ⟨w.heap.size, 0, none⟩) (by simp)]; simp)
  · rintro e w' ⟨rfl, hb⟩
    rw [HI.out]
    go_wp2_with fail
    go_ret2
    exact ⟨rfl, ((Below.refl _ _).alloc (Nat.le_refl _) _).trans (hb.mono (by simp))⟩
end Go.Proofs.Ytinpinjjdkilpaa
/- slices.Clone, Delete, DeleteFunc over packets -/
namespace Go.Proofs.Ytinpinjjdkilpaa
open Go.RowKit
/-- a list in new memory -/
def FreshP (w : World) (l : List Pkt) (e : Ending) (w' : World) : Prop := ∃ v, e = .returned v ∧ POwn w' v l ∧ Below w.heap.size w w' ∧ ∀ b, v.ownBlock = some b → w.heap.size ≤ b
set_option maxHeartbeats 400000 in
theorem clone_any (av : Nat → Prop) (v : Value) (l : List Pkt) (w : World) (h : PSl av w v l) (hlen : l.length ≤ 1000) :
    Calls Try.prog 28 #[v] w (FreshP w l) := by
  obtain ⟨A, c, rfl, hc⟩ := PSl.shape h
  have hq := eqNilP
  cases A with
  | none =>
    have hl : l = [] := by
      rcases Nat.eq_zero_or_pos l.length with h0 | h0
      · exact List.eq_nil_of_length_eq_zero h0
      · obtain ⟨_, A, c, hA, _, hn⟩ := h
        injection hA with hA
        subst hA
        obtain ⟨b, off, hA, _⟩ := hn h0
        cases hA
    subst hl
    clear h
    go_enter Try.func28, Try.ntmps28
    go_wp2
    go_ret
    exact ⟨_, rfl, own_nil w, Below.refl _ _, by simp [Value.ownBlock]⟩
  | some a =>
    have H := hid h
    clear h
    go_enter Try.func28, Try.ntmps28
    go_wp2_with (at_builtin; refine wpList_appendP (av := av) rfl _ _ rfl _ _ [] l rfl rfl (own_empty (heap_alloc_new w _)) (Sl.below H.out ((Below.refl _ _).alloc (Nat.le_refl _) _)) (by simp; omega) ?_)
    intro v' w' ho hk hat
    go_wp2
    go_ret
    refine ⟨v', rfl, ho, Keep.below_of (F := fun b => w.heap.size ≤ b) (((Keep.refl _ w).alloc _).trans hk fun i hi hh => ?_) (Nat.le_refl _) (fun i h => h), fun b hb => ?_⟩
    · simp [Value.ownBlock] at hh; omega
    · rcases hat with hat | hat <;> (rw [hat] at hb; simp [Value.ownBlock] at hb; omega)
/-- a row cut down in place -/
def Cut (g : Nat) (w : World) (l : List Pkt) (e : Ending) (w' : World) : Prop := ∃ cap, e = .returned (.slice (some ⟨g, 0, none⟩) l.length cap) ∧ POwn w' (.slice (some ⟨g, 0, none⟩) l.length cap) l ∧ Keep (fun b => b = g) w w'
theorem own_cap {w : World} {g n cap : Nat} {l : List Pkt} (h : POwn w (.slice (some ⟨g, 0, none⟩) n cap) l) : n = l.length ∧ l.length ≤ cap := by
  rcases h.2 with ⟨h2, _⟩ | ⟨g', cap', cur, h3, hb, hg, hnc, hm, hs, ht⟩
  · cases h2
  · injection h3 with h4 h5 h6
    subst h6
    exact ⟨h5, hnc⟩
set_option maxHeartbeats 400000 in
theorem delete_any (g cap : Nat) (l : List Pkt) (n i : Nat) (w : World) (hn : l.length = n) (hi : i < n) (_hlen : n ≤ 1000) (h : POwn w (.slice (some ⟨g, 0, none⟩) n cap) l) :
    Calls Try.prog 42 #[.slice (some ⟨g, 0, none⟩) n cap, .int .i64 i, .int .i64 ((i : Int) + 1)] w (Cut g w (l.eraseIdx i)) := by
  have hcap : n ≤ cap := by have := (own_cap h).2; omega
  have hne : ((i : Int) == (i : Int) + 1) = false := by simp; omega
  have hsl : PSl (fun _ => False) w (.slice (some ⟨g, 0, none⟩) l.length cap) l := by rw [hn]; exact Sl.of_own h (fun _ _ h => h)
  have hd := hid (PSl.drop hsl (k := i + 1) (by omega))
  have ht : w.ownsRow 0 42 4 (.slice (some ⟨g, 0, none⟩) i cap) i (pc (l.take i)) := by rw [← pc_take]; exact own_take (n := n) (xs := pc l) (by have := h; unfold POwn at this; rwa [hn] at this) (by omega)
  have htl : (l.take i).length = i := by rw [List.length_take]; omega
  obtain ⟨tl, htl2⟩ : ∃ tl : Option Addr, tl = (if cap = i + 1 then some ⟨g, 0, none⟩ else (some (⟨g, 0, none⟩ : Addr)).map (·.add ((i + 1) * 4))) := ⟨_, rfl⟩
  rw [← htl2, hn] at hd
  have hs1 := hiP (some ⟨g, 0, none⟩) n cap i (by omega)
  have hs2 := loP (some ⟨g, 0, none⟩) n cap (i + 1) (by omega)
  rw [← htl2] at hs2
  simp only [Int.natCast_add, Int.cast_ofNat_Int] at hs2
  clear htl2
  have HT := hid ht
  have HTL := hid htl
  have HN := hid hn
  clear h hsl ht htl hn
  go_enter Try.func42, Try.ntmps42
  go_wp2_with fail
  go_region_held3 (fun _ => True) (trivial) ((refine step_appendP_fits (av := fun _ => False) rfl _ _ rfl g cap _ (l.take i) (l.drop (i + 1)) i (n - (i + 1)) HTL.out (by rw [List.length_drop, HN.out]) rfl rfl (by unfold POwn; rw [HTL.out]; exact HT.out) (by exact hd.out) (by omega) ?_; intro w1 ho hk))
  have hk1 : i + (n - (i + 1)) + 1 = n := by omega
  generalize i + (n - (i + 1)) = k at *
  have hlk : (l.take i ++ l.drop (i + 1)).length = k := (own_cap ho).1.symm
  have hel : l.eraseIdx i = l.take i ++ l.drop (i + 1) := List.eraseIdx_eq_take_drop_succ l i
  obtain ⟨t2, ht2⟩ : ∃ t2 : Option Addr, t2 = (if cap = k then some ⟨g, 0, none⟩ else (some (⟨g, 0, none⟩ : Addr)).map (·.add (k * 4))) := ⟨_, rfl⟩
  have hs3 := lhP (some ⟨g, 0, none⟩) k cap k n (by omega) (by omega)
  rw [← ht2] at hs3
  obtain ⟨w2, hclr, ho2, hk2⟩ := clearP w1 0 g n cap _ k hlk (by omega) hcap ho t2 (cap - k) (fun _ => by rw [ht2, if_neg (by omega)]; simp [Addr.add_lit])
  have HO := hid ho
  have HO2 := hid ho2
  have HL := hid hlk
  have HE := hid hel
  clear ho ho2 hlk hel ht2 hd HT hs1 hs2
  go_wp2_with fail
  go_ret
  exact ⟨cap, by rw [HE.out, HL.out]; rfl, by rw [HE.out, HL.out]; exact HO2.out, (((Keep.refl _ w).drew).trans hk (fun _ _ h => h)).trans hk2 (fun _ _ h => h)⟩
end Go.Proofs.Ytinpinjjdkilpaa
/- slices.DeleteFunc over packets -/
namespace Go.Proofs.Ytinpinjjdkilpaa
open Go.RowKit
/-- a row that is cut down in place to some of its packets -/
def Kept (v : Value) (w : World) (l : List Pkt) (e : Ending) (w' : World) : Prop := ∃ v', e = .returned v' ∧ POwn w' v' l ∧ v'.ownBlock = v.ownBlock ∧ Keep (fun b => v.ownBlock = some b) w w'
theorem filter_none {α : Type} (p : α → Bool) (l : List α) (h : l.findIdx? p = none) : l.filter (fun x => !p x) = l := by
  rw [List.filter_eq_self]
  intro x hx
  have := List.findIdx?_eq_none_iff.1 h x hx
  simp [this]
theorem filter_first {α : Type} (p : α → Bool) (l : List α) (i : Nat) (hi : i < l.length) (hp : p l[i] = true) (h : l.findIdx? p = some i) : (l.take (i + 1)).filter (fun x => !p x) = l.take i := by
  have hb := (List.findIdx?_eq_some_iff_getElem.1 h).2.2
  rw [List.take_succ_eq_append_getElem hi, List.filter_append]
  have h1 : (l.take i).filter (fun x => !p x) = l.take i := by
    rw [List.filter_eq_self]
    intro x hx
    obtain ⟨j, hj, rfl⟩ := List.getElem_of_mem hx
    rw [List.length_take] at hj
    rw [List.getElem_take]
    have := hb j (by omega)
    simpa using this
  rw [h1]
  simp [hp]
theorem set_take_drop {α : Type} (cur l : List α) (m k : Nat) (hk : k < l.length) (hmk : m ≤ k) (hlen : cur.length = l.length) (hd : cur.drop k = l.drop k) (x : α) :
    (cur.set m x).take (m + 1) = cur.take m ++ [x] ∧ (cur.set m x).drop (k + 1) = l.drop (k + 1) := by
  constructor
  · rw [List.take_succ_eq_append_getElem (by rw [List.length_set]; omega), List.getElem_set_self, List.take_set_of_le (Nat.le_refl _)]
  · rw [List.drop_set_of_lt (by omega), ← List.drop_drop, hd, List.drop_drop]
/-- what holds at a round's head: the first mm of cur are what is kept of the first k of l, and from k on cur is l -/
def DR (pred : Pkt → Bool) (l : List Pkt) (g cap : Nat) (w : World) (k mm : Nat) (wr : World) : Prop :=
  ∃ cur : List Pkt, k ≤ l.length ∧ mm < k ∧ cur.length = l.length ∧ cur.take mm = (l.take k).filter (fun p => !pred p) ∧ cur.drop k = l.drop k ∧ POwn wr (.slice (some ⟨g, 0, none⟩) l.length cap) cur ∧ Keep (fun b => (Value.slice (some ⟨g, 0, none⟩) l.length cap).ownBlock = some b) w wr
theorem getElem_of_drop {α : Type} {cur l : List α} {k : Nat} (hd : cur.drop k = l.drop k) (h1 : k < cur.length) (h2 : k < l.length) : cur[k] = l[k] := by
  have h := congrArg (fun x => x[0]?) hd
  simp only [List.getElem?_drop, Nat.add_zero, List.getElem?_eq_getElem h1, List.getElem?_eq_getElem h2, Option.some.injEq] at h
  exact h
theorem filter_succ (pred : Pkt → Bool) (l : List Pkt) (k : Nat) (hk : k < l.length) : (l.take (k + 1)).filter (fun p => !pred p) = (l.take k).filter (fun p => !pred p) ++ if pred l[k] then [] else [l[k]] := by
  rw [List.take_succ_eq_append_getElem hk, List.filter_append]
  by_cases h : pred l[k] <;> simp [h]
theorem DR_skip {pred : Pkt → Bool} {l : List Pkt} {g cap : Nat} {w : World} {k mm : Nat} {wr w2 : World} {o : Obj} (hk : k < l.length) (hp : pred l[k] = true) (h : DR pred l g cap w k mm wr) (hb : Below (wr.alloc o).heap.size (wr.alloc o) w2) : DR pred l g cap w (k + 1) mm w2 := by
  obtain ⟨cur, _, hmk, hcl, htk, hdk, hoc, hkp⟩ := h
  have hk2 : Keep (fun _ => False) wr w2 := ((Keep.refl _ wr).alloc _).trans_below hb
  refine ⟨cur, hk, by omega, hcl, ?_, ?_, own_keep hoc hk2 (fun _ _ h => h), hkp.trans hk2 (fun _ _ h => h.elim)⟩
  · rw [filter_succ pred l k hk, if_pos hp, List.append_nil]; exact htk
  · rw [← List.drop_drop, hdk, List.drop_drop]
theorem DR_keep {pred : Pkt → Bool} {l : List Pkt} {g cap : Nat} {w : World} {k mm : Nat} {wr w2 w3 : World} (hk : k < l.length) (hp : pred l[k] = false) (h : DR pred l g cap w k mm wr) (cur : List Pkt) (hcl : cur.length = l.length) (htk : cur.take mm = (l.take k).filter (fun p => !pred p)) (hdk : cur.drop k = l.drop k)
    (hk2 : Keep (fun _ => False) wr w2) (ho3 : POwn w3 (.slice (some ⟨g, 0, none⟩) l.length cap) (cur.set mm l[k])) (hk3 : Keep (fun b => b = g) w2 w3) : DR pred l g cap w (k + 1) (mm + 1) w3 := by
  obtain ⟨_, _, hmk, _, _, _, _, hkp⟩ := h
  have h2 := set_take_drop cur l mm k hk (by omega) hcl hdk l[k]
  refine ⟨cur.set mm l[k], hk, by omega, by rw [List.length_set]; exact hcl, ?_, h2.2, ho3, (hkp.trans hk2 (fun _ _ h => h.elim)).trans hk3 (fun i _ h => by subst h; rfl)⟩
  rw [h2.1, htk, filter_succ pred l k hk, hp]
  simp
set_option maxHeartbeats 1000000 in
theorem deletefunc_any (fc : Nat) (cp : Value) (hfc : ∀ (xs : Array Value) (w : World), (callFunc fc xs).run Try.prog w = .ok (.enter fc xs) w)
    (pred : Pkt → Bool) (w : World) (v : Value) (l : List Pkt) (hown : POwn w v l) (hlen : l.length ≤ 1000)
    (hcall : ∀ w', Keep (fun b => v.ownBlock = some b) w w' → ∀ p : Pkt, Calls Try.prog fc #[p.val, cp] w' fun e w'' => e = .returned (.bool (pred p)) ∧ Below w'.heap.size w' w'') :
    Calls Try.prog 29 #[v, .func (.func fc) #[] #[cp]] w (Kept v w (l.filter fun p => !pred p)) := by
  have hsl : PSl (fun _ => False) w v l := Sl.of_own hown (fun _ _ h => h)
  have HIx := hid (index_any fc cp hfc pred (fun _ => False) w v l hsl (by omega) (fun w' hb p => hcall w' (Keep.of_below hb _) p))
  rcases idxI_cases pred l with ⟨i, hi, hI, hpi, hf⟩ | ⟨hI, hf⟩
  · -- something goes
    rcases hown.2 with ⟨rfl, h0⟩ | ⟨g, cap, cs, rfl, hrest⟩
    · omega
    · have hcap := (own_cap hown).2
      have HI := hid hI
      have HC := hid hcall
      have HO := hid hown
      have HP := hid hpi
      have HF := hid hf
      have hne : (((i : Nat) : Int) == -1) = false := by simp
      clear hI hcall hown hpi hf hsl hrest
      go_enter Try.func29, Try.ntmps29
      go_wp2_with fail
      refine HIx.out.mono ?_
      rintro e w1 ⟨rfl, hb1⟩
      rw [HI.out]
      go_wp2_with fail
      go_loopw [5, 6] (fun m j wr => ∃ k mm : Nat, m = .int .i64 mm ∧ j = .int .i64 k ∧ DR pred l g cap w k mm wr) (fun _ j _ => l.length - (intOf j).toNat)
      case atStart => exact ⟨i + 1, i, rfl, by go_num, l, by omega, by omega, rfl, (filter_first pred l i hi HP.out HF.out).symm, rfl, own_keep HO.out (Keep.of_below hb1 (fun _ => False)) (fun _ _ h => h), Keep.of_below hb1 _⟩
      case round =>
        obtain ⟨k, mm, rfl, rfl, cur, hk, hmk, hcl, htk, hdk, hoc, hkp⟩ := hrel
        by_cases hlt : k < l.length
        · obtain ⟨hbl, e0, e1, e2, e3⟩ := own_at hoc (k := k) (by omega) l[k] (getElem_of_drop hdk (by omega) hlt)
          have HCL := hid hcl
          have HTK := hid htk
          have HDK := hid hdk
          have HOC := hid hoc
          have HKP := hid hkp
          clear hcl htk hdk hoc hkp hb1 HIx HO HP HF
          by_cases hp : pred l[k] = true
          · have HP := hid hp
            clear hp
            go_wp2_with fail
            refine (HC.out _ (HKP.out.alloc _) l[k]).mono ?_
            rintro e w2 ⟨rfl, hb2⟩
            rw [HP.out]
            go_wp2_with fail
            go_roundw
            case rel => exact ⟨k + 1, mm, rfl, by go_num, DR_skip hlt HP.out ⟨cur, hk, hmk, HCL.out, HTK.out, HDK.out, HOC.out, HKP.out⟩ hb2⟩
            case measure => simp [intOf]; omega
          · have HP := hid (Bool.eq_false_iff.2 hp)
            clear hp
            go_wp2_with fail
            refine (HC.out _ (HKP.out.alloc _) l[k]).mono ?_
            rintro e w2 ⟨rfl, hb2⟩
            rw [HP.out]
            have f0 : w2.cell? ⟨wr.heap.size, 0, none⟩ = some (.int .i64 l[k].id) := by rw [hb2.cell (p := ⟨wr.heap.size, 0, none⟩) (by simp)]; simp
            have f1 : w2.cell? ⟨wr.heap.size, 1, none⟩ = some (.int .i64 l[k].src) := by rw [hb2.cell (p := ⟨wr.heap.size, 1, none⟩) (by simp)]; simp
            have f2 : w2.cell? ⟨wr.heap.size, 2, none⟩ = some (.int .i64 l[k].dst) := by rw [hb2.cell (p := ⟨wr.heap.size, 2, none⟩) (by simp)]; simp
            have f3 : w2.cell? ⟨wr.heap.size, 3, none⟩ = some (.string l[k].data) := by rw [hb2.cell (p := ⟨wr.heap.size, 3, none⟩) (by simp)]; simp
            have hk2 : Keep (fun _ => False) wr w2 := ((Keep.refl _ wr).alloc _).trans_below hb2
            have HO2 := hid (own_keep HOC.out hk2 (fun _ _ h => h))
            have HK2 := hid hk2
            clear hk2
            go_wp2_with (with_reducible refine wpList_storeP rfl (.tmp 33) (.tmp 32) rfl g l.length cap cur mm l[k] rfl rfl ?_ HO2.out ?_)
            · rw [HCL.out]; omega
            intro w3 ho3 hk3
            have HO3 := hid ho3
            have HK3 := hid hk3
            clear ho3 hk3
            go_wp2_with fail
            go_roundw
            case rel => exact ⟨k + 1, mm + 1, by go_num, by go_num, DR_keep hlt HP.out ⟨cur, hk, hmk, HCL.out, HTK.out, HDK.out, HOC.out, HKP.out⟩ cur HCL.out HTK.out HDK.out HK2.out HO3.out HK3.out⟩
            case measure => simp [intOf]; omega
        · obtain rfl : k = l.length := by omega
          have hkl : (l.filter fun p => !pred p).length = mm := by
            have h1 := congrArg List.length htk
            rw [List.take_length, List.length_take] at h1
            omega
          have hpre : POwn wr (.slice (some ⟨g, 0, none⟩) mm cap) (l.filter fun p => !pred p) := by
            have h1 : w.heap.size = w.heap.size := rfl
            have h2 := own_take (n := l.length) (xs := pc cur) (k := mm) (by have := hoc; unfold POwn at this; rwa [hcl] at this) (by omega)
            rw [pc_take, htk, List.take_length] at h2
            unfold POwn
            rw [hkl]
            exact h2
          obtain ⟨tl, htl⟩ : ∃ tl : Option Addr, tl = (if cap = mm then some ⟨g, 0, none⟩ else (some (⟨g, 0, none⟩ : Addr)).map (·.add (mm * 4))) := ⟨_, rfl⟩
          have hs1 := loP (some ⟨g, 0, none⟩) l.length cap mm (by omega)
          rw [← htl] at hs1
          have hs2 := hiP (some ⟨g, 0, none⟩) l.length cap mm (by omega)
          obtain ⟨w2, hclr, ho2, hk2⟩ := clearP wr 0 g l.length cap _ mm hkl (by omega) hcap hpre tl (cap - mm) (fun _ => by rw [htl, if_neg (by omega)]; simp [Addr.add_lit])
          have HO2 := hid ho2
          have HK2 := hid hk2
          have HKP := hid hkp
          clear ho2 hk2 hkl hpre htl hcl htk hdk hoc hkp hb1 HIx HO HP HF
          go_wp2_with fail
          go_ret
          exact ⟨_, rfl, HO2.out, rfl, HKP.out.trans HK2.out (fun i _ h => by subst h; rfl)⟩
  · have HI := hid hI
    have HF := hid hf
    clear hI hf hcall hsl
    have HO := hid hown
    clear hown
    obtain ⟨A, c, rfl, hc⟩ := PSl.shape (Sl.of_own (av := fun _ => False) HO.out (fun _ _ h => h))
    go_enter Try.func29, Try.ntmps29
    go_wp2_with fail
    refine HIx.out.mono ?_
    rintro e w1 ⟨rfl, hb1⟩
    rw [HI.out]
    go_wp2_with fail
    go_ret
    exact ⟨_, rfl, by rw [filter_none _ _ HF.out]; exact own_keep HO.out (Keep.of_below hb1 (fun _ => False)) (fun _ _ h => h), rfl, Keep.of_below hb1 _⟩
end Go.Proofs.Ytinpinjjdkilpaa
/- the network's methods: Pending, Ready, add, Send -/
namespace Go.Proofs.Ytinpinjjdkilpaa
open Go.RowKit
def Net.isCut (S : Net) (a b : Int) : Bool := (getA S.cut (min a b, max a b)).getD false
def Net.ready (S : Net) : List Pkt := S.l.filter fun p => !S.isCut p.src p.dst
theorem getA_map {κ α β : Type} [DecidableEq κ] (f : α → β) (l : List (κ × α)) (k : κ) : getA (l.map fun p => (p.1, f p.2)) k = (getA l k).map f := by
  induction l with
  | nil => rfl
  | cons p l ih =>
    simp only [List.map_cons, getA]
    by_cases h : k = p.1
    · simp [h]
    · simp [h, ih]
theorem cutV (S : Net) (a b : Int) : (getA (S.cut.map fun p => (p.1, Value.bool p.2)) (min a b, max a b)).getD (.bool false) = .bool (S.isCut a b) := by
  rw [getA_map]
  unfold Net.isCut
  cases getA S.cut (min a b, max a b) <;> rfl
set_option maxHeartbeats 400000 in
theorem pending_any (x m : Nat) (pk : Value) (S : Net) (w : World) (hN : NetAt w x m pk S) (hlen : S.l.length ≤ 100) :
    Calls Try.prog 14 #[.pointer (some ⟨x, 0, none⟩)] w (FreshP w S.l) := by
  have h2 := hN.c2
  have HC := hid (clone_any (fun _ => False) pk S.l w (hN.sl (fun _ _ h => h)) (by omega))
  clear hN
  go_enter Try.func14, Try.ntmps14
  go_wp2_with fail
  refine HC.out.mono ?_
  rintro e w' ⟨v, rfl, h⟩
  have H := hid h
  clear h
  go_wp2_with fail
  go_ret
  exact ⟨v, rfl, H.out⟩
set_option maxHeartbeats 400000 in
theorem ready_any (x m : Nat) (pk : Value) (S : Net) (w : World) (hN : NetAt w x m pk S) (hlen : S.l.length ≤ 100) :
    Calls Try.prog 15 #[.pointer (some ⟨x, 0, none⟩)] w (FreshP w S.ready) := by
  have hN1 := hN.below (w' := w.alloc (.cells #[.pointer (some ⟨x, 0, none⟩)] 23)) ((Below.refl _ _).alloc (Nat.le_refl _) _)
  have HC := hid (pending_any x m pk S _ hN1 hlen)
  have HN := hid hN
  clear hN hN1
  go_enter Try.func15, Try.ntmps15
  go_wp2_with fail
  refine HC.out.mono ?_
  rintro e w1 ⟨v, rfl, ho, hb, hf⟩
  have HO := hid ho
  have HB := hid hb
  have HF := hid hf
  clear ho hb hf
  go_wp2_with fail
  refine (deletefunc_any _ _ cf30 (fun p => S.isCut p.src p.dst) _ v S.l HO.out (by omega) ?_).mono ?_
  · intro w' hk p
    have hc : w1.cell? ⟨w.heap.size, 0, none⟩ = some (.pointer (some ⟨x, 0, none⟩)) := by rw [HB.out.cell (p := ⟨w.heap.size, 0, none⟩) (by simp)]; simp
    have hkw : Keep (fun b => w.heap.size < b) w w' := (((Keep.refl _ w).alloc _).trans_below HB.out).trans hk (fun i _ h => by have := HF.out i h; simp at this; omega)
    have hN' := HN.out.keep hkw (fun b hb => by have := HN.out.lt hb; omega)
    rw [← cutV S p.src p.dst]
    refine ready1_any _ x m p.id p.src p.dst p.data _ w' ?_ hN'.c3 hN'.2.2
    rw [hk.cell (a := ⟨w.heap.size, 0, none⟩) (by have := HB.out.size; simp at this; show w.heap.size < _; omega) (fun h => by have := HF.out _ h; simp at this; omega)]
    exact hc
  · rintro e w2 ⟨v', rfl, ho', hob, hk'⟩
    have HO' := hid ho'
    have HOB := hid hob
    have HK' := hid hk'
    clear ho' hob hk'
    go_wp2_with fail
    go_ret
    refine ⟨v', rfl, HO'.out, ?_, fun b hb => ?_⟩
    · exact Keep.below_of (F := fun b => w.heap.size < b) ((((Keep.refl _ w).alloc _).trans_below HB.out).trans HK'.out (fun i _ h => by have := HF.out i h; simp at this; omega)) (Nat.le_refl _) (fun i h => by omega)
    · rw [HOB.out] at hb
      have := HF.out b hb
      simp at this; omega
/-- how a method that may turn the network ends -/
def Meth (x m : Nat) (pk : Value) (w : World) (S : Net) (v : Value) (e : Ending) (w' : World) : Prop :=
  e = .returned v ∧ ∃ pk', NetAt w' x m pk' S ∧ Keep (NetF x m pk) w w' ∧ ∀ b, pk'.ownBlock = some b → pk.ownBlock = some b ∨ w.heap.size ≤ b
/-- a packet sent -/
def Net.sent (S : Net) (a b : Int) (d : ByteArray) : Net := { S with last := S.last + 1, l := S.l ++ [⟨S.last + 1, a, b, d⟩] }
set_option maxHeartbeats 400000 in
theorem add_full (x m : Nat) (pk : Value) (S : Net) (a b : Int) (d : ByteArray) (w : World) (hN : NetAt w x m pk S) (hlen : 64 ≤ S.l.length) :
    Calls Try.prog 40 #[.pointer (some ⟨x, 0, none⟩), .int .i64 a, .int .i64 b, .string d] w fun e w' => e = .returned (.tuple #[.int .i64 0, .int .i64 3]) ∧ w' = w := by
  have h2 := hN.c2
  obtain ⟨A, c, rfl, _⟩ := PSl.shape (hN.sl (av := fun _ => False) (fun _ _ h => h))
  have hl : ¬ ((S.l.length : Int) < 64) := by omega
  clear hN
  go_enter Try.func40, Try.ntmps40
  go_wp2_with fail
  go_ret2
  exact ⟨rfl, rfl⟩
theorem own_setCell {w : World} {v : Value} {l : List Pkt} (h : POwn w v l) {a : Addr} (ha : v.ownBlock ≠ some a.block) (u : Value) : POwn (w.setCell a u) v l :=
  own_keep (F := fun b => b = a.block) h ((Keep.refl (fun b => b = a.block) w).setCell (fun _ => rfl) u) (fun _ hb e => ha (e ▸ hb))
theorem add_done {x m : Nat} {pk v' : Value} {S : Net} {a b : Int} {d : ByteArray} {w w2 : World} {o : Obj} (hN : NetAt w x m pk S)
    (hK : Keep (fun b => pk.ownBlock = some b) ((w.setCell ⟨x, 1, none⟩ (.int .i64 (S.last + 1))).alloc o).drew w2) (hO : POwn w2 v' (S.l ++ [⟨S.last + 1, a, b, d⟩])) (hat : v'.ownBlock = pk.ownBlock ∨ v'.ownBlock = some ((w.setCell ⟨x, 1, none⟩ (.int .i64 (S.last + 1))).alloc o).drew.heap.size) :
    ∃ pk', NetAt (w2.setCell ⟨x, 2, none⟩ v') x m pk' (S.sent a b d) ∧ Keep (NetF x m pk) w (w2.setCell ⟨x, 2, none⟩ v') ∧ ∀ b, pk'.ownBlock = some b → pk.ownBlock = some b ∨ w.heap.size ≤ b := by
  have hx := hN.lt (.inl rfl)
  have k1 : Keep (fun b => b = x) w ((w.setCell ⟨x, 1, none⟩ (.int .i64 (S.last + 1))).alloc o).drew := (((Keep.refl (fun b => b = x) w).setCell (fun _ => rfl) _).alloc _).drew
  have k2 : Keep (fun b => b = x ∨ pk.ownBlock = some b) w w2 := (k1.mono (fun _ _ h => .inl h)).trans hK (fun _ _ h => .inr h)
  have h1 : w2.heap[x]? = some (.cells #[.int .i64 S.n, .int .i64 (S.last + 1), pk, .map (some m)] 70 (0, 0)) := by
    rw [hK.block x (by simp [World.drew]; omega) hN.ne_p]
    exact (Below.heap_alloc _ o x (by simpa using hx)).trans (heap_setCell_at hN.1 _)
  have hne : v'.ownBlock ≠ some x := by
    rcases hat with h | h <;> rw [h]
    · exact hN.ne_p
    · intro e
      injection e with e
      simp [World.drew] at e
      omega
  refine ⟨v', ⟨heap_setCell_at h1 v', own_setCell hO hne v', hN.2.2.keep (k2.trans ((Keep.refl (fun b => b = x) w2).setCell (fun _ => rfl) v') (fun _ _ h => .inl h)) (fun h => ?_)⟩, ?_, fun b hb => ?_⟩
  · rcases h with h | h
    · exact hN.ne_m h.symm
    · exact hN.ne_pm h
  · exact ((k2.setCell (fun _ => .inl rfl) v').mono fun i _ h => by
      rcases h with h | h
      · exact .inl h
      · exact .inr (.inr h))
  · rcases hat with h | h <;> rw [h] at hb
    · exact .inl hb
    · injection hb with hb
      simp [World.drew] at hb
      exact .inr (by omega)
set_option maxHeartbeats 400000 in
theorem add_any (x m : Nat) (pk : Value) (S : Net) (a b : Int) (d : ByteArray) (w : World) (hN : NetAt w x m pk S) (hlen : S.l.length < 64) (h0 : 0 ≤ S.last) (h1 : S.last ≤ 1000000) :
    Calls Try.prog 40 #[.pointer (some ⟨x, 0, none⟩), .int .i64 a, .int .i64 b, .string d] w (Meth x m pk w (S.sent a b d) (.tuple #[.int .i64 (S.last + 1), .int .i64 0])) := by
  have hx := hN.lt (.inl rfl)
  have c1 := hN.c1
  have c2 := hN.c2
  have f1 := hN.fz 1
  have f2 := hN.fz 2
  obtain ⟨A, c, rfl, _⟩ := PSl.shape (hN.sl (av := fun _ => False) (fun _ _ h => h))
  have HN := hid hN
  clear hN
  go_enter Try.func40, Try.ntmps40
  go_wp2_with fail
  have HNE := hid (fun b => fun (hb : (Value.slice A S.l.length c).ownBlock = some b) => show ¬ b = x from fun h => HN.out.ne_p (h ▸ hb))
  go_region_law (first | (refine step_appendP (av := fun _ => False) rfl _ _ rfl (.slice A S.l.length c) _ S.l [⟨S.last + 1, a, b, d⟩] rfl rfl (own_keep (F := fun b => b = x) HN.out.2.1 (by repeat (first | exact Keep.refl _ _ | refine Keep.drew ?_ | refine Keep.alloc ?_ _ | refine Keep.setCell ?_ (by intro _; rfl) _)) HNE.out) (sl_one (new_at (by simp))) (by simp; omega) ?_; intro v' w2 ho hk hat; obtain ⟨A', c', rfl, _⟩ := PSl.shape (Sl.of_own (av := fun _ => False) ho (fun _ _ h => h)); simp only [List.length_append, List.length_cons, List.length_nil, Nat.zero_add] at ho hat; have g1 : w2.cell? ⟨x, 1, none⟩ = some (.int .i64 (S.last + 1)) := hk.at_ (by go_simp) (fun h => HNE.out _ h rfl); have g2 : w2.cell? ⟨x, 2, none⟩ = some (.slice A S.l.length c) := hk.at_ (by go_simp) (fun h => HNE.out _ h rfl); have g3 : w2.frozen? ⟨x, 2, none⟩ = false := hk.fz (by go_simp) (by simp; omega) (fun h => HNE.out _ h rfl); have HO := hid ho; have HK := hid hk; have HAT := hid hat; clear ho hk hat))
  all_goals
    go_wp2
    go_ret2
    exact ⟨rfl, add_done HN.out HK.out HO.out HAT.out⟩
end Go.Proofs.Ytinpinjjdkilpaa
/- the network's methods: Send, Drop, Deliver, Copy, Cut, Clear, New; what each does to the plain network -/
namespace Go.Proofs.Ytinpinjjdkilpaa
open Go.RowKit
def Net.node (S : Net) (i : Int) : Bool := decide (0 ≤ i) && decide (i < S.n)
def Net.put (S : Net) (a b : Int) (d : ByteArray) : Net × Int × Int := if S.l.length < 64 then (S.sent a b d, S.last + 1, 0) else (S, 0, 3)
def Net.send (S : Net) (a b : Int) (d : ByteArray) : Net × Int × Int := if S.node a && S.node b then S.put a b d else (S, 0, 7)
def Net.without (S : Net) (i : Nat) : Net := { S with l := S.l.eraseIdx i }
def zeroP : Pkt := ⟨0, 0, 0, ByteArray.empty⟩
def Net.deliver (S : Net) (id : Int) : Net × Pkt × Int :=
  match S.at_ id with
  | none => (S, zeroP, 4)
  | some i => let p := S.l.getD i zeroP; if S.isCut p.src p.dst then (S, zeroP, 11) else (S.without i, p, 0)
def Net.drop (S : Net) (id : Int) : Net × Int := match S.at_ id with | none => (S, 4) | some i => (S.without i, 0)
def Net.copy (S : Net) (id : Int) : Net × Int × Int := match S.at_ id with | none => (S, 0, 4) | some i => let p := S.l.getD i zeroP; S.put p.src p.dst p.data
def Net.setCut (S : Net) (a b : Int) (c : Bool) : Net × Int := if S.node a && (S.node b && !decide (a = b)) then ({ S with cut := setA S.cut (min a b, max a b) c }, 0) else (S, 7)
def Net.clear (S : Net) (nd : Int) : Net × Int × Int :=
  if S.node nd then ({ S with l := S.l.filter fun p => !(p.dst == nd) }, (S.l.length : Int) - ((S.l.filter fun p => !(p.dst == nd)).length : Int), 0) else (S, 0, 7)

theorem meth_same {x m : Nat} {pk v : Value} {S : Net} {w w' : World} {e : Ending} (hN : NetAt w x m pk S) (hb : Below w.heap.size w w') (he : e = .returned v) : Meth x m pk w S v e w' :=
  ⟨he, pk, hN.below hb, Keep.of_below hb _, fun _ h => .inl h⟩
theorem node_val (x m : Nat) (pk : Value) (S : Net) (i : Int) (v : Bool) (w : World) (hN : NetAt w x m pk S) (h : S.node i = v) :
    Calls Try.prog 39 #[.pointer (some ⟨x, 0, none⟩), .int .i64 i] w fun e w' => e = .returned (.bool v) ∧ w' = w := by
  rw [← h]
  exact node_any x S.n i w hN.c0
set_option maxHeartbeats 400000 in
theorem put_any (x m : Nat) (pk : Value) (S : Net) (a b : Int) (d : ByteArray) (w : World) (hN : NetAt w x m pk S) (h0 : 0 ≤ S.last) (h1 : S.last ≤ 1000000) :
    Calls Try.prog 40 #[.pointer (some ⟨x, 0, none⟩), .int .i64 a, .int .i64 b, .string d] w (Meth x m pk w (S.put a b d).1 (.tuple #[.int .i64 (S.put a b d).2.1, .int .i64 (S.put a b d).2.2])) := by
  unfold Net.put
  by_cases h : S.l.length < 64
  · rw [if_pos h]
    exact add_any x m pk S a b d w hN h h0 h1
  · rw [if_neg h]
    refine (add_full x m pk S a b d w hN (by omega)).mono ?_
    rintro e w' ⟨rfl, rfl⟩
    exact meth_same hN (Below.refl _ _) rfl
set_option maxHeartbeats 400000 in
theorem send_any (x m : Nat) (pk : Value) (S : Net) (a b : Int) (d : ByteArray) (w : World) (hN : NetAt w x m pk S) (h0 : 0 ≤ S.last) (h1 : S.last ≤ 1000000) :
    Calls Try.prog 23 #[.pointer (some ⟨x, 0, none⟩), .int .i64 a, .int .i64 b, .string d] w (Meth x m pk w (S.send a b d).1 (.tuple #[.int .i64 (S.send a b d).2.1, .int .i64 (S.send a b d).2.2])) := by
  have HN := hid hN
  have HP := hid (put_any x m pk S a b d w hN h0 h1)
  clear hN
  unfold Net.send
  cases ha : S.node a with
  | false =>
    have HA := hid (node_val x m pk S a false w HN.out ha)
    clear ha
    simp only [Bool.false_and, Bool.false_eq_true, if_false]
    go_enter Try.func23, Try.ntmps23
    go_wp2_with fail
    refine HA.out.mono ?_
    rintro e w' ⟨rfl, rfl⟩
    go_wp2_with fail
    go_ret2
    exact meth_same HN.out (Below.refl _ _) rfl
  | true =>
    have HA := hid (node_val x m pk S a true w HN.out ha)
    clear ha
    cases hb : S.node b with
    | false =>
      have HB := hid (node_val x m pk S b false w HN.out hb)
      clear hb
      simp only [Bool.and_false, Bool.false_eq_true, if_false]
      go_enter Try.func23, Try.ntmps23
      go_wp2_with fail
      refine HA.out.mono ?_
      rintro e w' ⟨rfl, rfl⟩
      go_wp2_with fail
      refine HB.out.mono ?_
      rintro e w' ⟨rfl, rfl⟩
      go_wp2_with fail
      go_ret2
      exact meth_same HN.out (Below.refl _ _) rfl
    | true =>
      have HB := hid (node_val x m pk S b true w HN.out hb)
      clear hb
      simp only [Bool.and_self, if_true]
      generalize hr : S.put a b d = r at *
      clear hr
      go_enter Try.func23, Try.ntmps23
      go_wp2_with fail
      refine HA.out.mono ?_
      rintro e w' ⟨rfl, rfl⟩
      go_wp2_with fail
      refine HB.out.mono ?_
      rintro e w' ⟨rfl, rfl⟩
      go_wp2_with fail
      refine HP.out.mono ?_
      rintro e w1 ⟨rfl, h⟩
      have H := hid h
      clear h
      go_wp2_with fail
      go_ret2
      exact ⟨rfl, H.out⟩
end Go.Proofs.Ytinpinjjdkilpaa
/- Drop, Copy, Clear, New, Cut, Deliver -/
namespace Go.Proofs.Ytinpinjjdkilpaa
open Go.RowKit
theorem at_lt {S : Net} {id : Int} {i : Nat} (h : S.at_ id = some i) : i < S.l.length := (List.findIdx?_eq_some_iff_getElem.1 h).1
theorem getD_at {S : Net} {i : Nat} (h : i < S.l.length) : S.l.getD i zeroP = S.l[i] := by simp [h]
/-- a slice with something in it lies in a block -/
theorem own_shape {w : World} {v : Value} {l : List Pkt} (h : POwn w v l) (hl : 0 < l.length) : ∃ g cap, v = .slice (some ⟨g, 0, none⟩) l.length cap ∧ l.length ≤ cap := by
  rcases h.2 with ⟨rfl, h0⟩ | ⟨g, cap, cur, rfl, _, _, hnc, _⟩
  · omega
  · exact ⟨g, cap, rfl, hnc⟩
/-- the packets' slice replaced -/
theorem repl_done {x m : Nat} {pk v' : Value} {S : Net} {w w2 : World} {l' : List Pkt} (hN : NetAt w x m pk S) (hK : Keep (fun b => pk.ownBlock = some b) w w2) (hO : POwn w2 v' l') (hat : v'.ownBlock = pk.ownBlock) :
    ∃ pk', NetAt (w2.setCell ⟨x, 2, none⟩ v') x m pk' { S with l := l' } ∧ Keep (NetF x m pk) w (w2.setCell ⟨x, 2, none⟩ v') ∧ ∀ b, pk'.ownBlock = some b → pk.ownBlock = some b ∨ w.heap.size ≤ b := by
  have hx := hN.lt (.inl rfl)
  have h1 : w2.heap[x]? = some (.cells #[.int .i64 S.n, .int .i64 S.last, pk, .map (some m)] 70 (0, 0)) := (hK.block x hx hN.ne_p).trans hN.1
  have hne : v'.ownBlock ≠ some x := by rw [hat]; exact hN.ne_p
  refine ⟨v', ⟨heap_setCell_at h1 v', own_setCell hO hne v', (hN.2.2.keep hK hN.ne_pm).keep (F := fun b => b = x) ((Keep.refl (fun b => b = x) w2).setCell (fun _ => rfl) v') (fun h => hN.ne_m h.symm)⟩, ?_, fun b hb => ?_⟩
  · exact (hK.mono (fun _ _ h => .inr (.inr h))).setCell (fun _ => .inl rfl) v'
  · rw [hat] at hb; exact .inl hb
theorem net_facts {x m : Nat} {pk : Value} {S : Net} {w w2 : World} (hN : NetAt w x m pk S) (hK : Keep (fun b => pk.ownBlock = some b) w w2) : w2.cell? ⟨x, 2, none⟩ = some pk ∧ w2.frozen? ⟨x, 2, none⟩ = false ∧ x < w2.heap.size :=
  ⟨hK.at_ hN.c2 hN.ne_p, hK.fz (hN.fz 2) (hN.lt (.inl rfl)) hN.ne_p, Nat.lt_of_lt_of_le (hN.lt (.inl rfl)) hK.size⟩
/-- a method on a network that has been handed on -/
theorem Meth.from_ {x m : Nat} {pk v : Value} {S' : Net} {w w1 w' : World} {e : Ending} (hb : Below w.heap.size w w1) (h : Meth x m pk w1 S' v e w') : Meth x m pk w S' v e w' := by
  obtain ⟨he, pk', h1, h2, h3⟩ := h
  exact ⟨he, pk', h1, (Keep.of_below hb _).trans h2 (fun _ _ h => h), fun b hb' => (h3 b hb').imp id fun h => Nat.le_trans hb.size h⟩
set_option maxHeartbeats 400000 in
theorem drop_any (x m : Nat) (pk : Value) (S : Net) (id : Int) (w : World) (hN : NetAt w x m pk S) (hlen : S.l.length ≤ 100) :
    Calls Try.prog 26 #[.pointer (some ⟨x, 0, none⟩), .int .i64 id] w (Meth x m pk w (S.drop id).1 (.int .i64 (S.drop id).2)) := by
  unfold Net.drop
  cases hi : S.at_ id with
  | none =>
    have HF := hid (find_none x m pk S id w hN hlen hi)
    have HN := hid hN
    clear hN hi
    go_enter Try.func26, Try.ntmps26
    go_wp2_with fail
    refine HF.out.mono ?_
    rintro e w1 ⟨rfl, hb⟩
    have HB := hid hb
    clear hb
    go_wp2_with fail
    go_ret
    exact meth_same HN.out HB.out rfl
  | some i =>
    have hil := at_lt hi
    have HF := hid (find_some x m pk S id i w hN hlen hi)
    obtain ⟨g, cap, rfl, hc⟩ := own_shape hN.2.1 (by omega)
    have HN := hid hN
    clear hN hi
    go_enter Try.func26, Try.ntmps26
    go_wp2_with fail
    refine HF.out.mono ?_
    rintro e w1 ⟨rfl, hb⟩
    have HN1 := hid (HN.out.below hb)
    have HB := hid hb
    have c2 := HN1.out.c2
    clear hb
    go_wp2_with fail
    refine (delete_any g cap S.l S.l.length i w1 rfl hil (by omega) HN1.out.2.1).mono ?_
    rintro e w2 ⟨cap', rfl, ho, hk⟩
    have hk' : Keep (fun b => (Value.slice (some ⟨g, 0, none⟩) S.l.length cap).ownBlock = some b) w1 w2 := hk.mono (fun _ _ h => by subst h; rfl)
    obtain ⟨g2, g3, hx2⟩ := net_facts HN1.out hk'
    have HO := hid ho
    have HK := hid hk'
    clear ho hk hk' c2
    go_wp2_with fail
    go_ret
    exact Meth.from_ HB.out ⟨rfl, repl_done HN1.out HK.out HO.out rfl⟩
set_option maxHeartbeats 400000 in
theorem copy_any (x m : Nat) (pk : Value) (S : Net) (id : Int) (w : World) (hN : NetAt w x m pk S) (hlen : S.l.length ≤ 100) (h0 : 0 ≤ S.last) (h1 : S.last ≤ 1000000) :
    Calls Try.prog 25 #[.pointer (some ⟨x, 0, none⟩), .int .i64 id] w (Meth x m pk w (S.copy id).1 (.tuple #[.int .i64 (S.copy id).2.1, .int .i64 (S.copy id).2.2])) := by
  unfold Net.copy
  cases hi : S.at_ id with
  | none =>
    have HF := hid (find_none x m pk S id w hN hlen hi)
    have HN := hid hN
    clear hN hi
    go_enter Try.func25, Try.ntmps25
    go_wp2_with fail
    refine HF.out.mono ?_
    rintro e w1 ⟨rfl, hb⟩
    have HB := hid hb
    clear hb
    go_wp2_with fail
    go_ret2
    exact meth_same HN.out HB.out rfl
  | some i =>
    have hil := at_lt hi
    have HF := hid (find_some x m pk S id i w hN hlen hi)
    obtain ⟨g, cap, rfl, hc⟩ := own_shape hN.2.1 (by omega)
    have HN := hid hN
    clear hN hi
    have hgd := getD_at hil
    simp only [hgd]
    have HGD := hid hgd
    clear hgd
    generalize hp : S.l[i] = p at *
    have HP := hid hp
    clear hp
    generalize hr : S.put p.src p.dst p.data = r at *
    have HR := hid hr
    clear hr
    go_enter Try.func25, Try.ntmps25
    go_wp2_with fail
    refine HF.out.mono ?_
    rintro e w1 ⟨rfl, hb⟩
    have HN1 := hid (HN.out.below hb)
    have HB := hid hb
    have c2 := HN1.out.c2
    have hxl := HN1.out.lt (.inl rfl)
    obtain ⟨hgl, e0, e1, e2, e3⟩ := own_at HN1.out.2.1 hil p HP.out
    clear hb
    go_wp2_with fail
    have HN2 := hid (HN1.out.below (w' := w1.alloc (.cells #[.int .i64 p.id, .int .i64 p.src, .int .i64 p.dst, .string p.data] 42)) ((Below.refl _ _).alloc (Nat.le_refl _) _))
    refine (put_any x m _ S p.src p.dst p.data _ HN2.out h0 h1).mono ?_
    rintro e w2 ⟨rfl, h⟩
    rw [HR.out] at h
    rw [HR.out]
    have H := hid h
    clear h
    go_wp2_with fail
    go_ret2
    exact Meth.from_ (HB.out.trans (((Below.refl _ w1).alloc (Nat.le_refl _) _).mono HB.out.size)) ⟨rfl, H.out⟩
set_option maxHeartbeats 400000 in
theorem clear_any (x m : Nat) (pk : Value) (S : Net) (nd : Int) (w : World) (hN : NetAt w x m pk S) (hlen : S.l.length ≤ 100) :
    Calls Try.prog 27 #[.pointer (some ⟨x, 0, none⟩), .int .i64 nd] w (Meth x m pk w (S.clear nd).1 (.tuple #[.int .i64 (S.clear nd).2.1, .int .i64 (S.clear nd).2.2])) := by
  unfold Net.clear
  have hN1 := hN.below (w' := w.alloc (.cells #[.int .i64 nd] 3)) ((Below.refl _ _).alloc (Nat.le_refl _) _)
  have hB1 := hid ((Below.refl w.heap.size w).alloc (Nat.le_refl _) (.cells #[.int .i64 nd] 3))
  have HN := hid hN
  have HN1 := hid hN1
  clear hN hN1
  cases hnd : S.node nd with
  | false =>
    have HV := hid (node_val x m pk S nd false _ HN1.out hnd)
    clear hnd
    simp only [Bool.false_eq_true, if_false]
    go_enter Try.func27, Try.ntmps27
    go_wp2_with fail
    refine HV.out.mono ?_
    rintro e w1 ⟨rfl, rfl⟩
    go_wp2_with fail
    go_ret2
    exact meth_same HN.out hB1.out rfl
  | true =>
    have HV := hid (node_val x m pk S nd true _ HN1.out hnd)
    clear hnd
    simp only [if_true]
    have c2 := HN.out.c2
    have f2 := HN.out.fz 2
    have hxl := HN.out.lt (.inl rfl)
    obtain ⟨A, c, rfl, _⟩ := PSl.shape (HN.out.sl (av := fun _ => False) (fun _ _ h => h))
    go_enter Try.func27, Try.ntmps27
    go_wp2_with fail
    refine HV.out.mono ?_
    rintro e w1 ⟨rfl, rfl⟩
    go_wp2_with fail
    refine (deletefunc_any _ _ cf43 (fun p => p.dst == nd) _ _ S.l HN1.out.2.1 (by omega) ?_).mono ?_
    · intro w' hk p
      refine clear1_any _ nd p.id p.src p.dst p.data w' ?_
      refine hk.at_ (by simp) (fun h => ?_)
      have := own_lt HN.out.2.1 h
      simp at this
    · rintro e w2 ⟨v', rfl, ho, hob, hk⟩
      obtain ⟨A', c', rfl, _⟩ := PSl.shape (Sl.of_own (av := fun _ => False) ho (fun _ _ h => h))
      obtain ⟨g2, g3, hx2⟩ := net_facts HN1.out hk
      have HO := hid ho
      have HOB := hid hob
      have HK := hid hk
      clear ho hob hk c2 f2
      have hfl := List.length_filter_le (fun p : Pkt => !(p.dst == nd)) S.l
      go_wp2_with fail
      go_ret2
      exact Meth.from_ hB1.out ⟨rfl, repl_done HN1.out HK.out HO.out HOB.out⟩
end Go.Proofs.Ytinpinjjdkilpaa
/- New, Cut, Deliver -/
namespace Go.Proofs.Ytinpinjjdkilpaa
open Go.RowKit
def newNet (n : Int) : Net := { n := n, last := 0, l := [], cut := [] }
set_option maxHeartbeats 400000 in
theorem new_bad (n : Int) (w : World) (h : n < 1 ∨ 20 < n) : Calls Try.prog 12 #[.int .i64 n] w fun e w' => e = .returned (.tuple #[.pointer none, .int .i64 7]) ∧ w' = w := by
  rcases h with h | h
  · go_enter Try.func12, Try.ntmps12
    go_wp2
    go_ret2
    exact ⟨rfl, rfl⟩
  · have h' : ¬ n < 1 := by omega
    go_enter Try.func12, Try.ntmps12
    go_wp2
    go_ret2
    exact ⟨rfl, rfl⟩
set_option maxHeartbeats 400000 in
theorem new_any (n : Int) (w : World) (h1 : 1 ≤ n) (h2 : n ≤ 20) : Calls Try.prog 12 #[.int .i64 n] w fun e w' =>
    e = .returned (.tuple #[.pointer (some ⟨w.heap.size + 1, 0, none⟩), .int .i64 0]) ∧ NetAt w' (w.heap.size + 1) w.heap.size (.slice none 0 0) (newNet n) ∧ Below w.heap.size w w' := by
  have hmm := @run_makeMap Try.prog
  go_enter Try.func12, Try.ntmps12
  go_wp2
  go_ret2
  refine ⟨rfl, ⟨new_at (by simp), own_nil _, ⟨#[], 0, ?_, rfl⟩⟩, by go_grown⟩
  exact (Below.heap_alloc _ _ _ (by simp)).trans (new_at rfl)
theorem upon_unit {P : Program} {o : Oper} {a : Act} {K : Act → World → Prop} {Q : Exit → Act → World → Prop} {s : Sem Unit} {w : World} {Φ : World → Prop} (hr : ∃ w', s.run P w = .ok () w' ∧ Φ w') (h : ∀ w', Φ w' → K (a.put o.dst undef) w') :
    Oper.upon P o a K Q ((s.run P w).andThen fun _ w' => .ok .skip w') := by
  obtain ⟨w', h1, h2⟩ := hr
  rw [h1]
  exact h w' h2
theorem setA_map {κ α β : Type} [DecidableEq κ] (f : α → β) (l : List (κ × α)) (k : κ) (v : α) : (setA l k v).map (fun p => (p.1, f p.2)) = setA (l.map fun p => (p.1, f p.2)) k (f v) := by
  induction l with
  | nil => rfl
  | cons p l ih =>
    simp only [List.map_cons, setA]
    by_cases h : k = p.1 <;> simp [h, ih]
theorem cut_up {w : World} {m : Nat} {L : List ((Int × Int) × Bool)} (h : MapAt keP w m (L.map fun p => (p.1, Value.bool p.2))) (a b : Int) (c : Bool) :
    ∃ w', (Instr.mapUpdate 68 (.map (some m)) (.agg #[.int .i64 a, .int .i64 b]) (.bool c)).run Try.prog w = .ok () w' ∧ (MapAt keP w' m ((setA L (a, b) c).map fun p => (p.1, Value.bool p.2)) ∧ Keep (fun b => b = m) w w') := by
  obtain ⟨es, clock, h1, h2⟩ := MapAt.update h lawP u68 (a, b) (.bool c)
  exact ⟨_, h1, by rw [setA_map]; exact MapAt.set_ h.lt h2, (Keep.refl (fun b => b = m) w).setObj rfl _⟩
theorem cut_done {x m : Nat} {pk : Value} {S : Net} {w w1 w2 : World} {L : List ((Int × Int) × Bool)} (hN : NetAt w x m pk S) (hb : Below w.heap.size w w1) (hm : MapAt keP w2 m (L.map fun p => (p.1, Value.bool p.2))) (hk : Keep (fun b => b = m) w1 w2) :
    ∃ pk', NetAt w2 x m pk' { S with cut := L } ∧ Keep (NetF x m pk) w w2 ∧ ∀ b, pk'.ownBlock = some b → pk.ownBlock = some b ∨ w.heap.size ≤ b := by
  have hN1 := hN.below hb
  exact ⟨pk, ⟨(hk.block x (hN1.lt (.inl rfl)) hN.ne_m).trans hN1.1, own_keep hN1.2.1 hk (fun b h e => hN.ne_pm (e ▸ h)), hm⟩, (Keep.of_below hb _).trans hk (fun _ _ h => .inr (.inl h)), fun _ h => .inl h⟩
set_option maxHeartbeats 400000 in
theorem cut_any (x m : Nat) (pk : Value) (S : Net) (a b : Int) (c : Bool) (w : World) (hN : NetAt w x m pk S) :
    Calls Try.prog 21 #[.pointer (some ⟨x, 0, none⟩), .int .i64 a, .int .i64 b, .bool c] w (Meth x m pk w (S.setCut a b c).1 (.int .i64 (S.setCut a b c).2)) := by
  have HN := hid hN
  have c3 := hN.c3
  have hxl := hN.lt (.inl rfl)
  clear hN
  unfold Net.setCut
  cases ha : S.node a with
  | false =>
    have HA := hid (node_val x m pk S a false w HN.out ha)
    clear ha
    simp only [Bool.false_and, Bool.false_eq_true, if_false]
    go_enter Try.func21, Try.ntmps21
    go_wp2_with fail
    refine HA.out.mono ?_
    rintro e w' ⟨rfl, rfl⟩
    go_wp2_with fail
    go_ret
    exact meth_same HN.out (Below.refl _ _) rfl
  | true =>
    have HA := hid (node_val x m pk S a true w HN.out ha)
    clear ha
    cases hb : S.node b with
    | false =>
      have HB := hid (node_val x m pk S b false w HN.out hb)
      clear hb
      simp only [Bool.false_and, Bool.and_false, Bool.false_eq_true, if_false]
      go_enter Try.func21, Try.ntmps21
      go_wp2_with fail
      refine HA.out.mono ?_
      rintro e w' ⟨rfl, rfl⟩
      go_wp2_with fail
      refine HB.out.mono ?_
      rintro e w' ⟨rfl, rfl⟩
      go_wp2_with fail
      go_ret
      exact meth_same HN.out (Below.refl _ _) rfl
    | true =>
      have HB := hid (node_val x m pk S b true w HN.out hb)
      clear hb
      by_cases hab : a = b
      · subst hab
        simp only [decide_true, Bool.not_true, Bool.and_false, Bool.false_eq_true, if_false]
        have haa : (a == a) = true := by simp
        go_enter Try.func21, Try.ntmps21
        go_wp2_with fail
        refine HA.out.mono ?_
        rintro e w' ⟨rfl, rfl⟩
        go_wp2_with fail
        refine HB.out.mono ?_
        rintro e w' ⟨rfl, rfl⟩
        go_wp2_with fail
        go_ret
        exact meth_same HN.out (Below.refl _ _) rfl
      · simp only [hab, decide_false, Bool.not_false, Bool.and_self, if_true]
        have haa : (a == b) = false := by simpa using hab
        have HNE := hid HN.out.ne_m
        clear hab
        go_enter Try.func21, Try.ntmps21
        go_wp2_with fail
        refine HA.out.mono ?_
        rintro e w' ⟨rfl, rfl⟩
        go_wp2_with fail
        refine HB.out.mono ?_
        rintro e w' ⟨rfl, rfl⟩
        go_wp2_with fail
        go_region_held3 (fun w' => w'.cell? ⟨x, 3, none⟩ = some (.map (some m))) ((first | go_keep | exact (hw2.2).at_ (by go_simp) (fun h => HNE.out h))) ((first | (go_at_call 31; refine (link_any _ _ _).mono ?_; rintro e w' ⟨rfl, rfl⟩) | ((with_reducible refine upon_unit (cut_up (L := S.cut) ?hm _ _ _) ?_); (case hm => exact (HN.out.below (by go_grown)).2.2); intro w2 hw2)))
        go_wp2_with fail
        go_ret
        exact ⟨rfl, cut_done HN.out (by go_grown) hw2.1 hw2.2⟩
end Go.Proofs.Ytinpinjjdkilpaa
/- Deliver -/
namespace Go.Proofs.Ytinpinjjdkilpaa
open Go.RowKit
/-- the cells of a packet that lies alone in a block -/
theorem row4 {w : World} {B : Nat} {p : Pkt} {t : TypeId} (h : w.heap[B]? = some (.cells #[.int .i64 p.id, .int .i64 p.src, .int .i64 p.dst, .string p.data] t (0, 0))) :
    w.cell? ⟨B, 0, none⟩ = some (.int .i64 p.id) ∧ w.cell? ⟨B, 1, none⟩ = some (.int .i64 p.src) ∧ w.cell? ⟨B, 2, none⟩ = some (.int .i64 p.dst) ∧ w.cell? ⟨B, 3, none⟩ = some (.string p.data) ∧ B < w.heap.size ∧ ∀ i, w.frozen? ⟨B, i, none⟩ = false :=
  ⟨cell_of_row w B 0 _ _ _ h, cell_of_row w B 1 _ _ _ h, cell_of_row w B 2 _ _ _ h, cell_of_row w B 3 _ _ _ h, lt_of_heap h, fun i => by simp [World.frozen?, h]⟩
theorem res_P {fn : Func} {p u : Tmp} (h : fn.results = #[.cell p 42, .tmp u]) (tmps : Array Value) (w : World) (B : Nat) (q : Pkt) (t : TypeId) (hp : tmps.getD p undef = .pointer (some ⟨B, 0, none⟩))
    (hB : w.heap[B]? = some (.cells #[.int .i64 q.id, .int .i64 q.src, .int .i64 q.dst, .string q.data] t (0, 0))) : (results fn tmps).run Try.prog w = .ok (.tuple #[q.val, tmps.getD u undef]) w := by
  rw [results_cell_tmp h, hp]
  simp [asAddr, loadP hB]
theorem heap_old2 {w : World} {k : Nat} {o o' : Obj} (h : k < w.heap.size) : ((w.alloc o).alloc o').drew.heap[k]? = w.heap[k]? := by
  show ((w.alloc o).alloc o').heap[k]? = _
  rw [Below.heap_alloc _ _ _ (by simp; omega), Below.heap_alloc _ _ _ h]
set_option maxHeartbeats 1000000 in
theorem deliver_any (x m : Nat) (pk : Value) (S : Net) (id : Int) (w : World) (hN : NetAt w x m pk S) (hlen : S.l.length ≤ 100) :
    Calls Try.prog 24 #[.pointer (some ⟨x, 0, none⟩), .int .i64 id] w (Meth x m pk w (S.deliver id).1 (.tuple #[(S.deliver id).2.1.val, .int .i64 (S.deliver id).2.2])) := by
  unfold Net.deliver
  have hB0 : Below w.heap.size w (w.alloc (.cells #[.int .i64 0, .int .i64 0, .int .i64 0, .string ByteArray.empty] 42)) := (Below.refl _ _).alloc (Nat.le_refl _) _
  have HB0 := hid hB0
  have HN0 := hid (hN.below hB0)
  have HN := hid hN
  clear hB0 hN
  cases hi : S.at_ id with
  | none =>
    have HF := hid (find_none x m pk S id _ HN0.out hlen hi)
    clear hi
    go_enter Try.func24, Try.ntmps24
    go_wp2_with fail
    refine HF.out.mono ?_
    rintro e w1 ⟨rfl, hb⟩
    have HB := hid hb
    have hr1 : w1.heap[w.heap.size]? = some (.cells #[.int .i64 zeroP.id, .int .i64 zeroP.src, .int .i64 zeroP.dst, .string zeroP.data] 42 (0, 0)) := (hb.block _ (by simp)).trans (new_at rfl)
    have HR := hid hr1
    clear hr1 hb
    go_wp2_with (refine wpList_store_whole rfl 42 (.tmp 4) (.tmp 17) rfl w.heap.size _ _ _ rfl rfl HR.out sizP rfl (one4 _ _ _ _) ?_)
    refine bodyPost_ret (res_P rfl _ _ w.heap.size zeroP _ rfl (setRow_heap w1 w.heap.size _ _ _ _ HR.out)) rfl ?_
    exact meth_same HN.out (Keep.below_of (F := fun b => w.heap.size ≤ b) (((Keep.of_below HB0.out _).trans (Keep.of_below HB.out (fun b => w.heap.size ≤ b)) (fun _ _ h => h)).setRow (fun h => absurd h (by omega)) _) (Nat.le_refl _) (fun _ h => h)) rfl
  | some i =>
    have hil := at_lt hi
    have HF := hid (find_some x m pk S id i _ HN0.out hlen hi)
    obtain ⟨g, cap, rfl, hc⟩ := own_shape HN.out.2.1 (by omega)
    have hgd := getD_at hil
    simp only [hgd]
    clear hgd
    generalize hp : S.l[i] = p at *
    have HP := hid hp
    clear hi hp
    cases hcut : S.isCut p.src p.dst with
    | true =>
      have HCUT := hid hcut
      clear hcut
      simp only [if_true]
      go_enter Try.func24, Try.ntmps24
      go_wp2_with fail
      refine HF.out.mono ?_
      rintro e w1 ⟨rfl, hb⟩
      have HB := hid hb
      have HN1 := hid (HN0.out.below hb)
      have HR := hid ((hb.block w.heap.size (by simp)).trans (new_at rfl))
      have c2 := HN1.out.c2
      have c3 := HN1.out.c3
      have hxl := HN1.out.lt (.inl rfl)
      obtain ⟨hgl, e0, e1, e2, e3⟩ := own_at HN1.out.2.1 hil p HP.out
      have HLT := hid (show w.heap.size < w1.heap.size by have := hb.size; simp at this; omega)
      clear hb
      have hlk : ∀ w', Below w1.heap.size w1 w' → (Instr.lookup 68 (.map (some m)) (.agg #[.int .i64 (min p.src p.dst), .int .i64 (max p.src p.dst)]) false).run Try.prog w' = .ok (.bool true) w' := fun w' hb => by
        have h1 := cut_look (HN1.out.below hb).2.2 (min p.src p.dst) (max p.src p.dst)
        rw [cutV, HCUT.out] at h1
        exact h1
      go_wp2_with fail
      go_region_held3 (fun w' => w'.cell? ⟨x, 3, none⟩ = some (.map (some m)) ∧ w'.cell? ⟨w1.heap.size, 1, none⟩ = some (.int .i64 p.src) ∧ w'.cell? ⟨w1.heap.size, 2, none⟩ = some (.int .i64 p.dst)) (go_keep) ((first | (go_at_call 31; refine (link_any _ _ _).mono ?_; rintro e w' ⟨rfl, rfl⟩) | ((with_reducible refine upon_run (hlk _ ?hb) ?_); (case hb => go_grown); simp only [Act.put, List.setIfInBounds_toArray, List.set_cons_zero, List.set_cons_succ])))
      clear hlk e0 e1 e2 e3 c3
      go_wp2_with (refine wpList_store_whole rfl 42 (.tmp 4) (.tmp 36) rfl w.heap.size _ _ _ rfl rfl ((heap_old2 HLT.out).trans HR.out) sizP rfl (one4 _ _ _ _) ?_)
      refine bodyPost_ret (res_P rfl _ _ w.heap.size zeroP _ rfl (setRow_heap _ w.heap.size _ _ _ _ ((heap_old2 HLT.out).trans HR.out))) rfl ?_
      exact meth_same HN.out (Keep.below_of (F := fun b => w.heap.size ≤ b) (((((Keep.of_below HB0.out _).trans (Keep.of_below HB.out (fun b => w.heap.size ≤ b)) (fun _ _ h => h)).alloc _).alloc _).drew.setRow (fun h => absurd h (by omega)) _) (Nat.le_refl _) (fun _ h => h)) rfl
    | false =>
      have HCUT := hid hcut
      clear hcut
      simp only [Bool.false_eq_true, if_false]
      go_enter Try.func24, Try.ntmps24
      go_wp2_with fail
      refine HF.out.mono ?_
      rintro e w1 ⟨rfl, hb⟩
      have HB := hid hb
      have HN1 := hid (HN0.out.below hb)
      have HR := hid ((hb.block w.heap.size (by simp)).trans (new_at rfl))
      have c2 := HN1.out.c2
      have c3 := HN1.out.c3
      have hxl := HN1.out.lt (.inl rfl)
      obtain ⟨hgl, e0, e1, e2, e3⟩ := own_at HN1.out.2.1 hil p HP.out
      have HLT := hid (show w.heap.size < w1.heap.size by have := hb.size; simp at this; omega)
      clear hb
      have hlk : ∀ w', Below w1.heap.size w1 w' → (Instr.lookup 68 (.map (some m)) (.agg #[.int .i64 (min p.src p.dst), .int .i64 (max p.src p.dst)]) false).run Try.prog w' = .ok (.bool false) w' := fun w' hb => by
        have h1 := cut_look (HN1.out.below hb).2.2 (min p.src p.dst) (max p.src p.dst)
        rw [cutV, HCUT.out] at h1
        exact h1
      go_wp2_with fail
      go_region_held3 (fun w' => w'.cell? ⟨x, 3, none⟩ = some (.map (some m)) ∧ w'.cell? ⟨w1.heap.size, 1, none⟩ = some (.int .i64 p.src) ∧ w'.cell? ⟨w1.heap.size, 2, none⟩ = some (.int .i64 p.dst)) (go_keep) ((first | (go_at_call 31; refine (link_any _ _ _).mono ?_; rintro e w' ⟨rfl, rfl⟩) | ((with_reducible refine upon_run (hlk _ ?hb) ?_); (case hb => go_grown); simp only [Act.put, List.setIfInBounds_toArray, List.set_cons_zero, List.set_cons_succ])))
      clear hlk e0 e1 e2 e3 c3
      have HB3 := hid (((Below.refl _ w1).alloc (Nat.le_refl _) (.cells #[.int .i64 p.id, .int .i64 p.src, .int .i64 p.dst, .string p.data] 42)).alloc (by simp) (.cells #[.int .i64 (min p.src p.dst), .int .i64 (max p.src p.dst)] 73))
      have HN3 := hid (HN1.out.below HB3.out.drew)
      go_wp2_with fail
      refine (delete_any g cap S.l S.l.length i _ rfl hil (by omega) HN3.out.2.1).mono ?_
      rintro e w4 ⟨cap', rfl, ho, hk⟩
      have hk' : Keep (fun b => (Value.slice (some ⟨g, 0, none⟩) S.l.length cap).ownBlock = some b) _ w4 := hk.mono (fun _ _ h => by subst h; rfl)
      obtain ⟨g2, g3, hx2⟩ := net_facts HN3.out hk'
      have hgx : ¬ (w1.heap.size : Nat) = x := by omega
      have hgw : ¬ (w.heap.size : Nat) = x := by have := HN.out.lt (.inl rfl); omega
      have hbx : w4.heap[w1.heap.size]? = some (.cells #[.int .i64 p.id, .int .i64 p.src, .int .i64 p.dst, .string p.data] 42 (0, 0)) :=
        (hk.block _ (by simp [World.drew]; omega) (fun h => by omega)).trans ((Below.heap_alloc _ _ _ (by simp)).trans (new_at rfl))
      obtain ⟨q0, q1, q2, q3, q4, q5⟩ := row4 hbx
      have HR4 := hid ((hk.block w.heap.size (by have := HLT.out; simp [World.drew]; omega) (fun h => by have := own_lt HN.out.2.1 (b := g) rfl; omega)).trans ((heap_old2 HLT.out).trans HR.out))
      have HGW := hid hgw
      have HO := hid ho
      have HK := hid hk'
      clear ho hk hk' c2 hbx hgw
      go_wp2_with (refine wpList_store_whole rfl 42 (.tmp 4) (.tmp 48) rfl w.heap.size _ _ _ rfl rfl ((Below.heap_setCell _ _ _ _ HGW.out).trans HR4.out) sizP rfl (one4 _ _ _ _) ?_)
      refine bodyPost_ret (res_P rfl _ _ w.heap.size p _ rfl (setRow_heap _ w.heap.size _ _ _ _ ((Below.heap_setCell _ _ _ _ HGW.out).trans HR4.out))) rfl ?_
      obtain ⟨pk', n1, n2, n3⟩ := repl_done HN3.out HK.out HO.out rfl
      have hsz : w.heap.size < (((w1.alloc (.cells #[.int .i64 p.id, .int .i64 p.src, .int .i64 p.dst, .string p.data] 42)).alloc (.cells #[.int .i64 (min p.src p.dst), .int .i64 (max p.src p.dst)] 73)).drew).heap.size := by have := HLT.out; simp [World.drew]; omega
      refine ⟨rfl, pk', n1.keep (F := fun b => b = w.heap.size) ((Keep.refl (fun b => b = w.heap.size) _).setRow (fun _ => rfl) _) (fun b hb e => ?_), ?_, fun b hb => ?_⟩
      · subst e
        rcases hb with h | h | h
        · have := HN.out.lt (.inl rfl); omega
        · have := HN.out.lt (.inr (.inl rfl)); omega
        · rcases n3 _ h with h | h
          · have := own_lt HN.out.2.1 h; omega
          · omega
      · refine Keep.setRow ?_ (fun h => absurd h (by omega)) _
        exact (((Keep.of_below HB0.out _).trans (Keep.of_below HB.out _) (fun _ _ h => h)).trans (Keep.of_below HB3.out.drew _) (fun _ _ h => h)).trans n2 (fun _ _ h => h)
      · rcases n3 b hb with h | h
        · exact .inl h
        · exact .inr (by omega)
end Go.Proofs.Ytinpinjjdkilpaa
/- The document's state of the network, as plain data and in memory; node, pair, Find, IsCut of the reference -/
namespace Go.Proofs.Ytinpinjjdkilpaa
open Go.RowKit
structure St where
  n : Int
  next : Int
  l : List Pkt
  cut : List (Int × Int)
def cc (l : List (Int × Int)) : List Value := l.flatMap fun c => [.int .i64 c.1, .int .i64 c.2]
theorem cc_len (l : List (Int × Int)) : (cc l).length = l.length * 2 := by
  induction l with
  | nil => rfl
  | cons p l ih => simp only [cc, List.flatMap_cons, List.length_append, List.length_cons, List.length_nil] at ih ⊢; rw [ih]; omega
theorem cc_append (l r : List (Int × Int)) : cc (l ++ r) = cc l ++ cc r := by simp [cc]
theorem cc_get (l : List (Int × Int)) (k : Nat) (hk : k < l.length) : (cc l)[k * 2]? = some (.int .i64 (l[k]).1) ∧ (cc l)[k * 2 + 1]? = some (.int .i64 (l[k]).2) := by
  induction l generalizing k with
  | nil => simp at hk
  | cons p l ih =>
    cases k with
    | zero => exact ⟨rfl, rfl⟩
    | succ k =>
      have h := ih k (by simpa using hk)
      exact ⟨by rw [show (k + 1) * 2 = k * 2 + 2 from by omega]; exact h.1, by rw [show (k + 1) * 2 + 1 = k * 2 + 1 + 2 from by omega]; exact h.2⟩
theorem cc_one (l : List (Int × Int)) : ∀ u ∈ cc l, u.oneCell' = true := by
  intro u hu
  simp only [cc, List.mem_flatMap] at hu
  obtain ⟨p, _, hp⟩ := hu
  simp only [List.mem_cons, List.not_mem_nil, or_false] at hp
  rcases hp with rfl | rfl <;> rfl
abbrev CSl (av : Nat → Prop) (w : World) (v : Value) (l : List (Int × Int)) : Prop := Sl av w 2 v l.length (cc l)
theorem CSl.at_ {av : Nat → Prop} {w : World} {v : Value} {l : List (Int × Int)} (h : CSl av w v l) {k : Nat} (hk : k < l.length) :
    ∃ b off c, v = .slice (some ⟨b, off, none⟩) l.length c ∧ b < w.heap.size ∧ w.cell? ⟨b, off + k * 2, none⟩ = some (.int .i64 (l[k]).1) ∧ w.cell? ⟨b, off + k * 2 + 1, none⟩ = some (.int .i64 (l[k]).2) := by
  obtain ⟨hl, A, c, rfl, hc, hn⟩ := h
  obtain ⟨b, off, rfl, hb, hav, hcell⟩ := hn (by omega)
  exact ⟨b, off, c, rfl, hb, hcell (k * 2) _ (cc_get l k hk).1, hcell (k * 2 + 1) _ (cc_get l k hk).2⟩
theorem CSl.shape {av : Nat → Prop} {w : World} {v : Value} {l : List (Int × Int)} (h : CSl av w v l) : ∃ A c, v = .slice A l.length c ∧ l.length ≤ c := by
  obtain ⟨hl, A, c, rfl, hc, hn⟩ := h
  exact ⟨A, c, rfl, hc⟩
def stV (T : St) (pv cv : Value) : Value := .agg #[.int .i64 T.n, .int .i64 T.next, pv, cv]
def stO (T : St) (pv cv : Value) : Obj := .cells #[.int .i64 T.n, .int .i64 T.next, pv, cv] 30
/-- the state's two lists in memory -/
def StAt (av : Nat → Prop) (w : World) (T : St) (pv cv : Value) : Prop := PSl av w pv T.l ∧ CSl av w cv T.cut
section
variable {av av' F : Nat → Prop} {w w' : World} {T : St} {pv cv : Value}
theorem StAt.keep (h : StAt av w T pv cv) (hk : Keep F w w') (hF : ∀ b, b < w.heap.size → F b → av b) : StAt av w' T pv cv := ⟨Sl.keep h.1 hk hF, Sl.keep h.2 hk hF⟩
theorem StAt.below (h : StAt av w T pv cv) (hk : Below w.heap.size w w') : StAt av w' T pv cv := ⟨Sl.below h.1 hk, Sl.below h.2 hk⟩
theorem StAt.avoid (h : StAt av w T pv cv) (ha : ∀ b, b < w.heap.size → av' b → av b) : StAt av' w T pv cv := ⟨Sl.avoid h.1 ha, Sl.avoid h.2 ha⟩
end
def pairOf (a b : Int) : Int × Int := (min a b, max a b)
def St.node (T : St) (a : Int) : Bool := decide (0 ≤ a) && decide (a < T.n)
def St.isCut (T : St) (a b : Int) : Bool := T.cut.any fun c => c == pairOf a b
def St.find (T : St) (id : Int) : Int := idxI (fun p => p.id == id) T.l
/-- a value, nothing turned -/
def Gives (w : World) (v : Value) (e : Ending) (w' : World) : Prop := e = .returned v ∧ Below w.heap.size w w'
set_option maxHeartbeats 400000 in
theorem rnode_any (T : St) (pv cv : Value) (a : Int) (w : World) (b : Bool) (hb : T.node a = b) : Calls Try.prog 33 #[stV T pv cv, .int .i64 a] w (Gives w (.bool b)) := by
  subst hb
  unfold stV St.node
  by_cases h : 0 ≤ a
  · simp only [h, decide_true, Bool.true_and]
    go_enter Try.func33, Try.ntmps33
    go_wp2
    go_ret
    exact ⟨rfl, by go_grown⟩
  · simp only [h, decide_false, Bool.false_and]
    have h' : a < 0 := by omega
    go_enter Try.func33, Try.ntmps33
    go_wp2
    go_ret
    exact ⟨rfl, by go_grown⟩
set_option maxHeartbeats 400000 in
theorem pair_any (a b : Int) (w : World) :
    Calls Try.prog 45 #[.int .i64 a, .int .i64 b] w fun e w' => e = .returned (.agg #[.int .i64 (min a b), .int .i64 (max a b)]) ∧ w' = w.alloc (.cells #[.int .i64 (min a b), .int .i64 (max a b)] 73) := by
  by_cases h : a ≤ b
  · rw [Int.min_eq_left h, Int.max_eq_right h]
    go_enter Try.func45, Try.ntmps45
    go_wp2
    go_returns
    exact ⟨rfl, rfl⟩
  · rw [Int.min_eq_right (by omega), Int.max_eq_left (by omega)]
    go_enter Try.func45, Try.ntmps45
    go_wp2
    go_returns
    exact ⟨rfl, rfl⟩
set_option maxHeartbeats 400000 in
theorem rfind_any (av : Nat → Prop) (T : St) (pv cv : Value) (id : Int) (w : World) (h : StAt av w T pv cv) (hlen : T.l.length ≤ 1000) : Calls Try.prog 32 #[stV T pv cv, .int .i64 id] w (Gives w (.int .i64 (T.find id))) := by
  obtain ⟨A, c, rfl, _⟩ := PSl.shape h.1
  have H := hid h.1
  clear h
  unfold stV
  go_enter Try.func32, Try.ntmps32
  go_wp2
  go_loop [5] (fun i => ∃ k : Nat, k ≤ T.l.length ∧ i = .int .i64 k ∧ Hid (∀ j (hj : j < k) (hj' : j < T.l.length), (T.l[j].id == id) = false)) (fun i => T.l.length - (intOf i).toNat)
  case atStart => exact ⟨0, by omega, rfl, hid fun j hj => absurd hj (by omega)⟩
  case round =>
    obtain ⟨k, hk, rfl, hno⟩ := hrel
    by_cases hlt : k < T.l.length
    · obtain ⟨b, off, c', hA, hbl, _, h0, _, _, _⟩ := PSl.at_ H.out hlt
      injection hA with hA _ hA'
      subst hA; subst hA'
      by_cases hp : (T.l[k].id == id) = true
      · go_wp2
        go_ret
        exact ⟨by unfold St.find; rw [idxI_at _ T.l k hlt hp fun j hj => hno.out j hj (by omega)]; rfl, by go_grown⟩
      · have hp' : (T.l[k].id == id) = false := Bool.eq_false_iff.2 hp
        clear hp
        go_wp2
        go_round
        case rel => exact ⟨k + 1, by omega, by go_num, hid fun j hj hj' => by
          by_cases hjk : j = k
          · subst hjk; exact hp'
          · exact hno.out j (by omega) hj'⟩
        case measure => simp [intOf]; omega
    · go_wp2
      go_ret
      exact ⟨by unfold St.find; rw [idxI_none _ T.l fun j hj => hno.out j (by omega) hj]; rfl, by go_grown⟩
end Go.Proofs.Ytinpinjjdkilpaa
/- IsCut, Ready, Same, New of the reference -/
namespace Go.Proofs.Ytinpinjjdkilpaa
open Go.RowKit
theorem eqArr (a b c e : Int) (w : World) : (Op.equalIn 10000 73 (.agg #[.int .i64 a, .int .i64 b]) (.agg #[.int .i64 c, .int .i64 e])).run Try.prog w = .ok (decide ((a, b) = (c, e))) w := by
  rw [eqP]
  congr 1
  rw [Bool.eq_iff_iff]
  simp
theorem st_cell {w : World} {B : Nat} {T : St} {pv cv : Value} (h : w.heap[B]? = some (stO T pv cv)) :
    w.cell? ⟨B, 0, none⟩ = some (.int .i64 T.n) ∧ w.cell? ⟨B, 1, none⟩ = some (.int .i64 T.next) ∧ w.cell? ⟨B, 2, none⟩ = some pv ∧ w.cell? ⟨B, 3, none⟩ = some cv ∧ B < w.heap.size ∧ ∀ i, w.frozen? ⟨B, i, none⟩ = false :=
  ⟨cell_of_row w B 0 _ _ _ h, cell_of_row w B 1 _ _ _ h, cell_of_row w B 2 _ _ _ h, cell_of_row w B 3 _ _ _ h, lt_of_heap h, fun i => by simp [World.frozen?, h, stO]⟩
set_option maxHeartbeats 400000 in
theorem iscut_any (av : Nat → Prop) (T : St) (pv cv : Value) (x y : Int) (b : Bool) (w : World) (h : StAt av w T pv cv) (hlen : T.cut.length ≤ 1000) (hb : T.isCut x y = b) :
    Calls Try.prog 36 #[stV T pv cv, .int .i64 x, .int .i64 y] w (Gives w (.bool b)) := by
  subst hb
  obtain ⟨A, c, rfl, _⟩ := CSl.shape h.2
  have H := hid h.2
  clear h
  unfold stV
  go_enter Try.func36, Try.ntmps36
  go_wp2_with fail
  go_loopw [7] (fun i wr => ∃ k : Nat, k ≤ T.cut.length ∧ i = .int .i64 k ∧ Below w.heap.size w wr ∧ wr.heap[w.heap.size]? = some (stO T pv (.slice A T.cut.length c)) ∧ Hid (∀ j (hj : j < k) (hj' : j < T.cut.length), (T.cut[j] == pairOf x y) = false)) (fun i _ => T.cut.length - (intOf i).toNat)
  case atStart => exact ⟨0, by omega, rfl, by go_grown, new_at rfl, hid fun j hj => absurd hj (by omega)⟩
  case round =>
    obtain ⟨k, hk, rfl, hB, hbx, hno⟩ := hrel
    obtain ⟨q0, q1, q2, q3, q4, q5⟩ := st_cell hbx
    have HBX := hid hbx
    have HB := hid hB
    clear hbx hB q0 q1 q2 q5
    by_cases hlt : k < T.cut.length
    · obtain ⟨b, off, c', hA, hbl, h0, h1⟩ := CSl.at_ (Sl.below H.out HB.out) hlt
      injection hA with hA _ hA'
      subst hA; subst hA'
      cases hp : (T.cut[k] == pairOf x y) with
      | true =>
        have heq : ∀ w', (Op.equalIn 10000 73 (.agg #[.int .i64 (T.cut[k]).1, .int .i64 (T.cut[k]).2]) (.agg #[.int .i64 (min x y), .int .i64 (max x y)])).run Try.prog w' = .ok true w' := fun w' => by
          rw [eqArr]; have := beq_iff_eq.1 hp; congr 1; exact decide_eq_true this
        have HP := hid hp
        clear hp
        go_wp2_with fail
        go_region_held3 (fun w' => w'.cell? ⟨w.heap.size, 3, none⟩ = some (.slice (some ⟨b, off, none⟩) T.cut.length c) ∧ w'.cell? ⟨b, off + k * 2, none⟩ = some (.int .i64 (T.cut[k]).1) ∧ w'.cell? ⟨b, off + k * 2 + 1, none⟩ = some (.int .i64 (T.cut[k]).2)) (go_keep) ((first | (go_at_call 45; refine (pair_any _ _ _).mono ?_; rintro e w' ⟨rfl, rfl⟩)))
        go_wp2_with fail
        go_ret
        refine ⟨?_, (HB.out.trans (((Below.refl _ wr).alloc (Nat.le_refl _) _).mono HB.out.size)).drew⟩
        have : T.isCut x y = true := by
          unfold St.isCut
          rw [List.any_eq_true]
          exact ⟨T.cut[k], List.getElem_mem hlt, HP.out⟩
        rw [this]
        rfl
      | false =>
        have heq : ∀ w', (Op.equalIn 10000 73 (.agg #[.int .i64 (T.cut[k]).1, .int .i64 (T.cut[k]).2]) (.agg #[.int .i64 (min x y), .int .i64 (max x y)])).run Try.prog w' = .ok false w' := fun w' => by
          rw [eqArr]; have := beq_eq_false_iff_ne.1 hp; congr 1; exact decide_eq_false this
        have HP := hid hp
        clear hp
        go_wp2_with fail
        go_region_held3 (fun w' => w'.cell? ⟨w.heap.size, 3, none⟩ = some (.slice (some ⟨b, off, none⟩) T.cut.length c) ∧ w'.cell? ⟨b, off + k * 2, none⟩ = some (.int .i64 (T.cut[k]).1) ∧ w'.cell? ⟨b, off + k * 2 + 1, none⟩ = some (.int .i64 (T.cut[k]).2)) (go_keep) ((first | (go_at_call 45; refine (pair_any _ _ _).mono ?_; rintro e w' ⟨rfl, rfl⟩)))
        go_wp2_with fail
        go_roundw
        case rel => exact ⟨k + 1, by omega, by go_num, (HB.out.trans (((Below.refl _ wr).alloc (Nat.le_refl _) _).mono HB.out.size)).drew, (Below.heap_alloc wr _ _ q4).trans HBX.out, hid fun j hj hj' => by
          by_cases hjk : j = k
          · subst hjk; exact HP.out
          · exact hno.out j (by omega) hj'⟩
        case measure => simp [intOf]; omega
    · go_wp2_with fail
      go_ret
      refine ⟨?_, HB.out⟩
      have : T.isCut x y = false := by
        unfold St.isCut
        rw [List.any_eq_false]
        intro z hz
        obtain ⟨j, hj, rfl⟩ := List.getElem_of_mem hz
        simp [hno.out j (by omega) hj]
      rw [this]
      rfl
def St.ready (T : St) : List Pkt := T.l.filter fun p => !T.isCut p.src p.dst
/-- what holds at the head of a round that collects packets -/
def Coll (w : World) (v : Value) (l : List Pkt) (wr : World) : Prop := POwn wr v l ∧ Below w.heap.size w wr ∧ ∀ b, v.ownBlock = some b → w.heap.size < b
theorem coll_step {w wr w1 w2 w3 : World} {v v' : Value} {l r : List Pkt} {o : Obj} (h : Coll w v l wr) (hb : Below wr.heap.size wr w1) (hbx : w.heap.size < wr.heap.size) (ho : POwn w3 v' (l ++ r)) (hk : Keep (fun b => v.ownBlock = some b) (w1.alloc o) w3) (hat : v'.ownBlock = v.ownBlock ∨ v'.ownBlock = some (w1.heap.size + 1)) (hw : w2 = w3) : Coll w v' (l ++ r) w2 ∧ w2.heap[w.heap.size]? = wr.heap[w.heap.size]? := by
  subst hw
  obtain ⟨_, h2, h3⟩ := h
  have hs := hb.size
  have k1 : Keep (fun b => w.heap.size < b) w w2 := ((Keep.of_below h2 _).trans ((Keep.of_below hb _).alloc o) (fun _ _ h => h)).trans hk (fun i _ h => h3 i h)
  refine ⟨⟨ho, Keep.below_of k1 (Nat.le_refl _) (fun i h => by omega), fun b hb' => ?_⟩, ?_⟩
  · rcases hat with e | e <;> rw [e] at hb'
    · exact h3 b hb'
    · injection hb' with e1; omega
  · rw [hk.block _ (by simp; omega) (fun e => by have := h3 _ e; omega), Below.heap_alloc _ _ _ (by omega), hb.block _ hbx]
set_option maxHeartbeats 1000000 in
theorem rready_any (av : Nat → Prop) (T : St) (pv cv : Value) (w : World) (h : StAt av w T pv cv) (hl : T.l.length ≤ 1000) (hlen : T.cut.length ≤ 1000) :
    Calls Try.prog 38 #[stV T pv cv] w (FreshP w T.ready) := by
  obtain ⟨A, c, rfl, _⟩ := PSl.shape h.1
  obtain ⟨A2, c2, rfl, _⟩ := CSl.shape h.2
  have H := hid h
  clear h
  unfold stV
  go_enter Try.func38, Try.ntmps38
  go_wp2_with fail
  go_loopw [3, 4] (fun v i wr => ∃ k : Nat, k ≤ T.l.length ∧ i = .int .i64 k ∧ wr.heap[w.heap.size]? = some (stO T (.slice A T.l.length c) (.slice A2 T.cut.length c2)) ∧ Hid (Coll w v ((T.l.take k).filter fun p => !T.isCut p.src p.dst) wr)) (fun _ i _ => T.l.length - (intOf i).toNat)
  case atStart => exact ⟨0, by omega, rfl, new_at rfl, hid ⟨own_nil _, by go_grown, by simp [Value.ownBlock]⟩⟩
  case round =>
    obtain ⟨k, hk, rfl, hbx, hco⟩ := hrel
    obtain ⟨q0, q1, q2, q3, q4, q5⟩ := st_cell hbx
    have HBX := hid hbx
    have HS := hid (H.out.below hco.out.2.1)
    clear hbx q5
    by_cases hlt : k < T.l.length
    · obtain ⟨b, off, c', hA, hbl, _, h0, h1, h2, h3⟩ := PSl.at_ HS.out.1 hlt
      injection hA with hA _ hA'
      subst hA; subst hA'
      cases hp : T.isCut T.l[k].src T.l[k].dst with
      | true =>
        have HP := hid hp
        clear hp
        go_wp2_with fail
        go_region_held3 (fun w' => w'.cell? ⟨w.heap.size, 0, none⟩ = some (.int .i64 T.n) ∧ w'.cell? ⟨w.heap.size, 1, none⟩ = some (.int .i64 T.next) ∧ w'.cell? ⟨w.heap.size, 2, none⟩ = some (.slice (some ⟨b, off, none⟩) T.l.length c) ∧ w'.cell? ⟨w.heap.size, 3, none⟩ = some (.slice A2 T.cut.length c2) ∧ w'.cell? ⟨b, off + k * 4 + 1, none⟩ = some (.int .i64 T.l[k].src) ∧ w'.cell? ⟨b, off + k * 4 + 2, none⟩ = some (.int .i64 T.l[k].dst)) (go_keep) ((first | (go_at_call 36; refine (iscut_any av T _ _ _ _ _ _ (by exact HS.out) hlen HP.out).mono ?_; rintro e w1 ⟨rfl, hb⟩; have hbc : ∀ b o, b < wr.heap.size → w1.cell? ⟨b, o, none⟩ = wr.cell? ⟨b, o, none⟩ := bcell (undrew hb); have HB := hid (undrew hb); clear hb)))
        go_wp2_with fail
        go_roundw
        case rel => exact ⟨k + 1, by omega, by go_num, (HB.out.block _ q4).trans HBX.out, hid (by
          rw [List.take_succ_eq_append_getElem hlt, List.filter_append, List.filter_cons_of_neg (by simp [HP.out]), List.filter_nil, List.append_nil]
          exact ⟨own_keep hco.out.1 (Keep.of_below HB.out (fun _ => False)) (fun _ _ h => h), hco.out.2.1.trans (HB.out.mono hco.out.2.1.size), hco.out.2.2⟩)⟩
        case measure => simp [intOf]; omega
      | false =>
        have HP := hid hp
        clear hp
        go_wp2_with fail
        go_region_held3 (fun w' => w'.cell? ⟨w.heap.size, 0, none⟩ = some (.int .i64 T.n) ∧ w'.cell? ⟨w.heap.size, 1, none⟩ = some (.int .i64 T.next) ∧ w'.cell? ⟨w.heap.size, 2, none⟩ = some (.slice (some ⟨b, off, none⟩) T.l.length c) ∧ w'.cell? ⟨w.heap.size, 3, none⟩ = some (.slice A2 T.cut.length c2) ∧ w'.cell? ⟨b, off + k * 4 + 1, none⟩ = some (.int .i64 T.l[k].src) ∧ w'.cell? ⟨b, off + k * 4 + 2, none⟩ = some (.int .i64 T.l[k].dst)) (go_keep) ((first | (go_at_call 36; refine (iscut_any av T _ _ _ _ _ _ (by exact HS.out) hlen HP.out).mono ?_; rintro e w1 ⟨rfl, hb⟩; have hbc : ∀ b o, b < wr.heap.size → w1.cell? ⟨b, o, none⟩ = wr.cell? ⟨b, o, none⟩ := bcell (undrew hb); have HB := hid (undrew hb); clear hb)))
        go_wp2_with (at_builtin; (refine wpList_appendP (av := fun _ => False) rfl (.tmp 27) (.tmp 33) rfl _ _ ((T.l.take k).filter fun p => !T.isCut p.src p.dst) [T.l[k]] rfl rfl (own_keep hco.out.1 ((Keep.of_below HB.out (fun _ => False)).alloc _) (fun _ _ h => h)) (sl_one (new_at rfl)) (by have := List.length_filter_le (fun p : Pkt => !T.isCut p.src p.dst) (T.l.take k); rw [List.length_take] at this; simp only [List.length_cons, List.length_nil]; omega) ?_))
        intro v' w3 ho hkp hat
        have HC2 := hid (coll_step hco.out HB.out q4 ho hkp hat rfl)
        clear ho hkp hat
        go_wp2_with fail
        go_roundw
        case rel => exact ⟨k + 1, by omega, by go_num, HC2.out.2.trans HBX.out, hid (by
          have := HC2.out.1
          rw [List.take_succ_eq_append_getElem hlt, List.filter_append, List.filter_cons_of_pos (by simp [HP.out]), List.filter_nil]
          exact this)⟩
        case measure => simp [intOf]; omega
    · obtain rfl : k = T.l.length := by omega
      go_wp2_with fail
      go_ret
      have hc := hco.out
      rw [List.take_length] at hc
      exact ⟨_, rfl, hc.1, hc.2.1, fun b hb => Nat.le_of_lt (hc.2.2 b hb)⟩
end Go.Proofs.Ytinpinjjdkilpaa
/- Same, New of the reference -/
namespace Go.Proofs.Ytinpinjjdkilpaa
open Go.RowKit
theorem u9 : Try.prog.underlying 9 = some .string := by kernel_rfl
theorem part_one {t : TypeId} {d : TypeDesc} (hd : Try.prog.underlying t = some d) (hn : ∀ fs, d ≠ .struct fs) (hn' : ∀ n e, d ≠ .array n e) (cs : Array Value) (i : Nat) (v : Value) (w : World) (h : cs[i]? = some v) : (part t cs i).run Try.prog w = .ok v w := by
  cases d <;> first | (simp [part, isAgg, run_underlying hd, h]; done) | exact absurd rfl (hn _) | exact absurd rfl (hn' _ _)
theorem eqPkt_d (d : Nat) (p q : Pkt) (w : World) : (Op.equalIn (d + 2) 42 p.val q.val).run Try.prog w = .ok (decide (p = q)) w := by
  have hf : Try.prog.fieldsOf 42 = #[{ name := "ID", type := 2, offset := 0, embedded := false, tag := "", pkgPath := "", byteOffset := 0 }, { name := "From", type := 3, offset := 1, embedded := false, tag := "", pkgPath := "", byteOffset := 8 }, { name := "To", type := 3, offset := 2, embedded := false, tag := "", pkgPath := "", byteOffset := 16 }, { name := "Data", type := 9, offset := 3, embedded := false, tag := "", pkgPath := "", byteOffset := 24 }] := by kernel_rfl
  have hu : Try.prog.underlying 42 = some (.struct (Try.prog.fieldsOf 42)) := by kernel_rfl
  have hp : Try.prog.stoodInHeld 42 = false := by kernel_rfl
  have a0 : ∀ (x y z : Int) (s : ByteArray) w, (part 2 #[.int .i64 x, .int .i64 y, .int .i64 z, .string s] 0).run Try.prog w = .ok (.int .i64 x) w := fun x y z s w => part_one u2 (by simp) (by simp) _ _ _ _ rfl
  have a1 : ∀ (x y z : Int) (s : ByteArray) w, (part 3 #[.int .i64 x, .int .i64 y, .int .i64 z, .string s] 1).run Try.prog w = .ok (.int .i64 y) w := fun x y z s w => part_one u3 (by simp) (by simp) _ _ _ _ rfl
  have a2 : ∀ (x y z : Int) (s : ByteArray) w, (part 3 #[.int .i64 x, .int .i64 y, .int .i64 z, .string s] 2).run Try.prog w = .ok (.int .i64 z) w := fun x y z s w => part_one u3 (by simp) (by simp) _ _ _ _ rfl
  have a3 : ∀ (x y z : Int) (s : ByteArray) w, (part 9 #[.int .i64 x, .int .i64 y, .int .i64 z, .string s] 3).run Try.prog w = .ok (.string s) w := fun x y z s w => part_one u9 (by simp) (by simp) _ _ _ _ rfl
  have b1 := fun a b w => run_equalIn_int (P := Try.prog) w d 2 .i64 .i64 a b u2
  have b2 := fun a b w => run_equalIn_int (P := Try.prog) w d 3 .i64 .i64 a b u3
  have b3 := fun a b w => run_equalIn_string (P := Try.prog) w d 9 a b u9
  have hb : ∀ a b : ByteArray, (a.toList == b.toList) = decide (a = b) := fun a b => by
    rw [ByteArray.toList_eq, ByteArray.toList_eq]
    obtain ⟨⟨x⟩⟩ := a
    obtain ⟨⟨y⟩⟩ := b
    rw [Bool.eq_iff_iff]
    simp
  unfold Pkt.val
  rw [run_equalIn_struct w (d + 1) _ _ _ hu hp, hf]
  have hpq : (p = q) ↔ (p.id = q.id ∧ p.src = q.src ∧ p.dst = q.dst ∧ p.data = q.data) := by
    obtain ⟨p0, p1, p2, p3⟩ := p
    obtain ⟨q0, q1, q2, q3⟩ := q
    simp only [Pkt.mk.injEq]
  by_cases h0 : p.id = q.id
  · by_cases h1 : p.src = q.src
    · by_cases h2 : p.dst = q.dst
      · by_cases h3 : p.data = q.data <;> simp [Op.eqFields, a0, a1, a2, a3, b1, b2, b3, hb, hpq, h0, h1, h2, h3]
      · simp [Op.eqFields, a0, a1, a2, b1, b2, hpq, h0, h1, h2]
    · simp [Op.eqFields, a0, a1, b1, b2, hpq, h0, h1]
  · simp [Op.eqFields, a0, b1, hpq, h0]
theorem eqPkt (p q : Pkt) (w : World) : (Op.equalIn 10000 42 (.agg #[.int .i64 p.id, .int .i64 p.src, .int .i64 p.dst, .string p.data]) (.agg #[.int .i64 q.id, .int .i64 q.src, .int .i64 q.dst, .string q.data])).run Try.prog w = .ok (decide (p = q)) w := eqPkt_d 9998 p q w
set_option maxHeartbeats 1000000 in
theorem same_any (av av' : Nat → Prop) (v v' : Value) (l l' : List Pkt) (b : Bool) (w : World) (h : PSl av w v l) (h' : PSl av' w v' l') (hl : l.length ≤ 1000) (hb : decide (l = l') = b) :
    Calls Try.prog 22 #[v, v'] w fun e w' => e = .returned (.bool b) ∧ ∃ n, w' = w.drewN n := by
  subst hb
  obtain ⟨A, c, rfl, _⟩ := PSl.shape h
  obtain ⟨A', c', rfl, _⟩ := PSl.shape h'
  have H := hid h
  have H' := hid h'
  clear h h'
  by_cases hlen : l.length = l'.length
  · have hne : ((l.length : Int) != (l'.length : Int)) = false := by simp [hlen]
    have HL := hid hlen
    clear hlen
    go_enter Try.func22, Try.ntmps22
    go_wp2_with fail
    go_loopw [5] (fun i wr => ∃ k : Nat, k ≤ l.length ∧ i = .int .i64 k ∧ Hid (∃ n, wr = w.drewN n) ∧ Hid (l.take k = l'.take k)) (fun i _ => l.length - (intOf i).toNat)
    case atStart => exact ⟨0, by omega, rfl, hid ⟨0, rfl⟩, hid (by simp)⟩
    case round =>
      obtain ⟨k, hk, rfl, ⟨n, rfl⟩, htk⟩ := hrel
      by_cases hlt : k < l.length
      · have hlt' : k < l'.length := by have := HL.out; omega
        obtain ⟨b, off, c1, hA, hbl, _, h0, h1, h2, h3⟩ := PSl.at_ H.out hlt
        obtain ⟨b', off', c1', hA', hbl', _, h0', h1', h2', h3'⟩ := PSl.at_ H'.out hlt'
        injection hA with hA _ hc
        subst hA; subst hc
        injection hA' with hA' _ hc
        subst hA'; subst hc
        cases hp : decide (l[k] = l'[k]) with
        | true =>
          have heq := fun w => eqPkt l[k] l'[k] w
          rw [hp] at heq
          have HP := hid hp
          clear hp
          go_wp2_with fail
          go_quiet (fail)
          go_wp2_with fail
          go_roundw
          case rel => exact ⟨k + 1, by omega, by go_num, hid ⟨_, rfl⟩, hid (by rw [List.take_succ_eq_append_getElem hlt, List.take_succ_eq_append_getElem hlt', htk.out, of_decide_eq_true HP.out])⟩
          case measure => simp [intOf]; omega
        | false =>
          have heq := fun w => eqPkt l[k] l'[k] w
          rw [hp] at heq
          have HP := hid hp
          clear hp
          go_wp2_with fail
          go_quiet (fail)
          go_wp2_with fail
          go_ret
          refine ⟨?_, ⟨_, World.drewN_drewN _ _ _⟩⟩
          have : decide (l = l') = false := decide_eq_false (fun e => by subst e; exact absurd rfl (of_decide_eq_false HP.out))
          rw [this]
          rfl
      · obtain rfl : k = l.length := by omega
        go_wp2_with fail
        go_ret
        refine ⟨?_, ⟨n, rfl⟩⟩
        have h2 := htk.out
        rw [List.take_length, HL.out, List.take_length] at h2
        rw [decide_eq_true h2]
        rfl
  · have hne : ((l.length : Int) != (l'.length : Int)) = true := by simp; omega
    have HL := hid hlen
    clear hlen
    go_enter Try.func22, Try.ntmps22
    go_wp2_with fail
    go_ret
    refine ⟨?_, ⟨0, rfl⟩⟩
    rw [decide_eq_false (fun e => HL.out (by rw [e]))]
    rfl
end Go.Proofs.Ytinpinjjdkilpaa
/- methods over a network whose blocks lie in a set -/
namespace Go.Proofs.Ytinpinjjdkilpaa
open Go.RowKit
/-- a network whose blocks lie in G -/
def NetO (G : Nat → Prop) (x : Nat) (S : Net) (w : World) : Prop := ∃ m pk, NetAt w x m pk S ∧ ∀ b, NetF x m pk b → G b
/-- new memory lies in G -/
def Fresh (G : Nat → Prop) (w : World) : Prop := ∀ b, w.heap.size ≤ b → G b
section
variable {G G' F : Nat → Prop} {x : Nat} {S S' : Net} {w w' : World}
theorem NetO.keep (h : NetO G x S w) (hk : Keep F w w') (hF : ∀ b, b < w.heap.size → F b → ¬ G b) : NetO G x S w' := by
  obtain ⟨m, pk, h, hG⟩ := h
  exact ⟨m, pk, h.keep hk fun b hb hf => hF b (h.lt hb) hf (hG b hb), hG⟩
theorem NetO.below (h : NetO G x S w) (hk : Below w.heap.size w w') : NetO G x S w' := h.keep (Keep.of_below hk (fun _ => False)) (fun _ _ h => h.elim)
theorem NetO.into (h : NetO G x S w) (hG : ∀ b, b < w.heap.size → G b → G' b) : NetO G' x S w := by
  obtain ⟨m, pk, h, hg⟩ := h
  exact ⟨m, pk, h, fun b hb => hG b (h.lt hb) (hg b hb)⟩
theorem NetO.x_lt (h : NetO G x S w) : x < w.heap.size := by
  obtain ⟨m, pk, h, hg⟩ := h
  exact h.lt (.inl rfl)
theorem NetO.x_in (h : NetO G x S w) : G x := by
  obtain ⟨m, pk, h, hg⟩ := h
  exact hg x (.inl rfl)
theorem Fresh.of (h : Fresh G w) (hs : w.heap.size ≤ w'.heap.size) : Fresh G w' := fun b hb => h b (by omega)
end
/-- how a method over such a network ends -/
def MO (G : Nat → Prop) (x : Nat) (w : World) (S' : Net) (v : Value) (e : Ending) (w' : World) : Prop := e = .returned v ∧ NetO G x S' w' ∧ Keep G w w'
theorem Meth.own {G : Nat → Prop} {x m : Nat} {pk v : Value} {w w' : World} {S' : Net} {e : Ending} (h : Meth x m pk w S' v e w') (hG : ∀ b, NetF x m pk b → G b) (hf : Fresh G w) : MO G x w S' v e w' := by
  obtain ⟨he, pk', hN, hk, hp⟩ := h
  refine ⟨he, ⟨m, pk', hN, fun b hb => ?_⟩, hk.mono fun b _ hb => hG b hb⟩
  rcases hb with rfl | rfl | hb
  · exact hG _ (.inl rfl)
  · exact hG _ (.inr (.inl rfl))
  · rcases hp b hb with h | h
    · exact hG _ (.inr (.inr h))
    · exact hf _ h
section
variable {G : Nat → Prop} {x : Nat} {S S' : Net} {w : World}
theorem new_o (n : Int) (hf : Fresh G w) (h1 : 1 ≤ n) (h2 : n ≤ 20) : Calls Try.prog 12 #[.int .i64 n] w fun e w' =>
    ∃ x, e = .returned (.tuple #[.pointer (some ⟨x, 0, none⟩), .int .i64 0]) ∧ NetO G x (newNet n) w' ∧ Below w.heap.size w w' ∧ w.heap.size ≤ x := by
  refine (new_any n w h1 h2).mono ?_
  rintro e w' ⟨rfl, h, hb⟩
  refine ⟨_, rfl, ⟨_, _, h, fun b hb => ?_⟩, hb, by omega⟩
  rcases hb with rfl | rfl | hb
  · exact hf _ (by omega)
  · exact hf _ (by omega)
  · cases hb
theorem send_o (a b : Int) (d : ByteArray) (hN : NetO G x S w) (hf : Fresh G w) (h0 : 0 ≤ S.last) (h1 : S.last ≤ 1000000) (i e : Int) (hr : S.send a b d = (S', i, e)) :
    Calls Try.prog 23 #[.pointer (some ⟨x, 0, none⟩), .int .i64 a, .int .i64 b, .string d] w (MO G x w S' (.tuple #[.int .i64 i, .int .i64 e])) := by
  obtain ⟨m, pk, h, hG⟩ := hN
  have := send_any x m pk S a b d w h h0 h1
  rw [hr] at this
  exact this.mono fun _ _ h => h.own hG hf
theorem deliver_o (id : Int) (hN : NetO G x S w) (hf : Fresh G w) (hlen : S.l.length ≤ 100) (p : Pkt) (e : Int) (hr : S.deliver id = (S', p, e)) :
    Calls Try.prog 24 #[.pointer (some ⟨x, 0, none⟩), .int .i64 id] w (MO G x w S' (.tuple #[p.val, .int .i64 e])) := by
  obtain ⟨m, pk, h, hG⟩ := hN
  have := deliver_any x m pk S id w h hlen
  rw [hr] at this
  exact this.mono fun _ _ h => h.own hG hf
theorem drop_o (id : Int) (hN : NetO G x S w) (hf : Fresh G w) (hlen : S.l.length ≤ 100) (e : Int) (hr : S.drop id = (S', e)) :
    Calls Try.prog 26 #[.pointer (some ⟨x, 0, none⟩), .int .i64 id] w (MO G x w S' (.int .i64 e)) := by
  obtain ⟨m, pk, h, hG⟩ := hN
  have := drop_any x m pk S id w h hlen
  rw [hr] at this
  exact this.mono fun _ _ h => h.own hG hf
theorem copy_o (id : Int) (hN : NetO G x S w) (hf : Fresh G w) (hlen : S.l.length ≤ 100) (h0 : 0 ≤ S.last) (h1 : S.last ≤ 1000000) (i e : Int) (hr : S.copy id = (S', i, e)) :
    Calls Try.prog 25 #[.pointer (some ⟨x, 0, none⟩), .int .i64 id] w (MO G x w S' (.tuple #[.int .i64 i, .int .i64 e])) := by
  obtain ⟨m, pk, h, hG⟩ := hN
  have := copy_any x m pk S id w h hlen h0 h1
  rw [hr] at this
  exact this.mono fun _ _ h => h.own hG hf
theorem cut_o (a b : Int) (c : Bool) (hN : NetO G x S w) (hf : Fresh G w) (e : Int) (hr : S.setCut a b c = (S', e)) :
    Calls Try.prog 21 #[.pointer (some ⟨x, 0, none⟩), .int .i64 a, .int .i64 b, .bool c] w (MO G x w S' (.int .i64 e)) := by
  obtain ⟨m, pk, h, hG⟩ := hN
  have := cut_any x m pk S a b c w h
  rw [hr] at this
  exact this.mono fun _ _ h => h.own hG hf
theorem clear_o (nd : Int) (hN : NetO G x S w) (hf : Fresh G w) (hlen : S.l.length ≤ 100) (n e : Int) (hr : S.clear nd = (S', n, e)) :
    Calls Try.prog 27 #[.pointer (some ⟨x, 0, none⟩), .int .i64 nd] w (MO G x w S' (.tuple #[.int .i64 n, .int .i64 e])) := by
  obtain ⟨m, pk, h, hG⟩ := hN
  have := clear_any x m pk S nd w h hlen
  rw [hr] at this
  exact this.mono fun _ _ h => h.own hG hf
theorem pending_o (hN : NetO G x S w) (hlen : S.l.length ≤ 100) : Calls Try.prog 14 #[.pointer (some ⟨x, 0, none⟩)] w (FreshP w S.l) := by
  obtain ⟨m, pk, h, hG⟩ := hN
  exact pending_any x m pk S w h hlen
theorem ready_o (hN : NetO G x S w) (hlen : S.l.length ≤ 100) : Calls Try.prog 15 #[.pointer (some ⟨x, 0, none⟩)] w (FreshP w S.ready) := by
  obtain ⟨m, pk, h, hG⟩ := hN
  exact ready_any x m pk S w h hlen
end
end Go.Proofs.Ytinpinjjdkilpaa
/- the fixed examples; New -/
namespace Go.Proofs.Ytinpinjjdkilpaa
open Go.RowKit
def sA : ByteArray := { data := #[97] }
def sB : ByteArray := { data := #[98] }
def n1 : Net := ⟨3, 1, [⟨1, 0, 1, sA⟩], []⟩
def n2 : Net := ⟨3, 2, [⟨1, 0, 1, sA⟩, ⟨2, 1, 2, sB⟩], []⟩
def n3 : Net := ⟨3, 2, [⟨1, 0, 1, sA⟩, ⟨2, 1, 2, sB⟩], [((0, 1), true)]⟩
def n4 : Net := ⟨3, 3, [⟨1, 0, 1, sA⟩, ⟨2, 1, 2, sB⟩, ⟨3, 0, 1, sA⟩], [((0, 1), true)]⟩
def n5 : Net := ⟨3, 3, [⟨2, 1, 2, sB⟩, ⟨3, 0, 1, sA⟩], [((0, 1), true)]⟩
def n6 : Net := ⟨3, 3, [⟨2, 1, 2, sB⟩, ⟨3, 0, 1, sA⟩], [((0, 1), false)]⟩
def n7 : Net := ⟨3, 3, [⟨2, 1, 2, sB⟩], [((0, 1), false)]⟩
theorem a1 : (newNet 3).send 0 1 sA = (n1, 1, 0) := by rfl
theorem a2 : n1.send 1 2 sB = (n2, 2, 0) := by rfl
theorem a3 : n2.setCut 1 0 true = (n3, 0) := by rfl
theorem a3r : n3.ready = [⟨2, 1, 2, sB⟩] := by rfl
theorem a4 : n3.deliver 1 = (n3, zeroP, 11) := by rfl
theorem a5 : n3.copy 1 = (n4, 3, 0) := by rfl
theorem a6 : n4.drop 1 = (n5, 0) := by rfl
theorem a7 : n5.setCut 0 1 false = (n6, 0) := by rfl
theorem a7r : n6.ready = [⟨2, 1, 2, sB⟩, ⟨3, 0, 1, sA⟩] := by rfl
theorem a8 : n6.clear 1 = (n7, 1, 0) := by rfl
set_option maxHeartbeats 1000000 in
theorem awake_any (w : World) : Calls Try.prog 11 #[] w fun e w' => e = .returned (.bool true) ∧ Below w.heap.size w w' := by
  have hF := fun (w' : World) (h : w.heap.size ≤ w'.heap.size) => (fun b hb => Nat.le_trans h hb : Fresh (fun b => w.heap.size ≤ b) w')
  have HF := hid hF
  clear hF
  go_enter Try.func11, Try.ntmps11
  go_wp2_with fail
  refine (new_o (G := fun b => w.heap.size ≤ b) 3 (HF.out _ (by simp)) (by omega) (by omega)).mono ?_
  rintro e w1 ⟨x, rfl, h, hb, hx⟩
  have H := hid h
  have HB := hid hb
  clear h hb hx
  have L1 := HB.out.size
  go_wp2_with fail
  refine (send_o 0 1 sA H.out (HF.out _ (by omega)) (by decide) (by decide) _ _ a1).mono ?_
  rintro e w2 ⟨rfl, h, hk⟩
  have H2 := hid h
  have K := hid ((Keep.of_below HB.out _).trans hk (fun _ _ h => h))
  clear h hk L1 HB H
  have L2 := K.out.size
  go_wp2_with fail
  refine (send_o 1 2 sB H2.out (HF.out _ (by omega)) (by decide) (by decide) _ _ a2).mono ?_
  rintro e w3 ⟨rfl, h, hk⟩
  have H3 := hid h
  have K3 := hid (K.out.trans hk (fun _ _ h => h))
  clear h hk L2 K H2
  have L3 := K3.out.size
  go_wp2_with fail
  refine (cut_o 1 0 true H3.out (HF.out _ (by omega)) _ a3).mono ?_
  rintro e w4 ⟨rfl, h, hk⟩
  have H4 := hid h
  have K4 := hid (K3.out.trans hk (fun _ _ h => h))
  clear h hk L3 K3 H3
  have L4 := K4.out.size
  go_wp2_with fail
  refine (ready_o H4.out (by decide)).mono ?_
  rintro e w5 ⟨v, rfl, ho, hb, hf⟩
  obtain ⟨A, c, rfl, _⟩ := PSl.shape (Sl.of_own (av := fun _ => False) ho (fun _ _ h => h))
  simp only [a3r, List.length_cons, List.length_nil, Nat.zero_add]
  have H5 := hid (H4.out.below hb)
  have K5 := hid (K4.out.trans_below hb)
  clear ho hb hf L4 K4 H4
  have L5 := K5.out.size
  go_wp2_with fail
  refine (deliver_o 1 H5.out (HF.out _ (by omega)) (by decide) _ _ a4).mono ?_
  rintro e w6 ⟨rfl, h, hk⟩
  have H6 := hid h
  have K6 := hid (K5.out.trans hk (fun _ _ h => h))
  clear h hk L5 K5 H5
  have L6 := K6.out.size
  simp only [Pkt.val]
  go_wp2_with (refine wpList_store_whole rfl 42 (.tmp 7) (.tmp 61) rfl w6.heap.size _ _ _ rfl rfl (new_at (by simp)) sizP rfl (one4 _ _ _ _) ?_)
  have K7 := hid (K6.out.trans (show Keep (fun _ => False) w6 ((w6.alloc (.cells #[.int .i64 0, .int .i64 0, .int .i64 0, .string ByteArray.empty] 42)).setRow w6.heap.size #[.int .i64 zeroP.id, .int .i64 zeroP.src, .int .i64 zeroP.dst, .string zeroP.data]) by (repeat' (first | (with_reducible exact Keep.refl _ _) | (with_reducible assumption) | (with_reducible refine Keep.alloc ?_ _) | (with_reducible refine Keep.drew ?_) | (with_reducible refine Keep.setCell ?_ (fun h => absurd h ?_) _) | (with_reducible refine Keep.setRow ?_ (fun h => absurd h ?_) _) | go_size))) (fun _ _ h => h.elim))
  have H7 := hid (H6.out.below (show Below w6.heap.size w6 ((w6.alloc (.cells #[.int .i64 0, .int .i64 0, .int .i64 0, .string ByteArray.empty] 42)).setRow w6.heap.size #[.int .i64 zeroP.id, .int .i64 zeroP.src, .int .i64 zeroP.dst, .string zeroP.data]) from Keep.below (by (repeat' (first | (with_reducible exact Keep.refl _ _) | (with_reducible assumption) | (with_reducible refine Keep.alloc ?_ _) | (with_reducible refine Keep.drew ?_) | (with_reducible refine Keep.setCell ?_ (fun h => absurd h ?_) _) | (with_reducible refine Keep.setRow ?_ (fun h => absurd h ?_) _) | go_size)))))
  have L7 := K7.out.size
  clear L6 K6 H6
  refine (copy_o 1 H7.out (HF.out _ (by omega)) (by decide) (by decide) (by decide) _ _ a5).mono ?_
  rintro e w8 ⟨rfl, h, hk⟩
  have H8 := hid h
  have K8 := hid (K7.out.trans hk (fun _ _ h => h))
  clear h hk L7 K7 H7
  have L8 := K8.out.size
  go_wp2_with fail
  refine (drop_o 1 H8.out (HF.out _ (by omega)) (by decide) _ a6).mono ?_
  rintro e w9 ⟨rfl, h, hk⟩
  have H9 := hid h
  have K9 := hid (K8.out.trans hk (fun _ _ h => h))
  clear h hk L8 K8 H8
  have L9 := K9.out.size
  go_wp2_with fail
  refine (pending_o H9.out (by decide)).mono ?_
  rintro e w10 ⟨v, rfl, ho, hb, hf⟩
  obtain ⟨A1, c1, rfl, _⟩ := PSl.shape (Sl.of_own (av := fun _ => False) ho (fun _ _ h => h))
  simp only [n5, List.length_cons, List.length_nil, Nat.zero_add]
  have H10 := hid (H9.out.below hb)
  have K10 := hid (K9.out.trans_below hb)
  clear ho hb hf L9 K9 H9
  have L10 := K10.out.size
  go_wp2_with fail
  refine (cut_o 0 1 false H10.out (HF.out _ (by omega)) _ a7).mono ?_
  rintro e w11 ⟨rfl, h, hk⟩
  have H11 := hid h
  have K11 := hid (K10.out.trans hk (fun _ _ h => h))
  clear h hk L10 K10 H10
  have L11 := K11.out.size
  go_wp2_with fail
  refine (ready_o H11.out (by decide)).mono ?_
  rintro e w12 ⟨v, rfl, ho, hb, hf⟩
  obtain ⟨A2, c2, rfl, _⟩ := PSl.shape (Sl.of_own (av := fun _ => False) ho (fun _ _ h => h))
  simp only [a7r, List.length_cons, List.length_nil, Nat.zero_add]
  have H12 := hid (H11.out.below hb)
  have K12 := hid (K11.out.trans_below hb)
  clear ho hb hf L11 K11 H11
  have L12 := K12.out.size
  go_wp2_with fail
  refine (clear_o 1 H12.out (HF.out _ (by omega)) (by decide) _ _ a8).mono ?_
  rintro e w13 ⟨rfl, h, hk⟩
  have H13 := hid h
  have K13 := hid (K12.out.trans hk (fun _ _ h => h))
  clear h hk L12 K12 H12
  have L13 := K13.out.size
  go_wp2_with fail
  refine (pending_o H13.out (by decide)).mono ?_
  rintro e w14 ⟨v, rfl, ho, hb, hf⟩
  obtain ⟨A3, c3, rfl, _⟩ := PSl.shape (Sl.of_own (av := fun _ => False) ho (fun _ _ h => h))
  simp only [n7, List.length_cons, List.length_nil, Nat.zero_add]
  have K14 := hid (K13.out.trans_below hb)
  clear ho hb hf L13 K13 H13
  go_wp2_with fail
  go_ret
  exact ⟨rfl, K14.out.below_of (Nat.le_refl _) (fun _ h => h)⟩
/-- New of the document: a state without packets, or an empty one with an error -/
theorem res_S {fn : Func} {p u : Tmp} (h : fn.results = #[.cell p 30, .tmp u]) (tmps : Array Value) (w : World) (B : Nat) (T : St) (pv cv : Value) (hp : tmps.getD p undef = .pointer (some ⟨B, 0, none⟩))
    (hB : w.heap[B]? = some (stO T pv cv)) : (results fn tmps).run Try.prog w = .ok (.tuple #[stV T pv cv, tmps.getD u undef]) w := by
  rw [results_cell_tmp h, hp]
  have aggS : (isAgg 30).run Try.prog w = .ok true w := by kernel_rfl
  have sizS : (sizeOf 30).run Try.prog w = .ok 4 w := by kernel_rfl
  simp [asAddr, load_whole w _ B _ _ _ hB aggS sizS, stV]
theorem one_s (a b : Int) (A : Option Addr) (n c : Nat) (A' : Option Addr) (n' c' : Nat) : ∀ u ∈ (#[Value.int .i64 a, .int .i64 b, .slice A n c, .slice A' n' c']).toList, u.oneCell' = true := by
  intro u hu
  simp at hu
  rcases hu with rfl | rfl | rfl | rfl <;> rfl
theorem sizS (w : World) : (sizeOf 30).run Try.prog w = .ok 4 w := by kernel_rfl
def newSt (n : Int) : St := if 1 ≤ n ∧ n ≤ 20 then ⟨n, 1, [], []⟩ else ⟨0, 0, [], []⟩
def newE (n : Int) : Int := if 1 ≤ n ∧ n ≤ 20 then 0 else 7
set_option maxHeartbeats 1000000 in
theorem rnew_any (n : Int) (w : World) : Calls Try.prog 13 #[.int .i64 n] w fun e w' => e = .returned (.tuple #[stV (newSt n) (.slice none 0 0) (.slice none 0 0), .int .i64 (newE n)]) ∧ Below w.heap.size w w' := by
  unfold newSt newE
  by_cases h1 : n < 1
  · rw [if_neg (by omega), if_neg (by omega)]
    go_enter Try.func13, Try.ntmps13
    go_wp2_with (refine wpList_store_whole rfl 30 (.tmp 2) (.tmp 10) rfl w.heap.size _ _ _ rfl rfl (new_at (by simp)) sizS rfl (one_s _ _ _ _ _ _ _ _) ?_)
    refine bodyPost_ret (res_S rfl _ _ w.heap.size ⟨0, 0, [], []⟩ _ _ rfl (setRow_heap _ w.heap.size _ _ _ _ (new_at (by simp)))) rfl ?_
    exact ⟨rfl, Keep.below (by (repeat' (first | (with_reducible exact Keep.refl _ _) | (with_reducible assumption) | (with_reducible refine Keep.alloc ?_ _) | (with_reducible refine Keep.drew ?_) | (with_reducible refine Keep.setCell ?_ (fun h => absurd h ?_) _) | (with_reducible refine Keep.setRow ?_ (fun h => absurd h ?_) _) | go_size)))⟩
  · by_cases h2 : 20 < n
    · rw [if_neg (by omega), if_neg (by omega)]
      go_enter Try.func13, Try.ntmps13
      go_wp2_with (refine wpList_store_whole rfl 30 (.tmp 2) (.tmp 10) rfl w.heap.size _ _ _ rfl rfl (new_at (by simp)) sizS rfl (one_s _ _ _ _ _ _ _ _) ?_)
      refine bodyPost_ret (res_S rfl _ _ w.heap.size ⟨0, 0, [], []⟩ _ _ rfl (setRow_heap _ w.heap.size _ _ _ _ (new_at (by simp)))) rfl ?_
      exact ⟨rfl, Keep.below (by (repeat' (first | (with_reducible exact Keep.refl _ _) | (with_reducible assumption) | (with_reducible refine Keep.alloc ?_ _) | (with_reducible refine Keep.drew ?_) | (with_reducible refine Keep.setCell ?_ (fun h => absurd h ?_) _) | (with_reducible refine Keep.setRow ?_ (fun h => absurd h ?_) _) | go_size)))⟩
    · rw [if_pos (by omega), if_pos (by omega)]
      go_enter Try.func13, Try.ntmps13
      go_wp2_with (refine wpList_store_whole rfl 30 (.tmp 2) (.tmp 12) rfl w.heap.size _ _ _ rfl rfl (new_at (by simp)) sizS rfl (one_s _ _ _ _ _ _ _ _) ?_)
      refine bodyPost_ret (res_S rfl _ _ w.heap.size ⟨n, 1, [], []⟩ _ _ rfl (setRow_heap _ w.heap.size _ _ _ _ (new_at (by simp)))) rfl ?_
      exact ⟨rfl, Keep.below (by (repeat' (first | (with_reducible exact Keep.refl _ _) | (with_reducible assumption) | (with_reducible refine Keep.alloc ?_ _) | (with_reducible refine Keep.drew ?_) | (with_reducible refine Keep.setCell ?_ (fun h => absurd h ?_) _) | (with_reducible refine Keep.setRow ?_ (fun h => absurd h ?_) _) | go_size)))⟩
end Go.Proofs.Ytinpinjjdkilpaa
/- A region that draws its order, walked by hand: what only reads comes first, at once; what makes or writes memory in each order that is left. S: what is known of the world as long as something is still to come; t: the one operation that waits for all others, behind which S need not hold. -/
namespace Go.Proofs.Ytinpinjjdkilpaa
open Go.RowKit
section
variable {P : Program} {ops : Array Oper} {Q : Exit → Act → World → Prop} {md : Region.Mode} {S : World → Prop} {t : Nat}
/-- Whatever order comes; S holds behind each operation but t. -/
def RT (P : Program) (md : Region.Mode) (ops : Array Oper) (Q : Exit → Act → World → Prop) (S : World → Prop) (t : Nat) : Nat → Array Bool → Act → World → Prop
  | 0, listed, a, w => Region.ready md ops listed = [] ∧ Q .normal a w
  | fuel + 1, listed, a, w =>
    (Region.ready md ops listed = [] → Q .normal a w) ∧
    ∀ i ∈ Region.ready md ops listed, wpOp P ops Q i (fun a' w' => (i ≠ t → S w') ∧ RT P md ops Q S t fuel (listed.setIfInBounds i true) a' w') a w
/-- operation t waits for all others -/
def lastB (md : Region.Mode) (ops : Array Oper) (t : Nat) : Bool := (List.range ops.size).all fun i => i == t || ((ops[t]?).map fun o => o.after.any fun e => Region.binds md e && e.on == i).getD true
theorem lastB_spec (h : lastB md ops t = true) {i : Nat} (hi : i < ops.size) (hne : i ≠ t) {o : Oper} (ho : ops[t]? = some o) : ∃ e ∈ o.after, Region.binds md e = true ∧ e.on = i := by
  have h1 := List.all_eq_true.1 h i (List.mem_range.2 hi)
  simp only [ho, Option.map_some, Option.getD_some, Bool.or_eq_true, beq_iff_eq, hne, false_or] at h1
  obtain ⟨j, hj, h2⟩ := Array.any_eq_true.1 h1
  simp only [Bool.and_eq_true, beq_iff_eq] at h2
  exact ⟨_, Array.getElem_mem hj, h2.1, h2.2⟩
theorem RT.any : ∀ (fuel : Nat) (listed : Array Bool) (a : Act) (w : World), RT P md ops Q S t fuel listed a w → wpAny P md ops Q fuel listed a w
  | 0, _, _, _, h => h
  | fuel + 1, _, _, _, h => ⟨h.1, fun i hi => wpOp_mono (fun a' w' h' => RT.any fuel _ a' w' h'.2) (h.2 i hi)⟩
theorem RT.start {id : Nat} {a : Act} {w : World} (S : World → Prop) (t : Nat) (hm : P.follows .mixedOrders = true) (h : RT P .any ops Q S t ops.size (Array.replicate ops.size false) a w.drew) : (Code.region id ops true).wp P Q a w :=
  wp_region_any hm (RT.any _ _ _ _ h)
theorem listed_both {listed : Array Bool} {i : Nat} (h0 : listed.getD i true = false) (h1 : listed.getD i false = true) : False := by
  rcases Nat.lt_or_ge i listed.size with hlt | hge
  · simp only [Array.getD_eq_getD_getElem?, Array.getElem?_eq_getElem hlt, Option.getD_some] at h0 h1
    rw [h0] at h1; cases h1
  · simp only [Array.getD_eq_getD_getElem?, Array.getElem?_eq_none hge, Option.getD_none] at h0
    cases h0
theorem RT.first {i : Nat} {oi : Oper} {v : Value} (hi : ops[i]? = some oi) (hsel : ∀ (j : Nat) (o : Oper) cs b, ops[j]? = some o → o.op ≠ .select cs b) (hQ : ∀ c a w, Q (.panic c) (a.put oi.dst v) w → Q (.panic c) a w) (hl : lastB md ops t = true) :
    ∀ (fuel : Nat) (listed : Array Bool) (a : Act) (w : World),
      (∀ j oj, ops[j]? = some oj → j ≠ i → listed.getD j true = false → (∀ e ∈ oj.after, Region.binds md e = true → e.on ≠ i) → oi.apart ops oj = true) →
      i ∈ Region.ready md ops listed → YieldsIf P ops S oi v a → S w → RT P md ops Q S t fuel (listed.setIfInBounds i true) (a.put oi.dst v) w → RT P md ops Q S t (fuel + 1) listed a w := by
  intro fuel
  induction fuel with
  | zero =>
    intro listed a w _ hr hy hS H
    refine ⟨fun h => absurd (h ▸ hr) List.not_mem_nil, fun j hj => ?_⟩
    rcases Nat.decEq j i with hne | heq
    · exact absurd (H.1 ▸ ready_mono hj hne) List.not_mem_nil
    · subst heq
      exact hy.wpOp hi hS ⟨fun _ => hS, H⟩
  | succ fuel ih =>
    intro listed a w hfree hr hy hS H
    refine ⟨fun h => absurd (h ▸ hr) List.not_mem_nil, fun j hj => ?_⟩
    rcases Nat.decEq j i with hne | heq
    · obtain ⟨hun, oj, hoj, hall⟩ := mem_ready.1 hj
      have hno : ∀ e ∈ oj.after, Region.binds md e = true → e.on ≠ i := fun e he hb heq => listed_both (mem_ready.1 hr).1 (heq ▸ hall e he hb)
      have hjt : j ≠ t := by
        intro e
        subst e
        obtain ⟨e, he, hb, ho⟩ := lastB_spec hl (Array.getElem?_eq_some_iff.1 hi).1 (Ne.symm hne) hoj
        exact hno e he hb ho
      have hstep := wpOp_putIf hoj (hfree j oj hoj hne hun hno) (fun cs b => hsel i oi cs b hi) (fun cs b => hsel j oj cs b hoj) hQ hy (H.2 j (ready_mono hj hne))
      have hri : i ∈ Region.ready md ops (listed.setIfInBounds j true) := ready_mono hr (Ne.symm hne)
      refine wpOp_mono (fun a' w' h3 => ?_) hstep
      obtain ⟨hy', hS', hrt⟩ := h3
      rw [Array.setIfInBounds_comm _ _ (Ne.symm hne)] at hrt
      refine ⟨hS', ih _ a' w' (fun k ok hk hki hunk hnok => hfree k ok hk hki ?_ hnok) hri hy' (hS' hjt) hrt⟩
      rcases Nat.decEq j k with h | h
      · rwa [getD_set_ne true h] at hunk
      · subst h; exact hun
    · subst heq
      exact hy.wpOp hi hS ⟨fun _ => hS, H⟩
/-- number i comes first: it only reads -/
theorem RT.take (i : Nat) {oi : Oper} {v : Value} {fuel : Nat} {listed : Array Bool} {a : Act} {w : World} (hi : ops[i]? = some oi) (hl : lastB md ops t = true)
    (hs : Region.noSelect ops = true) (hf : Region.free md ops listed i = true) (hr : (Region.ready md ops listed).contains i = true)
    (hQ : ∀ c a w, Q (.panic c) (a.put oi.dst v) w → Q (.panic c) a w) (hw : Region.wanted oi (yielded ops a.tmps) = true) (hS : S w) (hy : ∀ w', S w' → (execOp a.eval oi).run P w' = .ok (.value v) w')
    (h : RT P md ops Q S t fuel (listed.setIfInBounds i true) (a.put oi.dst v) w) : RT P md ops Q S t (fuel + 1) listed a w :=
  RT.first hi (Region.noSelect_spec hs) hQ hl fuel listed a w (Region.free_spec hi hf) (by simpa using hr) (.inl ⟨hw, hy⟩) hS h
/-- number i comes first: its guard says no -/
theorem RT.skip (i : Nat) {oi : Oper} {fuel : Nat} {listed : Array Bool} {a : Act} {w : World} (hi : ops[i]? = some oi) (hl : lastB md ops t = true)
    (hs : Region.noSelect ops = true) (hf : Region.free md ops listed i = true) (hr : (Region.ready md ops listed).contains i = true)
    (hQ : ∀ c a w, Q (.panic c) (a.put oi.dst undef) w → Q (.panic c) a w) (hw : Region.wanted oi (yielded ops a.tmps) = false) (hS : S w)
    (h : RT P md ops Q S t fuel (listed.setIfInBounds i true) (a.put oi.dst undef) w) : RT P md ops Q S t (fuel + 1) listed a w :=
  RT.first hi (Region.noSelect_spec hs) hQ hl fuel listed a w (Region.free_spec hi hf) (by simpa using hr) (.inr ⟨hw, rfl⟩) hS h
/-- what is left to show of one operation that may come now -/
def Step (P : Program) (md : Region.Mode) (ops : Array Oper) (Q : Exit → Act → World → Prop) (S : World → Prop) (t fuel : Nat) (listed : Array Bool) (a : Act) (w : World) (i : Nat) : Prop :=
  ∀ K : Act → World → Prop, (∀ a' w', (i ≠ t → S w') ∧ RT P md ops Q S t fuel (listed.setIfInBounds i true) a' w' → K a' w') → wpOp P ops Q i K a w
theorem RT.all {rs : List Nat} {fuel : Nat} {listed : Array Bool} {a : Act} {w : World} (hr : Region.ready md ops listed = rs) (hne : rs ≠ []) (h : ∀ i ∈ rs, Step P md ops Q S t fuel listed a w i) : RT P md ops Q S t (fuel + 1) listed a w :=
  ⟨fun h0 => absurd (hr ▸ h0) hne, fun i hi => h i (hr ▸ hi) _ fun _ _ h => h⟩
theorem RT.one (i : Nat) {fuel : Nat} {listed : Array Bool} {a : Act} {w : World} (hr : Region.ready md ops listed = [i]) (h : Step P md ops Q S t fuel listed a w i) : RT P md ops Q S t (fuel + 1) listed a w :=
  RT.all hr (by simp) fun j hj => by obtain rfl := List.mem_singleton.1 hj; exact h
theorem RT.two (i j : Nat) {fuel : Nat} {listed : Array Bool} {a : Act} {w : World} (hr : Region.ready md ops listed = [i, j]) (h : Step P md ops Q S t fuel listed a w i) (h' : Step P md ops Q S t fuel listed a w j) : RT P md ops Q S t (fuel + 1) listed a w :=
  RT.all hr (by simp) fun k hk => by
    rcases List.mem_cons.1 hk with rfl | hk
    · exact h
    · obtain rfl := List.mem_singleton.1 hk; exact h'
/-- a step: the operation itself -/
theorem Step.run {i : Nat} {o : Oper} {fuel : Nat} {listed : Array Bool} {a : Act} {w : World} (ho : ops[i]? = some o) (hw : Region.wanted o (yielded ops a.tmps) = true)
    (h : ∀ K : Act → World → Prop, (∀ a' w', (i ≠ t → S w') ∧ RT P md ops Q S t fuel (listed.setIfInBounds i true) a' w' → K a' w') → o.wp P a w K Q) : Step P md ops Q S t fuel listed a w i := by
  intro K hK
  unfold wpOp
  simp only [ho, hw, if_true]
  exact .inl (h K hK)
theorem RT.begin {id : Nat} {a : Act} {w : World} (S : World → Prop) (t n : Nat) (hn : ops.size = n) (hm : P.follows .mixedOrders = true) (h0 : S w.drew) (h : S w.drew → RT P .any ops Q S t n (Array.replicate n false) a w.drew) : (Code.region id ops true).wp P Q a w := by
  subst hn
  exact RT.start S t hm (h h0)
theorem RT.both {X A B : Prop} (h : A) (h' : A → B) : (X → A) ∧ B := ⟨fun _ => h, h' h⟩
theorem RT.done {listed : Array Bool} {a : Act} {w : World} (hr : Region.ready md ops listed = []) (h : Q .normal a w) : ∀ fuel, RT P md ops Q S t fuel listed a w
  | 0 => ⟨hr, h⟩
  | _ + 1 => ⟨fun _ => h, by rw [hr]; simp⟩
end
end Go.Proofs.Ytinpinjjdkilpaa
/- results and operations as plain data and in memory; few, begin -/
namespace Go.Proofs.Ytinpinjjdkilpaa
open Go.RowKit
set_option linter.unusedSimpArgs false
set_option linter.unusedVariables false
structure Res where
  id : Int
  p : Pkt
  n : Int
  e : Int
  deriving DecidableEq
def zeroR : Res := ⟨0, zeroP, 0, 0⟩
def resV (r : Res) : Value := .agg #[.int .i64 r.id, .int .i64 r.p.id, .int .i64 r.p.src, .int .i64 r.p.dst, .string r.p.data, .int .i64 r.n, .int .i64 r.e]
def resO (r : Res) : Obj := .cells #[.int .i64 r.id, .int .i64 r.p.id, .int .i64 r.p.src, .int .i64 r.p.dst, .string r.p.data, .int .i64 r.n, .int .i64 r.e] 44
theorem aggR (w : World) : (isAgg 44).run Try.prog w = .ok true w := by kernel_rfl
theorem sizR (w : World) : (sizeOf 44).run Try.prog w = .ok 7 w := by kernel_rfl
theorem loadR {w : World} {B : Nat} {r : Res} (h : w.heap[B]? = some (resO r)) : (loadVar 44 ⟨B, 0, none⟩).run Try.prog w = .ok (resV r) w := load_whole w _ B _ _ _ h (aggR w) (sizR w)
theorem one_r (a b c d : Int) (s : ByteArray) (e f : Int) : ∀ u ∈ (#[Value.int .i64 a, .int .i64 b, .int .i64 c, .int .i64 d, .string s, .int .i64 e, .int .i64 f]).toList, u.oneCell' = true := by
  intro u hu
  simp at hu
  rcases hu with rfl | rfl | rfl | rfl | rfl | rfl | rfl <;> rfl
theorem row7 {w : World} {B : Nat} {a0 a1 a2 a3 a4 a5 a6 : Value} {t : TypeId} (h : w.heap[B]? = some (.cells #[a0, a1, a2, a3, a4, a5, a6] t (0, 0))) :
    w.cell? ⟨B, 0, none⟩ = some a0 ∧ w.cell? ⟨B, 1, none⟩ = some a1 ∧ w.cell? ⟨B, 2, none⟩ = some a2 ∧ w.cell? ⟨B, 3, none⟩ = some a3 ∧ w.cell? ⟨B, 4, none⟩ = some a4 ∧ w.cell? ⟨B, 5, none⟩ = some a5 ∧ w.cell? ⟨B, 6, none⟩ = some a6 ∧ B < w.heap.size ∧ ∀ i, w.frozen? ⟨B, i, none⟩ = false :=
  ⟨cell_of_row w B 0 _ _ _ h, cell_of_row w B 1 _ _ _ h, cell_of_row w B 2 _ _ _ h, cell_of_row w B 3 _ _ _ h, cell_of_row w B 4 _ _ _ h, cell_of_row w B 5 _ _ _ h, cell_of_row w B 6 _ _ _ h, lt_of_heap h, fun i => by simp [World.frozen?, h]⟩
/-- a struct written into a part of a block -/
theorem store_part {P : Program} (w : World) (T : TypeId) (B off : Nat) (cs new : Array Value) (t : TypeId) (hB : w.heap[B]? = some (.cells cs t (0, 0))) (hs : (sizeOf T).run P w = .ok new.size w) (hcs : off + new.size ≤ cs.size) (h1 : ∀ u ∈ new.toList, u.oneCell' = true) (out : Array Value)
    (ho : out = (cs.toList.take off ++ new.toList ++ cs.toList.drop (off + new.toList.length)).toArray) : (Instr.storeAt T (.pointer (some ⟨B, off, none⟩)) (.agg new)).run P w = .ok () (w.setRow B out) := by
  have hst := run_storeCells_at P B off t new.toList 0 cs w hB (by simp; omega) h1
  simp only [Nat.add_zero] at hst
  rw [← ho] at hst
  have hc : (Value.agg new).cells = new := rfl
  simp [Instr.storeAt, Instr.sureAddr, storeVar, hs, hc, hst]
theorem wpList_store_part {P : Program} {w : World} {ops : Array Oper} {rest : List Oper} {o : Oper} {a : Act} {Q : Exit → Act → World → Prop} (hgd : o.guard = none) (T : TypeId) (x y : Operand) (ho : o.op = .store T x y) (B off : Nat) (cs new : Array Value) (t : TypeId) (out : Array Value)
    (hx : a.eval x = .pointer (some ⟨B, off, none⟩)) (hy : a.eval y = .agg new) (hB : w.heap[B]? = some (.cells cs t (0, 0))) (hs : ∀ w, (sizeOf T).run P w = .ok new.size w) (hcs : off + new.size ≤ cs.size) (h1 : ∀ u ∈ new.toList, u.oneCell' = true)
    (hout : out = (cs.toList.take off ++ new.toList ++ cs.toList.drop (off + new.toList.length)).toArray)
    (h : wpList P ops Q rest (a.put o.dst undef) (w.setRow B out)) : wpList P ops Q (o :: rest) a w := by
  refine wpList_plain hgd fun K hK => ?_
  have hr := store_part (P := P) w T B off cs new t hB (hs w) hcs h1 out hout
  unfold Oper.wp execOp
  simp only [ho, hx, hy, Sem.run_bind, Result.andThen_ok, hr]
  exact hK _ _ h
/-- an operation -/
structure Op where
  kind : Int
  a : Int
  b : Int
  id : Int
  data : ByteArray
  cut : Bool
def Op.vs (o : Op) : List Value := [.int .u8 o.kind, .int .i64 o.a, .int .i64 o.b, .int .i64 o.id, .string o.data, .bool o.cut]
def Op.val (o : Op) : Value := .agg #[.int .u8 o.kind, .int .i64 o.a, .int .i64 o.b, .int .i64 o.id, .string o.data, .bool o.cut]
def Op.ok (o : Op) : Prop := 0 ≤ o.kind ∧ o.kind ≤ 255
def oc (l : List Op) : List Value := l.flatMap Op.vs
theorem oc_get (l : List Op) (k : Nat) (hk : k < l.length) : (oc l)[k * 6]? = some (.int .u8 (l[k]).kind) ∧ (oc l)[k * 6 + 1]? = some (.int .i64 (l[k]).a) ∧ (oc l)[k * 6 + 2]? = some (.int .i64 (l[k]).b) ∧ (oc l)[k * 6 + 3]? = some (.int .i64 (l[k]).id) ∧ (oc l)[k * 6 + 4]? = some (.string (l[k]).data) ∧ (oc l)[k * 6 + 5]? = some (.bool (l[k]).cut) := by
  induction l generalizing k with
  | nil => simp at hk
  | cons p l ih =>
    cases k with
    | zero => exact ⟨rfl, rfl, rfl, rfl, rfl, rfl⟩
    | succ k =>
      have h := ih k (by simpa using hk)
      refine ⟨?_, ?_, ?_, ?_, ?_, ?_⟩
      · rw [show (k + 1) * 6 = k * 6 + 6 from by omega]; exact h.1
      · rw [show (k + 1) * 6 + 1 = k * 6 + 1 + 6 from by omega]; exact h.2.1
      · rw [show (k + 1) * 6 + 2 = k * 6 + 2 + 6 from by omega]; exact h.2.2.1
      · rw [show (k + 1) * 6 + 3 = k * 6 + 3 + 6 from by omega]; exact h.2.2.2.1
      · rw [show (k + 1) * 6 + 4 = k * 6 + 4 + 6 from by omega]; exact h.2.2.2.2.1
      · rw [show (k + 1) * 6 + 5 = k * 6 + 5 + 6 from by omega]; exact h.2.2.2.2.2
abbrev OSl (av : Nat → Prop) (w : World) (v : Value) (l : List Op) : Prop := Sl av w 6 v l.length (oc l)
theorem OSl.at_ {av : Nat → Prop} {w : World} {v : Value} {l : List Op} (h : OSl av w v l) {k : Nat} (hk : k < l.length) :
    ∃ b off c, v = .slice (some ⟨b, off, none⟩) l.length c ∧ b < w.heap.size ∧ ¬ av b ∧
      w.cell? ⟨b, off + k * 6, none⟩ = some (.int .u8 (l[k]).kind) ∧ w.cell? ⟨b, off + k * 6 + 1, none⟩ = some (.int .i64 (l[k]).a) ∧
      w.cell? ⟨b, off + k * 6 + 2, none⟩ = some (.int .i64 (l[k]).b) ∧ w.cell? ⟨b, off + k * 6 + 3, none⟩ = some (.int .i64 (l[k]).id) ∧
      w.cell? ⟨b, off + k * 6 + 4, none⟩ = some (.string (l[k]).data) ∧ w.cell? ⟨b, off + k * 6 + 5, none⟩ = some (.bool (l[k]).cut) := by
  obtain ⟨hl, A, c, rfl, hc, hn⟩ := h
  obtain ⟨b, off, rfl, hb, hav, hcell⟩ := hn (by omega)
  obtain ⟨g0, g1, g2, g3, g4, g5⟩ := oc_get l k hk
  exact ⟨b, off, c, rfl, hb, hav, hcell _ _ g0, hcell _ _ g1, hcell _ _ g2, hcell _ _ g3, hcell _ _ g4, hcell _ _ g5⟩
theorem OSl.shape {av : Nat → Prop} {w : World} {v : Value} {l : List Op} (h : OSl av w v l) : ∃ A c, v = .slice A l.length c ∧ l.length ≤ c := by
  obtain ⟨hl, A, c, rfl, hc, hn⟩ := h
  exact ⟨A, c, rfl, hc⟩
def opO (o : Op) : Obj := .cells #[.int .u8 o.kind, .int .i64 o.a, .int .i64 o.b, .int .i64 o.id, .string o.data, .bool o.cut] 40
theorem sizO (w : World) : (sizeOf 40).run Try.prog w = .ok 6 w := by kernel_rfl
theorem one_o (o : Op) : ∀ u ∈ (#[Value.int .u8 o.kind, .int .i64 o.a, .int .i64 o.b, .int .i64 o.id, .string o.data, .bool o.cut]).toList, u.oneCell' = true := by
  intro u hu
  simp at hu
  rcases hu with rfl | rfl | rfl | rfl | rfl | rfl <;> rfl
theorem row6 {w : World} {B : Nat} {a0 a1 a2 a3 a4 a5 : Value} {t : TypeId} (h : w.heap[B]? = some (.cells #[a0, a1, a2, a3, a4, a5] t (0, 0))) :
    w.cell? ⟨B, 0, none⟩ = some a0 ∧ w.cell? ⟨B, 1, none⟩ = some a1 ∧ w.cell? ⟨B, 2, none⟩ = some a2 ∧ w.cell? ⟨B, 3, none⟩ = some a3 ∧ w.cell? ⟨B, 4, none⟩ = some a4 ∧ w.cell? ⟨B, 5, none⟩ = some a5 ∧ B < w.heap.size ∧ ∀ i, w.frozen? ⟨B, i, none⟩ = false :=
  ⟨cell_of_row w B 0 _ _ _ h, cell_of_row w B 1 _ _ _ h, cell_of_row w B 2 _ _ _ h, cell_of_row w B 3 _ _ _ h, cell_of_row w B 4 _ _ _ h, cell_of_row w B 5 _ _ _ h, lt_of_heap h, fun i => by simp [World.frozen?, h]⟩
/-- the round's own copy of an operation -/
theorem op_box (w : World) (o : Op) : ((w.alloc (.cells #[.int .u8 0, .int .i64 0, .int .i64 0, .int .i64 0, .string { data := #[] }, .bool false] 40)).setRow w.heap.size #[.int .u8 o.kind, .int .i64 o.a, .int .i64 o.b, .int .i64 o.id, .string o.data, .bool o.cut]).heap[w.heap.size]? = some (.cells #[.int .u8 o.kind, .int .i64 o.a, .int .i64 o.b, .int .i64 o.id, .string o.data, .bool o.cut] 40) :=
  setRow_heap _ _ _ _ _ _ (new_at rfl)
def FewP (l : List Op) (most : Int) (w : World) (e : Ending) (w' : World) : Prop := ∃ b, e = .returned (.bool b) ∧ (b = true → (l.length : Int) ≤ most) ∧ Below w.heap.size w w'
set_option maxHeartbeats 1000000 in
theorem few_any (av : Nat → Prop) (v : Value) (l : List Op) (most : Int) (w : World) (h : OSl av w v l) (hlen : l.length < 4000000000000000000) :
    Calls Try.prog 16 #[v, .int .i64 most] w (FewP l most w) := by
  obtain ⟨A, c, rfl, _⟩ := OSl.shape h
  have H := hid h
  clear h
  go_enter Try.func16, Try.ntmps16
  go_wp2
  go_loopw [5, 10] (fun s i wr => ∃ (k : Nat) (n : Int), k ≤ l.length ∧ i = .int .i64 k ∧ s = .int .i64 n ∧ Below w.heap.size w wr) (fun _ i _ => l.length - (intOf i).toNat)
  case atStart => exact ⟨0, 0, by omega, rfl, rfl, by go_grown⟩
  case round =>
    obtain ⟨k, n, hk, rfl, rfl, hb⟩ := hrel
    have HB := hid hb
    clear hb
    by_cases hlt : k < l.length
    · obtain ⟨b, off, c', hA, hbl, _, h0, h1, h2, h3, h4, h5⟩ := OSl.at_ (Sl.below H.out HB.out) hlt
      injection hA with hA _ hA'
      subst hA; subst hA'
      go_wp2_with (refine wpList_store_whole rfl 40 (.tmp 7) (.tmp 13) rfl wr.heap.size _ _ _ rfl rfl (new_at (by simp)) sizO rfl (one_o l[k]) ?_; obtain ⟨q0, q1, q2, q3, q4, q5, q6, q7⟩ := row6 (op_box wr l[k]))
      go_roundw
      case rel => exact ⟨k + 1, _, by omega, by go_num, rfl, HB.out.trans ((Keep.below (by (repeat' (first | (with_reducible exact Keep.refl _ _) | (with_reducible assumption) | (with_reducible refine Keep.alloc ?_ _) | (with_reducible refine Keep.drew ?_) | (with_reducible refine Keep.setCell ?_ (fun h => absurd h ?_) _) | (with_reducible refine Keep.setRow ?_ (fun h => absurd h ?_) _) | go_size)))).mono HB.out.size)⟩
      case measure => simp [intOf]; omega
    · go_wp2
      all_goals
        go_ret
        first
        | exact ⟨_, rfl, fun _ => by omega, HB.out⟩
        | exact ⟨_, rfl, (fun h => absurd h (by decide)), HB.out⟩
theorem st_box (w : World) (T : St) : ((w.alloc (.cells #[.int .i64 0, .int .i64 0, .slice none 0 0, .slice none 0 0] 30)).setRow w.heap.size #[.int .i64 T.n, .int .i64 T.next, .slice none 0 0, .slice none 0 0]).heap[w.heap.size]? = some (stO T (.slice none 0 0) (.slice none 0 0)) :=
  setRow_heap _ _ _ _ _ _ (new_at rfl)
theorem results_tct {P : Program} {fn : Func} {p q u : Tmp} {t : TypeId} (h : fn.results = #[.tmp p, .cell q t, .tmp u]) (tmps : Array Value) (w : World) (B : Nat) (x : Value) (hq : tmps.getD q undef = .pointer (some ⟨B, 0, none⟩))
    (hx : (loadVar t ⟨B, 0, none⟩).run P w = .ok x w) : (results fn tmps).run P w = .ok (.tuple #[tmps.getD p undef, x, tmps.getD u undef]) w := by
  simp only [Array.getD_eq_getD_getElem?] at hq ⊢
  simp only [results, h]
  simp [asAddr, hq, hx]
theorem aggS (w : World) : (isAgg 30).run Try.prog w = .ok true w := by kernel_rfl
theorem loadS {w : World} {B : Nat} {T : St} {pv cv : Value} (h : w.heap[B]? = some (stO T pv cv)) : (loadVar 30 ⟨B, 0, none⟩).run Try.prog w = .ok (stV T pv cv) w := load_whole w _ B _ _ _ h (aggS w) (sizS w)
/-- begin's answer -/
def BeginP (G : Nat → Prop) (n : Int) (w : World) (e : Ending) (w' : World) : Prop :=
  ∃ x, e = .returned (.tuple #[.pointer (some ⟨x, 0, none⟩), stV (newSt n) (.slice none 0 0) (.slice none 0 0), .bool true]) ∧ NetO G x (newNet n) w' ∧ Below w.heap.size w w' ∧ w.heap.size ≤ x
set_option maxHeartbeats 2000000 in
theorem begin_any (G : Nat → Prop) (k : Int) (w : World) (hf : Fresh G w) (h0 : 0 ≤ k) (h1 : k ≤ 255) :
    Calls Try.prog 17 #[.int .u8 k] w (BeginP G (1 + k % 5) w) := by
  have HF := hid hf
  clear hf
  go_enter Try.func17, Try.ntmps17
  go_wp2_with fail
  refine (new_o (G := fun b => G b ∧ w.heap.size < b) (1 + k % 5) (fun b hb => ⟨HF.out b (by simp at hb; omega), by simp at hb; omega⟩) (by omega) (by omega)).mono ?_
  rintro e w1 ⟨x, rfl, h, hb, hx⟩
  have H1 := hid h
  have K1 := hid (((Below.refl _ w).alloc (Nat.le_refl _) (.cells #[.int .i64 0, .int .i64 0, .slice none 0 0, .slice none 0 0] 30)).trans (hb.mono (by simp)))
  have R1 := hid ((hb.block w.heap.size (by simp)).trans (new_at rfl))
  have hx' : w.heap.size ≤ x := by simp at hx; omega
  clear h hb hx
  go_wp2_with fail
  refine (rnew_any _ _).mono ?_
  rintro e w2 ⟨rfl, hb⟩
  have H2 := hid (H1.out.below hb)
  have K2 := hid ((Keep.of_below K1.out (fun _ => False)).trans_below hb)
  have R2 := hid ((hb.block w.heap.size (lt_of_heap R1.out)).trans R1.out)
  have hwl := lt_of_heap R2.out
  clear hb H1 K1 R1
  unfold newE stV
  simp only [if_pos (show 1 ≤ 1 + k % 5 ∧ 1 + k % 5 ≤ 20 by omega)]
  generalize hT : newSt (1 + k % 5) = T at *
  generalize hS : newNet (1 + k % 5) = S at *
  go_wp2_with (refine wpList_store_whole rfl 30 (.tmp 8) (.tmp 22) rfl w2.heap.size _ _ _ rfl rfl (new_at (by simp)) sizS rfl (one_s _ _ _ _ _ _ _ _) ?_)
  have hst := st_box w2 T
  have hr3 : ((w2.alloc (.cells #[.int .i64 0, .int .i64 0, .slice none 0 0, .slice none 0 0] 30)).setRow w2.heap.size #[.int .i64 T.n, .int .i64 T.next, .slice none 0 0, .slice none 0 0]).heap[w.heap.size]? = _ := (setRow_other _ _ _ _ (by omega)).trans ((Below.heap_alloc _ _ _ hwl).trans R2.out)
  have K3 := hid (K2.out.trans (show Keep (fun _ => False) w2 ((w2.alloc (.cells #[.int .i64 0, .int .i64 0, .slice none 0 0, .slice none 0 0] 30)).setRow w2.heap.size #[.int .i64 T.n, .int .i64 T.next, .slice none 0 0, .slice none 0 0]) by (repeat' (first | (with_reducible exact Keep.refl _ _) | (with_reducible assumption) | (with_reducible refine Keep.alloc ?_ _) | (with_reducible refine Keep.drew ?_) | (with_reducible refine Keep.setCell ?_ (fun h => absurd h ?_) _) | (with_reducible refine Keep.setRow ?_ (fun h => absurd h ?_) _) | go_size))) (fun _ _ h => h))
  have H3 := hid (H2.out.below (show Below w2.heap.size w2 ((w2.alloc (.cells #[.int .i64 0, .int .i64 0, .slice none 0 0, .slice none 0 0] 30)).setRow w2.heap.size #[.int .i64 T.n, .int .i64 T.next, .slice none 0 0, .slice none 0 0]) from (Keep.below (by (repeat' (first | (with_reducible exact Keep.refl _ _) | (with_reducible assumption) | (with_reducible refine Keep.alloc ?_ _) | (with_reducible refine Keep.drew ?_) | (with_reducible refine Keep.setCell ?_ (fun h => absurd h ?_) _) | (with_reducible refine Keep.setRow ?_ (fun h => absurd h ?_) _) | go_size))))))
  have hw2 := hid hwl
  clear H2 K2 R2 hwl
  generalize hw3 : (w2.alloc (.cells #[.int .i64 0, .int .i64 0, .slice none 0 0, .slice none 0 0] 30)).setRow w2.heap.size #[.int .i64 T.n, .int .i64 T.next, .slice none 0 0, .slice none 0 0] = w3 at *
  clear hw3
  have HST := hid hst
  have HR3 := hid hr3
  have hne := hw2.out
  clear hst hr3
  refine RT.begin (fun w' => w'.heap[w2.heap.size]? = some (stO T (.slice none 0 0) (.slice none 0 0))) 11 11 rfl (by kernel_rfl) ?_ (fun hR0 => ?_)
  · exact HST.out
  refine RT.take 0 (v := ?_) rfl (by kernel_rfl) (by kernel_rfl) (by kernel_rfl) (by kernel_rfl) (fun _ _ _ h => h) (by rfl) hR0 (fun w' hSw => ?_) ?_
  rotate_left
  · obtain ⟨q0, q1, q2, q3, q4, q5⟩ := st_cell hSw; clear hSw; go_simp; try with_reducible rfl
  simp only [List.getElem_toArray, List.getElem_cons_zero, List.getElem_cons_succ, Act.put, List.setIfInBounds_toArray, List.set_cons_zero, List.set_cons_succ]
  refine RT.take 1 (v := ?_) rfl (by kernel_rfl) (by kernel_rfl) (by kernel_rfl) (by kernel_rfl) (fun _ _ _ h => h) (by rfl) hR0 (fun w' hSw => ?_) ?_
  rotate_left
  · obtain ⟨q0, q1, q2, q3, q4, q5⟩ := st_cell hSw; clear hSw; go_simp; try with_reducible rfl
  simp only [List.getElem_toArray, List.getElem_cons_zero, List.getElem_cons_succ, Act.put, List.setIfInBounds_toArray, List.set_cons_zero, List.set_cons_succ]
  refine RT.take 2 (v := ?_) rfl (by kernel_rfl) (by kernel_rfl) (by kernel_rfl) (by kernel_rfl) (fun _ _ _ h => h) (by rfl) hR0 (fun w' hSw => ?_) ?_
  rotate_left
  · obtain ⟨q0, q1, q2, q3, q4, q5⟩ := st_cell hSw; clear hSw; go_simp; try with_reducible rfl
  simp only [List.getElem_toArray, List.getElem_cons_zero, List.getElem_cons_succ, Act.put, List.setIfInBounds_toArray, List.set_cons_zero, List.set_cons_succ]
  refine RT.take 3 (v := ?_) rfl (by kernel_rfl) (by kernel_rfl) (by kernel_rfl) (by kernel_rfl) (fun _ _ _ h => h) (by rfl) hR0 (fun w' hSw => ?_) ?_
  rotate_left
  · obtain ⟨q0, q1, q2, q3, q4, q5⟩ := st_cell hSw; clear hSw; go_simp; try with_reducible rfl
  simp only [List.getElem_toArray, List.getElem_cons_zero, List.getElem_cons_succ, Act.put, List.setIfInBounds_toArray, List.set_cons_zero, List.set_cons_succ]
  refine RT.take 4 (v := ?_) rfl (by kernel_rfl) (by kernel_rfl) (by kernel_rfl) (by kernel_rfl) (fun _ _ _ h => h) (by rfl) hR0 (fun w' hSw => ?_) ?_
  rotate_left
  · obtain ⟨q0, q1, q2, q3, q4, q5⟩ := st_cell hSw; clear hSw; go_simp; try with_reducible rfl
  simp only [List.getElem_toArray, List.getElem_cons_zero, List.getElem_cons_succ, Act.put, List.setIfInBounds_toArray, List.set_cons_zero, List.set_cons_succ]
  refine RT.take 5 (v := ?_) rfl (by kernel_rfl) (by kernel_rfl) (by kernel_rfl) (by kernel_rfl) (fun _ _ _ h => h) (by rfl) hR0 (fun w' hSw => ?_) ?_
  rotate_left
  · obtain ⟨q0, q1, q2, q3, q4, q5⟩ := st_cell hSw; clear hSw; go_simp; try with_reducible rfl
  simp only [List.getElem_toArray, List.getElem_cons_zero, List.getElem_cons_succ, Act.put, List.setIfInBounds_toArray, List.set_cons_zero, List.set_cons_succ]
  refine RT.take 6 (v := ?_) rfl (by kernel_rfl) (by kernel_rfl) (by kernel_rfl) (by kernel_rfl) (fun _ _ _ h => h) (by rfl) hR0 (fun w' hSw => ?_) ?_
  rotate_left
  · obtain ⟨q0, q1, q2, q3, q4, q5⟩ := st_cell hSw; clear hSw; go_simp; try with_reducible rfl
  simp only [List.getElem_toArray, List.getElem_cons_zero, List.getElem_cons_succ, Act.put, List.setIfInBounds_toArray, List.set_cons_zero, List.set_cons_succ]
  refine RT.take 7 (v := ?_) rfl (by kernel_rfl) (by kernel_rfl) (by kernel_rfl) (by kernel_rfl) (fun _ _ _ h => h) (by rfl) hR0 (fun w' hSw => ?_) ?_
  rotate_left
  · obtain ⟨q0, q1, q2, q3, q4, q5⟩ := st_cell hSw; clear hSw; go_simp; try with_reducible rfl
  simp only [List.getElem_toArray, List.getElem_cons_zero, List.getElem_cons_succ, Act.put, List.setIfInBounds_toArray, List.set_cons_zero, List.set_cons_succ]
  refine RT.take 8 (v := ?_) rfl (by kernel_rfl) (by kernel_rfl) (by kernel_rfl) (by kernel_rfl) (fun _ _ _ h => h) (by rfl) hR0 (fun w' hSw => ?_) ?_
  rotate_left
  · obtain ⟨q0, q1, q2, q3, q4, q5⟩ := st_cell hSw; clear hSw; go_simp; try with_reducible rfl
  simp only [List.getElem_toArray, List.getElem_cons_zero, List.getElem_cons_succ, Act.put, List.setIfInBounds_toArray, List.set_cons_zero, List.set_cons_succ]
  refine RT.one 9 (by kernel_rfl) ?_
  refine Step.run (o := ?o) ?ho ?hw ?h
  case ho => simp only [List.getElem?_toArray, List.getElem?_cons_succ, List.getElem?_cons_zero]; rfl
  case hw => first | (simp only [Region.wanted]; done) | rfl
  intro K hK
  refine wp_store_whole 30 (.tmp 3) (.tmp 25) ?h1 w.heap.size #[.int .i64 0, .int .i64 0, .slice none 0 0, .slice none 0 0] #[.int .i64 T.n, .int .i64 T.next, .slice none 0 0, .slice none 0 0] 30 ?h2 ?h3 HR3.out sizS rfl (one_s _ _ _ _ _ _ _ _) ?h4
  case h1 => rfl
  case h2 => rfl
  case h3 => rfl
  refine hK _ _ (RT.both ?_ (fun hR1 => ?_))
  · exact (setRow_other _ _ _ _ (by omega)).trans HST.out
  clear hK K
  try simp only [List.getElem_toArray, List.getElem_cons_zero, List.getElem_cons_succ, Act.put, List.setIfInBounds_toArray, List.set_cons_zero, List.set_cons_succ]
  refine RT.take 10 (v := ?_) rfl (by kernel_rfl) (by kernel_rfl) (by kernel_rfl) (by kernel_rfl) (fun _ _ _ h => h) (by rfl) hR1 (fun w' hSw => ?_) ?_
  rotate_left
  · obtain ⟨q0, q1, q2, q3, q4, q5⟩ := st_cell hSw; clear hSw; go_simp; try with_reducible rfl
  simp only [List.getElem_toArray, List.getElem_cons_zero, List.getElem_cons_succ, Act.put, List.setIfInBounds_toArray, List.set_cons_zero, List.set_cons_succ]
  refine RT.done (by kernel_rfl) ?_ _
  go_wp2_with fail
  refine bodyPost_ret (results_tct rfl _ _ w.heap.size _ rfl (loadS (T := T) (setRow_heap _ w.heap.size _ _ _ _ HR3.out))) rfl ?_
  have k4 : Keep (fun b => b = w.heap.size) w3 (w3.drew.setRow w.heap.size #[.int .i64 T.n, .int .i64 T.next, .slice none 0 0, .slice none 0 0]) := ((Keep.refl (fun b => b = w.heap.size) w3).drew).setRow (fun _ => rfl) _
  have n4 := H3.out.keep k4 (fun b _ e h => by have := h.2; omega)
  have k5 := (K3.out.trans k4 (fun i hi e => by omega)).below
  subst hT hS
  exact ⟨x, rfl, n4.into (fun _ _ h => h.1), k5, hx'⟩
end Go.Proofs.Ytinpinjjdkilpaa
/- do: an operation performed on the network -/
namespace Go.Proofs.Ytinpinjjdkilpaa
open Go.RowKit
set_option linter.unusedSimpArgs false
set_option linter.unusedVariables false
/-- what do answers, and the network behind it -/
def Net.exec (S : Net) (o : Op) : Net × Res :=
  if o.kind % 6 = 0 then let r := S.send o.a o.b o.data; (r.1, ⟨r.2.1, zeroP, 0, r.2.2⟩)
  else if o.kind % 6 = 1 then let r := S.deliver o.id; (r.1, ⟨0, r.2.1, 0, r.2.2⟩)
  else if o.kind % 6 = 2 then let r := S.drop o.id; (r.1, ⟨0, zeroP, 0, r.2⟩)
  else if o.kind % 6 = 3 then let r := S.copy o.id; (r.1, ⟨r.2.1, zeroP, 0, r.2.2⟩)
  else if o.kind % 6 = 4 then let r := S.setCut o.a o.b o.cut; (r.1, ⟨0, zeroP, 0, r.2⟩)
  else let r := S.clear o.a; (r.1, ⟨0, zeroP, r.2.1, r.2.2⟩)
/-- the world in which do calls a method: its own copy of the operation, the result's box, the local's box -/
def doW (w : World) (o : Op) : World := ((w.alloc (.cells #[.int .u8 o.kind, .int .i64 o.a, .int .i64 o.b, .int .i64 o.id, .string o.data, .bool o.cut] 40)).alloc (.cells #[.int .i64 0, .int .i64 0, .int .i64 0, .int .i64 0, .string { data := #[] }, .int .i64 0, .int .i64 0] 44)).alloc (.cells #[.int .i64 0, .int .i64 0, .int .i64 0, .int .i64 0, .string { data := #[] }, .int .i64 0, .int .i64 0] 44)
/-- the network's own blocks while do's boxes stand -/
def doG (G : Nat → Prop) (N : Nat) (b : Nat) : Prop := G b ∧ (b < N ∨ N + 3 ≤ b)
/-- its boxes behind the call -/
theorem do_boxes {G : Nat → Prop} {w w1 : World} {o : Op} (hk : Keep (doG G w.heap.size) (doW w o) w1) :
    w1.heap[w.heap.size + 1]? = some (.cells #[.int .i64 0, .int .i64 0, .int .i64 0, .int .i64 0, .string { data := #[] }, .int .i64 0, .int .i64 0] 44) ∧
    w1.heap[w.heap.size + 2]? = some (.cells #[.int .i64 0, .int .i64 0, .int .i64 0, .int .i64 0, .string { data := #[] }, .int .i64 0, .int .i64 0] 44) := by
  constructor
  · refine (hk.block _ (by simp [doW]) (fun h => by have := h.2; omega)).trans ?_
    unfold doW
    exact (Below.heap_alloc _ _ _ (by simp)).trans (new_at (by simp))
  · refine (hk.block _ (by simp [doW]) (fun h => by have := h.2; omega)).trans ?_
    unfold doW
    exact new_at (by simp)
theorem do_out {G : Nat → Prop} {x : Nat} {S' : Net} {w w1 w2 : World} {o : Op} {v : Value} (hf : Fresh G w) (hN : NetO (doG G w.heap.size) x S' w1) (hk : Keep (doG G w.heap.size) (doW w o) w1) (hs : Keep (fun b => b = w.heap.size + 1 ∨ b = w.heap.size + 2) w1 w2) : MO G x w S' v (.returned v) w2 := by
  refine ⟨rfl, (hN.keep hs (fun b _ e h => by have := h.2; omega)).into (fun _ _ h => h.1), ?_⟩
  have h0 : Keep (fun _ => False) w (doW w o) := by unfold doW; (repeat' (first | (with_reducible exact Keep.refl _ _) | (with_reducible assumption) | (with_reducible refine Keep.alloc ?_ _) | (with_reducible refine Keep.drew ?_) | (with_reducible refine Keep.setCell ?_ (fun h => absurd h ?_) _) | (with_reducible refine Keep.setRow ?_ (fun h => absurd h ?_) _) | go_size))
  refine (((h0.mono (fun _ _ h => h.elim)).trans hk (G := doG G w.heap.size) (fun _ _ h => h.1)).trans hs (fun i hi h => by omega))
set_option maxHeartbeats 2000000 in
theorem do_send (G : Nat → Prop) (x : Nat) (S S' : Net) (o : Op) (i e : Int) (w : World) (hN : NetO G x S w) (hf : Fresh G w) (h0 : 0 ≤ S.last) (h1 : S.last ≤ 1000000) (hk : 0 ≤ o.kind ∧ o.kind ≤ 255) (hc : o.kind % 6 = 0) (hr : S.send o.a o.b o.data = (S', i, e)) :
    Calls Try.prog 19 #[.pointer (some ⟨x, 0, none⟩), o.val] w (MO G x w S' (resV ⟨i, zeroP, 0, e⟩)) := by
  unfold Op.val
  have hM := send_o (G := doG G w.heap.size) (w := doW w o) o.a o.b o.data ((hN.into (fun b hb h => ⟨h, .inl hb⟩)).below (by unfold doW; go_grown)) (fun b hb => by simp [doW] at hb; exact ⟨hf b (by omega), .inr (by omega)⟩) h0 h1 i e hr
  have HM := hid hM
  have HN := hid hN
  have HF := hid hf
  clear hM hN hf hr
  go_enter Try.func19, Try.ntmps19
  go_wp2_with fail
  refine HM.out.mono ?_
  rintro en w1 ⟨rfl, hn, hk⟩
  obtain ⟨b4, b5⟩ := do_boxes hk
  obtain ⟨q0, q1, q2, q3, q4, q5, q6, q7, q8⟩ := row7 b5
  have HK := hid hk
  have H1 := hid hn
  have HB := hid b4
  clear hn hk b4 b5
  go_wp2_with (refine wpList_store_whole rfl 44 (.tmp 4) (.tmp 73) rfl (w.heap.size + 1) _ _ _ rfl rfl ((Below.heap_setCell _ _ _ _ (by simp)).trans ((Below.heap_setCell _ _ _ _ (by simp)).trans HB.out)) sizR rfl (one_r _ _ _ _ _ _ _) ?_)
  refine bodyPost_ret (results_cell1 rfl _ _ (w.heap.size + 1) _ rfl (loadR (r := ⟨i, zeroP, 0, e⟩) (setRow_heap _ (w.heap.size + 1) _ _ _ _ ((Below.heap_setCell _ _ _ _ (by simp)).trans ((Below.heap_setCell _ _ _ _ (by simp)).trans HB.out))))) rfl ?_
  exact do_out HF.out H1.out HK.out (((((Keep.refl _ w1).setCell (fun _ => .inr rfl) _).setCell (fun _ => .inr rfl) _)).setRow (fun _ => .inl rfl) _)
set_option maxHeartbeats 2000000 in
theorem do_drop (G : Nat → Prop) (x : Nat) (S S' : Net) (o : Op) (e : Int) (w : World) (hN : NetO G x S w) (hf : Fresh G w) (hlen : S.l.length ≤ 100) (hk : 0 ≤ o.kind ∧ o.kind ≤ 255) (hc : o.kind % 6 = 2) (hr : S.drop o.id = (S', e)) :
    Calls Try.prog 19 #[.pointer (some ⟨x, 0, none⟩), o.val] w (MO G x w S' (resV ⟨0, zeroP, 0, e⟩)) := by
  unfold Op.val
  have hM := drop_o (G := doG G w.heap.size) (w := doW w o) o.id ((hN.into (fun b hb h => ⟨h, .inl hb⟩)).below (by unfold doW; go_grown)) (fun b hb => by simp [doW] at hb; exact ⟨hf b (by omega), .inr (by omega)⟩) hlen e hr
  have HM := hid hM
  have HN := hid hN
  have HF := hid hf
  clear hM hN hf hr
  go_enter Try.func19, Try.ntmps19
  go_wp2_with fail
  refine HM.out.mono ?_
  rintro en w1 ⟨rfl, hn, hk⟩
  obtain ⟨b4, b5⟩ := do_boxes hk
  obtain ⟨q0, q1, q2, q3, q4, q5, q6, q7, q8⟩ := row7 b5
  have HK := hid hk
  have H1 := hid hn
  have HB := hid b4
  clear hn hk b4 b5
  go_wp2_with (refine wpList_store_whole rfl 44 (.tmp 4) (.tmp 73) rfl (w.heap.size + 1) _ _ _ rfl rfl ((Below.heap_setCell _ _ _ _ (by simp)).trans (HB.out)) sizR rfl (one_r _ _ _ _ _ _ _) ?_)
  refine bodyPost_ret (results_cell1 rfl _ _ (w.heap.size + 1) _ rfl (loadR (r := ⟨0, zeroP, 0, e⟩) (setRow_heap _ (w.heap.size + 1) _ _ _ _ ((Below.heap_setCell _ _ _ _ (by simp)).trans (HB.out))))) rfl ?_
  exact do_out HF.out H1.out HK.out (((Keep.refl _ w1).setCell (fun _ => .inr rfl) _).setRow (fun _ => .inl rfl) _)
set_option maxHeartbeats 2000000 in
theorem do_copy (G : Nat → Prop) (x : Nat) (S S' : Net) (o : Op) (i e : Int) (w : World) (hN : NetO G x S w) (hf : Fresh G w) (hlen : S.l.length ≤ 100) (h0 : 0 ≤ S.last) (h1 : S.last ≤ 1000000) (hk : 0 ≤ o.kind ∧ o.kind ≤ 255) (hc : o.kind % 6 = 3) (hr : S.copy o.id = (S', i, e)) :
    Calls Try.prog 19 #[.pointer (some ⟨x, 0, none⟩), o.val] w (MO G x w S' (resV ⟨i, zeroP, 0, e⟩)) := by
  unfold Op.val
  have hM := copy_o (G := doG G w.heap.size) (w := doW w o) o.id ((hN.into (fun b hb h => ⟨h, .inl hb⟩)).below (by unfold doW; go_grown)) (fun b hb => by simp [doW] at hb; exact ⟨hf b (by omega), .inr (by omega)⟩) hlen h0 h1 i e hr
  have HM := hid hM
  have HN := hid hN
  have HF := hid hf
  clear hM hN hf hr
  go_enter Try.func19, Try.ntmps19
  go_wp2_with fail
  refine HM.out.mono ?_
  rintro en w1 ⟨rfl, hn, hk⟩
  obtain ⟨b4, b5⟩ := do_boxes hk
  obtain ⟨q0, q1, q2, q3, q4, q5, q6, q7, q8⟩ := row7 b5
  have HK := hid hk
  have H1 := hid hn
  have HB := hid b4
  clear hn hk b4 b5
  go_wp2_with (refine wpList_store_whole rfl 44 (.tmp 4) (.tmp 73) rfl (w.heap.size + 1) _ _ _ rfl rfl ((Below.heap_setCell _ _ _ _ (by simp)).trans ((Below.heap_setCell _ _ _ _ (by simp)).trans (HB.out))) sizR rfl (one_r _ _ _ _ _ _ _) ?_)
  refine bodyPost_ret (results_cell1 rfl _ _ (w.heap.size + 1) _ rfl (loadR (r := ⟨i, zeroP, 0, e⟩) (setRow_heap _ (w.heap.size + 1) _ _ _ _ ((Below.heap_setCell _ _ _ _ (by simp)).trans ((Below.heap_setCell _ _ _ _ (by simp)).trans (HB.out)))))) rfl ?_
  exact do_out HF.out H1.out HK.out ((((Keep.refl _ w1).setCell (fun _ => .inr rfl) _).setCell (fun _ => .inr rfl) _).setRow (fun _ => .inl rfl) _)
set_option maxHeartbeats 2000000 in
theorem do_cut (G : Nat → Prop) (x : Nat) (S S' : Net) (o : Op) (e : Int) (w : World) (hN : NetO G x S w) (hf : Fresh G w)  (hk : 0 ≤ o.kind ∧ o.kind ≤ 255) (hc : o.kind % 6 = 4) (hr : S.setCut o.a o.b o.cut = (S', e)) :
    Calls Try.prog 19 #[.pointer (some ⟨x, 0, none⟩), o.val] w (MO G x w S' (resV ⟨0, zeroP, 0, e⟩)) := by
  unfold Op.val
  have hM := cut_o (G := doG G w.heap.size) (w := doW w o) o.a o.b o.cut ((hN.into (fun b hb h => ⟨h, .inl hb⟩)).below (by unfold doW; go_grown)) (fun b hb => by simp [doW] at hb; exact ⟨hf b (by omega), .inr (by omega)⟩) e hr
  have HM := hid hM
  have HN := hid hN
  have HF := hid hf
  clear hM hN hf hr
  go_enter Try.func19, Try.ntmps19
  go_wp2_with fail
  refine HM.out.mono ?_
  rintro en w1 ⟨rfl, hn, hk⟩
  obtain ⟨b4, b5⟩ := do_boxes hk
  obtain ⟨q0, q1, q2, q3, q4, q5, q6, q7, q8⟩ := row7 b5
  have HK := hid hk
  have H1 := hid hn
  have HB := hid b4
  clear hn hk b4 b5
  go_wp2_with (refine wpList_store_whole rfl 44 (.tmp 4) (.tmp 73) rfl (w.heap.size + 1) _ _ _ rfl rfl ((Below.heap_setCell _ _ _ _ (by simp)).trans (HB.out)) sizR rfl (one_r _ _ _ _ _ _ _) ?_)
  refine bodyPost_ret (results_cell1 rfl _ _ (w.heap.size + 1) _ rfl (loadR (r := ⟨0, zeroP, 0, e⟩) (setRow_heap _ (w.heap.size + 1) _ _ _ _ ((Below.heap_setCell _ _ _ _ (by simp)).trans (HB.out))))) rfl ?_
  exact do_out HF.out H1.out HK.out (((Keep.refl _ w1).setCell (fun _ => .inr rfl) _).setRow (fun _ => .inl rfl) _)
set_option maxHeartbeats 2000000 in
theorem do_clear (G : Nat → Prop) (x : Nat) (S S' : Net) (o : Op) (n e : Int) (w : World) (hN : NetO G x S w) (hf : Fresh G w) (hlen : S.l.length ≤ 100) (hk : 0 ≤ o.kind ∧ o.kind ≤ 255) (hc : o.kind % 6 = 5) (hr : S.clear o.a = (S', n, e)) :
    Calls Try.prog 19 #[.pointer (some ⟨x, 0, none⟩), o.val] w (MO G x w S' (resV ⟨0, zeroP, n, e⟩)) := by
  unfold Op.val
  have hM := clear_o (G := doG G w.heap.size) (w := doW w o) o.a ((hN.into (fun b hb h => ⟨h, .inl hb⟩)).below (by unfold doW; go_grown)) (fun b hb => by simp [doW] at hb; exact ⟨hf b (by omega), .inr (by omega)⟩) hlen n e hr
  have HM := hid hM
  have HN := hid hN
  have HF := hid hf
  clear hM hN hf hr
  go_enter Try.func19, Try.ntmps19
  go_wp2_with fail
  refine HM.out.mono ?_
  rintro en w1 ⟨rfl, hn, hk⟩
  obtain ⟨b4, b5⟩ := do_boxes hk
  obtain ⟨q0, q1, q2, q3, q4, q5, q6, q7, q8⟩ := row7 b5
  have HK := hid hk
  have H1 := hid hn
  have HB := hid b4
  clear hn hk b4 b5
  go_wp2_with (refine wpList_store_whole rfl 44 (.tmp 4) (.tmp 73) rfl (w.heap.size + 1) _ _ _ rfl rfl ((Below.heap_setCell _ _ _ _ (by simp)).trans ((Below.heap_setCell _ _ _ _ (by simp)).trans (HB.out))) sizR rfl (one_r _ _ _ _ _ _ _) ?_)
  refine bodyPost_ret (results_cell1 rfl _ _ (w.heap.size + 1) _ rfl (loadR (r := ⟨0, zeroP, n, e⟩) (setRow_heap _ (w.heap.size + 1) _ _ _ _ ((Below.heap_setCell _ _ _ _ (by simp)).trans ((Below.heap_setCell _ _ _ _ (by simp)).trans (HB.out)))))) rfl ?_
  exact do_out HF.out H1.out HK.out ((((Keep.refl _ w1).setCell (fun _ => .inr rfl) _).setCell (fun _ => .inr rfl) _).setRow (fun _ => .inl rfl) _)
set_option maxHeartbeats 2000000 in
theorem do_deliver (G : Nat → Prop) (x : Nat) (S S' : Net) (o : Op) (p : Pkt) (e : Int) (w : World) (hN : NetO G x S w) (hf : Fresh G w) (hlen : S.l.length ≤ 100) (hk : 0 ≤ o.kind ∧ o.kind ≤ 255) (hc : o.kind % 6 = 1) (hr : S.deliver o.id = (S', p, e)) :
    Calls Try.prog 19 #[.pointer (some ⟨x, 0, none⟩), o.val] w (MO G x w S' (resV ⟨0, p, 0, e⟩)) := by
  unfold Op.val
  have hM := deliver_o (G := doG G w.heap.size) (w := doW w o) o.id ((hN.into (fun b hb h => ⟨h, .inl hb⟩)).below (by unfold doW; go_grown)) (fun b hb => by simp [doW] at hb; exact ⟨hf b (by omega), .inr (by omega)⟩) hlen p e hr
  have HM := hid hM
  have HN := hid hN
  have HF := hid hf
  clear hM hN hf hr
  go_enter Try.func19, Try.ntmps19
  go_wp2_with fail
  refine HM.out.mono ?_
  rintro en w1 ⟨rfl, hn, hk⟩
  obtain ⟨b4, b5⟩ := do_boxes hk
  unfold Pkt.val
  have b6 : (w1.setRow (w.heap.size + 2) #[.int .i64 0, .int .i64 p.id, .int .i64 p.src, .int .i64 p.dst, .string p.data, .int .i64 0, .int .i64 0]).heap[w.heap.size + 2]? = _ := setRow_heap _ _ _ _ _ _ b5
  obtain ⟨q0, q1, q2, q3, q4, q5, q6, q7, q8⟩ := row7 b6
  have hlt := lt_of_heap b5
  have HK := hid hk
  have H1 := hid hn
  have HB := hid b4
  have HB5 := hid b5
  clear hn hk b4 b5 b6
  go_wp2_with (first | (refine wpList_store_part rfl 42 (.tmp 42) (.tmp 40) rfl (w.heap.size + 2) 1 _ _ _ #[.int .i64 0, .int .i64 p.id, .int .i64 p.src, .int .i64 p.dst, .string p.data, .int .i64 0, .int .i64 0] rfl rfl HB5.out sizP (by simp) (one4 _ _ _ _) rfl ?_) | (refine wpList_store_whole rfl 44 (.tmp 4) (.tmp 73) rfl (w.heap.size + 1) _ _ _ rfl rfl ((Below.heap_setCell _ _ _ _ (by simp)).trans ((setRow_other _ _ _ _ (by omega)).trans HB.out)) sizR rfl (one_r _ _ _ _ _ _ _) ?_))
  refine bodyPost_ret (results_cell1 rfl _ _ (w.heap.size + 1) _ rfl (loadR (r := ⟨0, p, 0, e⟩) (setRow_heap _ (w.heap.size + 1) _ _ _ _ ((Below.heap_setCell _ _ _ _ (by simp)).trans ((setRow_other _ _ _ _ (by omega)).trans HB.out))))) rfl ?_
  exact do_out HF.out H1.out HK.out ((((Keep.refl _ w1).setRow (fun _ => .inr rfl) _).setCell (fun _ => .inr rfl) _).setRow (fun _ => .inl rfl) _)
theorem do_any (G : Nat → Prop) (x : Nat) (S : Net) (o : Op) (w : World) (hN : NetO G x S w) (hf : Fresh G w) (hlen : S.l.length ≤ 100) (h0 : 0 ≤ S.last) (h1 : S.last ≤ 1000000) (hk : 0 ≤ o.kind ∧ o.kind ≤ 255) :
    Calls Try.prog 19 #[.pointer (some ⟨x, 0, none⟩), o.val] w (MO G x w (S.exec o).1 (resV (S.exec o).2)) := by
  unfold Net.exec
  by_cases c0 : o.kind % 6 = 0
  · rw [if_pos c0]
    exact do_send G x S _ o _ _ w hN hf h0 h1 hk c0 rfl
  · rw [if_neg c0]
    by_cases c1 : o.kind % 6 = 1
    · rw [if_pos c1]
      exact do_deliver G x S _ o _ _ w hN hf hlen hk c1 rfl
    · rw [if_neg c1]
      by_cases c2 : o.kind % 6 = 2
      · rw [if_pos c2]
        exact do_drop G x S _ o _ w hN hf hlen hk c2 rfl
      · rw [if_neg c2]
        by_cases c3 : o.kind % 6 = 3
        · rw [if_pos c3]
          exact do_copy G x S _ o _ _ w hN hf hlen h0 h1 hk c3 rfl
        · rw [if_neg c3]
          by_cases c4 : o.kind % 6 = 4
          · rw [if_pos c4]
            exact do_cut G x S _ o _ w hN hf hk c4 rfl
          · rw [if_neg c4]
            exact do_clear G x S _ o _ _ w hN hf hlen hk (by omega) rfl
end Go.Proofs.Ytinpinjjdkilpaa
/- what an operation keeps of the plain network -/
namespace Go.Proofs.Ytinpinjjdkilpaa
/-- few packets, ascending numbers, none beyond the last one -/
structure Net.Inv (S : Net) : Prop where
  len : S.l.length ≤ 64
  last : 0 ≤ S.last
  asc : S.l.Pairwise fun p q => p.id < q.id
  ids : ∀ p ∈ S.l, 1 ≤ p.id ∧ p.id ≤ S.last
theorem Net.Inv.new (n : Int) : (newNet n).Inv := ⟨by simp [newNet], by simp [newNet], by simp [newNet], by simp [newNet]⟩
theorem Net.Inv.sub {S : Net} (h : S.Inv) {l : List Pkt} (hs : l.Sublist S.l) : ({ S with l := l } : Net).Inv :=
  ⟨Nat.le_trans hs.length_le h.len, h.last, h.asc.sublist hs, fun p hp => h.ids p (hs.subset hp)⟩
/-- how many IDs an operation uses up -/
def Net.used (S S' : Net) (i e : Int) : Prop := (e = 0 → i = S.last + 1 ∧ S'.last = S.last + 1) ∧ (e ≠ 0 → S'.last = S.last)
theorem Net.put_inv {S : Net} (h : S.Inv) (a b : Int) (d : ByteArray) : (S.put a b d).1.Inv ∧ Net.used S (S.put a b d).1 (S.put a b d).2.1 (S.put a b d).2.2 := by
  unfold Net.put
  by_cases hl : S.l.length < 64
  · rw [if_pos hl]
    refine ⟨⟨?_, ?_, ?_, ?_⟩, ?_, ?_⟩
    · simp [Net.sent]; omega
    · have := h.last; simp [Net.sent]; omega
    · simp only [Net.sent]
      refine List.pairwise_append.2 ⟨h.asc, by simp, fun p hp q hq => ?_⟩
      simp at hq
      subst hq
      have := (h.ids p hp).2
      show p.id < S.last + 1
      omega
    · intro p hp
      simp only [Net.sent, List.mem_append, List.mem_cons, List.not_mem_nil, or_false] at hp ⊢
      have := h.last
      rcases hp with hp | rfl
      · have := h.ids p hp; exact ⟨by omega, by omega⟩
      · exact ⟨by show 1 ≤ S.last + 1; omega, by show S.last + 1 ≤ S.last + 1; omega⟩
    · intro _; exact ⟨rfl, rfl⟩
    · intro he; exact absurd rfl he
  · rw [if_neg hl]
    exact ⟨h, fun he => absurd (show (3 : Int) = 0 from he) (by decide), fun _ => rfl⟩
theorem Net.send_inv {S : Net} (h : S.Inv) (a b : Int) (d : ByteArray) : (S.send a b d).1.Inv ∧ Net.used S (S.send a b d).1 (S.send a b d).2.1 (S.send a b d).2.2 := by
  unfold Net.send
  by_cases hn : (S.node a && S.node b) = true
  · rw [if_pos hn]; exact Net.put_inv h a b d
  · rw [if_neg hn]; exact ⟨h, fun he => absurd (show (7 : Int) = 0 from he) (by decide), fun _ => rfl⟩
theorem Net.copy_inv {S : Net} (h : S.Inv) (id : Int) : (S.copy id).1.Inv ∧ Net.used S (S.copy id).1 (S.copy id).2.1 (S.copy id).2.2 := by
  unfold Net.copy
  cases S.at_ id with
  | none => exact ⟨h, fun he => absurd (show (4 : Int) = 0 from he) (by decide), fun _ => rfl⟩
  | some i => exact Net.put_inv h _ _ _
theorem Net.without_inv {S : Net} (h : S.Inv) (i : Nat) : (S.without i).Inv := h.sub (List.eraseIdx_sublist ..)
theorem Net.exec_inv {S : Net} (h : S.Inv) (o : Op) : (S.exec o).1.Inv ∧
    ((o.kind % 6 = 0 ∨ o.kind % 6 = 3) → Net.used S (S.exec o).1 (S.exec o).2.id (S.exec o).2.e) ∧ (¬ (o.kind % 6 = 0 ∨ o.kind % 6 = 3) → (S.exec o).1.last = S.last) := by
  unfold Net.exec
  by_cases c0 : o.kind % 6 = 0
  · rw [if_pos c0]
    have := Net.send_inv h o.a o.b o.data
    exact ⟨this.1, fun _ => this.2, fun hn => absurd (.inl c0) hn⟩
  · rw [if_neg c0]
    by_cases c1 : o.kind % 6 = 1
    · rw [if_pos c1]
      refine ⟨?_, fun hn => by omega, fun _ => ?_⟩
      · unfold Net.deliver
        cases S.at_ o.id with
        | none => exact h
        | some i =>
          dsimp only
          split
          · exact h
          · exact Net.without_inv h i
      · unfold Net.deliver
        cases S.at_ o.id with
        | none => rfl
        | some i => dsimp only; split <;> rfl
    · rw [if_neg c1]
      by_cases c2 : o.kind % 6 = 2
      · rw [if_pos c2]
        refine ⟨?_, fun hn => by omega, fun _ => ?_⟩
        · unfold Net.drop
          cases S.at_ o.id with
          | none => exact h
          | some i => exact Net.without_inv h i
        · unfold Net.drop
          cases S.at_ o.id <;> rfl
      · rw [if_neg c2]
        by_cases c3 : o.kind % 6 = 3
        · rw [if_pos c3]
          have := Net.copy_inv h o.id
          exact ⟨this.1, fun _ => this.2, fun hn => absurd (.inr c3) hn⟩
        · rw [if_neg c3]
          by_cases c4 : o.kind % 6 = 4
          · rw [if_pos c4]
            refine ⟨?_, fun hn => by omega, fun _ => ?_⟩
            · unfold Net.setCut
              split
              · exact ⟨h.len, h.last, h.asc, h.ids⟩
              · exact h
            · unfold Net.setCut
              split <;> rfl
          · rw [if_neg c4]
            refine ⟨?_, fun hn => by omega, fun _ => ?_⟩
            · unfold Net.clear
              split
              · exact h.sub List.filter_sublist
              · exact h
            · unfold Net.clear
              split <;> rfl
/-- and the last ID is at most the number of operations -/
theorem Net.exec_last {S : Net} (h : S.Inv) (o : Op) : (S.exec o).1.last ≤ S.last + 1 := by
  have ⟨_, h1, h2⟩ := Net.exec_inv h o
  by_cases c : o.kind % 6 = 0 ∨ o.kind % 6 = 3
  · have ⟨u, v⟩ := h1 c
    by_cases he : (S.exec o).2.e = 0
    · have := (u he).2; omega
    · have := v he; omega
  · have := h2 c; omega
end Go.Proofs.Ytinpinjjdkilpaa
/- the rows' last step: a call that changed nothing below the old memory's end, and answered true -/
namespace Go.Proofs.Ytinpinjjdkilpaa
open Go.ChangeShapes Go.WideShapes Go.ChangeAt Go.RowKit
theorem own : ownKnob Try.prog.godebug = none := by kernel_rfl
theorem laidOut : laidOutB Try.prog = true := by kernel_rfl
/-- what the statement asks behind the call, where all that lay there before lies there yet -/
theorem post_of_below {H : Type} {enc : TypeId × Value → H} {P : Program} {f : Func} {s : ChangeSpec} {apart fresh handsOn : Bool} {W W' : World} {args : Array Value} {v : Value} {ds gs : List (DataW H)} {before pa pv : List MemPlace}
    (hW : DataW.Whole enc P f.params.toList s.vars apart W args.toList ds gs before)
    (hres : ∀ (b : Nat) (sp : Nat → Bool) (hd : Bool), DataW.TrodAll enc P W' b sp hd f.resultTypes.toList (v.resultList f.resultTypes.size) (s.fn H (ds ++ gs)).results [])
    (hargs : DataW.TrodAll enc P W' 0 (fun b => decide (b < W.heap.size)) true f.params.toList args.toList (s.fn H (ds ++ gs)).args pa)
    (hvars : DataW.TrodVars enc P W' (fun b => decide (b < W.heap.size)) s.vars (s.fn H (ds ++ gs)).vars pv)
    (hb : Below W.heap.size W W') : s.post enc P f apart fresh handsOn false W args v W' :=
  ⟨ds, gs, before, [], pa, pv, hW, hres _ _ _, hargs, hvars, hb.frame _, fun h => by cases h⟩
end Go.Proofs.Ytinpinjjdkilpaa
