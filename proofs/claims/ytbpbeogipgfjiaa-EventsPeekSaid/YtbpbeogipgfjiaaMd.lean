/- the rows' last step: a call that changed nothing below the old memory's end, and answered true -/
import Derived.Test.YtbpbeogipgfjiaaMa
import Derived.Laws.CopyRow
import Derived.Lib.AppendZerosOnto
import Derived.Deep.RegionWith
import Derived.Deep.RegionHeld3
import Derived.BigQuiet
import Derived.Shelf.RegionOpenPlain
import Derived.Lib.Overlaps
import Derived.Laws.Externs
import Derived.Test.YtbpbeogipgfjiaaMb
import Derived.Deep.RegionLaw
import Derived.Test.YtbpbeogipgfjiaaRows
import Derived.ProofKit
import Derived.OpenShut
import Derived.JoinedCond
set_option linter.unusedSimpArgs false
set_option linter.unusedVariables false
set_option linter.unusedSectionVars false
/- Slices at any place of a block: append, copy, clear, cells. No function of the program. -/
namespace Go.Proofs.Ytbpbeogipgfjiaa
open Go Go.RowKit
section
variable {P : Program}
/-- append where there is room: the new cells are laid behind the old ones, in place -/
theorem append_room_at (w : World) (t ty e : TypeId) (i : TypeInfo) (size : Nat) (ht : P.underlying t = some (.slice e)) (hi : P.info? e = some i) (hs : i.size = size) (g off n c : Nat) (cur : Array Value) (te : TypeId)
    (hg : w.heap[g]? = some (.cells cur te (0, 0))) (a : Addr) (m c' : Nat) (news : List Value) (hl : news.length = m * size) (hnews : ∀ j u, news[j]? = some u → w.cell? (a.add j) = some u) (h1 : ∀ u ∈ news, u.oneCell' = true) (hroom : n + m ≤ c) (hfit : off + n * size + news.length ≤ cur.size) :
    (Builtin.append_ #[t, t] ty #[.slice (some ⟨g, off, none⟩) n c, .slice (some a) m c']).run P w = .ok (.slice (some ⟨g, off, none⟩) (n + m) c) (w.setRow g (cur.toList.take (off + n * size) ++ news ++ cur.toList.drop (off + n * size + news.length)).toArray) := by
  have hld := run_loadCells_list (P := P) w a news hnews
  rw [hl] at hld
  have hst := run_storeCells_at P g (off + n * size) te news 0 cur w hg (by simpa using hfit) h1
  simp only [Nat.add_zero] at hst
  simp [Builtin.append_, run_underlying ht, sizeOf, typeInfo, hi, hs, Builtin.lenOf, Builtin.firstCells, hroom, hld, Addr.add_lit, hst]
/-- append where there is none: a new block -/
theorem append_grow_at (w : World) (t ty e : TypeId) (i : TypeInfo) (z : Value) (size bytes : Nat) (ht : P.underlying t = some (.slice e)) (hi : P.info? e = some i) (hz : i.zero = some z) (hs : i.size = size) (hby : i.bytes = bytes) (hzs : z.cells.size = size) (A : Option Addr) (n c : Nat) (olds : List Value) (hlo : olds.length = n * size)
    (holds : 0 < n → ∃ b, A = some b ∧ ∀ j u, olds[j]? = some u → w.cell? (b.add j) = some u) (hA0 : A = none → n = 0 ∧ c = 0) (a : Addr) (m c' : Nat) (news : List Value) (hl : news.length = m * size) (hnews : ∀ j u, news[j]? = some u → w.cell? (a.add j) = some u) (hroom : c < n + m) (hnc : n ≤ c) (hb : n + m ≤ 1000) (hbb : bytes ≤ 1000) :
    ∃ cap cur', n + m ≤ cap ∧ cap ≤ maxLen ∧ cur'.size = cap * size ∧ cur'.toList.take ((n + m) * size) = olds ++ news ∧ (Builtin.append_ #[t, t] ty #[.slice A n c, .slice (some a) m c']).run P w = .ok (.slice (some ⟨w.heap.size, 0, none⟩) (n + m) cap) (w.drew.alloc (.cells cur' e)) := by
  subst hs
  have h48 : Builtin.nextslicecap (n + m) c * i.bytes ≤ 281474976710656 := by
    have h1 : Builtin.nextslicecap (n + m) c ≤ 2 * (n + m) := nextslicecap_le hroom
    calc _ ≤ (2 * (n + m)) * i.bytes := Nat.mul_le_mul_right _ h1
      _ ≤ 2000 * 1000 := Nat.mul_le_mul (by omega) (by omega)
      _ ≤ _ := by decide
  cases A with
  | none =>
    obtain ⟨hn, hc0⟩ := hA0 rfl
    subst hn; subst hc0
    have : olds = [] := List.eq_nil_of_length_eq_zero (by simpa using hlo)
    subst this
    have hcap := grownCap_ge w m 0 e
    have hmb : m * i.bytes ≤ 1000 * 1000 := Nat.mul_le_mul (by omega) (by omega)
    have hr := run_append_nil (P := P) w t ty e i z ht hi hz a m c' news hl hnews (by omega) (by omega) (by omega)
    rw [Nat.zero_add]
    refine ⟨_, _, hcap, grownCap_le_maxLen w _ _ e (by have : maxLen = 9223372036854775807 := rfl; omega), ?_, ?_, hr⟩
    · rw [Array.size_append, size_zeroCells, List.size_toArray, hl, hzs, ← Nat.add_mul]; congr 1; omega
    · rw [Array.toList_append, ← hl]; exact List.take_left
  | some b =>
    have hcap := grownCap_ge w (n + m) c e
    have holds' : ∀ j u, olds[j]? = some u → w.cell? (b.add j) = some u := fun j u hu => by
      have hj : j < olds.length := (List.getElem?_eq_some_iff.1 hu).1
      have hn : 0 < n := by
        rcases Nat.eq_zero_or_pos n with h | h
        · subst h; omega
        · exact h
      obtain ⟨b', hb', h⟩ := holds hn
      injection hb' with hb'
      subst hb'
      exact h j u hu
    have hr := run_append_grow (P := P) w t ty e i z ht hi hz b n c olds hlo holds' a m c' news hl hnews hroom (by omega) h48
    refine ⟨_, _, hcap, grownCap_le_maxLen w _ _ e (by have : maxLen = 9223372036854775807 := rfl; omega), ?_, ?_, hr⟩
    · rw [Array.size_append, Array.size_append, size_zeroCells, List.size_toArray, List.size_toArray, hl, hlo, hzs, ← Nat.add_mul, ← Nat.add_mul]; congr 1; omega
    · have hle : (olds ++ news).length = (n + m) * i.size := by rw [List.length_append, hlo, hl, Nat.add_mul]
      rw [Array.toList_append, Array.toList_append, ← hle]; exact List.take_left
/-- copy into a block -/
theorem copy_at (w : World) (dT sT ty e : TypeId) (size : Nat) (hu : P.underlying dT = some (.slice e)) (hs : (P.info? e).map (·.size) = some size) (g off dLen dCap : Nat) (a : Addr) (sLen sCap : Nat) (cur : Array Value) (t : TypeId) (cs : List Value)
    (hg : w.heap[g]? = some (.cells cur t (0, 0))) (hn : cs.length = Nat.min sLen dLen * size) (hsrc : ∀ j v, cs[j]? = some v → w.cell? (a.add j) = some v) (hfit : off + cs.length ≤ cur.size) (h1 : ∀ v ∈ cs, v.oneCell' = true) :
    (Builtin.copy_ #[dT, sT] ty #[.slice (some ⟨g, off, none⟩) dLen dCap, .slice (some a) sLen sCap]).run P w = .ok (goInt (Nat.min sLen dLen : Nat)) (w.setRow g (cur.toList.take off ++ cs ++ cur.toList.drop (off + cs.length)).toArray) := by
  have hl := run_loadCells_list (P := P) w a cs hsrc
  have hst := run_storeCells_at P g off t cs 0 cur w hg (by simpa using hfit) h1
  rw [hn] at hl
  cases hq : P.info? e with
  | none => simp [hq] at hs
  | some i =>
    have hi : i.size = size := by simpa [hq] using hs
    simp only [Nat.add_zero] at hst
    simp [Builtin.copy_, run_underlying hu, Builtin.lenOf, Builtin.firstCells, sizeOf, typeInfo, hq, hi, hl, hst]
end
end Go.Proofs.Ytbpbeogipgfjiaa
/- Events as plain data, and how a list of them lies in memory. No function of the program. -/
namespace Go.Proofs.Ytbpbeogipgfjiaa
open Go.RowKit
structure Evt where
  at_ : Int
  seq : Int
  kind : Int
  node : Int
  arg : Int
  deriving DecidableEq
def Evt.val (p : Evt) : Value := .agg #[.int .i64 p.at_, .int .i64 p.seq, .int .i64 p.kind, .int .i64 p.node, .int .i64 p.arg]
def Evt.cells (p : Evt) : List Value := [.int .i64 p.at_, .int .i64 p.seq, .int .i64 p.kind, .int .i64 p.node, .int .i64 p.arg]
def ec (l : List Evt) : List Value := l.flatMap Evt.cells
theorem ec_len (l : List Evt) : (ec l).length = l.length * 5 := by
  induction l with
  | nil => rfl
  | cons p l ih => simp only [ec, List.flatMap_cons, List.length_append, List.length_cons] at ih ⊢; rw [ih]; simp [Evt.cells]; omega
theorem ec_get (l : List Evt) (k j : Nat) (hj : j < 5) (hk : k < l.length) : (ec l)[k * 5 + j]? = (l[k]).cells[j]? := by
  induction l generalizing k with
  | nil => simp at hk
  | cons p l ih =>
    simp only [ec, List.flatMap_cons]
    cases k with
    | zero => rw [List.getElem?_append_left (by simp [Evt.cells]; omega)]; simp
    | succ k =>
      have h4 : p.cells.length = 5 := rfl
      rw [List.getElem?_append_right (by rw [h4]; omega), h4, show (k + 1) * 5 + j - 5 = k * 5 + j from by omega]
      exact ih k (by simpa using hk)
theorem ec_append (l r : List Evt) : ec (l ++ r) = ec l ++ ec r := by simp [ec]
theorem ec_cons (p : Evt) (r : List Evt) : ec (p :: r) = p.cells ++ ec r := by simp [ec]
theorem ec_take (l : List Evt) (k : Nat) : (ec l).take (k * 5) = ec (l.take k) := by
  induction l generalizing k with
  | nil => simp [ec]
  | cons p l ih =>
    cases k with
    | zero => simp [ec]
    | succ k =>
      have h4 : p.cells.length = 5 := rfl
      rw [ec_cons, List.take_succ_cons, ec_cons, List.take_append, h4, show (k + 1) * 5 - 5 = k * 5 from by omega, ih, List.take_of_length_le (by rw [h4]; omega)]
theorem ec_drop (l : List Evt) (k : Nat) : (ec l).drop (k * 5) = ec (l.drop k) := by
  induction l generalizing k with
  | nil => simp [ec]
  | cons p l ih =>
    cases k with
    | zero => simp [ec]
    | succ k =>
      have h4 : p.cells.length = 5 := rfl
      rw [ec_cons, List.drop_succ_cons, List.drop_append, h4, show (k + 1) * 5 - 5 = k * 5 from by omega, ih, List.drop_eq_nil_of_le (by rw [h4]; omega), List.nil_append]
theorem ec_one (l : List Evt) : ∀ u ∈ ec l, u.oneCell' = true := by
  intro u hu
  simp only [ec, List.mem_flatMap] at hu
  obtain ⟨p, _, hp⟩ := hu
  simp only [Evt.cells, List.mem_cons, List.not_mem_nil, or_false] at hp
  rcases hp with rfl | rfl | rfl | rfl | rfl <;> rfl

/-- A slice that reads as packets. -/
abbrev ESl (av : Nat → Prop) (w : World) (v : Value) (l : List Evt) : Prop := Sl av w 5 v l.length (ec l)

/-- its cells, asked for where k < length -/
theorem ESl.at_ {av : Nat → Prop} {w : World} {v : Value} {l : List Evt} (h : ESl av w v l) {k : Nat} (hk : k < l.length) :
    ∃ b off c, v = .slice (some ⟨b, off, none⟩) l.length c ∧ b < w.heap.size ∧ ¬ av b ∧
      w.cell? ⟨b, off + k * 5, none⟩ = some (.int .i64 (l[k]).at_) ∧ w.cell? ⟨b, off + k * 5 + 1, none⟩ = some (.int .i64 (l[k]).seq) ∧
      w.cell? ⟨b, off + k * 5 + 2, none⟩ = some (.int .i64 (l[k]).kind) ∧ w.cell? ⟨b, off + k * 5 + 3, none⟩ = some (.int .i64 (l[k]).node) ∧ w.cell? ⟨b, off + k * 5 + 4, none⟩ = some (.int .i64 (l[k]).arg) := by
  obtain ⟨hl, A, c, rfl, hc, hn⟩ := h
  obtain ⟨b, off, rfl, hb, hav, hcell⟩ := hn (by omega)
  refine ⟨b, off, c, rfl, hb, hav, ?_, ?_, ?_, ?_, ?_⟩
  · exact hcell (k * 5) _ (ec_get l k 0 (by omega) hk)
  · exact hcell (k * 5 + 1) _ (ec_get l k 1 (by omega) hk)
  · exact hcell (k * 5 + 2) _ (ec_get l k 2 (by omega) hk)
  · exact hcell (k * 5 + 3) _ (ec_get l k 3 (by omega) hk)
  · exact hcell (k * 5 + 4) _ (ec_get l k 4 (by omega) hk)
theorem ESl.shape {av : Nat → Prop} {w : World} {v : Value} {l : List Evt} (h : ESl av w v l) : ∃ A c, v = .slice A l.length c ∧ l.length ≤ c := by
  obtain ⟨hl, A, c, rfl, hc, hn⟩ := h
  exact ⟨A, c, rfl, hc⟩
theorem uEs : Try.prog.underlying 26 = some (.slice 30) := by kernel_rfl
theorem iE : (Try.prog.info? 30).map (fun i => (i.zero, i.size, i.bytes)) = some (some (.agg #[.int .i64 0, .int .i64 0, .int .i64 0, .int .i64 0, .int .i64 0]), 5, 40) := by kernel_rfl
theorem sE : (Try.prog.info? 30).map (·.size) = some 5 := by kernel_rfl
theorem eqNilE (A : Option Addr) (n c : Nat) (w : World) : (binOp .eql 26 (.slice A n c) (.slice none 0 0)).run Try.prog w = .ok (.bool A.isNone) w := by
  exact Lib.run_eql_slice_nil w _ _ A n c 0 0 uEs
theorem zE (w : World) : (zeroValue 30).run Try.prog w = .ok (.agg #[.int .i64 0, .int .i64 0, .int .i64 0, .int .i64 0, .int .i64 0]) w := by kernel_rfl
theorem hiE (A : Option Addr) (n c k : Nat) (hk : k ≤ c) (w : World) : (Instr.slice 26 (.slice A n c) none (some (.int .i64 k)) none).run Try.prog w = .ok (.slice A k c) w := by
  obtain ⟨i, hi, hz0, hz1, hz2⟩ := info_parts iE
  exact cut_hi w _ _ i uEs hi A n c k hk
theorem loE (A : Option Addr) (n c k : Nat) (hk : k ≤ n) (w : World) : (Instr.slice 26 (.slice A n c) (some (.int .i64 k)) none none).run Try.prog w = .ok (.slice (if c = k then A else A.map (·.add (k * 5))) (n - k) (c - k)) w := by
  obtain ⟨i, hi, hz0, hz1, hz2⟩ := info_parts iE
  exact cut_lo w _ _ i 5 uEs hi hz1 A n c k hk
theorem lhE (A : Option Addr) (n c k h : Nat) (hk : k ≤ h) (hh : h ≤ c) (w : World) : (Instr.slice 26 (.slice A n c) (some (.int .i64 k)) (some (.int .i64 h)) none).run Try.prog w = .ok (.slice (if c = k then A else A.map (·.add (k * 5))) (h - k) (c - k)) w := by
  obtain ⟨i, hi, hz0, hz1, hz2⟩ := info_parts iE
  exact cut_lh w _ _ i 5 uEs hi hz1 A n c k h hk hh
theorem aggE (w : World) : (isAgg 30).run Try.prog w = .ok true w := by kernel_rfl
theorem sizE (w : World) : (sizeOf 30).run Try.prog w = .ok 5 w := by kernel_rfl
/-- events at a place of a block -/
structure EB (w : World) (g off c : Nat) (l : List Evt) : Prop where
  blk : ∃ cur, w.heap[g]? = some (.cells cur 30 (0, 0)) ∧ off + c * 5 ≤ cur.size ∧ (cur.toList.drop off).take (l.length * 5) = ec l
  len : l.length ≤ c
  max : c ≤ maxLen
/-- a slice of events in memory of its own -/
def EOwn (w : World) (v : Value) (l : List Evt) : Prop := (v = .slice none 0 0 ∧ l = []) ∨ ∃ g off c, v = .slice (some ⟨g, off, none⟩) l.length c ∧ EB w g off c l
def blkOf : Value → Option Nat
  | .slice (some a) _ _ => some a.block
  | _ => none
section
variable {w w' : World} {g off c : Nat} {l : List Evt} {v : Value}
theorem EB.keep {F : Nat → Prop} (h : EB w g off c l) (hk : Keep F w w') (hF : ¬ F g) : EB w' g off c l := by
  obtain ⟨⟨cur, h1, h2, h3⟩, h4, h5⟩ := h
  exact ⟨⟨cur, (hk.block g (lt_of_heap h1) hF).trans h1, h2, h3⟩, h4, h5⟩
theorem EOwn.keep {F : Nat → Prop} (h : EOwn w v l) (hk : Keep F w w') (hF : ∀ b, blkOf v = some b → ¬ F b) : EOwn w' v l := by
  rcases h with h | ⟨g, off, c, rfl, h⟩
  · exact .inl h
  · exact .inr ⟨g, off, c, rfl, h.keep hk (hF g rfl)⟩
theorem EB.lt (h : EB w g off c l) : g < w.heap.size := by obtain ⟨⟨cur, h1, _⟩, _⟩ := h; exact lt_of_heap h1
theorem EOwn.lt (h : EOwn w v l) {b : Nat} (hb : blkOf v = some b) : b < w.heap.size := by
  rcases h with ⟨rfl, _⟩ | ⟨g, off, c, rfl, h⟩
  · cases hb
  · injection hb with hb; subst hb; exact h.lt
theorem EB.cells (h : EB w g off c l) (j : Nat) (u : Value) (hu : (ec l)[j]? = some u) : w.cell? ⟨g, off + j, none⟩ = some u := by
  obtain ⟨⟨cur, h1, h2, h3⟩, h4, h5⟩ := h
  rw [cell_of_row w g (off + j) cur _ (0, 0) h1]
  rw [← h3, List.getElem?_take] at hu
  split at hu
  · rw [List.getElem?_drop] at hu; simpa using hu
  · cases hu
theorem EB.sl {av : Nat → Prop} (h : EB w g off c l) (hav : ¬ av g) : ESl av w (.slice (some ⟨g, off, none⟩) l.length c) l :=
  ⟨ec_len l, _, _, rfl, h.len, fun _ => ⟨g, off, rfl, h.lt, hav, h.cells⟩⟩
theorem EOwn.sl {av : Nat → Prop} (h : EOwn w v l) (hav : ∀ b, blkOf v = some b → ¬ av b) : ESl av w v l := by
  rcases h with ⟨rfl, rfl⟩ | ⟨g, off, c, rfl, h⟩
  · exact Sl.nil _ _ _
  · exact h.sl (hav g rfl)
theorem EOwn.shape (h : EOwn w v l) : ∃ A c, v = .slice A l.length c ∧ l.length ≤ c ∧ (A = none → c = 0) := by
  rcases h with ⟨rfl, rfl⟩ | ⟨g, off, c, rfl, h⟩
  · exact ⟨none, 0, rfl, Nat.le_refl _, fun _ => rfl⟩
  · exact ⟨_, c, rfl, h.len, fun h => by cases h⟩
/-- the first k are left out -/
theorem EB.drop (h : EB w g off c l) {k : Nat} (hk : k ≤ l.length) : EB w g (if c = k then off else off + k * 5) (c - k) (l.drop k) := by
  obtain ⟨⟨cur, h1, h2, h3⟩, h4, h5⟩ := h
  have h6 := ec_drop l k
  refine ⟨⟨cur, h1, ?_, ?_⟩, by rw [List.length_drop]; omega, by omega⟩
  · split <;> omega
  · rw [List.length_drop, ← h6, ← h3]
    split
    · rename_i e
      have : l.length = k := by omega
      rw [this, Nat.sub_self, Nat.zero_mul, List.take_zero, List.drop_eq_nil_of_le (by rw [List.length_take]; omega)]
    · rw [← List.drop_drop, List.drop_take, Nat.sub_mul]
/-- only the first k -/
theorem EB.take (h : EB w g off c l) {k : Nat} (hk : k ≤ l.length) : EB w g off c (l.take k) := by
  obtain ⟨⟨cur, h1, h2, h3⟩, h4, h5⟩ := h
  refine ⟨⟨cur, h1, h2, ?_⟩, by rw [List.length_take]; omega, h5⟩
  rw [← ec_take, ← h3, List.take_take, List.length_take, Nat.min_eq_left hk, Nat.min_eq_left (by omega)]
end
end Go.Proofs.Ytbpbeogipgfjiaa
/- slices.IndexFunc, Clone over events -/
namespace Go.Proofs.Ytbpbeogipgfjiaa
open Go.RowKit
set_option linter.unusedSimpArgs false
/-- the first index at which p holds, or -1 -/
def idxI {α : Type} (p : α → Bool) (l : List α) : Int := match l.findIdx? p with | some i => i | none => -1
theorem idxI_none {α : Type} (p : α → Bool) (l : List α) (h : ∀ j (hj : j < l.length), p l[j] = false) : idxI p l = -1 := by
  have : l.findIdx? p = none := by
    rw [List.findIdx?_eq_none_iff]
    intro x hx
    obtain ⟨i, hi, rfl⟩ := List.getElem_of_mem hx
    exact h i hi
  simp [idxI, this]
theorem idxI_at {α : Type} (p : α → Bool) (l : List α) (k : Nat) (hk : k < l.length) (hp : p l[k] = true) (h : ∀ j (hj : j < k), p (l[j]'(by omega)) = false) : idxI p l = k := by
  have : l.findIdx? p = some k := by
    rw [List.findIdx?_eq_some_iff_getElem]
    exact ⟨hk, hp, fun j hj => by simp [h j hj]⟩
  simp [idxI, this]
/-- what idxI comes to -/
theorem idxI_cases {α : Type} (p : α → Bool) (l : List α) : (∃ i : Nat, ∃ h : i < l.length, idxI p l = i ∧ p l[i] = true ∧ l.findIdx? p = some i) ∨ (idxI p l = -1 ∧ l.findIdx? p = none) := by
  cases h : l.findIdx? p with
  | none => exact .inr ⟨by simp [idxI, h], rfl⟩
  | some i =>
    have := List.findIdx?_eq_some_iff_getElem.1 h
    exact .inl ⟨i, this.1, by simp [idxI, h], this.2.1, rfl⟩
set_option maxHeartbeats 400000 in
theorem index_any (fc : Nat) (cp : Value) (hfc : ∀ (xs : Array Value) (w : World), (callFunc fc xs).run Try.prog w = .ok (.enter fc xs) w)
    (pred : Evt → Bool) (av : Nat → Prop) (w : World) (v : Value) (l : List Evt) (hsl : ESl av w v l) (hlen : l.length ≤ 1000000)
    (hcall : ∀ w', Below w.heap.size w w' → ∀ p : Evt, Calls Try.prog fc #[p.val, cp] w' fun e w'' => e = .returned (.bool (pred p)) ∧ Below w'.heap.size w' w'') :
    Calls Try.prog 31 #[v, .func (.func fc) #[] #[cp]] w fun e w' => e = .returned (.int .i64 (idxI pred l)) ∧ Below w.heap.size w w' := by
  obtain ⟨A, c, rfl, hc⟩ := ESl.shape hsl
  go_enter Try.func31, Try.ntmps31
  go_wp2
  go_loopw [8] (fun i wr => ∃ k : Nat, k ≤ l.length ∧ i = .int .i64 k ∧ Below w.heap.size w wr ∧ ∀ j (hj : j < k) (hj' : j < l.length), pred l[j] = false) (fun i _ => l.length - (intOf i).toNat)
  case atStart => exact ⟨0, by omega, rfl, Below.refl _ _, fun j hj => absurd hj (by omega)⟩
  case round =>
    obtain ⟨k, hk, rfl, hB, hno⟩ := hrel
    by_cases hlt : k < l.length
    · obtain ⟨b, off, c', hA, hbl, _, h0, h1, h2, h3, h4⟩ := ESl.at_ (Sl.below hsl hB) hlt
      injection hA with hA _ hA'
      subst hA; subst hA'
      have HC := hid hcall
      have HN := hid hno
      clear hcall hno hsl
      by_cases hp : pred l[k] = true
      · have HP := hid hp
        clear hp
        go_wp2_with fail
        refine (HC.out wr hB l[k]).mono ?_
        rintro e w' ⟨rfl, hb'⟩
        rw [HP.out]
        go_wp2_with fail
        go_ret
        exact ⟨by rw [idxI_at pred l k hlt HP.out fun j hj => HN.out j hj (by omega)]; rfl, hB.trans (hb'.mono hB.size)⟩
      · have HP := hid (Bool.eq_false_iff.2 hp)
        clear hp
        go_wp2_with fail
        refine (HC.out wr hB l[k]).mono ?_
        rintro e w' ⟨rfl, hb'⟩
        rw [HP.out]
        go_wp2_with fail
        go_roundw
        case rel => exact ⟨k + 1, by omega, by go_num, hB.trans (hb'.mono hB.size), fun j hj hj' => by
          by_cases hjk : j = k
          · subst hjk; exact HP.out
          · exact HN.out j (by omega) hj'⟩
        case measure => simp [intOf]; omega
    · have HN := hid hno
      clear hno hcall hsl
      go_wp2
      go_ret
      exact ⟨by rw [idxI_none pred l fun j hj => HN.out j (by omega) hj]; rfl, hB⟩
theorem cf32 (xs : Array Value) (w : World) : (callFunc 32 xs).run Try.prog w = .ok (.enter 32 xs) w := by kernel_rfl
set_option maxHeartbeats 400000 in
theorem cancel1_any (c : Nat) (id p0 p1 p2 p3 p4 : Int) (w : World) (hc : w.cell? ⟨c, 0, none⟩ = some (.int .i64 id)) :
    Calls Try.prog 32 #[.agg #[.int .i64 p0, .int .i64 p1, .int .i64 p2, .int .i64 p3, .int .i64 p4], .pointer (some ⟨c, 0, none⟩)] w fun e w' => e = .returned (.bool (p1 == id)) ∧ Below w.heap.size w w' := by
  have hcl : c < w.heap.size := World.block_lt_of_cell? w ⟨c, 0, none⟩ hc
  go_enter Try.func32, Try.ntmps32
  go_wp2
  go_ret
  exact ⟨rfl, by go_grown⟩
end Go.Proofs.Ytbpbeogipgfjiaa
/- slices.Clone, Delete over events, at any place of a block -/
namespace Go.Proofs.Ytbpbeogipgfjiaa
open Go.RowKit
set_option linter.unusedSimpArgs false
theorem wpList_app_run {P : Program} (w : World) {ops : Array Oper} {rest : List Oper} {o : Oper} {a : Act} {Q : Exit → Act → World → Prop} (hgd : o.guard = none) (s x : Operand) (t t' : TypeId)
    (ho : o.op = .call { callee := .builtin .append, args := #[s, x], argTypes := #[t, t'] }) (v u : Value) (hs : a.eval s = v) (hx : a.eval x = u) {v' : Value} {w' : World}
    (hr : (Builtin.append_ #[t, t'] o.type #[v, u]).run P w = .ok v' w') (h : wpList P ops Q rest (a.put o.dst v') w') : wpList P ops Q (o :: rest) a w := by
  refine wpList_plain hgd fun K hK => ?_
  unfold Oper.wp execOp
  simp only [ho, resolve, invoke, builtin, Sem.run_bind, Sem.run_pure, Result.andThen_ok, List.map_toArray, List.map_cons, List.map_nil, hs, hx, hr]
  exact hK _ _ h
theorem step_app_run {P : Program} {w : World} {ops : Array Oper} {o : Oper} {a : Act} {K : Act → World → Prop} {Q : Exit → Act → World → Prop} {E : Prop} (hgd : o.guard = none) (s x : Operand) (t t' : TypeId)
    (ho : o.op = .call { callee := .builtin .append, args := #[s, x], argTypes := #[t, t'] }) (v u : Value) (hs : a.eval s = v) (hx : a.eval x = u) {v' : Value} {w' : World}
    (hr : (Builtin.append_ #[t, t'] o.type #[v, u]).run P w = .ok v' w') (h : K (a.put o.dst v') w') : if Region.wanted o (yielded ops a.tmps) = true then Oper.wp P o a w K Q else E := by
  have hw : Region.wanted o (yielded ops a.tmps) = true := by simp [Region.wanted, hgd]
  rw [if_pos hw]
  unfold Oper.wp execOp
  simp only [ho, resolve, invoke, builtin, Sem.run_bind, Sem.run_pure, Result.andThen_ok, List.map_toArray, List.map_cons, List.map_nil, hs, hx, hr]
  exact h
/-- a list in new memory -/
def FreshE (w : World) (l : List Evt) (e : Ending) (w' : World) : Prop := ∃ v, e = .returned v ∧ EOwn w' v l ∧ Below w.heap.size w w' ∧ ∀ b, blkOf v = some b → w.heap.size ≤ b
/-- append onto an empty slice that has just been made -/
theorem append_new (av : Nat → Prop) (w : World) (ty : TypeId) (B : Nat) (A : Option Addr) (c' : Nat) (l : List Evt) (hB : w.heap[B]? = some (.cells #[] 30 (0, 0))) (hs : ESl av w (.slice A l.length c') l) (hA : A ≠ none) (hlen : l.length ≤ 1000) :
    ∃ v w', (Builtin.append_ #[26, 26] ty #[.slice (some ⟨B, 0, none⟩) 0 0, .slice A l.length c']).run Try.prog w = .ok v w' ∧ EOwn w' v l ∧ Below w.heap.size w w' ∧ (blkOf v = some B ∨ blkOf v = some w.heap.size) := by
  obtain ⟨i, hi, hz0, hz1, hz2⟩ := info_parts iE
  cases A with
  | none => exact absurd rfl hA
  | some a =>
    obtain ⟨hl, A', c, he, hc, hn⟩ := hs
    injection he with h1 h2 h3
    subst h1; subst h3
    have hnews : ∀ j u, (ec l)[j]? = some u → w.cell? (a.add j) = some u := fun j u hu => by
      have hj : j < (ec l).length := (List.getElem?_eq_some_iff.1 hu).1
      rw [ec_len] at hj
      obtain ⟨b, off, hA, _, _, hcl⟩ := hn (by omega)
      injection hA with hA
      subst hA
      rw [Addr.add_lit]
      exact hcl j u hu
    rcases Nat.eq_zero_or_pos l.length with h0 | h0
    · have hl0 : l = [] := List.eq_nil_of_length_eq_zero h0
      subst hl0
      have hr := append_room_at (P := Try.prog) w 26 ty 30 i 5 uEs hi hz1 B 0 0 0 #[] _ hB a 0 c' [] rfl (fun j u h => by simp at h) (fun u h => by simp at h) (by omega) (by simp)
      refine ⟨_, _, hr, .inr ⟨B, 0, 0, rfl, ⟨⟨_, setRow_heap w B _ _ _ _ hB, by simp, rfl⟩, by simp, by omega⟩⟩, ?_, .inl rfl⟩
      have e0 : (w.setRow B ((#[] : Array Value).toList.take (0 + 0 * 5) ++ [] ++ (#[] : Array Value).toList.drop (0 + 0 * 5 + ([] : List Value).length)).toArray) = w := setRow_self w B #[] _ (0, 0) hB
      rw [e0]
      exact Below.refl _ _
    · obtain ⟨cap, cur', g1, g2, g3, g4, hr⟩ := append_grow_at (P := Try.prog) w 26 ty 30 i _ 5 40 uEs hi hz0 hz1 hz2 rfl (some ⟨B, 0, none⟩) 0 0 [] rfl (fun h => by omega) (fun h => by cases h) a l.length c' (ec l) (ec_len l) hnews (by omega) (Nat.le_refl _) (by omega) (by omega)
      rw [Nat.zero_add] at g1 g4 hr
      refine ⟨_, _, hr, .inr ⟨_, 0, cap, rfl, ⟨⟨cur', heap_alloc_new w.drew _, by omega, ?_⟩, g1, g2⟩⟩, ?_, .inr rfl⟩
      · rw [List.drop_zero, g4, List.nil_append]
      · exact undrew ((Below.refl _ _).alloc (Nat.le_refl _) _)
set_option maxHeartbeats 400000 in
theorem clone_any (av : Nat → Prop) (v : Value) (l : List Evt) (w : World) (h : ESl av w v l) (hlen : l.length ≤ 1000) :
    Calls Try.prog 25 #[v] w (FreshE w l) := by
  obtain ⟨A, c, rfl, hc⟩ := ESl.shape h
  have hq := eqNilE
  cases A with
  | none =>
    have hl : l = [] := by
      rcases Nat.eq_zero_or_pos l.length with h0 | h0
      · exact List.eq_nil_of_length_eq_zero h0
      · obtain ⟨_, A, c, hA, _, hn⟩ := h
        injection hA with hA
        subst hA
        obtain ⟨b, off, hA, _⟩ := hn h0
        cases hA
    subst hl
    clear h
    go_enter Try.func25, Try.ntmps25
    go_wp2
    go_ret
    exact ⟨_, rfl, .inl ⟨rfl, rfl⟩, Below.refl _ _, fun b hb => by cases hb⟩
  | some a =>
    obtain ⟨v', w', hr, ho, hb, hat⟩ := append_new av (w.alloc (.cells #[] 30)) 26 w.heap.size (some a) c l (heap_alloc_new w _) (Sl.below h ((Below.refl _ _).alloc (Nat.le_refl _) _)) (by simp) hlen
    have H := hid h
    have HO := hid ho
    clear h ho
    go_enter Try.func25, Try.ntmps25
    go_wp2_with (at_builtin; refine wpList_app_run _ rfl _ _ _ _ rfl _ _ rfl rfl hr ?_)
    go_wp2
    go_ret
    refine ⟨v', rfl, HO.out, ((Below.refl _ _).alloc (Nat.le_refl _) _).trans (hb.mono (by simp)), fun b hb => ?_⟩
    rcases hat with hat | hat <;> (rw [hat] at hb; injection hb with hb; subst hb; simp)
/-- events laid behind others, in place -/
theorem EB.app {w : World} {g off c : Nat} {l r : List Evt} {cur : Array Value} (hg : w.heap[g]? = some (.cells cur 30 (0, 0))) (h2 : off + c * 5 ≤ cur.size) (h3 : (cur.toList.drop off).take (l.length * 5) = ec l) (hm : c ≤ maxLen) (hroom : l.length + r.length ≤ c) :
    EB (w.setRow g (cur.toList.take (off + l.length * 5) ++ ec r ++ cur.toList.drop (off + l.length * 5 + (ec r).length)).toArray) g off c (l ++ r) := by
  have hr := ec_len r
  refine ⟨⟨_, setRow_heap w g cur _ _ _ hg, ?_, ?_⟩, by rw [List.length_append]; exact hroom, hm⟩
  · simp only [List.size_toArray, List.length_append, List.length_take, List.length_drop, Array.length_toList, hr]
    omega
  · have hcs : cur.toList.length = cur.size := by simp
    have ht : (cur.toList.take (off + l.length * 5)).length = off + l.length * 5 := by rw [List.length_take]; omega
    have e1 : (cur.toList.take (off + l.length * 5)).drop off = ec l := by rw [List.drop_take, Nat.add_sub_cancel_left, h3]
    simp only
    rw [List.append_assoc, List.drop_append_of_le_length (by omega), e1, ec_append, List.length_append, Nat.add_mul, ← ec_len l, ← hr, ← List.append_assoc, ← List.length_append]
    exact List.take_left
/-- what stands behind the events is cleared -/
theorem EB.clear {w : World} {g off c : Nat} {l : List Evt} (h : EB w g off c l) (ty : TypeId) (n m : Nat) (hn : l.length + n ≤ c) :
    ∃ w', (Builtin.clear_ #[26] ty #[.slice (some ⟨g, off + l.length * 5, none⟩) n m]).run Try.prog w = .ok (.tuple #[]) w' ∧ EB w' g off c l ∧ Keep (fun b => b = g) w w' := by
  obtain ⟨⟨cur, h1, h2, h3⟩, h4, h5⟩ := h
  have hone : ∀ u ∈ (Value.agg #[.int .i64 0, .int .i64 0, .int .i64 0, .int .i64 0, .int .i64 0]).cells.toList, u.oneCell' = true := by
    intro u hu
    simp [Value.cells] at hu
    subst hu; rfl
  obtain ⟨w', cur', r1, r2, r3, r4, r5⟩ := clear_at (P := Try.prog) w 26 30 ty _ uEs (zE w) hone g (off + l.length * 5) n m cur h1 (by simp [Value.cells]; omega)
  refine ⟨w', r1, ⟨⟨cur', r2, by omega, ?_⟩, h4, h5⟩, r5⟩
  have e : ∀ L : List Value, (L.drop off).take (l.length * 5) = (L.take (off + l.length * 5)).drop off := fun L => by rw [List.drop_take, Nat.add_sub_cancel_left]
  rw [e, r4, ← e, h3]
/-- a row cut down in place -/
def CutE (g off : Nat) (w : World) (l : List Evt) (e : Ending) (w' : World) : Prop := ∃ c, e = .returned (.slice (some ⟨g, off, none⟩) l.length c) ∧ EB w' g off c l ∧ Keep (fun b => b = g) w w'
set_option maxHeartbeats 400000 in
theorem delete_any (g off c : Nat) (l : List Evt) (n i : Nat) (w : World) (hn : l.length = n) (hi : i < n) (hlen : n ≤ 1000) (h : EB w g off c l) :
    Calls Try.prog 33 #[.slice (some ⟨g, off, none⟩) n c, .int .i64 i, .int .i64 ((i : Int) + 1)] w (CutE g off w (l.eraseIdx i)) := by
  have hcap : n ≤ c := by have := h.len; omega
  have hmx := h.max
  have hne : ((i : Int) == (i : Int) + 1) = false := by simp; omega
  obtain ⟨⟨cur, hg, hsz, hc3⟩, _, _⟩ := h.take (k := i) (by omega)
  have htl : (l.take i).length = i := by rw [List.length_take]; omega
  have hdl : (l.drop (i + 1)).length = n - (i + 1) := by rw [List.length_drop, hn]
  have hd := h.drop (k := i + 1) (by omega)
  obtain ⟨to, hto⟩ : ∃ to : Nat, to = (if c = i + 1 then off else off + (i + 1) * 5) := ⟨_, rfl⟩
  rw [← hto] at hd
  have htA : (if c = i + 1 then some (⟨g, off, none⟩ : Addr) else (some (⟨g, off, none⟩ : Addr)).map (·.add ((i + 1) * 5))) = some ⟨g, to, none⟩ := by
    rw [hto]; split <;> simp [Addr.add_lit]
  have hs1 := hiE (some ⟨g, off, none⟩) n c i (by omega)
  have hs2 := loE (some ⟨g, off, none⟩) n c (i + 1) (by omega)
  rw [htA] at hs2
  simp only [Int.natCast_add, Int.cast_ofNat_Int] at hs2
  obtain ⟨inf, hinf, hz0, hz1, hz2⟩ := info_parts iE
  have hr := fun ty => append_room_at (P := Try.prog) w.drew 26 ty 30 inf 5 uEs hinf hz1 g off i c cur _ hg ⟨g, to, none⟩ (n - (i + 1)) (c - (i + 1)) (ec (l.drop (i + 1))) (by rw [ec_len, hdl]) (fun j u hu => by rw [Addr.add_lit]; exact hd.cells j u hu) (ec_one _) (by omega) (by rw [ec_len, hdl]; omega)
  have hE := EB.app (w := w.drew) (l := l.take i) (r := l.drop (i + 1)) hg hsz hc3 hmx (by rw [htl, hdl]; omega)
  rw [htl] at hE
  obtain ⟨w1, hw1⟩ : ∃ w1, w1 = w.drew.setRow g (cur.toList.take (off + i * 5) ++ ec (l.drop (i + 1)) ++ cur.toList.drop (off + i * 5 + (ec (l.drop (i + 1))).length)).toArray := ⟨_, rfl⟩
  have hk1 : Keep (fun b => b = g) w w1 := by rw [hw1]; exact ((Keep.refl (fun b => b = g) w).drew).setRow (fun _ => rfl) _
  rw [← hw1] at hE
  simp only [← hw1] at hr
  clear hw1 hto hd hg hsz hc3 htA
  have HE := hid hE
  have HK := hid hk1
  have HT := hid htl
  have HD := hid hdl
  have HN := hid hn
  clear h hE hk1 htl hdl hn
  go_enter Try.func33, Try.ntmps33
  go_wp2_with fail
  go_region_held3 (fun _ => True) (trivial) (refine step_app_run rfl _ _ _ _ rfl _ _ rfl rfl (hr _) ?_)
  have hk1 : i + (n - (i + 1)) + 1 = n := by omega
  have hlk : (l.take i ++ l.drop (i + 1)).length = i + (n - (i + 1)) := by rw [List.length_append, HT.out, HD.out]
  have hel : l.eraseIdx i = l.take i ++ l.drop (i + 1) := List.eraseIdx_eq_take_drop_succ l i
  generalize i + (n - (i + 1)) = k at *
  generalize l.take i ++ l.drop (i + 1) = l' at *
  subst hlk
  have hs3 := lhE (some ⟨g, off, none⟩) l'.length c l'.length n (by omega) (by omega)
  rw [if_neg (by omega), Option.map_some, Addr.add_lit] at hs3
  obtain ⟨w2, hclr, ho2, hk2⟩ := HE.out.clear 0 (n - l'.length) (c - l'.length) (by omega)
  have HO2 := hid ho2
  have HEL := hid hel
  clear ho2 hel hs1 hs2 hr HE HT HD HN
  go_wp2_with fail
  go_ret
  rw [HEL.out]
  exact ⟨c, rfl, HO2.out, HK.out.trans hk2 (fun _ _ h => h)⟩
end Go.Proofs.Ytbpbeogipgfjiaa
/- slices.Insert of one event, at any place of a block -/
namespace Go.Proofs.Ytbpbeogipgfjiaa
open Go.RowKit
set_option linter.unusedSimpArgs false
theorem wpList_copy_run {P : Program} (w : World) {ops : Array Oper} {rest : List Oper} {o : Oper} {a : Act} {Q : Exit → Act → World → Prop} (hgd : o.guard = none) (s x : Operand) (t t' : TypeId)
    (ho : o.op = .call { callee := .builtin .copy, args := #[s, x], argTypes := #[t, t'] }) (v u : Value) (hs : a.eval s = v) (hx : a.eval x = u) {v' : Value} {w' : World}
    (hr : (Builtin.copy_ #[t, t'] o.type #[v, u]).run P w = .ok v' w') (h : wpList P ops Q rest (a.put o.dst v') w') : wpList P ops Q (o :: rest) a w := by
  refine wpList_plain hgd fun K hK => ?_
  unfold Oper.wp execOp
  simp only [ho, resolve, invoke, builtin, Sem.run_bind, Sem.run_pure, Result.andThen_ok, List.map_toArray, List.map_cons, List.map_nil, hs, hx, hr]
  exact hK _ _ h
theorem step_copy_run {P : Program} {w : World} {ops : Array Oper} {o : Oper} {a : Act} {K : Act → World → Prop} {Q : Exit → Act → World → Prop} {E : Prop} (hgd : o.guard = none) (s x : Operand) (t t' : TypeId)
    (ho : o.op = .call { callee := .builtin .copy, args := #[s, x], argTypes := #[t, t'] }) (v u : Value) (hs : a.eval s = v) (hx : a.eval x = u) {v' : Value} {w' : World}
    (hr : (Builtin.copy_ #[t, t'] o.type #[v, u]).run P w = .ok v' w') (h : K (a.put o.dst v') w') : if Region.wanted o (yielded ops a.tmps) = true then Oper.wp P o a w K Q else E := by
  have hw : Region.wanted o (yielded ops a.tmps) = true := by simp [Region.wanted, hgd]
  rw [if_pos hw]
  unfold Oper.wp execOp
  simp only [ho, resolve, invoke, builtin, Sem.run_bind, Sem.run_pure, Result.andThen_ok, List.map_toArray, List.map_cons, List.map_nil, hs, hx, hr]
  exact h
/-- cells laid over others -/
def lay (L : List Value) (o : Nat) (X : List Value) : List Value := L.take o ++ X ++ L.drop (o + X.length)
theorem lay_len {L X : List Value} {o : Nat} (h : o + X.length ≤ L.length) : (lay L o X).length = L.length := by
  simp only [lay, List.length_append, List.length_take, List.length_drop]; omega
theorem lay_get (L X : List Value) (o j : Nat) (h : o + X.length ≤ L.length) : (lay L o X)[j]? = if o ≤ j ∧ j < o + X.length then X[j - o]? else L[j]? := by
  have ht : (L.take o).length = o := by rw [List.length_take]; omega
  unfold lay
  rcases Nat.lt_or_ge j o with h1 | h1
  · rw [if_neg (by omega), List.append_assoc, List.getElem?_append_left (by omega), List.getElem?_take, if_pos h1]
  · rcases Nat.lt_or_ge j (o + X.length) with h2 | h2
    · rw [if_pos ⟨h1, h2⟩, List.getElem?_append_left (by rw [List.length_append]; omega), List.getElem?_append_right (by omega), ht]
    · rw [if_neg (by omega), List.getElem?_append_right (by rw [List.length_append]; omega), List.length_append, ht, List.getElem?_drop]
      congr 1; omega
/-- copy, as lay -/
theorem copyE (w : World) (ty : TypeId) (g off dLen dCap : Nat) (a : Addr) (sLen sCap : Nat) (L : List Value) (cs : List Value)
    (hg : w.heap[g]? = some (.cells L.toArray 30 (0, 0))) (hn : cs.length = Nat.min sLen dLen * 5) (hsrc : ∀ j v, cs[j]? = some v → w.cell? (a.add j) = some v) (hfit : off + cs.length ≤ L.length) (h1 : ∀ v ∈ cs, v.oneCell' = true) :
    (Builtin.copy_ #[26, 26] ty #[.slice (some ⟨g, off, none⟩) dLen dCap, .slice (some a) sLen sCap]).run Try.prog w = .ok (goInt (Nat.min sLen dLen : Nat)) (w.setRow g (lay L off cs).toArray) := by
  have := copy_at (P := Try.prog) w 26 26 ty 30 5 uEs sE g off dLen dCap a sLen sCap L.toArray 30 cs hg hn hsrc (by simpa using hfit) h1
  exact this
theorem EB.list {w : World} {g off c : Nat} {l : List Evt} (h : EB w g off c l) : ∃ L : List Value, w.heap[g]? = some (.cells L.toArray 30 (0, 0)) ∧ off + c * 5 ≤ L.length ∧ ∀ j, j < l.length * 5 → L[off + j]? = (ec l)[j]? := by
  obtain ⟨⟨cur, h1, h2, h3⟩, h4, h5⟩ := h
  refine ⟨cur.toList, h1, by simpa using h2, fun j hj => ?_⟩
  rw [← h3, List.getElem?_take, if_pos hj, List.getElem?_drop]
theorem EB.of_list {w : World} {g off c : Nat} {l : List Evt} {L : List Value} (h1 : w.heap[g]? = some (.cells L.toArray 30 (0, 0))) (h2 : off + c * 5 ≤ L.length) (h3 : ∀ j, j < l.length * 5 → L[off + j]? = (ec l)[j]?) (h4 : l.length ≤ c) (h5 : c ≤ maxLen) : EB w g off c l := by
  refine ⟨⟨_, h1, by simpa using h2, ?_⟩, h4, h5⟩
  apply List.ext_getElem?
  intro j
  rw [List.getElem?_take]
  split
  · rename_i hj
    rw [List.getElem?_drop]
    exact h3 j hj
  · rename_i hj
    rw [List.getElem?_eq_none (by rw [ec_len]; omega)]
theorem ec_ins (l : List Evt) (x : Evt) (i j : Nat) (hi : i ≤ l.length) : (ec (l.take i ++ x :: l.drop i))[j]? = if j < i * 5 then (ec l)[j]? else if j < i * 5 + 5 then x.cells[j - i * 5]? else (ec l)[j - 5]? := by
  have ht : (ec (l.take i)).length = i * 5 := by rw [ec_len, List.length_take, Nat.min_eq_left hi]
  have hx : x.cells.length = 5 := rfl
  rw [ec_append, ec_cons]
  split
  · rw [List.getElem?_append_left (by omega), ← ec_take, List.getElem?_take, if_pos (by omega)]
  · split
    · rw [List.getElem?_append_right (by omega), ht, List.getElem?_append_left (by omega)]
    · rw [List.getElem?_append_right (by omega), ht, List.getElem?_append_right (by omega), hx, ← ec_drop, List.getElem?_drop]
      congr 1; omega
/-- two copies make room for an event and lay it -/
theorem EB.ins {w : World} {g off c : Nat} {l : List Evt} {x : Evt} {L : List Value} {i : Nat} (hi : i ≤ l.length) (hL : off + c * 5 ≤ L.length) (hc : ∀ j, j < l.length * 5 → L[off + j]? = (ec l)[j]?) (hroom : l.length + 1 ≤ c) (hm : c ≤ maxLen) (hg : w.heap[g]? = some (.cells (lay (lay L (off + (i + 1) * 5) (ec (l.drop i))) (off + i * 5) x.cells).toArray 30 (0, 0))) :
    EB w g off c (l.take i ++ x :: l.drop i) := by
  have hx : x.cells.length = 5 := rfl
  have hd : (ec (l.drop i)).length = (l.length - i) * 5 := by rw [ec_len, List.length_drop]
  have hlen : (l.take i ++ x :: l.drop i).length = l.length + 1 := by simp; omega
  have h1 : off + (i + 1) * 5 + (ec (l.drop i)).length ≤ L.length := by omega
  have hl1 := lay_len h1
  refine EB.of_list hg (by rw [lay_len (by omega), hl1]; exact hL) (fun j hj => ?_) (by omega) hm
  have h2 : off + i * 5 + x.cells.length ≤ (lay L (off + (i + 1) * 5) (ec (l.drop i))).length := by rw [hl1, hx]; omega
  rw [hlen] at hj
  rw [ec_ins l x i j hi, lay_get _ _ _ _ h2, lay_get _ _ _ _ h1, hx, hd]
  by_cases c1 : j < i * 5
  · rw [if_pos c1, if_neg (by omega), if_neg (by omega)]
    exact hc j (by omega)
  · rw [if_neg c1]
    by_cases c2 : j < i * 5 + 5
    · rw [if_pos c2, if_pos (by omega)]
      congr 1; omega
    · rw [if_neg c2, if_neg (by omega), if_pos (by omega), ← ec_drop, List.getElem?_drop]
      congr 1; omega
theorem sizE' (w : World) : (Go.sizeOf 30).run Try.prog w = .ok 5 w := sizE w
set_option maxHeartbeats 1000000 in
theorem ins_shift (g off c vb : Nat) (l : List Evt) (x : Evt) (n i : Nat) (w : World) (hn : l.length = n) (hi : i < n) (hlen : n ≤ 1000) (h : EB w g off c l) (hroom : n + 1 ≤ c) (hx : w.heap[vb]? = some (.cells x.cells.toArray 30 (0, 0))) (hne : vb ≠ g) :
    Calls Try.prog 30 #[.slice (some ⟨g, off, none⟩) n c, .int .i64 i, .slice (some ⟨vb, 0, none⟩) 1 1] w fun e w' => e = .returned (.slice (some ⟨g, off, none⟩) (n + 1) c) ∧ EB w' g off c (l.take i ++ x :: l.drop i) ∧ Keep (fun b => b = g) w w' := by
  have hmx := h.max
  have hgl := h.lt
  have hdr := h.drop (k := i) (by omega)
  obtain ⟨L, hL1, hL2, hL3⟩ := h.list
  have hov : ∀ lb cb, (callFunc 37 #[.slice (some ⟨vb, 0, none⟩) 1 1, .slice (some ⟨g, off + (i + 1) * 5, none⟩) lb cb]).run Try.prog w = .ok (.value (.bool false)) w := fun lb cb => by
    rw [run_callFunc_extern (P := Try.prog) (e := Extern.SlicesOverlaps.overlaps #[26, 26] #[4]) Try.func37 (by kernel_rfl) (by kernel_rfl) (by kernel_rfl) (by kernel_rfl),
      Lib.run_overlaps_apart w 26 4 30 uEs 5 sizE' ⟨vb, 0, none⟩ ⟨g, off + (i + 1) * 5, none⟩ 1 1 lb cb hne 30 30 5 L.length (by simp [World.shape?, hx]; rfl) (by simp [World.shape?, hL1]) (by omega) (by simp [World.frozen?, hx]) (by simp [World.frozen?, hx])]
    rfl
  have hz2 : ¬ ((i : Int) = (n : Int)) := by omega
  have mixed : Try.prog.follows .mixedOrders = true := by kernel_rfl
  have hdl : (l.drop i).length = n - i := by rw [List.length_drop, hn]
  have hw1 : IntKind.i64.wrap ((i : Int) + 1) = (i : Int) + 1 := IntWalk.i64_in _ (by omega)
  have hw2 : IntKind.i64.wrap ((n : Int) + 1) = (n : Int) + 1 := IntWalk.i64_in _ (by omega)
  have hA : ∀ k, k < c → (if c = k then some (⟨g, off, none⟩ : Addr) else (some (⟨g, off, none⟩ : Addr)).map (·.add (k * 5))) = some ⟨g, off + k * 5, none⟩ := fun k hk => by rw [if_neg (by omega)]; simp [Addr.add_lit]
  have hs1 := loE (some ⟨g, off, none⟩) n c i (by omega)
  have hs2 := hiE (some ⟨g, off, none⟩) n c (n + 1) (by omega)
  have hs3 := loE (some ⟨g, off, none⟩) (n + 1) c (i + 1) (by omega)
  have hs4 := loE (some ⟨g, off, none⟩) (n + 1) c i (by omega)
  rw [hA i (by omega)] at hs1 hs4
  rw [hA (i + 1) (by omega)] at hs3
  rw [Nat.add_sub_add_right] at hs3
  simp only [Int.natCast_add, Int.cast_ofNat_Int] at hs2 hs3
  have hcp1 : ∀ ty dc sc, (Builtin.copy_ #[26, 26] ty #[.slice (some ⟨g, off + (i + 1) * 5, none⟩) (n - i) dc, .slice (some ⟨g, off + i * 5, none⟩) (n + 1 - i) sc]).run Try.prog w.drew = .ok (goInt (Nat.min (n + 1 - i) (n - i) : Nat)) (w.drew.setRow g (lay L (off + (i + 1) * 5) (ec (l.drop i))).toArray) := fun ty dc sc =>
    copyE w.drew ty g (off + (i + 1) * 5) (n - i) dc ⟨g, off + i * 5, none⟩ (n + 1 - i) sc L (ec (l.drop i)) hL1 (by rw [ec_len, hdl]; congr 1; simp only [Nat.min_def]; split <;> omega)
      (fun j v hj => by
        have := h.cells (i * 5 + j) v (by rw [← ec_drop, List.getElem?_drop] at hj; exact hj)
        rw [Addr.add_lit, Nat.add_assoc]
        exact this) (by rw [ec_len, hdl]; omega) (ec_one _)
  have hxc : x.cells.length = 5 := rfl
  have h1l : off + (i + 1) * 5 + (ec (l.drop i)).length ≤ L.length := by rw [ec_len, hdl]; omega
  obtain ⟨L1, hL1e⟩ : ∃ L1, L1 = lay L (off + (i + 1) * 5) (ec (l.drop i)) := ⟨_, rfl⟩
  have hL1l : L1.length = L.length := by rw [hL1e]; exact lay_len h1l
  rw [← hL1e] at hcp1
  obtain ⟨W1, hW1⟩ : ∃ W1, W1 = w.drew.setRow g L1.toArray := ⟨_, rfl⟩
  have hW1g : W1.heap[g]? = some (.cells L1.toArray 30 (0, 0)) := by rw [hW1]; exact setRow_heap w.drew g _ _ _ _ hL1
  have hW1v : W1.heap[vb]? = some (.cells x.cells.toArray 30 (0, 0)) := by rw [hW1, setRow_other _ _ _ _ hne]; exact hx
  have hk1 : Keep (fun b => b = g) w W1 := by rw [hW1]; exact ((Keep.refl (fun b => b = g) w).drew).setRow (fun _ => rfl) _
  have hcp2 : ∀ ty dc, (Builtin.copy_ #[26, 26] ty #[.slice (some ⟨g, off + i * 5, none⟩) (n + 1 - i) dc, .slice (some ⟨vb, 0, none⟩) 1 1]).run Try.prog W1 = .ok (goInt (Nat.min 1 (n + 1 - i) : Nat)) (W1.setRow g (lay L1 (off + i * 5) x.cells).toArray) := fun ty dc =>
    copyE W1 ty g (off + i * 5) (n + 1 - i) dc ⟨vb, 0, none⟩ 1 1 L1 x.cells hW1g (by rw [hxc]; simp only [Nat.min_def]; split <;> omega) (fun j v hj => by rw [Addr.add_lit, cell_of_row W1 vb (0 + j) _ _ _ hW1v]; simpa using hj) (by omega) (fun v hv => ec_one [x] v (by simpa [ec] using hv))
  rw [← hW1] at hcp1
  have hE : EB (W1.setRow g (lay L1 (off + i * 5) x.cells).toArray) g off c (l.take i ++ x :: l.drop i) := EB.ins (i := i) (L := L) (by omega) hL2 hL3 (by omega) hmx (by rw [← hL1e]; exact setRow_heap W1 g _ _ _ _ hW1g)
  have HE := hid hE
  have HK := hid hk1
  clear hE hk1 h hL1 hL2 hL3 hW1g hW1v hW1 hL1e hx hdr
  go_enter Try.func30, Try.ntmps30
  go_wp2_with (simp only [hov])
  go_region_law_o (refine step_copy_run rfl _ _ 26 26 rfl _ _ (by simp [Act.eval, Act.put]) (by simp [Act.eval, Act.put]) (hcp1 _ _ _) ?_)
  go_wp2_with (at_builtin; refine wpList_copy_run _ rfl _ _ 26 26 rfl _ _ rfl rfl (hcp2 _ _) ?_)
  go_ret
  exact ⟨rfl, HE.out, HK.out.setRow (fun _ => rfl) _⟩
end Go.Proofs.Ytbpbeogipgfjiaa
/- slices.Insert of one event: at the end, and into a new block; all cases -/
namespace Go.Proofs.Ytbpbeogipgfjiaa
open Go.RowKit
set_option linter.unusedSimpArgs false
/-- what Insert comes to -/
def InsP (w : World) (v : Value) (l : List Evt) (e : Ending) (w' : World) : Prop := ∃ v', e = .returned v' ∧ EOwn w' v' l ∧ Keep (fun b => blkOf v = some b) w w' ∧ (blkOf v' = blkOf v ∨ blkOf v' = some w.heap.size)
theorem app_one (w : World) (ty : TypeId) (v : Value) (l : List Evt) (x : Evt) (vb : Nat) (h : EOwn w v l) (hx : w.heap[vb]? = some (.cells x.cells.toArray 30 (0, 0))) (hlen : l.length ≤ 900) :
    ∃ v' w', (Builtin.append_ #[26, 26] ty #[v, .slice (some ⟨vb, 0, none⟩) 1 1]).run Try.prog w = .ok v' w' ∧ EOwn w' v' (l ++ [x]) ∧ Keep (fun b => blkOf v = some b) w w' ∧ (blkOf v' = blkOf v ∨ blkOf v' = some w.heap.size) := by
  obtain ⟨inf, hinf, hz0, hz1, hz2⟩ := info_parts iE
  have hnews : ∀ j u, (ec [x])[j]? = some u → w.cell? ((⟨vb, 0, none⟩ : Addr).add j) = some u := fun j u hu => by
    rw [Addr.add_lit, cell_of_row w vb (0 + j) _ _ _ hx]
    simpa [ec] using hu
  obtain ⟨A, c, hv, hc, hA0⟩ := h.shape
  by_cases hroom : l.length + 1 ≤ c
  · rcases h with ⟨rfl, rfl⟩ | ⟨g, off, c', rfl, hE⟩
    · injection hv with _ _ hv; omega
    · injection hv with _ _ hv
      subst hv
      obtain ⟨⟨cur, h1, h2, h3⟩, h4, h5⟩ := hE
      have hr := append_room_at (P := Try.prog) w 26 ty 30 inf 5 uEs hinf hz1 g off l.length c' cur _ h1 ⟨vb, 0, none⟩ 1 1 (ec [x]) (ec_len _) hnews (ec_one _) hroom (by rw [ec_len]; simp; omega)
      have hE := EB.app (l := l) (r := [x]) h1 h2 h3 h5 hroom
      refine ⟨_, _, hr, .inr ⟨g, off, c', by rw [List.length_append]; rfl, hE⟩, (Keep.refl (fun b => blkOf (.slice (some ⟨g, off, none⟩) l.length c') = some b) w).setRow (fun _ => rfl) _, .inl rfl⟩
  · have hsl : ESl (fun _ => False) w v l := h.sl (fun _ _ h => h)
    subst hv
    obtain ⟨_, A', c', he, _, hn⟩ := hsl
    injection he with e1 _ e3
    subst e1; subst e3
    obtain ⟨cap, cur', g1, g2, g3, g4, hr⟩ := append_grow_at (P := Try.prog) w 26 ty 30 inf _ 5 40 uEs hinf hz0 hz1 hz2 rfl A l.length c (ec l) (ec_len l) (fun h0 => by
      obtain ⟨b, off, hA, _, _, hcl⟩ := hn h0
      exact ⟨_, hA, fun j u hu => by rw [Addr.add_lit]; exact hcl j u hu⟩) (fun hA => ⟨by have := hA0 hA; omega, hA0 hA⟩) ⟨vb, 0, none⟩ 1 1 (ec [x]) (ec_len _) hnews (by omega) hc (by omega) (by omega)
    refine ⟨_, _, hr, .inr ⟨w.heap.size, 0, cap, by rw [List.length_append]; rfl, ⟨⟨cur', heap_alloc_new w.drew _, by omega, ?_⟩, by rw [List.length_append]; exact g1, g2⟩⟩, Keep.of_below (undrew ((Below.refl _ _).alloc (Nat.le_refl _) _)) _, .inr rfl⟩
    rw [List.drop_zero, List.length_append, ec_append]
    exact g4
set_option maxHeartbeats 1000000 in
theorem ins_end (v : Value) (l : List Evt) (x : Evt) (n vb : Nat) (w : World) (hn : l.length = n) (h : EOwn w v l) (hx : w.heap[vb]? = some (.cells x.cells.toArray 30 (0, 0))) (hlen : n ≤ 900) :
    Calls Try.prog 30 #[v, .int .i64 n, .slice (some ⟨vb, 0, none⟩) 1 1] w (InsP w v (l ++ [x])) := by
  obtain ⟨v', w', hr, h1, h2, h3⟩ := app_one w 26 v l x vb h hx (by omega)
  obtain ⟨A, c, hv, hc, hA0⟩ := h.shape
  rw [hn] at hv hc
  have hs1 := loE A n c n (Nat.le_refl _)
  generalize hA1 : (if c = n then A else A.map (·.add (n * 5))) = A1 at hs1
  subst hv
  have HE := hid h1
  have HK := hid h2
  have HB := hid h3
  clear h1 h2 h3 h hx hA0 hA1 hn
  go_enter Try.func30, Try.ntmps30
  go_wp2_with (at_builtin; refine wpList_app_run _ rfl _ _ _ _ rfl _ _ rfl rfl hr ?_)
  go_ret
  exact ⟨v', rfl, HE.out, HK.out, HB.out⟩
/-- a new block takes the first ones, the event, the others -/
theorem EB.ins2 {w : World} {g c : Nat} {l : List Evt} {x : Evt} {L : List Value} {i : Nat} (hi : i ≤ l.length) (hL : c * 5 ≤ L.length) (hc : ∀ j, j < i * 5 → L[j]? = (ec l)[j]?) (hroom : l.length + 1 ≤ c) (hm : c ≤ maxLen) (hg : w.heap[g]? = some (.cells (lay (lay L (i * 5) x.cells) ((i + 1) * 5) (ec (l.drop i))).toArray 30 (0, 0))) :
    EB w g 0 c (l.take i ++ x :: l.drop i) := by
  have hx : x.cells.length = 5 := rfl
  have hd : (ec (l.drop i)).length = (l.length - i) * 5 := by rw [ec_len, List.length_drop]
  have hlen : (l.take i ++ x :: l.drop i).length = l.length + 1 := by simp; omega
  have h1 : i * 5 + x.cells.length ≤ L.length := by omega
  have hl1 := lay_len h1
  refine EB.of_list hg (by rw [lay_len (by omega), hl1]; omega) (fun j hj => ?_) (by omega) hm
  have h2 : (i + 1) * 5 + (ec (l.drop i)).length ≤ (lay L (i * 5) x.cells).length := by rw [hl1, hd]; omega
  rw [hlen] at hj
  rw [Nat.zero_add, ec_ins l x i j hi, lay_get _ _ _ _ h2, lay_get _ _ _ _ h1, hx, hd]
  by_cases c1 : j < i * 5
  · rw [if_pos c1, if_neg (by omega), if_neg (by omega)]
    exact hc j c1
  · rw [if_neg c1]
    by_cases c2 : j < i * 5 + 5
    · rw [if_pos c2, if_neg (by omega), if_pos (by omega)]
    · rw [if_neg c2, if_pos (by omega), ← ec_drop, List.getElem?_drop]
      congr 1; omega
theorem u3 : Try.prog.underlying 3 = some (.int .i64) := by kernel_rfl
set_option maxHeartbeats 1000000 in
theorem ins_grow (g off c vb : Nat) (l : List Evt) (x : Evt) (n i : Nat) (w : World) (hn : l.length = n) (hi : i < n) (hlen : n ≤ 900) (h : EB w g off c l) (hroom : ¬ n + 1 ≤ c) (hx : w.heap[vb]? = some (.cells x.cells.toArray 30 (0, 0))) :
    Calls Try.prog 30 #[.slice (some ⟨g, off, none⟩) n c, .int .i64 i, .slice (some ⟨vb, 0, none⟩) 1 1] w (InsP w (.slice (some ⟨g, off, none⟩) n c) (l.take i ++ x :: l.drop i)) := by
  have hcap : n ≤ c := by have := h.len; omega
  have hgl := h.lt
  have hvl := lt_of_heap hx
  obtain ⟨inf, hinf, hz0, hz1, hz2⟩ := info_parts iE
  have hz2' : ¬ ((i : Int) = (n : Int)) := by omega
  have mixed : Try.prog.follows .mixedOrders = true := by kernel_rfl
  have hdl : (l.drop i).length = n - i := by rw [List.length_drop, hn]
  have htl : (l.take i).length = i := by rw [List.length_take]; omega
  have hw1 : IntKind.i64.wrap ((i : Int) + 1) = (i : Int) + 1 := IntWalk.i64_in _ (by omega)
  have hw2 : IntKind.i64.wrap ((n : Int) + 1) = (n : Int) + 1 := IntWalk.i64_in _ (by omega)
  have hw3 : IntKind.i64.wrap ((n : Int) + 1 - (i : Int)) = ((n + 1 - i : Nat) : Int) := by rw [IntWalk.i64_in _ (by omega)]; omega
  have hs1 := loE (some ⟨g, off, none⟩) n c i (by omega)
  rw [if_neg (by omega), Option.map_some, Addr.add_lit] at hs1
  have hs2 := hiE (some ⟨g, off, none⟩) n c i (by omega)
  have hdr := h.take (k := i) (by omega)
  have hfo := run_firstCells_some (P := Try.prog) w.drew inf.size i ⟨g, off, none⟩ i c (ec (l.take i)) (by rw [ec_len, htl, hz1]) (fun j u hu => by rw [Addr.add_lit]; exact hdr.cells j u hu)
  have h48 : Builtin.nextslicecap (i + (n + 1 - i)) c * inf.bytes ≤ 281474976710656 := by
    have h1 : Builtin.nextslicecap (i + (n + 1 - i)) c ≤ 2 * (i + (n + 1 - i)) := nextslicecap_le (by omega)
    rw [hz2]
    omega
  have hgr := fun ty => Lib.run_append_grow_zeros (P := Try.prog) w 26 3 ty 30 inf _ .i64 .i64 uEs u3 hinf hz0 (some ⟨g, off, none⟩) i c (ec (l.take i)) hfo (n + 1 - i) (by omega) (by omega) (by omega) (by omega) (by rw [hz2]; omega) h48
  have e1 : i + (n + 1 - i) = n + 1 := by omega
  rw [e1] at hgr h48
  have hcg := grownCap_ge w (n + 1) c 30
  have hcm := grownCap_le_maxLen w (n + 1) c 30 (by have : maxLen = 9223372036854775807 := rfl; omega)
  generalize grownCap w (n + 1) c 30 = cap at hgr hcg hcm
  obtain ⟨L, hL⟩ : ∃ L : List Value, ((ec (l.take i)).toArray ++ Builtin.zeroCells (Value.agg #[.int .i64 0, .int .i64 0, .int .i64 0, .int .i64 0, .int .i64 0]).cells (n + 1 - i) ++ Builtin.zeroCells (Value.agg #[.int .i64 0, .int .i64 0, .int .i64 0, .int .i64 0, .int .i64 0]).cells (cap - (n + 1))) = L.toArray := ⟨_, rfl⟩
  have hLl : L.length = cap * 5 := by
    have := congrArg Array.size hL
    simp only [Array.size_append, size_zeroCells, List.size_toArray, ec_len, htl] at this
    have h5 : (Value.agg #[.int .i64 0, .int .i64 0, .int .i64 0, .int .i64 0, .int .i64 0]).cells.size = 5 := rfl
    rw [h5] at this
    omega
  have hLc : ∀ j, j < i * 5 → L[j]? = (ec l)[j]? := fun j hj => by
    have h1 : L[j]? = (L.toArray)[j]? := by simp
    rw [h1, ← hL, Array.append_assoc, Array.getElem?_append_left (by simp [ec_len, htl]; omega)]
    simp only [List.getElem?_toArray]
    rw [← ec_take, List.getElem?_take, if_pos hj]
  rw [hL] at hgr
  clear hL
  have hxc : x.cells.length = 5 := rfl
  have hsG : ∀ k, k < cap → ∀ W, (Instr.slice 26 (.slice (some ⟨w.heap.size, 0, none⟩) (n + 1) cap) (some (.int .i64 (k : Int))) none none).run Try.prog W = (if k ≤ n + 1 then .ok (.slice (some ⟨w.heap.size, k * 5, none⟩) (n + 1 - k) (cap - k)) W else (Instr.slice 26 (.slice (some ⟨w.heap.size, 0, none⟩) (n + 1) cap) (some (.int .i64 (k : Int))) none none).run Try.prog W) := fun k hk W => by
    split
    · rename_i h
      have := loE (some ⟨w.heap.size, 0, none⟩) (n + 1) cap k h W
      rw [if_neg (by omega), Option.map_some, Addr.add_lit, Nat.zero_add] at this
      exact this
    · rfl
  have hs3 := fun W => (hsG i (by omega) W).trans (by rw [if_pos (by omega)])
  have hs4 := fun W => (hsG (i + 1) (by omega) W).trans (by rw [if_pos (by omega)])
  simp only [Nat.add_sub_add_right, Int.natCast_add, Int.cast_ofNat_Int] at hs4
  clear hsG
  obtain ⟨W0, hW0⟩ : ∃ W0, W0 = w.drew.alloc (.cells L.toArray 30) := ⟨_, rfl⟩
  have hW0g : W0.heap[w.heap.size]? = some (.cells L.toArray 30 (0, 0)) := by rw [hW0]; exact heap_alloc_new w.drew _
  have hk0 : Below w.heap.size w W0 := by rw [hW0]; exact undrew ((Below.refl _ _).alloc (Nat.le_refl _) _)
  rw [← hW0] at hgr
  have hW0v : W0.heap[vb]? = some (.cells x.cells.toArray 30 (0, 0)) := (hk0.block vb hvl).trans hx
  have hcp1 : ∀ ty dc, (Builtin.copy_ #[26, 26] ty #[.slice (some ⟨w.heap.size, i * 5, none⟩) (n + 1 - i) dc, .slice (some ⟨vb, 0, none⟩) 1 1]).run Try.prog W0 = .ok (goInt (Nat.min 1 (n + 1 - i) : Nat)) (W0.setRow w.heap.size (lay L (i * 5) x.cells).toArray) := fun ty dc =>
    copyE W0 ty w.heap.size (i * 5) (n + 1 - i) dc ⟨vb, 0, none⟩ 1 1 L x.cells hW0g (by rw [hxc]; simp only [Nat.min_def]; split <;> omega) (fun j v hj => by rw [Addr.add_lit, cell_of_row W0 vb (0 + j) _ _ _ hW0v]; simpa using hj) (by omega) (fun v hv => ec_one [x] v (by simpa [ec] using hv))
  have h1l : i * 5 + x.cells.length ≤ L.length := by omega
  obtain ⟨L1, hL1e⟩ : ∃ L1, L1 = lay L (i * 5) x.cells := ⟨_, rfl⟩
  have hL1l : L1.length = L.length := by rw [hL1e]; exact lay_len h1l
  obtain ⟨W1, hW1⟩ : ∃ W1, W1 = W0.setRow w.heap.size L1.toArray := ⟨_, rfl⟩
  rw [← hL1e, ← hW1] at hcp1
  have hW1g : W1.heap[w.heap.size]? = some (.cells L1.toArray 30 (0, 0)) := by rw [hW1]; exact setRow_heap W0 w.heap.size _ _ _ _ hW0g
  have hk1 : Below w.heap.size w W1 := by rw [hW1]; exact hk0.trans ⟨rfl, rfl, rfl, by simp, fun k hk => setRow_other W0 w.heap.size k _ (by omega)⟩
  have hE1 := (h.drop (k := i) (by omega)).keep (Keep.of_below hk1 (fun _ => False)) (fun h => h)
  rw [if_neg (by omega)] at hE1
  have hcp2 : ∀ ty dc sc, (Builtin.copy_ #[26, 26] ty #[.slice (some ⟨w.heap.size, (i + 1) * 5, none⟩) (n - i) dc, .slice (some ⟨g, off + i * 5, none⟩) (n - i) sc]).run Try.prog W1.drew = .ok (goInt (Nat.min (n - i) (n - i) : Nat)) (W1.drew.setRow w.heap.size (lay L1 ((i + 1) * 5) (ec (l.drop i))).toArray) := fun ty dc sc =>
    copyE W1.drew ty w.heap.size ((i + 1) * 5) (n - i) dc ⟨g, off + i * 5, none⟩ (n - i) sc L1 (ec (l.drop i)) hW1g (by rw [ec_len, hdl]; congr 1; simp only [Nat.min_def]; split <;> omega)
      (fun j v hj => by rw [Addr.add_lit]; exact hE1.cells j v hj) (by rw [ec_len, hdl]; omega) (ec_one _)
  obtain ⟨W2, hW2⟩ : ∃ W2, W2 = W1.drew.setRow w.heap.size (lay L1 ((i + 1) * 5) (ec (l.drop i))).toArray := ⟨_, rfl⟩
  have hE : EB W2 w.heap.size 0 cap (l.take i ++ x :: l.drop i) := EB.ins2 (i := i) (L := L) (by omega) (by omega) hLc (by omega) hcm (by rw [hW2, ← hL1e]; exact setRow_heap W1.drew w.heap.size _ _ _ _ hW1g)
  have hk2 : Below w.heap.size w W2 := by rw [hW2]; exact hk1.trans ⟨rfl, rfl, rfl, by simp, fun k hk => setRow_other W1.drew w.heap.size k _ (by have := hk1.size; omega)⟩
  rw [← hW2] at hcp2
  have hll : (l.take i ++ x :: l.drop i).length = n + 1 := by simp; omega
  have HE := hid hE
  have HK := hid hk2
  have HL := hid hll
  clear hE hk2 hk1 hk0 hE1 h hdr hfo hW0g hW0v hW1g hW0 hW1 hW2 hL1e hx hll hLc
  go_enter Try.func30, Try.ntmps30
  go_wp2_with (first | (at_builtin; refine wpList_app_run _ rfl _ _ _ _ rfl _ _ rfl rfl (hgr _) ?_) | (at_builtin; refine wpList_copy_run _ rfl _ _ 26 26 rfl _ _ rfl rfl (hcp1 _ _) ?_))
  go_region_law_o (refine step_copy_run rfl _ _ 26 26 rfl _ _ (by simp [Act.eval, Act.put]) (by simp [Act.eval, Act.put]) (hcp2 _ _ _) ?_)
  go_wp2_with fail
  go_ret
  exact ⟨_, rfl, .inr ⟨w.heap.size, 0, cap, congrArg (fun k => Value.slice (some ⟨w.heap.size, 0, none⟩) k cap) HL.out.symm, HE.out⟩, Keep.of_below HK.out _, .inr rfl⟩
/-- slices.Insert of one event, all cases -/
theorem insert_any (v : Value) (l : List Evt) (x : Evt) (i vb : Nat) (w : World) (hi : i ≤ l.length) (h : EOwn w v l) (hx : w.heap[vb]? = some (.cells x.cells.toArray 30 (0, 0))) (hne : blkOf v ≠ some vb) (hlen : l.length ≤ 900) :
    Calls Try.prog 30 #[v, .int .i64 i, .slice (some ⟨vb, 0, none⟩) 1 1] w (InsP w v (l.take i ++ x :: l.drop i)) := by
  by_cases hn : i = l.length
  · have := ins_end v l x l.length vb w rfl h hx hlen
    rw [hn, List.take_length, List.drop_length]
    exact this
  · rcases h with ⟨rfl, rfl⟩ | ⟨g, off, c, rfl, hE⟩
    · exact absurd (Nat.le_zero.1 hi) hn
    · by_cases hroom : l.length + 1 ≤ c
      · refine (ins_shift g off c vb l x l.length i w rfl (by omega) (by omega) hE hroom hx (fun h => hne (by rw [h]; rfl))).mono ?_
        rintro e w' ⟨rfl, h1, h2⟩
        refine ⟨_, rfl, .inr ⟨g, off, c, ?_, h1⟩, h2.mono fun i _ h => by subst h; rfl, .inl rfl⟩
        congr 1
        simp; omega
      · exact ins_grow g off c vb l x l.length i w rfl (by omega) hlen hE hroom hx
end Go.Proofs.Ytbpbeogipgfjiaa
/- The order of events, on the machine; slices.BinarySearchFunc. -/
namespace Go.Proofs.Ytbpbeogipgfjiaa
open Go Go.RowKit
def c27 : FnC := ⟨(.seq (.reg [⟨(.some 2), (.box 5 (.t 0)), .none⟩, ⟨(.some 3), (.box 5 (.t 1)), .none⟩, ⟨(.some 4), (.mv (.c (.int .i64 0))), .none⟩]) (.seq (.reg [⟨(.some 5), (.faddr 0 (.t 2)), .none⟩, ⟨(.some 6), (.load .any .false 1 (.t 5)), .none⟩, ⟨(.some 7), (.faddr 0 (.t 3)), .none⟩, ⟨(.some 8), (.load .any .false 1 (.t 7)), .none⟩, ⟨(.some 9), (.call .any 29 [(.t 6), (.t 8)]), .none⟩, ⟨(.some 10), (.faddr 1 (.t 2)), .none⟩, ⟨(.some 11), (.load .any .false 1 (.t 10)), .none⟩, ⟨(.some 12), (.faddr 1 (.t 3)), .none⟩, ⟨(.some 13), (.load .any .false 1 (.t 12)), .none⟩, ⟨(.some 14), (.call .any 29 [(.t 11), (.t 13)]), .none⟩, ⟨(.some 15), (.bsl [(.int .i64 0)] 2 [(0, (.t 9)), (1, (.t 14))]), .none⟩, ⟨(.some 16), (.call .any 28 [(.t 15)]), .none⟩, ⟨(.some 4), (.mv (.t 16)), .none⟩]) .ret)), [(.tmp 4)], 2, []⟩
def c28_1 : C := .seq (.reg [⟨(.some 9), (.bin .lss .false (.t 8) (.t 7)), .none⟩]) (.seq (.cond (.t 9) .skip (.exit 0)) (.seq (.block 1 (.seq (.reg [⟨(.some 10), (.iaddr 1 (.t 6) (.t 8)), .none⟩, ⟨(.some 11), (.load .any .false 1 (.t 10)), .none⟩, ⟨(.some 5), (.mv (.t 11)), .none⟩]) (.seq (.reg [⟨(.some 12), (.mv (.t 5)), .none⟩, ⟨(.some 13), (.mv (.t 3)), .none⟩, ⟨(.some 14), (.bin .neq .false (.t 12) (.t 13)), .none⟩]) (.cond (.t 14) (.seq (.reg [⟨(.some 15), (.mv (.t 5)), .none⟩, ⟨(.some 2), (.mv (.t 15)), .none⟩]) .ret) .skip)))) (.reg [⟨(.some 16), (.bin .add .false (.t 8) (.c (.int .i64 1))), .none⟩, ⟨(.some 8), (.mv (.t 16)), .none⟩])))
def c28 : FnC := ⟨(.seq (.reg [⟨(.some 2), (.mv (.c (.int .i64 0))), .none⟩]) (.seq (.reg [⟨(.some 3), (.mv (.c (.int .i64 0))), .none⟩]) (.seq (.seq (.reg [⟨(.some 6), (.mv (.t 0)), .none⟩, ⟨(.some 7), (.len .false (.t 6)), .none⟩, ⟨(.some 8), (.mv (.c (.int .i64 0))), .none⟩]) (.block 0 (.loop c28_1))) (.seq (.reg [⟨(.some 17), (.mv (.t 3)), .none⟩, ⟨(.some 2), (.mv (.t 17)), .none⟩]) .ret)))), [(.tmp 2)], 1, []⟩
def c29 : FnC := ⟨(.seq (.reg [⟨(.some 4), (.mv (.c (.int .i64 0))), .none⟩]) (.seq (.reg [⟨(.some 7), (.mv (.t 0)), .none⟩, ⟨(.some 8), (.call .any 36 [(.t 7)]), .none⟩, ⟨(.some 5), (.mv (.t 8)), .none⟩]) (.seq (.reg [⟨(.some 9), (.mv (.t 1)), .none⟩, ⟨(.some 10), (.call .any 36 [(.t 9)]), .none⟩, ⟨(.some 6), (.mv (.t 10)), .none⟩]) (.seq (.seq (.reg [⟨(.some 11), (.mv (.t 5)), .none⟩]) (.cond (.t 11) (.seq (.seq (.reg [⟨(.some 12), (.mv (.t 6)), .none⟩]) (.cond (.t 12) (.seq (.reg [⟨(.some 4), (.mv (.c (.int .i64 0))), .none⟩]) .ret) .skip)) (.seq (.reg [⟨(.some 4), (.mv (.c (.int .i64 (-1)))), .none⟩]) .ret)) .skip)) (.seq (.seq (.reg [⟨(.some 13), (.mv (.t 6)), .none⟩]) (.cond (.t 13) (.seq (.reg [⟨(.some 4), (.mv (.c (.int .i64 1))), .none⟩]) .ret) .skip)) (.seq (.seq (.reg [⟨(.some 14), (.mv (.t 0)), .none⟩, ⟨(.some 15), (.mv (.t 1)), .none⟩, ⟨(.some 16), (.bin .lss .false (.t 14) (.t 15)), .none⟩]) (.cond (.t 16) (.seq (.reg [⟨(.some 4), (.mv (.c (.int .i64 (-1)))), .none⟩]) .ret) .skip)) (.seq (.seq (.reg [⟨(.some 17), (.mv (.t 0)), .none⟩, ⟨(.some 18), (.mv (.t 1)), .none⟩, ⟨(.some 19), (.bin .gtr .false (.t 17) (.t 18)), .none⟩]) (.cond (.t 19) (.seq (.reg [⟨(.some 4), (.mv (.c (.int .i64 1))), .none⟩]) .ret) .skip)) (.seq (.reg [⟨(.some 4), (.mv (.c (.int .i64 0))), .none⟩]) .ret)))))))), [(.tmp 4)], 2, []⟩
def c36 : FnC := ⟨(.seq (.reg [⟨(.some 2), (.mv (.c (.bool .false))), .none⟩]) (.seq (.reg [⟨(.some 3), (.mv (.t 0)), .none⟩, ⟨(.some 4), (.mv (.t 0)), .none⟩, ⟨(.some 5), (.bin .neq .false (.t 3) (.t 4)), .none⟩, ⟨(.some 2), (.mv (.t 5)), .none⟩]) .ret)), [(.tmp 2)], 1, []⟩
set_option maxRecDepth 10000
set_option linter.unusedSimpArgs false
def Evt.cv (p : Evt) : List AV := [.int .i64 p.at_, .int .i64 p.seq, .int .i64 p.kind, .int .i64 p.node, .int .i64 p.arg]
def cmpI (a b : Int) : Int := if a < b then -1 else if b < a then 1 else 0
def cmpE (a b : Evt) : Int := if cmpI a.at_ b.at_ = 0 then cmpI a.seq b.seq else cmpI a.at_ b.at_
theorem cmpE_neg {a b : Evt} : cmpE a b < 0 ↔ a.at_ < b.at_ ∨ (a.at_ = b.at_ ∧ a.seq < b.seq) := by
  unfold cmpE cmpI
  by_cases h1 : a.at_ < b.at_
  · simp [h1]
  · by_cases h2 : b.at_ < a.at_
    · simp [h1, h2]; omega
    · have h3 : a.at_ = b.at_ := by omega
      by_cases h4 : a.seq < b.seq
      · simp [h3, h4]
      · by_cases h5 : b.seq < a.seq <;> simp [h3, h4, h5]
section
variable {T : Nat → Option FnC} {ext : CallT}
theorem nan_ev (h36 : T 36 = some c36) (a : Int) : evC T ext 36 [.int .i64 a] none = some (.bool false, none) := by
  refine evC_intro c36 h36 rfl ?_
  simp [c36, frz_free, frz_map, AV.frz, AV.frz0, kill_free, kill_map, AV.kill, AV.kill0, killE_at, killM_at, Slot.kill_v, Slot.kill_a, Slot.kill_mk, m_kill, m_kill0, e_rn, -Option.bind_some, ↓bind_some2, putE_at, setM_at, setO_at, stripE_at, stripM_at, Slot.strip_v, Slot.strip_a, Slot.strip_mk, An.strip, argE_at, noM_at, objE_at, m_init, m_put, m_put0, m_row, m_obj, m_strip, m_stripA, m_stripX, ↓seqK_nrm, ↓seqK_exit, ↓seqK_ret, ↓regK_at, ↓blkK_nrm, ↓blkK_exit, ↓blkK_ret, ↓condC_true, ↓condC_false, ↓guardC_bool, ↓guardC_tup, ↓r_skip, ↓r_seq, ↓r_reg, ↓r_cond, ↓r_block, ↓r_loop, ↓r_exit, ↓r_ret, ↓a_nrm, ↓a_exit, ↓a_ret, ↓o_nil, ↓o_cons, ↓s_plain, ↓s_guard, e_none, e_set, e_newp, e_newr, e_app, e_obj, e_mk, K.run, Opd.get, setRowC, AV.leaf, AV.whole, AV.cells, binC, mmC, eqC, natOf, loadC, loadI, Cl.okPtr, Cl.okMem, fillC, fin, finV, objAt, unname, resC, AV.free, AV.free0, AV.back, AV.backN, AV.isObj, AV.named, pack, lendAll, lend, objsOf, endC, AV.elems, Opd.an, zeroAn, elsOk_nil, elsOk_cons, elsOk_append, elsOk_map, elsOk_take, elsOk_drop, take_map_len, List.range_succ, List.range_zero, List.nil_append, List.cons_append]
theorem compare_ev (h36 : T 36 = some c36) (h29 : T 29 = some c29) (a b : Int) : evC T ext 29 [.int .i64 a, .int .i64 b] none = some (.int .i64 (cmpI a b), none) := by
  have n1 := nan_ev (ext := ext) h36 a
  have n2 := nan_ev (ext := ext) h36 b
  refine evC_intro c29 h29 rfl ?_
  unfold cmpI
  by_cases h1 : a < b
  · simp [c29, frz_free, frz_map, AV.frz, AV.frz0, kill_free, kill_map, AV.kill, AV.kill0, killE_at, killM_at, Slot.kill_v, Slot.kill_a, Slot.kill_mk, m_kill, m_kill0, e_rn, -Option.bind_some, ↓bind_some2, putE_at, setM_at, setO_at, stripE_at, stripM_at, Slot.strip_v, Slot.strip_a, Slot.strip_mk, An.strip, argE_at, noM_at, objE_at, m_init, m_put, m_put0, m_row, m_obj, m_strip, m_stripA, m_stripX, ↓seqK_nrm, ↓seqK_exit, ↓seqK_ret, ↓regK_at, ↓blkK_nrm, ↓blkK_exit, ↓blkK_ret, ↓condC_true, ↓condC_false, ↓guardC_bool, ↓guardC_tup, ↓r_skip, ↓r_seq, ↓r_reg, ↓r_cond, ↓r_block, ↓r_loop, ↓r_exit, ↓r_ret, ↓a_nrm, ↓a_exit, ↓a_ret, ↓o_nil, ↓o_cons, ↓s_plain, ↓s_guard, e_none, e_set, e_newp, e_newr, e_app, e_obj, e_mk, K.run, Opd.get, setRowC, AV.leaf, AV.whole, AV.cells, binC, mmC, eqC, natOf, loadC, loadI, Cl.okPtr, Cl.okMem, fillC, fin, finV, objAt, unname, resC, AV.free, AV.free0, AV.back, AV.backN, AV.isObj, AV.named, pack, lendAll, lend, objsOf, endC, AV.elems, Opd.an, zeroAn, elsOk_nil, elsOk_cons, elsOk_append, elsOk_map, elsOk_take, elsOk_drop, take_map_len, List.range_succ, List.range_zero, List.nil_append, List.cons_append, n1, n2, h1]
  · by_cases h2 : b < a <;> simp [c29, frz_free, frz_map, AV.frz, AV.frz0, kill_free, kill_map, AV.kill, AV.kill0, killE_at, killM_at, Slot.kill_v, Slot.kill_a, Slot.kill_mk, m_kill, m_kill0, e_rn, -Option.bind_some, ↓bind_some2, putE_at, setM_at, setO_at, stripE_at, stripM_at, Slot.strip_v, Slot.strip_a, Slot.strip_mk, An.strip, argE_at, noM_at, objE_at, m_init, m_put, m_put0, m_row, m_obj, m_strip, m_stripA, m_stripX, ↓seqK_nrm, ↓seqK_exit, ↓seqK_ret, ↓regK_at, ↓blkK_nrm, ↓blkK_exit, ↓blkK_ret, ↓condC_true, ↓condC_false, ↓guardC_bool, ↓guardC_tup, ↓r_skip, ↓r_seq, ↓r_reg, ↓r_cond, ↓r_block, ↓r_loop, ↓r_exit, ↓r_ret, ↓a_nrm, ↓a_exit, ↓a_ret, ↓o_nil, ↓o_cons, ↓s_plain, ↓s_guard, e_none, e_set, e_newp, e_newr, e_app, e_obj, e_mk, K.run, Opd.get, setRowC, AV.leaf, AV.whole, AV.cells, binC, mmC, eqC, natOf, loadC, loadI, Cl.okPtr, Cl.okMem, fillC, fin, finV, objAt, unname, resC, AV.free, AV.free0, AV.back, AV.backN, AV.isObj, AV.named, pack, lendAll, lend, objsOf, endC, AV.elems, Opd.an, zeroAn, elsOk_nil, elsOk_cons, elsOk_append, elsOk_map, elsOk_take, elsOk_drop, take_map_len, List.range_succ, List.range_zero, List.nil_append, List.cons_append, n1, n2, h1, h2]
theorem or_lp (a b : Int) (r : RV) (k : Ex → MSt → Option RV) (v : Int) (hv : v = if a = 0 then b else a) (hk : ∀ s : MSt, v = 0 → (s.env 3).v = .int .i64 0 → k (.exit 0) s = some r) (hr : ∀ s : MSt, (s.env 2).v = .int .i64 v → k .ret s = some r) :
    ∀ (n i : Nat), i + n = 2 → (1 ≤ i → a = 0) → (2 ≤ i → b = 0) → ∀ s : MSt, (s.env 8).v = .int .i64 i → (s.env 7).v = .int .i64 2 → (s.env 6).v = .sl false [[.int .i64 a], [.int .i64 b]] → (s.env 3).v = .int .i64 0 → evL T ext c28_1 s k = some r := by
  intro n
  induction n with
  | zero =>
    intro i hi ha hb s e8 e7 e6 e3
    obtain rfl : i = 2 := by omega
    refine evL_intro ?_
    simp [c28_1, frz_free, frz_map, AV.frz, AV.frz0, kill_free, kill_map, AV.kill, AV.kill0, killE_at, killM_at, Slot.kill_v, Slot.kill_a, Slot.kill_mk, m_kill, m_kill0, e_rn, -Option.bind_some, ↓bind_some2, putE_at, setM_at, setO_at, stripE_at, stripM_at, Slot.strip_v, Slot.strip_a, Slot.strip_mk, An.strip, argE_at, noM_at, objE_at, m_init, m_put, m_put0, m_row, m_obj, m_strip, m_stripA, m_stripX, ↓seqK_nrm, ↓seqK_exit, ↓seqK_ret, ↓regK_at, ↓blkK_nrm, ↓blkK_exit, ↓blkK_ret, ↓condC_true, ↓condC_false, ↓guardC_bool, ↓guardC_tup, ↓r_skip, ↓r_seq, ↓r_reg, ↓r_cond, ↓r_block, ↓r_loop, ↓r_exit, ↓r_ret, ↓a_nrm, ↓a_exit, ↓a_ret, ↓o_nil, ↓o_cons, ↓s_plain, ↓s_guard, e_none, e_set, e_newp, e_newr, e_app, e_obj, e_mk, K.run, Opd.get, setRowC, AV.leaf, AV.whole, AV.cells, binC, mmC, eqC, natOf, loadC, loadI, Cl.okPtr, Cl.okMem, fillC, fin, finV, objAt, unname, resC, AV.free, AV.free0, AV.back, AV.backN, AV.isObj, AV.named, pack, lendAll, lend, objsOf, endC, AV.elems, Opd.an, zeroAn, elsOk_nil, elsOk_cons, elsOk_append, elsOk_map, elsOk_take, elsOk_drop, take_map_len, List.range_succ, List.range_zero, List.nil_append, List.cons_append, e8, e7]
    exact hk _ (by rw [hv, if_pos (ha (by omega)), hb (by omega)]) (by simpa using e3)
  | succ n ih =>
    intro i hi ha hb s e8 e7 e6 e3
    refine evL_intro ?_
    rcases (by omega : i = 0 ∨ i = 1) with rfl | rfl
    · by_cases h : a = 0
      · simp [c28_1, frz_free, frz_map, AV.frz, AV.frz0, kill_free, kill_map, AV.kill, AV.kill0, killE_at, killM_at, Slot.kill_v, Slot.kill_a, Slot.kill_mk, m_kill, m_kill0, e_rn, -Option.bind_some, ↓bind_some2, putE_at, setM_at, setO_at, stripE_at, stripM_at, Slot.strip_v, Slot.strip_a, Slot.strip_mk, An.strip, argE_at, noM_at, objE_at, m_init, m_put, m_put0, m_row, m_obj, m_strip, m_stripA, m_stripX, ↓seqK_nrm, ↓seqK_exit, ↓seqK_ret, ↓regK_at, ↓blkK_nrm, ↓blkK_exit, ↓blkK_ret, ↓condC_true, ↓condC_false, ↓guardC_bool, ↓guardC_tup, ↓r_skip, ↓r_seq, ↓r_reg, ↓r_cond, ↓r_block, ↓r_loop, ↓r_exit, ↓r_ret, ↓a_nrm, ↓a_exit, ↓a_ret, ↓o_nil, ↓o_cons, ↓s_plain, ↓s_guard, e_none, e_set, e_newp, e_newr, e_app, e_obj, e_mk, K.run, Opd.get, setRowC, AV.leaf, AV.whole, AV.cells, binC, mmC, eqC, natOf, loadC, loadI, Cl.okPtr, Cl.okMem, fillC, fin, finV, objAt, unname, resC, AV.free, AV.free0, AV.back, AV.backN, AV.isObj, AV.named, pack, lendAll, lend, objsOf, endC, AV.elems, Opd.an, zeroAn, elsOk_nil, elsOk_cons, elsOk_append, elsOk_map, elsOk_take, elsOk_drop, take_map_len, List.range_succ, List.range_zero, List.nil_append, List.cons_append, e8, e7, e6, e3, h]
        refine ih 1 (by omega) (fun _ => h) (fun h => by omega) _ ?_ ?_ ?_ ?_ <;> first | (simp [e8, e7, e6, e3, h]; done) | (simp [e8]; rfl)
      · simp [c28_1, frz_free, frz_map, AV.frz, AV.frz0, kill_free, kill_map, AV.kill, AV.kill0, killE_at, killM_at, Slot.kill_v, Slot.kill_a, Slot.kill_mk, m_kill, m_kill0, e_rn, -Option.bind_some, ↓bind_some2, putE_at, setM_at, setO_at, stripE_at, stripM_at, Slot.strip_v, Slot.strip_a, Slot.strip_mk, An.strip, argE_at, noM_at, objE_at, m_init, m_put, m_put0, m_row, m_obj, m_strip, m_stripA, m_stripX, ↓seqK_nrm, ↓seqK_exit, ↓seqK_ret, ↓regK_at, ↓blkK_nrm, ↓blkK_exit, ↓blkK_ret, ↓condC_true, ↓condC_false, ↓guardC_bool, ↓guardC_tup, ↓r_skip, ↓r_seq, ↓r_reg, ↓r_cond, ↓r_block, ↓r_loop, ↓r_exit, ↓r_ret, ↓a_nrm, ↓a_exit, ↓a_ret, ↓o_nil, ↓o_cons, ↓s_plain, ↓s_guard, e_none, e_set, e_newp, e_newr, e_app, e_obj, e_mk, K.run, Opd.get, setRowC, AV.leaf, AV.whole, AV.cells, binC, mmC, eqC, natOf, loadC, loadI, Cl.okPtr, Cl.okMem, fillC, fin, finV, objAt, unname, resC, AV.free, AV.free0, AV.back, AV.backN, AV.isObj, AV.named, pack, lendAll, lend, objsOf, endC, AV.elems, Opd.an, zeroAn, elsOk_nil, elsOk_cons, elsOk_append, elsOk_map, elsOk_take, elsOk_drop, take_map_len, List.range_succ, List.range_zero, List.nil_append, List.cons_append, e8, e7, e6, e3, h]
        exact hr _ (by simp [hv, h])
    · have ha' := ha (by omega)
      by_cases h : b = 0
      · simp [c28_1, frz_free, frz_map, AV.frz, AV.frz0, kill_free, kill_map, AV.kill, AV.kill0, killE_at, killM_at, Slot.kill_v, Slot.kill_a, Slot.kill_mk, m_kill, m_kill0, e_rn, -Option.bind_some, ↓bind_some2, putE_at, setM_at, setO_at, stripE_at, stripM_at, Slot.strip_v, Slot.strip_a, Slot.strip_mk, An.strip, argE_at, noM_at, objE_at, m_init, m_put, m_put0, m_row, m_obj, m_strip, m_stripA, m_stripX, ↓seqK_nrm, ↓seqK_exit, ↓seqK_ret, ↓regK_at, ↓blkK_nrm, ↓blkK_exit, ↓blkK_ret, ↓condC_true, ↓condC_false, ↓guardC_bool, ↓guardC_tup, ↓r_skip, ↓r_seq, ↓r_reg, ↓r_cond, ↓r_block, ↓r_loop, ↓r_exit, ↓r_ret, ↓a_nrm, ↓a_exit, ↓a_ret, ↓o_nil, ↓o_cons, ↓s_plain, ↓s_guard, e_none, e_set, e_newp, e_newr, e_app, e_obj, e_mk, K.run, Opd.get, setRowC, AV.leaf, AV.whole, AV.cells, binC, mmC, eqC, natOf, loadC, loadI, Cl.okPtr, Cl.okMem, fillC, fin, finV, objAt, unname, resC, AV.free, AV.free0, AV.back, AV.backN, AV.isObj, AV.named, pack, lendAll, lend, objsOf, endC, AV.elems, Opd.an, zeroAn, elsOk_nil, elsOk_cons, elsOk_append, elsOk_map, elsOk_take, elsOk_drop, take_map_len, List.range_succ, List.range_zero, List.nil_append, List.cons_append, e8, e7, e6, e3, h]
        refine ih 2 (by omega) (fun _ => ha') (fun _ => h) _ ?_ ?_ ?_ ?_ <;> first | (simp [e8, e7, e6, e3, h]; done) | (simp [e8]; rfl)
      · simp [c28_1, frz_free, frz_map, AV.frz, AV.frz0, kill_free, kill_map, AV.kill, AV.kill0, killE_at, killM_at, Slot.kill_v, Slot.kill_a, Slot.kill_mk, m_kill, m_kill0, e_rn, -Option.bind_some, ↓bind_some2, putE_at, setM_at, setO_at, stripE_at, stripM_at, Slot.strip_v, Slot.strip_a, Slot.strip_mk, An.strip, argE_at, noM_at, objE_at, m_init, m_put, m_put0, m_row, m_obj, m_strip, m_stripA, m_stripX, ↓seqK_nrm, ↓seqK_exit, ↓seqK_ret, ↓regK_at, ↓blkK_nrm, ↓blkK_exit, ↓blkK_ret, ↓condC_true, ↓condC_false, ↓guardC_bool, ↓guardC_tup, ↓r_skip, ↓r_seq, ↓r_reg, ↓r_cond, ↓r_block, ↓r_loop, ↓r_exit, ↓r_ret, ↓a_nrm, ↓a_exit, ↓a_ret, ↓o_nil, ↓o_cons, ↓s_plain, ↓s_guard, e_none, e_set, e_newp, e_newr, e_app, e_obj, e_mk, K.run, Opd.get, setRowC, AV.leaf, AV.whole, AV.cells, binC, mmC, eqC, natOf, loadC, loadI, Cl.okPtr, Cl.okMem, fillC, fin, finV, objAt, unname, resC, AV.free, AV.free0, AV.back, AV.backN, AV.isObj, AV.named, pack, lendAll, lend, objsOf, endC, AV.elems, Opd.an, zeroAn, elsOk_nil, elsOk_cons, elsOk_append, elsOk_map, elsOk_take, elsOk_drop, take_map_len, List.range_succ, List.range_zero, List.nil_append, List.cons_append, e8, e7, e6, e3, h]
        exact hr _ (by simp [hv, ha'])
theorem or_ev (h28 : T 28 = some c28) (a b : Int) : evC T ext 28 [.sl false [[.int .i64 a], [.int .i64 b]]] none = some (.int .i64 (if a = 0 then b else a), none) := by
  refine evC_intro c28 h28 rfl ?_
  simp [c28, frz_free, frz_map, AV.frz, AV.frz0, kill_free, kill_map, AV.kill, AV.kill0, killE_at, killM_at, Slot.kill_v, Slot.kill_a, Slot.kill_mk, m_kill, m_kill0, e_rn, -Option.bind_some, ↓bind_some2, putE_at, setM_at, setO_at, stripE_at, stripM_at, Slot.strip_v, Slot.strip_a, Slot.strip_mk, An.strip, argE_at, noM_at, objE_at, m_init, m_put, m_put0, m_row, m_obj, m_strip, m_stripA, m_stripX, ↓seqK_nrm, ↓seqK_exit, ↓seqK_ret, ↓regK_at, ↓blkK_nrm, ↓blkK_exit, ↓blkK_ret, ↓condC_true, ↓condC_false, ↓guardC_bool, ↓guardC_tup, ↓r_skip, ↓r_seq, ↓r_reg, ↓r_cond, ↓r_block, ↓r_loop, ↓r_exit, ↓r_ret, ↓a_nrm, ↓a_exit, ↓a_ret, ↓o_nil, ↓o_cons, ↓s_plain, ↓s_guard, e_none, e_set, e_newp, e_newr, e_app, e_obj, e_mk, K.run, Opd.get, setRowC, AV.leaf, AV.whole, AV.cells, binC, mmC, eqC, natOf, loadC, loadI, Cl.okPtr, Cl.okMem, fillC, fin, finV, objAt, unname, resC, AV.free, AV.free0, AV.back, AV.backN, AV.isObj, AV.named, pack, lendAll, lend, objsOf, endC, AV.elems, Opd.an, zeroAn, elsOk_nil, elsOk_cons, elsOk_append, elsOk_map, elsOk_take, elsOk_drop, take_map_len, List.range_succ, List.range_zero, List.nil_append, List.cons_append]
  refine or_lp a b _ _ _ rfl (fun s hv e3 => ?_) (fun s e2 => ?_) 2 0 (by omega) (by omega) (by omega) _ ?_ ?_ ?_ ?_ <;> simp [frz_free, frz_map, AV.frz, AV.frz0, kill_free, kill_map, AV.kill, AV.kill0, killE_at, killM_at, Slot.kill_v, Slot.kill_a, Slot.kill_mk, m_kill, m_kill0, e_rn, -Option.bind_some, ↓bind_some2, putE_at, setM_at, setO_at, stripE_at, stripM_at, Slot.strip_v, Slot.strip_a, Slot.strip_mk, An.strip, argE_at, noM_at, objE_at, m_init, m_put, m_put0, m_row, m_obj, m_strip, m_stripA, m_stripX, ↓seqK_nrm, ↓seqK_exit, ↓seqK_ret, ↓regK_at, ↓blkK_nrm, ↓blkK_exit, ↓blkK_ret, ↓condC_true, ↓condC_false, ↓guardC_bool, ↓guardC_tup, ↓r_skip, ↓r_seq, ↓r_reg, ↓r_cond, ↓r_block, ↓r_loop, ↓r_exit, ↓r_ret, ↓a_nrm, ↓a_exit, ↓a_ret, ↓o_nil, ↓o_cons, ↓s_plain, ↓s_guard, e_none, e_set, e_newp, e_newr, e_app, e_obj, e_mk, K.run, Opd.get, setRowC, AV.leaf, AV.whole, AV.cells, binC, mmC, eqC, natOf, loadC, loadI, Cl.okPtr, Cl.okMem, fillC, fin, finV, objAt, unname, resC, AV.free, AV.free0, AV.back, AV.backN, AV.isObj, AV.named, pack, lendAll, lend, objsOf, endC, AV.elems, Opd.an, zeroAn, elsOk_nil, elsOk_cons, elsOk_append, elsOk_map, elsOk_take, elsOk_drop, take_map_len, List.range_succ, List.range_zero, List.nil_append, List.cons_append, *]
theorem cmp_ev (h27 : T 27 = some c27) (h28 : T 28 = some c28) (h36 : T 36 = some c36) (h29 : T 29 = some c29) (a b : Evt) : evC T ext 27 [.agg a.cv, .agg b.cv] none = some (.int .i64 (cmpE a b), none) := by
  have h1 := compare_ev (ext := ext) h36 h29 a.at_ b.at_
  have h2 := compare_ev (ext := ext) h36 h29 a.seq b.seq
  have h3 := or_ev (ext := ext) h28 (cmpI a.at_ b.at_) (cmpI a.seq b.seq)
  refine evC_intro c27 h27 rfl ?_
  simp [c27, frz_free, frz_map, AV.frz, AV.frz0, kill_free, kill_map, AV.kill, AV.kill0, killE_at, killM_at, Slot.kill_v, Slot.kill_a, Slot.kill_mk, m_kill, m_kill0, e_rn, -Option.bind_some, ↓bind_some2, putE_at, setM_at, setO_at, stripE_at, stripM_at, Slot.strip_v, Slot.strip_a, Slot.strip_mk, An.strip, argE_at, noM_at, objE_at, m_init, m_put, m_put0, m_row, m_obj, m_strip, m_stripA, m_stripX, ↓seqK_nrm, ↓seqK_exit, ↓seqK_ret, ↓regK_at, ↓blkK_nrm, ↓blkK_exit, ↓blkK_ret, ↓condC_true, ↓condC_false, ↓guardC_bool, ↓guardC_tup, ↓r_skip, ↓r_seq, ↓r_reg, ↓r_cond, ↓r_block, ↓r_loop, ↓r_exit, ↓r_ret, ↓a_nrm, ↓a_exit, ↓a_ret, ↓o_nil, ↓o_cons, ↓s_plain, ↓s_guard, e_none, e_set, e_newp, e_newr, e_app, e_obj, e_mk, K.run, Opd.get, setRowC, AV.leaf, AV.whole, AV.cells, binC, mmC, eqC, natOf, loadC, loadI, Cl.okPtr, Cl.okMem, fillC, fin, finV, objAt, unname, resC, AV.free, AV.free0, AV.back, AV.backN, AV.isObj, AV.named, pack, lendAll, lend, objsOf, endC, AV.elems, Opd.an, zeroAn, elsOk_nil, elsOk_cons, elsOk_append, elsOk_map, elsOk_take, elsOk_drop, take_map_len, List.range_succ, List.range_zero, List.nil_append, List.cons_append, Evt.cv, h1, h2, h3]
  rfl
end
end Go.Proofs.Ytbpbeogipgfjiaa
/- slices.BinarySearchFunc over events. -/
namespace Go.Proofs.Ytbpbeogipgfjiaa
open Go Go.RowKit
set_option linter.unusedSimpArgs false
/-- no objects -/
def noObjs : Objs := ⟨fun _ _ _ _ => False, fun h => h.elim, fun h => h.elim, fun h => h.elim⟩
def noExt : CallT := fun _ _ _ => none
theorem mixed : Try.prog.follows .mixedOrders = true := by kernel_rfl
theorem fn_step {f g : Nat} {c d : FnC} {r : Option FnC} (h : (if f = g then some d else r) = some c) (hd : FnOk Try.prog g d) (hr : r = some c → FnOk Try.prog f c) : FnOk Try.prog f c := by
  split at h
  · rename_i e; subst e; injection h with h; subst h; exact hd
  · exact hr h
def cmpT : Nat → Option FnC := fun f => if f = 27 then some c27 else if f = 28 then some c28 else if f = 29 then some c29 else if f = 36 then some c36 else none
theorem ok27 : FnOk Try.prog 27 c27 := ⟨fun xs w => by kernel_rfl, _, Try.func27, by kernel_rfl⟩
theorem ok28 : FnOk Try.prog 28 c28 := ⟨fun xs w => by kernel_rfl, _, Try.func28, by kernel_rfl⟩
theorem ok29 : FnOk Try.prog 29 c29 := ⟨fun xs w => by kernel_rfl, _, Try.func29, by kernel_rfl⟩
theorem ok36 : FnOk Try.prog 36 c36 := ⟨fun xs w => by kernel_rfl, _, Try.func36, by kernel_rfl⟩
theorem cmpT_ok (f : Nat) (c : FnC) (h : cmpT f = some c) : FnOk Try.prog f c := fn_step h ok27 fun h => fn_step h ok28 fun h => fn_step h ok29 fun h => fn_step h ok36 fun h => by cases h
theorem cmp_any (a b : Evt) (w : World) : Calls Try.prog 27 #[a.val, b.val] w fun e w' => e = .returned (.int .i64 (cmpE a b)) ∧ Below w.heap.size w w' := by
  have hC := (ev_sound (O := noObjs) (ext := noExt) mixed cmpT_ok (fun _ _ _ _ h => by cases h) (cmp_ev (T := cmpT) rfl rfl rfl rfl a b)).2 (fun _ _ => False) w [a.val, b.val] (fun _ _ h => h.elim) ⟨_, _, rfl, ⟨_, rfl, _, _, rfl, rfl, rfl, _, _, rfl, rfl, rfl, _, _, rfl, rfl, rfl, _, _, rfl, rfl, rfl, _, _, rfl, rfl, rfl, rfl⟩, _, _, rfl, ⟨_, rfl, _, _, rfl, rfl, rfl, _, _, rfl, rfl, rfl, _, _, rfl, rfl, rfl, _, _, rfl, rfl, rfl, _, _, rfl, rfl, rfl, rfl⟩, rfl⟩
  refine hC.mono ?_
  rintro e w' ⟨v, he, hv, hb⟩
  have hv' : v = .int .i64 (cmpE a b) := hv
  subst he; subst hv'
  exact ⟨rfl, hb⟩
theorem cfp (xs : Array Value) (w : World) : (callFunc 27 xs).run Try.prog w = .ok (.enter 27 xs) w := by kernel_rfl
theorem below_on {W0 W w' : World} (hb : Below W.heap.size W w') (h : Below W0.heap.size W0 W) : Below W0.heap.size W0 w' := h.trans (hb.mono h.size)
theorem below_cell {W w' : World} (hb : Below W.heap.size W w') (a : Addr) (u : Value) (h : W.cell? a = some u) : w'.cell? a = some u := (hb.cell (p := a) (World.block_lt_of_cell? W a h)).trans h
def SearchP (l : List Evt) (x : Evt) (w : World) (e : Ending) (w' : World) : Prop := ∃ (k : Nat) (b : Bool), e = .returned (.tuple #[.int .i64 k, .bool b]) ∧ k ≤ l.length ∧ (∀ j (hj : j < l.length), j < k → cmpE l[j] x < 0) ∧ (∀ j (hj : j < l.length), k ≤ j → 0 ≤ cmpE l[j] x) ∧ Below w.heap.size w w'
set_option maxHeartbeats 1000000 in
theorem search_any (av : Nat → Prop) (v : Value) (l : List Evt) (x : Evt) (w : World) (hsl : ESl av w v l) (hlen : l.length ≤ 900) (hm : ∀ i j (_ : i < j) (hj : j < l.length), cmpE l[j] x < 0 → cmpE l[i] x < 0) :
    Calls Try.prog 26 #[v, x.val, .func (.func 27) #[] #[]] w (SearchP l x w) := by
  obtain ⟨A, c, rfl, hc⟩ := ESl.shape hsl
  unfold Evt.val
  go_enter Try.func26, Try.ntmps26
  go_wp2
  go_loopw [9, 10] (fun i j wr => ∃ p q : Nat, p ≤ q ∧ q ≤ l.length ∧ i = .int .i64 p ∧ j = .int .i64 q ∧ Below (w.heap.size + 1) (w.alloc (.cells #[.int .i64 x.at_, .int .i64 x.seq, .int .i64 x.kind, .int .i64 x.node, .int .i64 x.arg] 30)) wr ∧ (∀ j (hj : j < l.length), j < p → cmpE l[j] x < 0) ∧ (∀ j (hj : j < l.length), q ≤ j → 0 ≤ cmpE l[j] x)) (fun i j _ => (intOf j).toNat - (intOf i).toNat)
  case atStart => exact ⟨0, l.length, by omega, by omega, rfl, rfl, Below.refl _ _, fun j hj h => by omega, fun j hj h => by omega⟩
  case round =>
    obtain ⟨p, q, hpq, hq, rfl, rfl, hB, hlo, hhi⟩ := hrel
    have hB0 : Below w.heap.size w wr := ((Below.refl _ _).alloc (Nat.le_refl _) _).trans (hB.mono (by omega))
    have hbox : wr.heap[w.heap.size]? = some (.cells #[.int .i64 x.at_, .int .i64 x.seq, .int .i64 x.kind, .int .i64 x.node, .int .i64 x.arg] 30 (0, 0)) := (hB.block w.heap.size (by omega)).trans (heap_alloc_new w _)
    have hS := Sl.below hsl hB0
    by_cases hlt : p < q
    · obtain ⟨k, hk⟩ : ∃ k, k = (p + q) / 2 := ⟨_, rfl⟩
      have hkl : k < l.length := by omega
      have hpk : p ≤ k := by omega
      have hkq : k < q := by omega
      have hw1 : IntKind.i64.wrap ((p : Int) + (q : Int)) = ((p + q : Nat) : Int) := by rw [IntWalk.i64_in _ (by omega)]; rfl
      have hkI := hid (show ((p : Int) + (q : Int)) / 2 = (k : Int) by omega)
      have HMS : Hid (k + 1 ≤ q) := hid (by omega)
      clear hk
      obtain ⟨b, off, c', hA, hbl, _, h0, h1, h2, h3, h4⟩ := ESl.at_ hS hkl
      injection hA with hA _ hA'
      subst hA; subst hA'
      have HB := hid hB
      have HLO := hid hlo
      have HHI := hid hhi
      have HM := hid hm
      have HX := hid hbox
      clear hB hB0 hlo hhi hm hS hsl
      go_wp2_with fail
      rw [hkI.out]
      have hcmp := fun W => cmp_any l[k] x W
      obtain ⟨q0, q1, q2, q3, q4⟩ : wr.cell? ⟨w.heap.size, 0, none⟩ = some (.int .i64 x.at_) ∧ wr.cell? ⟨w.heap.size, 1, none⟩ = some (.int .i64 x.seq) ∧ wr.cell? ⟨w.heap.size, 2, none⟩ = some (.int .i64 x.kind) ∧ wr.cell? ⟨w.heap.size, 3, none⟩ = some (.int .i64 x.node) ∧ wr.cell? ⟨w.heap.size, 4, none⟩ = some (.int .i64 x.arg) := by
        have hX := HX.out
        refine ⟨?_, ?_, ?_, ?_, ?_⟩ <;> (rw [cell_of_row wr _ _ _ _ _ hX]; rfl)
      have hszb : w.heap.size < wr.heap.size := lt_of_heap HX.out
      go_region_held3 (fun w' => Below wr.heap.size wr w' ∧ w'.cell? ⟨b, off + k * 5, none⟩ = some (.int .i64 (l[k]).at_) ∧ w'.cell? ⟨b, off + k * 5 + 1, none⟩ = some (.int .i64 (l[k]).seq) ∧ w'.cell? ⟨b, off + k * 5 + 2, none⟩ = some (.int .i64 (l[k]).kind) ∧ w'.cell? ⟨b, off + k * 5 + 3, none⟩ = some (.int .i64 (l[k]).node) ∧ w'.cell? ⟨b, off + k * 5 + 4, none⟩ = some (.int .i64 (l[k]).arg) ∧ w'.cell? ⟨w.heap.size, 0, none⟩ = some (.int .i64 x.at_) ∧ w'.cell? ⟨w.heap.size, 1, none⟩ = some (.int .i64 x.seq) ∧ w'.cell? ⟨w.heap.size, 2, none⟩ = some (.int .i64 x.kind) ∧ w'.cell? ⟨w.heap.size, 3, none⟩ = some (.int .i64 x.node) ∧ w'.cell? ⟨w.heap.size, 4, none⟩ = some (.int .i64 x.arg)) (first | exact ⟨⟨rfl, rfl, rfl, Nat.le_refl _, fun _ _ => rfl⟩, h0, h1, h2, h3, h4, q0, q1, q2, q3, q4⟩ | (refine ⟨below_on hb' ?_, hkc _ _ ?_, hkc _ _ ?_, hkc _ _ ?_, hkc _ _ ?_, hkc _ _ ?_, hkc _ _ ?_, hkc _ _ ?_, hkc _ _ ?_, hkc _ _ ?_, hkc _ _ ?_⟩ <;> first | assumption | go_simp)) ((refine (hcmp _).mono ?_; rintro e w' ⟨rfl, hb'⟩; have hkc := below_cell hb'))
      rename_i hHeld
      obtain ⟨hbw, -⟩ := hHeld
      have HBW := hid hbw
      clear hbw h0 h1 h2 h3 h4 q0 q1 q2 q3 q4
      by_cases hcx : cmpE l[k] x < 0
      · go_wp2_with fail
        go_roundw
        case rel => exact ⟨k + 1, q, by omega, by omega, by go_num, rfl, HB.out.trans (HBW.out.mono (by have := hszb; omega)), fun j hj hjk => by
          rcases Nat.lt_or_ge j k with h | h
          · exact HM.out j k h hkl hcx
          · obtain rfl : j = k := by omega
            exact hcx, HHI.out⟩
        case measure => simp [intOf]; omega
      · go_wp2_with fail
        go_roundw
        case rel => exact ⟨p, k, by omega, by omega, rfl, by go_num, HB.out.trans (HBW.out.mono (by have := hszb; omega)), HLO.out, fun j hj hjk => by
          rcases Nat.lt_or_ge k j with h | h
          · exact Int.not_lt.1 fun h2 => hcx (HM.out k j h hj h2)
          · obtain rfl : j = k := by omega
            exact Int.not_lt.1 hcx⟩
        case measure => simp [intOf]; omega
    · obtain rfl : p = q := by omega
      have HLO := hid hlo
      have HHI := hid hhi
      have HB := hid hB0
      by_cases hp : p < l.length
      · obtain ⟨b, off, c', hA, hbl, _, h0, h1, h2, h3, h4⟩ := ESl.at_ hS hp
        injection hA with hA _ hA'
        subst hA; subst hA'
        have HX := hid hbox
        have hszb : w.heap.size < wr.heap.size := lt_of_heap hbox
        clear hB hB0 hlo hhi hm hS hsl
        have hpi : (p : Int) < (l.length : Int) := by omega
        have hpd : decide ((p : Int) < (l.length : Int)) = true := by simpa using hpi
        have hcmp := fun W => cmp_any l[p] x W
        obtain ⟨q0, q1, q2, q3, q4⟩ : wr.cell? ⟨w.heap.size, 0, none⟩ = some (.int .i64 x.at_) ∧ wr.cell? ⟨w.heap.size, 1, none⟩ = some (.int .i64 x.seq) ∧ wr.cell? ⟨w.heap.size, 2, none⟩ = some (.int .i64 x.kind) ∧ wr.cell? ⟨w.heap.size, 3, none⟩ = some (.int .i64 x.node) ∧ wr.cell? ⟨w.heap.size, 4, none⟩ = some (.int .i64 x.arg) := by
          have hX := HX.out
          refine ⟨?_, ?_, ?_, ?_, ?_⟩ <;> (rw [cell_of_row wr _ _ _ _ _ hX]; rfl)
        go_wp2_with fail
        go_region_held3 (fun w' => Below wr.heap.size wr w' ∧ w'.cell? ⟨b, off + p * 5, none⟩ = some (.int .i64 (l[p]).at_) ∧ w'.cell? ⟨b, off + p * 5 + 1, none⟩ = some (.int .i64 (l[p]).seq) ∧ w'.cell? ⟨b, off + p * 5 + 2, none⟩ = some (.int .i64 (l[p]).kind) ∧ w'.cell? ⟨b, off + p * 5 + 3, none⟩ = some (.int .i64 (l[p]).node) ∧ w'.cell? ⟨b, off + p * 5 + 4, none⟩ = some (.int .i64 (l[p]).arg) ∧ w'.cell? ⟨w.heap.size, 0, none⟩ = some (.int .i64 x.at_) ∧ w'.cell? ⟨w.heap.size, 1, none⟩ = some (.int .i64 x.seq) ∧ w'.cell? ⟨w.heap.size, 2, none⟩ = some (.int .i64 x.kind) ∧ w'.cell? ⟨w.heap.size, 3, none⟩ = some (.int .i64 x.node) ∧ w'.cell? ⟨w.heap.size, 4, none⟩ = some (.int .i64 x.arg)) (first | exact ⟨⟨rfl, rfl, rfl, Nat.le_refl _, fun _ _ => rfl⟩, h0, h1, h2, h3, h4, q0, q1, q2, q3, q4⟩ | (refine ⟨below_on hb' ?_, hkc _ _ ?_, hkc _ _ ?_, hkc _ _ ?_, hkc _ _ ?_, hkc _ _ ?_, hkc _ _ ?_, hkc _ _ ?_, hkc _ _ ?_, hkc _ _ ?_, hkc _ _ ?_⟩ <;> first | assumption | go_simp)) ((refine (hcmp _).mono ?_; rintro e w' ⟨rfl, hb'⟩; have hkc := below_cell hb'))
        rename_i hHeld
        obtain ⟨hbw, -⟩ := hHeld
        have HBW := hid hbw
        clear hbw h0 h1 h2 h3 h4 q0 q1 q2 q3 q4
        go_wp2_with fail
        go_returns
        exact ⟨p, _, rfl, hq, fun j hj h => HLO.out j hj h, fun j hj h => HHI.out j hj h, HB.out.trans (HBW.out.mono (by omega))⟩
      · clear hB hB0 hlo hhi hm hS hsl hbox
        go_wp2_with fail
        have hpd : decide ((p : Int) < (l.length : Int)) = false := by simp; omega
        go_quiet (fail)
        go_wp2_with fail
        go_returns
        refine ⟨p, _, rfl, hq, fun j hj h => HLO.out j hj h, fun j hj h => HHI.out j hj h, ?_⟩
        exact HB.out.trans ⟨rfl, rfl, rfl, Nat.le_refl _, fun _ _ => rfl⟩
end Go.Proofs.Ytbpbeogipgfjiaa
/- The queue in memory, and its methods. -/
namespace Go.Proofs.Ytbpbeogipgfjiaa
open Go Go.RowKit
set_option linter.unusedSimpArgs false
structure Que where
  clock : Int
  last : Int
  l : List Evt
/-- the queue in memory: its struct in block x, its events' slice v -/
def QueAt (w : World) (x : Nat) (v : Value) (S : Que) : Prop :=
  w.heap[x]? = some (.cells #[.int .i64 S.clock, .int .i64 S.last, v] 49 (0, 0)) ∧ EOwn w v S.l
/-- its blocks -/
def QueF (x : Nat) (v : Value) (b : Nat) : Prop := b = x ∨ blkOf v = some b
section
variable {w w' : World} {x : Nat} {v : Value} {S : Que}
theorem QueAt.keep {F : Nat → Prop} (h : QueAt w x v S) (hk : Keep F w w') (hF : ∀ b, QueF x v b → ¬ F b) : QueAt w' x v S :=
  ⟨(hk.block x (lt_of_heap h.1) (hF x (.inl rfl))).trans h.1, h.2.keep hk fun b hb => hF b (.inr hb)⟩
theorem QueAt.below (h : QueAt w x v S) (hk : Below w.heap.size w w') : QueAt w' x v S := h.keep (Keep.of_below hk (fun _ => False)) (fun _ _ h => h)
theorem QueAt.lt (h : QueAt w x v S) {b : Nat} (hb : QueF x v b) : b < w.heap.size := by
  rcases hb with rfl | hb
  · exact lt_of_heap h.1
  · exact h.2.lt hb
theorem QueAt.ne (h : QueAt w x v S) : blkOf v ≠ some x := fun e => by
  rcases h.2 with ⟨hv, _⟩ | ⟨g, off, c, hv, hE⟩
  · rw [hv] at e; cases e
  · rw [hv] at e
    injection e with e
    obtain ⟨⟨cur, h1, _⟩, _⟩ := hE
    have e' : g = x := e
    rw [e', h.1] at h1
    injection h1 with h1
    injection h1 with _ h1
    exact absurd h1 (by decide)
theorem QueAt.c0 (h : QueAt w x v S) : w.cell? ⟨x, 0, none⟩ = some (.int .i64 S.clock) := by rw [cell_of_row w x 0 _ _ _ h.1]; rfl
theorem QueAt.c1 (h : QueAt w x v S) : w.cell? ⟨x, 1, none⟩ = some (.int .i64 S.last) := by rw [cell_of_row w x 1 _ _ _ h.1]; rfl
theorem QueAt.c2 (h : QueAt w x v S) : w.cell? ⟨x, 2, none⟩ = some v := by rw [cell_of_row w x 2 _ _ _ h.1]; rfl
theorem QueAt.fz (h : QueAt w x v S) (i : Nat) : w.frozen? ⟨x, i, none⟩ = false := by simp [World.frozen?, h.1]
end
/-- how a method ends -/
def QMeth (x : Nat) (v : Value) (w : World) (S' : Que) (r : Value) (e : Ending) (w' : World) : Prop :=
  e = .returned r ∧ ∃ v', QueAt w' x v' S' ∧ Keep (QueF x v) w w' ∧ ∀ b, QueF x v' b → QueF x v b ∨ w.heap.size ≤ b
theorem qmeth_same {x : Nat} {v r : Value} {S : Que} {w w' : World} {e : Ending} (h : QueAt w x v S) (hb : Below w.heap.size w w') (he : e = .returned r) : QMeth x v w S r e w' :=
  ⟨he, v, h.below hb, Keep.of_below hb _, fun _ h => .inl h⟩
set_option maxHeartbeats 400000 in
theorem now_any (x : Nat) (v : Value) (S : Que) (w : World) (h : QueAt w x v S) :
    Calls Try.prog 13 #[.pointer (some ⟨x, 0, none⟩)] w (QMeth x v w S (.tuple #[.int .i64 S.clock, .int .i64 S.l.length])) := by
  have c0 := h.c0
  have c2 := h.c2
  obtain ⟨A, c, hv, hc, hA0⟩ := h.2.shape
  have H := hid h
  clear h
  subst hv
  go_enter Try.func13, Try.ntmps13
  go_wp2_with fail
  go_quiet (fail)
  go_wp2_with fail
  go_returns
  exact qmeth_same H.out ⟨rfl, rfl, rfl, Nat.le_refl _, fun _ _ => rfl⟩ rfl
def zeroE : Evt := ⟨0, 0, 0, 0, 0⟩
def Que.peek (S : Que) : Evt × Bool := match S.l with
  | [] => (zeroE, false)
  | e :: _ => (e, true)
theorem one5 (a b c d e : Int) : ∀ u ∈ (#[Value.int .i64 a, .int .i64 b, .int .i64 c, .int .i64 d, .int .i64 e]).toList, u.oneCell' = true := by
  intro u hu
  simp at hu
  rcases hu with rfl | rfl | rfl | rfl | rfl <;> rfl
theorem loadE {w : World} {B : Nat} {p : Evt} {t : TypeId} (h : w.heap[B]? = some (.cells #[.int .i64 p.at_, .int .i64 p.seq, .int .i64 p.kind, .int .i64 p.node, .int .i64 p.arg] t (0, 0))) : (loadVar 30 ⟨B, 0, none⟩).run Try.prog w = .ok p.val w :=
  load_whole w _ B _ t _ h (aggE w) (sizE w)
theorem results_cell_tmp {P : Program} {fn : Func} {p q : Tmp} {t : TypeId} (h : fn.results = #[.cell p t, .tmp q]) (tmps : Array Value) (w : World) (B : Nat) (x y : Value) (hp : tmps.getD p undef = .pointer (some ⟨B, 0, none⟩)) (hq : tmps.getD q undef = y)
    (hx : (loadVar t ⟨B, 0, none⟩).run P w = .ok x w) : (results fn tmps).run P w = .ok (.tuple #[x, y]) w := by
  simp only [Array.getD_eq_getD_getElem?] at hp hq
  simp only [results, h]
  simp [asAddr, hp, hq, hx]
set_option maxHeartbeats 400000 in
theorem peek_nil (x : Nat) (v : Value) (S : Que) (w : World) (h : QueAt w x v S) (h0 : S.l = []) :
    Calls Try.prog 16 #[.pointer (some ⟨x, 0, none⟩)] w fun e w' => e = .returned (.tuple #[zeroE.val, .bool false]) ∧ Below w.heap.size w w' := by
  have c2 := h.c2
  have hx := h.lt (.inl rfl)
  obtain ⟨A, c, hv, hc, hA0⟩ := h.2.shape
  rw [h0] at hv
  clear h
  subst hv
  go_enter Try.func16, Try.ntmps16
  go_wp2_with fail
  exact bodyPost_ret (results_cell_tmp rfl _ _ w.heap.size _ _ rfl rfl (loadE (p := zeroE) (heap_alloc_new w _))) rfl ⟨rfl, (Below.refl _ _).alloc (Nat.le_refl _) _⟩
set_option maxHeartbeats 400000 in
theorem peek_cons (x : Nat) (v : Value) (S : Que) (p : Evt) (r : List Evt) (w : World) (h : QueAt w x v S) (h0 : S.l = p :: r) (hlen : S.l.length ≤ 900) :
    Calls Try.prog 16 #[.pointer (some ⟨x, 0, none⟩)] w fun e w' => e = .returned (.tuple #[p.val, .bool true]) ∧ Below w.heap.size w w' := by
  have c2 := h.c2
  have hx := h.lt (.inl rfl)
  obtain ⟨b, off, c, hv, hbl, _, k0, k1, k2, k3, k4⟩ := ESl.at_ (av := fun _ => False) (h.2.sl (fun _ _ h => h)) (k := 0) (by rw [h0]; simp)
  have hg : S.l[0]'(by rw [h0]; simp) = p := by simp [h0]
  rw [hg] at k0 k1 k2 k3 k4
  have hl0 : ¬ (S.l.length : Int) = 0 := by rw [h0]; simp; omega
  have hl1 : (0 : Int) < (S.l.length : Int) := by omega
  rw [hv] at c2
  simp only [Nat.zero_mul, Nat.add_zero] at k0 k1 k2 k3 k4
  clear h hv hg
  have hlz : ∃ n, n = S.l.length := ⟨_, rfl⟩
  obtain ⟨n, hn⟩ := hlz
  rw [← hn] at hlen c2 hl0 hl1
  clear hn h0
  go_enter Try.func16, Try.ntmps16
  go_wp2_with (refine wpList_store_whole rfl 30 (.tmp 2) (.tmp 16) rfl w.heap.size _ _ _ rfl rfl (heap_alloc_new w _) sizE rfl (one5 _ _ _ _ _) ?_)
  exact bodyPost_ret (results_cell_tmp rfl _ _ w.heap.size _ _ rfl rfl (loadE (p := p) (setRow_heap _ _ _ _ _ _ (heap_alloc_new w _)))) rfl ⟨rfl, Keep.below_of (F := fun b => w.heap.size ≤ b) (((Keep.refl (fun b => w.heap.size ≤ b) w).alloc _).setRow (fun _ => Nat.le_refl _) _) (Nat.le_refl _) (fun i h => h)⟩
/-- what peek answers -/
theorem peek_any (x : Nat) (v : Value) (S : Que) (w : World) (h : QueAt w x v S) (hlen : S.l.length ≤ 900) :
    Calls Try.prog 16 #[.pointer (some ⟨x, 0, none⟩)] w fun e w' => e = .returned (.tuple #[S.peek.1.val, .bool S.peek.2]) ∧ Below w.heap.size w w' := by
  cases hl : S.l with
  | nil => have := peek_nil x v S w h hl; simpa [Que.peek, hl] using this
  | cons p r => have := peek_cons x v S p r w h hl hlen; simpa [Que.peek, hl] using this
/-- a cell of the struct turned -/
theorem QueAt.set0 {w : World} {x : Nat} {v : Value} {S : Que} (h : QueAt w x v S) (u : Int) : QueAt (w.setCell ⟨x, 0, none⟩ (.int .i64 u)) x v { S with clock := u } :=
  ⟨heap_setCell_at h.1 _, h.2.keep ((Keep.refl (fun b => b = x) w).setCell (fun _ => rfl) _) fun b hb e => h.ne (e ▸ hb)⟩
theorem QueAt.set1 {w : World} {x : Nat} {v : Value} {S : Que} (h : QueAt w x v S) (u : Int) : QueAt (w.setCell ⟨x, 1, none⟩ (.int .i64 u)) x v { S with last := u } :=
  ⟨heap_setCell_at h.1 _, h.2.keep ((Keep.refl (fun b => b = x) w).setCell (fun _ => rfl) _) fun b hb e => h.ne (e ▸ hb)⟩
theorem QueAt.set2 {w : World} {x : Nat} {v v' : Value} {S : Que} (h : w.heap[x]? = some (.cells #[.int .i64 S.clock, .int .i64 S.last, v] 49 (0, 0))) {l' : List Evt} (hv : EOwn w v' l') (hne : blkOf v' ≠ some x) : QueAt (w.setCell ⟨x, 2, none⟩ v') x v' { S with l := l' } :=
  ⟨heap_setCell_at h _, hv.keep ((Keep.refl (fun b => b = x) w).setCell (fun _ => rfl) _) fun b hb e => hne (e ▸ hb)⟩
theorem EOwn.drop {w : World} {A : Option Addr} {n c : Nat} {l : List Evt} (h : EOwn w (.slice A n c) l) {k : Nat} (hk : k ≤ n) : EOwn w (.slice (if c = k then A else A.map (·.add (k * 5))) (n - k) (c - k)) (l.drop k) ∧ ∀ b, blkOf (.slice (if c = k then A else A.map (·.add (k * 5))) (n - k) (c - k)) = some b → blkOf (.slice A n c) = some b := by
  rcases h with ⟨hv, rfl⟩ | ⟨g, off, c', hv, hE⟩
  · injection hv with h1 h2 h3
    subst h1; subst h2; subst h3
    obtain rfl : k = 0 := by omega
    exact ⟨.inl ⟨by simp, by simp⟩, fun b hb => by simp [blkOf] at hb⟩
  · injection hv with h1 h2 h3
    subst h1; subst h2; subst h3
    have hd := hE.drop hk
    refine ⟨.inr ⟨g, (if c = k then off else off + k * 5), c - k, ?_, hd⟩, fun b hb => ?_⟩
    · rw [List.length_drop]
      congr 1
      split <;> simp [Addr.add_lit]
    · split at hb
      · exact hb
      · simp only [blkOf, Option.map_some, Addr.add_lit] at hb ⊢
        exact hb
def Que.pop (S : Que) : Que × Evt × Bool := match S.l with
  | [] => (S, zeroE, false)
  | e :: r => ({ S with l := r, clock := e.at_ }, e, true)
theorem row5 {w : World} {B : Nat} {a0 a1 a2 a3 a4 : Value} {t : TypeId} (h : w.heap[B]? = some (.cells #[a0, a1, a2, a3, a4] t (0, 0))) :
    w.cell? ⟨B, 0, none⟩ = some a0 ∧ w.cell? ⟨B, 1, none⟩ = some a1 ∧ w.cell? ⟨B, 2, none⟩ = some a2 ∧ w.cell? ⟨B, 3, none⟩ = some a3 ∧ w.cell? ⟨B, 4, none⟩ = some a4 ∧ B < w.heap.size ∧ ∀ i, w.frozen? ⟨B, i, none⟩ = false :=
  ⟨cell_of_row w B 0 _ _ _ h, cell_of_row w B 1 _ _ _ h, cell_of_row w B 2 _ _ _ h, cell_of_row w B 3 _ _ _ h, cell_of_row w B 4 _ _ _ h, lt_of_heap h, fun i => by simp [World.frozen?, h]⟩
/-- a box of its own takes an event -/
theorem box_step {w1 W1 : World} {p : Evt} (h : (w1.alloc (.cells #[.int .i64 0, .int .i64 0, .int .i64 0, .int .i64 0, .int .i64 0] 30)).setRow w1.heap.size #[.int .i64 p.at_, .int .i64 p.seq, .int .i64 p.kind, .int .i64 p.node, .int .i64 p.arg] = W1) :
    Below w1.heap.size w1 W1 ∧ W1.heap[w1.heap.size]? = some (.cells #[.int .i64 p.at_, .int .i64 p.seq, .int .i64 p.kind, .int .i64 p.node, .int .i64 p.arg] 30 (0, 0)) := by
  subst h
  exact ⟨Keep.below_of (F := fun b => w1.heap.size ≤ b) (((Keep.refl (fun b => w1.heap.size ≤ b) w1).alloc _).setRow (fun _ => Nat.le_refl _) _) (Nat.le_refl _) (fun i h => h), setRow_heap _ _ _ _ _ _ (heap_alloc_new w1 _)⟩
set_option maxHeartbeats 1000000 in
theorem pop_no (x : Nat) (v : Value) (S : Que) (w : World) (p : Evt) (h : QueAt w x v S) (hlen : S.l.length ≤ 900) (hp : S.peek = (p, false)) :
    Calls Try.prog 15 #[.pointer (some ⟨x, 0, none⟩)] w fun e w' => e = .returned (.tuple #[p.val, .bool false]) ∧ Below w.heap.size w w' := by
  have HP := hid (peek_any x v S (w.alloc (.cells #[.int .i64 0, .int .i64 0, .int .i64 0, .int .i64 0, .int .i64 0] 30)) (h.below ((Below.refl _ _).alloc (Nat.le_refl _) _)) hlen)
  rw [hp] at HP
  have hx := h.lt (.inl rfl)
  clear h hp
  go_enter Try.func15, Try.ntmps15
  go_wp2_with fail
  refine HP.out.mono ?_
  rintro e w1 ⟨rfl, hb⟩
  have h2 : w1.heap[w.heap.size]? = some (.cells #[.int .i64 0, .int .i64 0, .int .i64 0, .int .i64 0, .int .i64 0] 30 (0, 0)) := (hb.block w.heap.size (by simp)).trans (heap_alloc_new w _)
  have hb0 : Below w.heap.size w w1 := ((Below.refl _ _).alloc (Nat.le_refl _) _).trans (hb.mono (by simp))
  have H2 := hid h2
  have HB := hid hb0
  clear hb h2 hb0
  unfold Evt.val
  go_wp2_with (first
    | (refine wpList_store_whole rfl 30 (.tmp 4) (.tmp 9) rfl w1.heap.size _ _ _ rfl rfl (heap_alloc_new w1 _) sizE rfl (one5 _ _ _ _ _) ?_; generalize hW1 : World.setRow _ w1.heap.size _ = W1; obtain ⟨hb1, hr1⟩ := box_step hW1; obtain ⟨q0, q1, q2, q3, q4, q5, q6⟩ := row5 hr1; have HB1 := hid hb1; clear hW1 hb1 hr1)
    | (refine wpList_store_whole rfl 30 (.tmp 2) (.tmp 25) rfl w.heap.size _ _ _ rfl rfl ((HB1.out.block w.heap.size (lt_of_heap H2.out)).trans H2.out) sizE rfl (one5 _ _ _ _ _) ?_))
  refine bodyPost_ret (results_cell_tmp rfl _ _ w.heap.size _ _ rfl rfl (loadE (p := p) (setRow_heap _ _ _ _ _ _ ((HB1.out.block w.heap.size (lt_of_heap H2.out)).trans H2.out)))) rfl ⟨rfl, ?_⟩
  exact Keep.below_of (F := fun b => w.heap.size ≤ b) ((Keep.of_below (HB.out.trans (HB1.out.mono HB.out.size)) (fun b => w.heap.size ≤ b)).setRow (fun _ => Nat.le_refl _) _) (Nat.le_refl _) (fun i h => h)
set_option maxHeartbeats 1000000 in
theorem pop_yes (x : Nat) (v : Value) (S : Que) (w : World) (p : Evt) (r : List Evt) (h : QueAt w x v S) (hlen : S.l.length ≤ 900) (hl : S.l = p :: r) :
    Calls Try.prog 15 #[.pointer (some ⟨x, 0, none⟩)] w (QMeth x v w { S with l := r, clock := p.at_ } (.tuple #[p.val, .bool true])) := by
  have HP := hid (peek_any x v S (w.alloc (.cells #[.int .i64 0, .int .i64 0, .int .i64 0, .int .i64 0, .int .i64 0] 30)) (h.below ((Below.refl _ _).alloc (Nat.le_refl _) _)) hlen)
  rw [show S.peek = (p, true) by simp [Que.peek, hl]] at HP
  have hx := h.lt (.inl rfl)
  obtain ⟨A, c, hv, hc, hA0⟩ := h.2.shape
  subst hv
  obtain ⟨n, hn⟩ : ∃ n, n = S.l.length := ⟨_, rfl⟩
  have hn1 : 1 ≤ n := by rw [hn, hl]; simp
  rw [← hn] at h hc hlen ⊢
  have hE := (EOwn.drop h.2 (k := 1) hn1).2
  have hEd := fun (W : World) (hQ : EOwn W (.slice A n c) S.l) => (EOwn.drop hQ (k := 1) hn1).1
  rw [show S.l.drop 1 = r by simp [hl]] at hEd
  have hs1 := loE A n c 1 hn1
  obtain ⟨A2, hv2⟩ : ∃ A2, A2 = (if c = 1 then A else A.map (·.add (1 * 5))) := ⟨_, rfl⟩
  obtain ⟨c2, hc2⟩ : ∃ c2, c2 = c - 1 := ⟨_, rfl⟩
  obtain ⟨n2, hn2⟩ : ∃ n2, n2 = n - 1 := ⟨_, rfl⟩
  rw [← hc2, ← hn2] at hs1 hE hEd
  rw [← hv2] at hs1 hE hEd
  simp only [Int.cast_ofNat_Int] at hs1
  have hkk : ∀ W1 : World, Keep (fun b => b = x) W1 ((W1.setCell ⟨x, 2, none⟩ (.slice A2 n2 c2)).setCell ⟨x, 0, none⟩ (.int .i64 p.at_)) := fun W1 => ((Keep.refl (fun b => b = x) W1).setCell (fun _ => rfl) _).setCell (fun _ => rfl) _
  have HFIN := hid (show ∀ (W1 : World), QueAt W1 x (.slice A n c) S → Below w.heap.size w W1 → w.heap.size < W1.heap.size → ∀ row, QMeth x (.slice A n c) w { S with l := r, clock := p.at_ } (.tuple #[p.val, .bool true]) (.returned (.tuple #[p.val, .bool true])) (((W1.setCell ⟨x, 2, none⟩ (.slice A2 n2 c2)).setCell ⟨x, 0, none⟩ (.int .i64 p.at_)).setRow w.heap.size row) from fun W1 hQ1 hb1 hwl row => by
    have hQ2 := QueAt.set0 (QueAt.set2 hQ1.1 (hEd _ hQ1.2) (fun e => hQ1.ne (hE _ e))) p.at_
    have hv2w : ∀ b, blkOf (.slice A2 n2 c2) = some b → b < w.heap.size := fun b hb => h.lt (.inr (hE b hb))
    refine ⟨rfl, .slice A2 n2 c2, ⟨(setRow_other _ _ _ _ (by omega)).trans hQ2.1, hQ2.2.keep ((Keep.refl (fun b => b = w.heap.size) _).setRow (fun _ => rfl) _) fun b hb e => ?_⟩, ?_, fun b hb => ?_⟩
    · have := hv2w b hb; omega
    · exact ((Keep.of_below hb1 (QueF x (.slice A n c))).trans (hkk W1) (fun i _ e => .inl e)).setRow (fun h => absurd h (by omega)) _
    · rcases hb with rfl | hb
      · exact .inl (.inl rfl)
      · exact .inl (.inr (hE b hb)))
  have HBX := hid (show ∀ W1 : World, ∀ o, w.heap.size < W1.heap.size → W1.heap[w.heap.size]? = some o → ((W1.setCell ⟨x, 2, none⟩ (.slice A2 n2 c2)).setCell ⟨x, 0, none⟩ (.int .i64 p.at_)).heap[w.heap.size]? = some o from fun W1 o h1 h2 => ((hkk W1).block w.heap.size h1 (by omega)).trans h2)
  have H := hid h
  clear h hv2 hE hEd hA0 hl hn hkk hc2 hn2
  go_enter Try.func15, Try.ntmps15
  go_wp2_with fail
  refine HP.out.mono ?_
  rintro e w1 ⟨rfl, hb⟩
  have h2 : w1.heap[w.heap.size]? = some (.cells #[.int .i64 0, .int .i64 0, .int .i64 0, .int .i64 0, .int .i64 0] 30 (0, 0)) := (hb.block w.heap.size (by simp)).trans (heap_alloc_new w _)
  have hb0 : Below w.heap.size w w1 := ((Below.refl _ _).alloc (Nat.le_refl _) _).trans (hb.mono (by simp))
  have H2 := hid h2
  have HB := hid hb0
  clear hb h2 hb0
  unfold Evt.val
  go_wp2_with (first
    | (refine wpList_store_whole rfl 30 (.tmp 4) (.tmp 9) rfl w1.heap.size _ _ _ rfl rfl (heap_alloc_new w1 _) sizE rfl (one5 _ _ _ _ _) ?_; generalize hW1 : World.setRow _ w1.heap.size _ = W1; obtain ⟨hb1, hr1⟩ := box_step hW1; obtain ⟨q0, q1, q2, q3, q4, q5, q6⟩ := row5 hr1; have HB1 := hid hb1; have hQ := ((H.out.below HB.out).below hb1); have c2 := hQ.c2; have c0 := hQ.c0; have f2 := hQ.fz 2; have f0 := hQ.fz 0; have hx1 := hQ.lt (.inl rfl); have hxn : x ≠ w1.heap.size := (by have := HB.out.size; omega); have HQ := hid hQ; clear hW1 hb1 hr1 hQ)
    | (refine wpList_store_whole rfl 30 (.tmp 2) (.tmp 25) rfl w.heap.size _ _ _ rfl rfl ((Below.heap_setCell _ _ _ _ (by simp; omega)).trans ((Below.heap_setCell _ _ _ _ (by simp; omega)).trans ((HB1.out.block w.heap.size (lt_of_heap H2.out)).trans H2.out))) sizE rfl (one5 _ _ _ _ _) ?_))
  refine bodyPost_ret (results_cell_tmp rfl _ _ w.heap.size _ _ rfl rfl (loadE (p := p) (setRow_heap _ _ _ _ _ _ (HBX.out W1 _ (by have := lt_of_heap H2.out; have := HB1.out.size; omega) ((HB1.out.block w.heap.size (lt_of_heap H2.out)).trans H2.out))))) rfl ?_
  exact HFIN.out W1 HQ.out (HB.out.trans (HB1.out.mono HB.out.size)) (by have := lt_of_heap H2.out; have := HB1.out.size; omega) _
theorem pop_any (x : Nat) (v : Value) (S : Que) (w : World) (h : QueAt w x v S) (hlen : S.l.length ≤ 900) :
    Calls Try.prog 15 #[.pointer (some ⟨x, 0, none⟩)] w (QMeth x v w S.pop.1 (.tuple #[S.pop.2.1.val, .bool S.pop.2.2])) := by
  cases hl : S.l with
  | nil =>
    have := pop_no x v S w zeroE h hlen (by simp [Que.peek, hl])
    rw [show S.pop = (S, zeroE, false) by simp [Que.pop, hl]]
    exact this.mono fun e w' ⟨he, hb⟩ => qmeth_same h hb he
  | cons p r =>
    have := pop_yes x v S w p r h hlen hl
    rw [show S.pop = ({ S with l := r, clock := p.at_ }, p, true) by simp [Que.pop, hl]]
    exact this
end Go.Proofs.Ytbpbeogipgfjiaa
/- New, Cancel, Push of the queue. -/
namespace Go.Proofs.Ytbpbeogipgfjiaa
open Go Go.RowKit
set_option linter.unusedSimpArgs false
set_option maxHeartbeats 400000 in
theorem qnew_any (w : World) : Calls Try.prog 11 #[] w fun e w' => e = .returned (.pointer (some ⟨w.heap.size, 0, none⟩)) ∧ QueAt w' w.heap.size (.slice none 0 0) ⟨0, 0, []⟩ ∧ Below w.heap.size w w' := by
  go_enter Try.func11, Try.ntmps11
  go_wp2
  go_ret
  exact ⟨rfl, ⟨heap_alloc_new w _, .inl ⟨rfl, rfl⟩⟩, (Below.refl _ _).alloc (Nat.le_refl _) _⟩
def Que.cancel (S : Que) (seq : Int) : Que × Bool := match S.l.findIdx? (fun e => e.seq == seq) with
  | none => (S, false)
  | some i => ({ S with l := S.l.eraseIdx i }, true)
/-- the events' slice replaced -/
theorem que_repl {x : Nat} {v v' : Value} {S : Que} {w w2 : World} {l' : List Evt} (hQ : QueAt w x v S) (hK : Keep (fun b => blkOf v = some b) w w2) (hO : EOwn w2 v' l') (hat : blkOf v' = blkOf v ∨ blkOf v' = some w.heap.size) :
    QueAt (w2.setCell ⟨x, 2, none⟩ v') x v' { S with l := l' } ∧ Keep (QueF x v) w (w2.setCell ⟨x, 2, none⟩ v') ∧ ∀ b, QueF x v' b → QueF x v b ∨ w.heap.size ≤ b := by
  have hx := hQ.lt (.inl rfl)
  have h1 : w2.heap[x]? = some (.cells #[.int .i64 S.clock, .int .i64 S.last, v] 49 (0, 0)) := (hK.block x hx hQ.ne).trans hQ.1
  have hne : blkOf v' ≠ some x := by
    rcases hat with h | h
    · rw [h]; exact hQ.ne
    · rw [h]; intro e; injection e with e; omega
  refine ⟨QueAt.set2 h1 hO hne, (hK.mono (fun _ _ h => .inr h)).setCell (fun _ => .inl rfl) _, fun b hb => ?_⟩
  rcases hb with rfl | hb
  · exact .inl (.inl rfl)
  · rcases hat with h | h
    · rw [h] at hb; exact .inl (.inr hb)
    · rw [h] at hb; injection hb with hb; exact .inr (by omega)
theorem que_facts {x : Nat} {v : Value} {S : Que} {w w2 : World} (hQ : QueAt w x v S) (hK : Keep (fun b => blkOf v = some b) w w2) : w2.cell? ⟨x, 2, none⟩ = some v ∧ w2.frozen? ⟨x, 2, none⟩ = false ∧ x < w2.heap.size :=
  ⟨hK.at_ hQ.c2 hQ.ne, hK.fz (hQ.fz 2) (hQ.lt (.inl rfl)) hQ.ne, Nat.lt_of_lt_of_le (hQ.lt (.inl rfl)) hK.size⟩
theorem QMeth.from_ {x : Nat} {v r : Value} {S' : Que} {w w1 w' : World} {e : Ending} (hb : Below w.heap.size w w1) (h : QMeth x v w1 S' r e w') : QMeth x v w S' r e w' := by
  obtain ⟨he, v', h1, h2, h3⟩ := h
  exact ⟨he, v', h1, (Keep.of_below hb _).trans h2 (fun _ _ h => h), fun b hb' => (h3 b hb').imp id fun h => Nat.le_trans hb.size h⟩
set_option maxHeartbeats 400000 in
theorem cancel_any (x : Nat) (v : Value) (S : Que) (seq : Int) (w : World) (h : QueAt w x v S) (hlen : S.l.length ≤ 900) :
    Calls Try.prog 20 #[.pointer (some ⟨x, 0, none⟩), .int .i64 seq] w (QMeth x v w (S.cancel seq).1 (.bool (S.cancel seq).2)) := by
  have hx := h.lt (.inl rfl)
  have h2 := h.c2
  have H := hid h
  rcases idxI_cases (fun e : Evt => e.seq == seq) S.l with ⟨i, hi, e1, hp, e2⟩ | ⟨e1, e2⟩
  · rw [show S.cancel seq = ({ S with l := S.l.eraseIdx i }, true) by simp [Que.cancel, e2]]
    rcases h.2 with ⟨rfl, hl⟩ | ⟨g, off, c, rfl, hE⟩
    · rw [hl] at hi; exact absurd hi (by simp)
    · have HI := hid e1
      have HIL := hid hi
      clear h e1 e2 hp hE hi
      go_enter Try.func20, Try.ntmps20
      go_wp2_with fail
      refine (index_any _ _ cf32 (fun e => e.seq == seq) (fun _ => False) _ (.slice (some ⟨g, off, none⟩) S.l.length c) S.l ((H.out.below ((Below.refl _ _).alloc (Nat.le_refl _) _)).2.sl (fun _ _ h => h)) (by omega) ?_).mono ?_
      · intro w' hb p
        exact cancel1_any _ seq p.at_ p.seq p.kind p.node p.arg w' (by rw [hb.cell (p := ⟨w.heap.size, 0, none⟩) (by simp)]; simp)
      · rintro e w1 ⟨rfl, hb⟩
        rw [HI.out]
        have hb0 : Below w.heap.size w w1 := ((Below.refl _ _).alloc (Nat.le_refl _) _).trans (hb.mono (by simp))
        have HQ := hid (H.out.below hb0)
        have HB := hid hb0
        have c2 := HQ.out.c2
        have hw1 : IntKind.i64.wrap ((i : Int) + 1) = (i : Int) + 1 := IntWalk.i64_in _ (by have := HIL.out; omega)
        clear hb hb0 h2
        go_wp2_with fail
        rcases HQ.out.2 with ⟨hv, _⟩ | ⟨g', off', c', hv, hE⟩
        · cases hv
        injection hv with e1 e2 e3
        injection e1 with e1
        injection e1 with e1 e4
        subst e1; subst e4; subst e3
        refine (delete_any g off c S.l S.l.length i w1 rfl HIL.out (by omega) hE).mono ?_
        rintro e w2 ⟨cap', rfl, ho, hk⟩
        have hk' : Keep (fun b => blkOf (.slice (some ⟨g, off, none⟩) S.l.length c) = some b) w1 w2 := hk.mono (fun _ _ h => by subst h; rfl)
        obtain ⟨g2, g3, hx2⟩ := que_facts HQ.out hk'
        have HO := hid ho
        have HK := hid hk'
        clear ho hk hk' c2 hE
        go_wp2_with fail
        go_ret
        exact QMeth.from_ HB.out ⟨rfl, _, que_repl HQ.out HK.out (.inr ⟨g, off, cap', rfl, HO.out⟩) (.inl rfl)⟩
  · rw [show S.cancel seq = (S, false) by simp [Que.cancel, e2]]
    have HI := hid e1
    clear h e1 e2
    go_enter Try.func20, Try.ntmps20
    go_wp2_with fail
    refine (index_any _ _ cf32 (fun e => e.seq == seq) (fun _ => False) _ v S.l ((H.out.below ((Below.refl _ _).alloc (Nat.le_refl _) _)).2.sl (fun _ _ h => h)) (by omega) ?_).mono ?_
    · intro w' hb p
      exact cancel1_any _ seq p.at_ p.seq p.kind p.node p.arg w' (by rw [hb.cell (p := ⟨w.heap.size, 0, none⟩) (by simp)]; simp)
    · rintro e w1 ⟨rfl, hb⟩
      rw [HI.out]
      have HB := hid (((Below.refl w.heap.size w).alloc (Nat.le_refl _) _).trans (hb.mono (by simp)))
      clear hb
      go_wp2_with fail
      go_ret
      exact qmeth_same H.out HB.out rfl
end Go.Proofs.Ytbpbeogipgfjiaa
/- Push of the queue. -/
namespace Go.Proofs.Ytbpbeogipgfjiaa
open Go Go.RowKit
set_option linter.unusedSimpArgs false
def ltE (a b : Evt) : Prop := a.at_ < b.at_ ∨ (a.at_ = b.at_ ∧ a.seq < b.seq)
theorem cmp_ltE {a b : Evt} : cmpE a b < 0 ↔ ltE a b := cmpE_neg
theorem ltE.trans {a b c : Evt} (h : ltE a b) (k : ltE b c) : ltE a c := by unfold ltE at *; omega
/-- where an event comes in -/
def insE (x : Evt) (l : List Evt) : List Evt := l.takeWhile (fun e => decide (cmpE e x < 0)) ++ x :: l.dropWhile (fun e => decide (cmpE e x < 0))
theorem insE_at (x : Evt) : ∀ (l : List Evt) (k : Nat), k ≤ l.length → (∀ j (hj : j < l.length), j < k → cmpE l[j] x < 0) → (∀ j (hj : j < l.length), k ≤ j → 0 ≤ cmpE l[j] x) → insE x l = l.take k ++ x :: l.drop k
  | [], k, _, _, _ => by simp [insE]
  | e :: l, 0, _, _, h2 => by
    have h : ¬ cmpE e x < 0 := Int.not_lt.2 (h2 0 (by simp) (by omega))
    simp [insE, List.takeWhile_cons, List.dropWhile_cons, h]
  | e :: l, k + 1, hk, h1, h2 => by
    have he : cmpE e x < 0 := h1 0 (by simp) (by omega)
    have ih := insE_at x l k (by simpa using hk) (fun j hj hjk => h1 (j + 1) (by simpa using hj) (by omega)) (fun j hj hjk => h2 (j + 1) (by simpa using hj) (by omega))
    simp only [insE] at ih ⊢
    simp [List.takeWhile_cons, List.dropWhile_cons, he, ih]
def Que.ev (S : Que) (at_ kind node arg : Int) : Evt := ⟨at_, S.last + 1, kind, node, arg⟩
def Que.pushed (S : Que) (at_ kind node arg : Int) : Que := { S with last := S.last + 1, l := insE (S.ev at_ kind node arg) S.l }
set_option maxHeartbeats 1000000 in
theorem push_bad (x : Nat) (v : Value) (S : Que) (at_ kind node arg : Int) (w : World) (h : QueAt w x v S) (ha : at_ < S.clock) :
    Calls Try.prog 19 #[.pointer (some ⟨x, 0, none⟩), .int .i64 at_, .int .i64 kind, .int .i64 node, .int .i64 arg] w (QMeth x v w S (.tuple #[.int .i64 0, .int .i64 7])) := by
  have c0 := h.c0
  have H := hid h
  clear h
  go_enter Try.func19, Try.ntmps19
  go_wp2_with fail
  go_returns
  exact qmeth_same H.out (Below.refl _ _) rfl
theorem box_step' {w1 W1 : World} {B : Nat} {p : Evt} (hB : B = w1.heap.size) (h : (w1.alloc (.cells #[.int .i64 0, .int .i64 0, .int .i64 0, .int .i64 0, .int .i64 0] 30)).setRow B #[.int .i64 p.at_, .int .i64 p.seq, .int .i64 p.kind, .int .i64 p.node, .int .i64 p.arg] = W1) :
    Below w1.heap.size w1 W1 ∧ W1.heap[B]? = some (.cells #[.int .i64 p.at_, .int .i64 p.seq, .int .i64 p.kind, .int .i64 p.node, .int .i64 p.arg] 30 (0, 0)) := by
  subst hB
  exact box_step h
theorem push_done {x : Nat} {v v' : Value} {T : Que} {l' : List Evt} {w wA W1 w1 W2 w2 : World} (hKA : Keep (QueF x v) w wA) (hs : w.heap.size = wA.heap.size) (hb1 : Below w.heap.size wA W1) (hb2 : Below W1.heap.size W1 w1) (hb3 : Below w1.heap.size w1 W2) (hQ2 : QueAt W2 x v T)
    (hK : Keep (fun b => blkOf v = some b) W2 w2) (ho : EOwn w2 v' l') (hat : blkOf v' = blkOf v ∨ blkOf v' = some W2.heap.size) :
    ∃ v'', QueAt (w2.setCell ⟨x, 2, none⟩ v') x v'' { T with l := l' } ∧ Keep (QueF x v) w (w2.setCell ⟨x, 2, none⟩ v') ∧ ∀ b, QueF x v'' b → QueF x v b ∨ w.heap.size ≤ b := by
  obtain ⟨h1, h2, h3⟩ := que_repl hQ2 hK ho hat
  have hsz : w.heap.size ≤ W2.heap.size := by
    have := hb1.size; have := hb2.size; have := hb3.size; omega
  exact ⟨v', h1, (((hKA.trans_below (hs ▸ hb1)).trans_below hb2).trans_below hb3).trans h2 (fun _ _ h => h), fun b hb => (h3 b hb).imp id fun h => Nat.le_trans hsz h⟩
set_option maxHeartbeats 2000000 in
theorem push_good (x : Nat) (v : Value) (S : Que) (at_ kind node arg : Int) (w : World) (h : QueAt w x v S) (ha : ¬ at_ < S.clock) (hlen : S.l.length ≤ 800) (hsort : S.l.Pairwise ltE) (h0 : 0 ≤ S.last) (h1 : S.last ≤ 1000000) :
    Calls Try.prog 19 #[.pointer (some ⟨x, 0, none⟩), .int .i64 at_, .int .i64 kind, .int .i64 node, .int .i64 arg] w (QMeth x v w (S.pushed at_ kind node arg) (.tuple #[.int .i64 (S.last + 1), .int .i64 0])) := by
  have c0 := h.c0
  have c1 := h.c1
  have f1 := h.fz 1
  have hx := h.lt (.inl rfl)
  have hw1 : IntKind.i64.wrap (S.last + 1) = S.last + 1 := IntWalk.i64_in _ (by omega)
  obtain ⟨wA, hwA⟩ : ∃ wA, wA = w.setCell ⟨x, 1, none⟩ (.int .i64 (S.last + 1)) := ⟨_, rfl⟩
  have hQA : QueAt wA x v { S with last := S.last + 1 } := by rw [hwA]; exact h.set1 _
  have hkA : Keep (QueF x v) w wA := by rw [hwA]; exact (Keep.refl _ w).setCell (fun _ => .inl rfl) _
  have hm : ∀ i j (_ : i < j) (hj : j < S.l.length), cmpE S.l[j] (S.ev at_ kind node arg) < 0 → cmpE S.l[i] (S.ev at_ kind node arg) < 0 := fun i j hij hj hc => cmp_ltE.2 ((List.pairwise_iff_getElem.1 hsort i j (by omega) hj hij).trans (cmp_ltE.1 hc))
  have H := hid h
  have HQA := hid hQA
  have HKA := hid hkA
  have HM := hid hm
  have HSA : Hid (w.heap.size = wA.heap.size) := hid (by rw [hwA]; simp)
  have HWA := hid hwA
  clear h hQA hkA hm hwA
  go_enter Try.func19, Try.ntmps19
  go_wp2_with fail
  generalize hW1 : World.alloc (World.setCell w ⟨x, 1, none⟩ (.int .i64 (S.last + 1))) _ = W1
  have hb1 : Below w.heap.size wA W1 := by rw [← hW1, HWA.out]; exact (Below.refl _ _).alloc (by simp) _
  have hr1 : W1.heap[w.heap.size]? = some (.cells #[.int .i64 at_, .int .i64 (S.last + 1), .int .i64 kind, .int .i64 node, .int .i64 arg] 30 (0, 0)) := by
    have := heap_alloc_new wA (.cells #[.int .i64 at_, .int .i64 (S.last + 1), .int .i64 kind, .int .i64 node, .int .i64 arg] 30 (0, 0))
    rw [HSA.out, ← hW1, ← HWA.out]; exact this
  have hs1 : w.heap.size < W1.heap.size := lt_of_heap hr1
  have HB1 := hid hb1
  have HR1 := hid hr1
  clear hW1 hb1 hr1
  have hQ1 : QueAt W1 x v { S with last := S.last + 1 } := HQA.out.below (HSA.out ▸ HB1.out)
  have c2 := hQ1.c2
  have HQ1 := hid hQ1
  have HS : Hid (∀ W, Below W1.heap.size W1 W → Calls Try.prog 26 #[v, .agg #[.int .i64 at_, .int .i64 (S.last + 1), .int .i64 kind, .int .i64 node, .int .i64 arg], .func (.func 27) #[] #[]] W (SearchP S.l (S.ev at_ kind node arg) W)) := hid (fun W (hb : Below W1.heap.size W1 W) => search_any (fun _ => False) v S.l (S.ev at_ kind node arg) W ((hQ1.below hb).2.sl (fun _ _ h => h)) (by omega) HM.out)
  obtain ⟨q0, q1, q2, q3, q4⟩ : W1.cell? ⟨w.heap.size, 0, none⟩ = some (.int .i64 at_) ∧ W1.cell? ⟨w.heap.size, 1, none⟩ = some (.int .i64 (S.last + 1)) ∧ W1.cell? ⟨w.heap.size, 2, none⟩ = some (.int .i64 kind) ∧ W1.cell? ⟨w.heap.size, 3, none⟩ = some (.int .i64 node) ∧ W1.cell? ⟨w.heap.size, 4, none⟩ = some (.int .i64 arg) := by
    have hX := HR1.out
    refine ⟨?_, ?_, ?_, ?_, ?_⟩ <;> (rw [cell_of_row W1 _ _ _ _ _ hX]; rfl)
  clear hQ1 c0 c1 f1
  have HD := hid (HS.out W1.drew ⟨rfl, rfl, rfl, Nat.le_refl _, fun _ _ => rfl⟩)
  have hnext : ∀ w', Below W1.drew.heap.size W1.drew w' → Below W1.heap.size W1 w' := fun w' h => undrew h
  have HN := hid hnext
  clear hnext
  go_region_with (refine HD.out.mono ?_; rintro e w' ⟨k, b, rfl, hk, hlo, hhi, hb'⟩; have hb2 := HN.out _ hb'; have hkc := below_cell hb2; have r2 := hkc _ _ c2; have r3 := hkc _ _ q0; have r4 := hkc _ _ q1; have r5 := hkc _ _ q2; have r6 := hkc _ _ q3; have r7 := hkc _ _ q4; have HKL := hid hk; have HLO := hid hlo; have HHI := hid hhi; have HBW := hid hb2; clear hk hlo hhi hb2 hb' hkc)
  all_goals
    have hQ' : QueAt w' x v { S with last := S.last + 1 } := HQ1.out.below HBW.out
    have hB2 : Below w'.heap.size w' (w'.drew.alloc (.cells #[.int .i64 at_, .int .i64 (S.last + 1), .int .i64 kind, .int .i64 node, .int .i64 arg] 30 (0, 0))) := undrew ((Below.refl _ w'.drew).alloc (Nat.le_refl _) _)
    have hQ2 := hQ'.below hB2
    have hvb : ∀ b, blkOf v = some b → b < w.heap.size := fun b hb => H.out.lt (.inr hb)
    have hsw : w.heap.size < w'.heap.size := Nat.lt_of_lt_of_le hs1 HBW.out.size
    have hxw : x < w'.heap.size := Nat.lt_trans hx hsw
    have hxn : ¬ x = w'.heap.size := Nat.ne_of_lt hxw
    have hI := insert_any v S.l (S.ev at_ kind node arg) k w'.heap.size _ HKL.out hQ2.2 (heap_alloc_new w'.drew _) (fun e => by have := hvb _ e; omega) (by omega)
    rw [← insE_at (S.ev at_ kind node arg) S.l k HKL.out HLO.out HHI.out] at hI
    have hP : S.pushed at_ kind node arg = { ({ S with last := S.last + 1 } : Que) with l := insE (S.ev at_ kind node arg) S.l } := rfl
    have HP := hid hP
    obtain ⟨l', hl'⟩ : ∃ l', l' = insE (S.ev at_ kind node arg) S.l := ⟨_, rfl⟩
    rw [← hl'] at hI
    have HL' := hid hl'
    have HI := hid hI
    have HB2 := hid hB2
    have HQ2 := hid hQ2
    have HVB := hid hvb
    clear hQ' hB2 hQ2 hvb hI hl' hP q0 q1 q2 q3 q4 c2
    go_wp2_with fail
    go_region_with (refine HI.out.mono ?_; rintro e w2 ⟨v', rfl, ho, hkp, hat⟩; obtain ⟨A', c', rfl, _⟩ := ho.shape; obtain ⟨g2, g3, g4⟩ := que_facts HQ2.out hkp; have g5 := hkp.at_ (HB2.out.cell (p := ⟨w.heap.size, 1, none⟩) hsw ▸ r4) (fun e => absurd (HVB.out _ e) (Nat.lt_irrefl _)); have HO := hid ho; have HK := hid hkp; have HAT := hid hat; clear ho hkp hat)
  all_goals
    go_wp2_with fail
    go_returns
    rw [HP.out, ← HL'.out]
    exact ⟨rfl, push_done HKA.out HSA.out HB1.out HBW.out HB2.out HQ2.out HK.out HO.out HAT.out⟩
end Go.Proofs.Ytbpbeogipgfjiaa
/- Until of the queue. -/
namespace Go.Proofs.Ytbpbeogipgfjiaa
open Go Go.RowKit
set_option linter.unusedSimpArgs false
def Que.until (S : Que) (t : Int) : Que × List Evt := ({ S with clock := max S.clock t, l := S.l.dropWhile (fun e => decide (e.at_ ≤ t)) }, S.l.takeWhile (fun e => decide (e.at_ ≤ t)))
theorem while_at (p : Evt → Bool) : ∀ (l : List Evt) (k : Nat), k ≤ l.length → (∀ j (hj : j < l.length), j < k → p l[j] = true) → (∀ hk : k < l.length, p l[k] = false) → l.takeWhile p = l.take k ∧ l.dropWhile p = l.drop k
  | [], k, _, _, _ => by simp
  | e :: l, 0, _, _, h2 => by
    have h := h2 (by simp)
    simp at h
    simp [List.takeWhile_cons, List.dropWhile_cons, h]
  | e :: l, k + 1, hk, h1, h2 => by
    have he : p e = true := h1 0 (by simp) (by omega)
    have ih := while_at p l k (by simpa using hk) (fun j hj hjk => h1 (j + 1) (by simpa using hj) (by omega)) (fun h => h2 (by simpa using h))
    simp [List.takeWhile_cons, List.dropWhile_cons, he, ih]
/-- how Until ends -/
def UntilP (x : Nat) (v : Value) (w : World) (S' : Que) (r : List Evt) (e : Ending) (w' : World) : Prop :=
  ∃ u v', e = .returned u ∧ EOwn w' u r ∧ QueAt w' x v' S' ∧ Keep (QueF x v) w w' ∧ (∀ b, QueF x v' b → QueF x v b) ∧ ∀ b, blkOf u = some b → w.heap.size ≤ b
theorem until_done {x k n c un uc n2 c3 : Nat} {A UA A2 : Option Addr} {S : Que} {t : Int} {w wr w1 : World} (h : QueAt w x (.slice A n c) S) (hn : n = S.l.length) (hk : k ≤ n) (hlo : ∀ j (hj : j < S.l.length), j < k → S.l[j].at_ ≤ t) (hst : ∀ h : k < S.l.length, t < S.l[k].at_)
    (hb : Below w.heap.size w wr) (hQ1 : QueAt w1 x (.slice A n c) S) (hu : EOwn w1 (.slice UA un uc) (S.l.take k)) (hb1 : Below wr.heap.size wr w1) (hf1 : ∀ b, blkOf (.slice UA un uc) = some b → wr.heap.size ≤ b) (hv2 : A2 = (if c = k then A else A.map (·.add (k * 5)))) (hn2 : n2 = n - k) (hc3 : c3 = c - k) :
    UntilP x (.slice A n c) w (S.until t).1 (S.until t).2 (.returned (.slice UA un uc)) ((w1.setCell ⟨x, 2, none⟩ (.slice A2 n2 c3)).setCell ⟨x, 0, none⟩ (.int .i64 (max S.clock t))) := by
  subst hv2 hn2 hc3
  obtain ⟨e1, e2⟩ := while_at (fun e => decide (e.at_ ≤ t)) S.l k (by omega) (fun j hj hjk => by simpa using hlo j hj hjk) (fun h => by have := hst h; simp; omega)
  obtain ⟨hd, hdb⟩ := EOwn.drop hQ1.2 hk
  have hx := h.lt (.inl rfl)
  have hQ2 := QueAt.set0 (QueAt.set2 hQ1.1 hd (fun e => hQ1.ne (hdb _ e))) (max S.clock t)
  have hkk : Keep (fun b => b = x) w1 ((w1.setCell ⟨x, 2, none⟩ (.slice (if c = k then A else A.map (·.add (k * 5))) (n - k) (c - k))).setCell ⟨x, 0, none⟩ (.int .i64 (max S.clock t))) := ((Keep.refl (fun b => b = x) w1).setCell (fun _ => rfl) _).setCell (fun _ => rfl) _
  refine ⟨_, .slice (if c = k then A else A.map (·.add (k * 5))) (n - k) (c - k), rfl, ?_, ?_, ?_, ?_, fun b hb' => Nat.le_trans hb.size (hf1 b hb')⟩
  · simp only [Que.until, e1]
    exact hu.keep hkk fun b hb' e => by
      have := hf1 b hb'
      have := hb.size
      omega
  · simp only [Que.until, e2]
    exact hQ2
  · exact ((Keep.of_below hb _).trans_below hb1).trans hkk (fun i _ e => .inl e)
  · rintro b (rfl | hb')
    · exact .inl rfl
    · exact .inr (hdb b hb')
set_option maxHeartbeats 1000000 in
theorem until_any (x : Nat) (v : Value) (S : Que) (t : Int) (w : World) (h : QueAt w x v S) (hlen : S.l.length ≤ 900) :
    Calls Try.prog 17 #[.pointer (some ⟨x, 0, none⟩), .int .i64 t] w (UntilP x v w (S.until t).1 (S.until t).2) := by
  have hx := h.lt (.inl rfl)
  obtain ⟨A, c, hv, hc, hA0⟩ := h.2.shape
  subst hv
  obtain ⟨n, hn⟩ : ∃ n, n = S.l.length := ⟨_, rfl⟩
  rw [← hn] at h hc hlen ⊢
  have HCL := hid (show ∀ k, k ≤ n → ∀ wr, Below w.heap.size w wr → Calls Try.prog 25 #[.slice A k c] wr (FreshE wr (S.l.take k)) from fun k hk wr hb => by
    refine clone_any (fun _ => False) _ _ wr ?_ (by rw [List.length_take]; omega)
    have hQ := h.below hb
    rcases hQ.2 with ⟨hv, hl⟩ | ⟨g, off, c', hv, hE⟩
    · injection hv with e1 e2 e3
      subst e1; subst e3
      obtain rfl : k = 0 := by omega
      exact EOwn.sl (.inl ⟨rfl, by simp⟩) (fun _ _ h => h)
    · injection hv with e1 e2 e3
      subst e1; subst e3
      have := (hE.take (k := k) (by omega)).sl (av := fun _ => False) (fun h => h)
      rw [List.length_take, Nat.min_eq_left (by omega)] at this
      exact this)
  have H := hid h
  have HN := hid hn
  have hi := fun (k : Nat) (hk : k ≤ c) (W : World) => hiE A n c k hk W
  have HI := hid hi
  clear h hn hi
  go_enter Try.func17, Try.ntmps17
  go_wp2_with fail
  go_loopw [5] (fun i wr => ∃ k : Nat, k ≤ n ∧ i = .int .i64 k ∧ Below w.heap.size w wr ∧ ∀ j (hj : j < S.l.length), j < k → S.l[j].at_ ≤ t) (fun i _ => n - (intOf i).toNat)
  case atStart => exact ⟨0, by omega, rfl, Below.refl _ _, fun j hj h => absurd h (by omega)⟩
  case round =>
    obtain ⟨k, hk, rfl, hB, hlo⟩ := hrel
    have HB := hid hB
    have HLO := hid hlo
    have HKN := hid hk
    have hQr := H.out.below hB
    have c2 := hQr.c2
    have hs0 := HI.out k (Nat.le_trans hk hc)
    by_cases hlt : k < n
    · have hl' : k < S.l.length := by have := HN.out; omega
      obtain ⟨b, off, c', hA, hbl, _, h0, -⟩ := ESl.at_ (av := fun _ => False) (hQr.2.sl (fun _ _ h => h)) hl'
      injection hA with hA hAn hA'
      subst hA; subst hA'
      clear hAn
      clear hQr hlo hB
      by_cases hp : S.l[k].at_ ≤ t
      · have HP := hid hp
        clear hs0
        go_wp2_with fail
        go_roundw
        case rel => exact ⟨k + 1, by omega, by go_num, HB.out, fun j hj hj' => by
          by_cases hjk : j = k
          · subst hjk; exact HP.out
          · exact HLO.out j hj (by omega)⟩
        case measure => simp [intOf]; omega
      · have HST : Hid (∀ h : k < S.l.length, t < S.l[k].at_) := hid (fun _ => Int.not_le.1 hp)
        go_wp2_with fail
        refine (HCL.out k HKN.out wr HB.out).mono ?_
        rintro e w1 ⟨u, rfl, hu, hb1, hf1⟩
        have hQ1 := (H.out.below HB.out).below hb1
        have c2' := hQ1.c2
        have c0' := hQ1.c0
        have f2' := hQ1.fz 2
        have f0' := hQ1.fz 0
        have hx1 := hQ1.lt (.inl rfl)
        obtain ⟨UA, uc, rfl, _⟩ := hu.shape
        obtain ⟨un, hun⟩ : ∃ un, un = (S.l.take k).length := ⟨_, rfl⟩
        rw [← hun] at hu hf1 ⊢
        have HU := hid hu
        have HB1 := hid hb1
        have HF1 := hid hf1
        have HQ1 := hid hQ1
        have hs1 := loE (some (⟨b, off, none⟩ : Addr)) n c k HKN.out
        obtain ⟨A2, hv2⟩ : ∃ A2, A2 = (if c = k then some (⟨b, off, none⟩ : Addr) else (some (⟨b, off, none⟩ : Addr)).map (·.add (k * 5))) := ⟨_, rfl⟩
        obtain ⟨c3, hc3⟩ : ∃ c3, c3 = c - k := ⟨_, rfl⟩
        obtain ⟨n2, hn2⟩ : ∃ n2, n2 = n - k := ⟨_, rfl⟩
        rw [← hc3, ← hn2, ← hv2] at hs1
        have hfin := until_done (t := t) H.out HN.out HKN.out HLO.out HST.out HB.out HQ1.out HU.out HB1.out HF1.out hv2 hn2 hc3
        have HE := hid hfin
        clear hu hb1 hf1 hQ1 hun hv2 hc3 hn2 hfin
        go_wp2_with fail
        all_goals
          go_returns
          have hE := HE.out
          first
            | (rw [Int.max_eq_left (by omega)] at hE; exact hE)
            | (rw [Int.max_eq_right (by omega)] at hE; exact hE)
    · have HST : Hid (∀ h : k < S.l.length, t < S.l[k].at_) := hid (fun h => absurd h (by have := HN.out; omega))
      clear hQr hlo hB
      · go_wp2_with fail
        refine (HCL.out k HKN.out wr HB.out).mono ?_
        rintro e w1 ⟨u, rfl, hu, hb1, hf1⟩
        have hQ1 := (H.out.below HB.out).below hb1
        have c2' := hQ1.c2
        have c0' := hQ1.c0
        have f2' := hQ1.fz 2
        have f0' := hQ1.fz 0
        have hx1 := hQ1.lt (.inl rfl)
        obtain ⟨UA, uc, rfl, _⟩ := hu.shape
        obtain ⟨un, hun⟩ : ∃ un, un = (S.l.take k).length := ⟨_, rfl⟩
        rw [← hun] at hu hf1 ⊢
        have HU := hid hu
        have HB1 := hid hb1
        have HF1 := hid hf1
        have HQ1 := hid hQ1
        have hs1 := loE A n c k HKN.out
        obtain ⟨A2, hv2⟩ : ∃ A2, A2 = (if c = k then A else A.map (·.add (k * 5))) := ⟨_, rfl⟩
        obtain ⟨c3, hc3⟩ : ∃ c3, c3 = c - k := ⟨_, rfl⟩
        obtain ⟨n2, hn2⟩ : ∃ n2, n2 = n - k := ⟨_, rfl⟩
        rw [← hc3, ← hn2, ← hv2] at hs1
        have hfin := until_done (t := t) H.out HN.out HKN.out HLO.out HST.out HB.out HQ1.out HU.out HB1.out HF1.out hv2 hn2 hc3
        have HE := hid hfin
        clear hu hb1 hf1 hQ1 hun hv2 hc3 hn2 hfin
        go_wp2_with fail
        all_goals
          go_returns
          have hE := HE.out
          first
            | (rw [Int.max_eq_left (by omega)] at hE; exact hE)
            | (rw [Int.max_eq_right (by omega)] at hE; exact hE)
end Go.Proofs.Ytbpbeogipgfjiaa
/- the rows' last step: a call that changed nothing below the old memory's end, and answered true -/
namespace Go.Proofs.Ytbpbeogipgfjiaa
open Go.ChangeShapes Go.WideShapes Go.ChangeAt Go.RowKit
theorem own : ownKnob Try.prog.godebug = none := by kernel_rfl
theorem laidOut : laidOutB Try.prog = true := by kernel_rfl
/-- what the statement asks behind the call, where all that lay there before lies there yet -/
theorem post_of_below {H : Type} {enc : TypeId × Value → H} {P : Program} {f : Func} {s : ChangeSpec} {apart fresh handsOn : Bool} {W W' : World} {args : Array Value} {v : Value} {ds gs : List (DataW H)} {before pa pv : List MemPlace}
    (hW : DataW.Whole enc P f.params.toList s.vars apart W args.toList ds gs before)
    (hres : ∀ (b : Nat) (sp : Nat → Bool) (hd : Bool), DataW.TrodAll enc P W' b sp hd f.resultTypes.toList (v.resultList f.resultTypes.size) (s.fn H (ds ++ gs)).results [])
    (hargs : DataW.TrodAll enc P W' 0 (fun b => decide (b < W.heap.size)) true f.params.toList args.toList (s.fn H (ds ++ gs)).args pa)
    (hvars : DataW.TrodVars enc P W' (fun b => decide (b < W.heap.size)) s.vars (s.fn H (ds ++ gs)).vars pv)
    (hb : Below W.heap.size W W') : s.post enc P f apart fresh handsOn false W args v W' :=
  ⟨ds, gs, before, [], pa, pv, hW, hres _ _ _, hargs, hvars, hb.frame _, fun h => by cases h⟩
end Go.Proofs.Ytbpbeogipgfjiaa
