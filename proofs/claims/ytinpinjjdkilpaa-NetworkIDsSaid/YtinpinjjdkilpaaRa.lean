/- results and operations as plain data and in memory; few, begin -/
import Derived.Test.YtinpinjjdkilpaaXb
import Derived.Test.YtinpinjjdkilpaaReg
namespace Go.Proofs.Ytinpinjjdkilpaa
open Go.RowKit
structure Res where
  id : Int
  p : Pkt
  n : Int
  e : Int
  deriving DecidableEq
def zeroR : Res := ⟨0, zeroP, 0, 0⟩
def resV (r : Res) : Value := .agg #[.int .i64 r.id, .int .i64 r.p.id, .int .i64 r.p.src, .int .i64 r.p.dst, .string r.p.data, .int .i64 r.n, .int .i64 r.e]
def resO (r : Res) : Obj := .cells #[.int .i64 r.id, .int .i64 r.p.id, .int .i64 r.p.src, .int .i64 r.p.dst, .string r.p.data, .int .i64 r.n, .int .i64 r.e] 44
theorem aggR (w : World) : (isAgg 44).run Try.prog w = .ok true w := by kernel_rfl
theorem sizR (w : World) : (sizeOf 44).run Try.prog w = .ok 7 w := by kernel_rfl
theorem loadR {w : World} {B : Nat} {r : Res} (h : w.heap[B]? = some (resO r)) : (loadVar 44 ⟨B, 0, none⟩).run Try.prog w = .ok (resV r) w := load_whole w _ B _ _ _ h (aggR w) (sizR w)
theorem one_r (a b c d : Int) (s : ByteArray) (e f : Int) : ∀ u ∈ (#[Value.int .i64 a, .int .i64 b, .int .i64 c, .int .i64 d, .string s, .int .i64 e, .int .i64 f]).toList, u.oneCell' = true := by
  intro u hu
  simp at hu
  rcases hu with rfl | rfl | rfl | rfl | rfl | rfl | rfl <;> rfl
theorem row7 {w : World} {B : Nat} {a0 a1 a2 a3 a4 a5 a6 : Value} {t : TypeId} (h : w.heap[B]? = some (.cells #[a0, a1, a2, a3, a4, a5, a6] t (0, 0))) :
    w.cell? ⟨B, 0, none⟩ = some a0 ∧ w.cell? ⟨B, 1, none⟩ = some a1 ∧ w.cell? ⟨B, 2, none⟩ = some a2 ∧ w.cell? ⟨B, 3, none⟩ = some a3 ∧ w.cell? ⟨B, 4, none⟩ = some a4 ∧ w.cell? ⟨B, 5, none⟩ = some a5 ∧ w.cell? ⟨B, 6, none⟩ = some a6 ∧ B < w.heap.size ∧ ∀ i, w.frozen? ⟨B, i, none⟩ = false :=
  ⟨cell_of_row w B 0 _ _ _ h, cell_of_row w B 1 _ _ _ h, cell_of_row w B 2 _ _ _ h, cell_of_row w B 3 _ _ _ h, cell_of_row w B 4 _ _ _ h, cell_of_row w B 5 _ _ _ h, cell_of_row w B 6 _ _ _ h, lt_of_heap h, fun i => by simp [World.frozen?, h]⟩
/-- a struct written into a part of a block -/
theorem store_part {P : Program} (w : World) (T : TypeId) (B off : Nat) (cs new : Array Value) (t : TypeId) (hB : w.heap[B]? = some (.cells cs t (0, 0))) (hs : (sizeOf T).run P w = .ok new.size w) (hcs : off + new.size ≤ cs.size) (h1 : ∀ u ∈ new.toList, u.oneCell' = true) (out : Array Value)
    (ho : out = (cs.toList.take off ++ new.toList ++ cs.toList.drop (off + new.toList.length)).toArray) : (Instr.storeAt T (.pointer (some ⟨B, off, none⟩)) (.agg new)).run P w = .ok () (w.setRow B out) := by
  have hst := run_storeCells_at P B off t new.toList 0 cs w hB (by simp; omega) h1
  simp only [Nat.add_zero] at hst
  rw [← ho] at hst
  have hc : (Value.agg new).cells = new := rfl
  simp [Instr.storeAt, Instr.sureAddr, storeVar, hs, hc, hst]
theorem wpList_store_part {P : Program} {w : World} {ops : Array Oper} {rest : List Oper} {o : Oper} {a : Act} {Q : Exit → Act → World → Prop} (hgd : o.guard = none) (T : TypeId) (x y : Operand) (ho : o.op = .store T x y) (B off : Nat) (cs new : Array Value) (t : TypeId) (out : Array Value)
    (hx : a.eval x = .pointer (some ⟨B, off, none⟩)) (hy : a.eval y = .agg new) (hB : w.heap[B]? = some (.cells cs t (0, 0))) (hs : ∀ w, (sizeOf T).run P w = .ok new.size w) (hcs : off + new.size ≤ cs.size) (h1 : ∀ u ∈ new.toList, u.oneCell' = true)
    (hout : out = (cs.toList.take off ++ new.toList ++ cs.toList.drop (off + new.toList.length)).toArray)
    (h : wpList P ops Q rest (a.put o.dst undef) (w.setRow B out)) : wpList P ops Q (o :: rest) a w := by
  refine wpList_plain hgd fun K hK => ?_
  have hr := store_part (P := P) w T B off cs new t hB (hs w) hcs h1 out hout
  unfold Oper.wp execOp
  simp only [ho, hx, hy, Sem.run_bind, Result.andThen_ok, hr]
  exact hK _ _ h
/-- an operation -/
structure Op where
  kind : Int
  a : Int
  b : Int
  id : Int
  data : ByteArray
  cut : Bool
def Op.vs (o : Op) : List Value := [.int .u8 o.kind, .int .i64 o.a, .int .i64 o.b, .int .i64 o.id, .string o.data, .bool o.cut]
def Op.val (o : Op) : Value := .agg #[.int .u8 o.kind, .int .i64 o.a, .int .i64 o.b, .int .i64 o.id, .string o.data, .bool o.cut]
def Op.ok (o : Op) : Prop := 0 ≤ o.kind ∧ o.kind ≤ 255
def oc (l : List Op) : List Value := l.flatMap Op.vs
theorem oc_get (l : List Op) (k : Nat) (hk : k < l.length) : (oc l)[k * 6]? = some (.int .u8 (l[k]).kind) ∧ (oc l)[k * 6 + 1]? = some (.int .i64 (l[k]).a) ∧ (oc l)[k * 6 + 2]? = some (.int .i64 (l[k]).b) ∧ (oc l)[k * 6 + 3]? = some (.int .i64 (l[k]).id) ∧ (oc l)[k * 6 + 4]? = some (.string (l[k]).data) ∧ (oc l)[k * 6 + 5]? = some (.bool (l[k]).cut) := by
  induction l generalizing k with
  | nil => simp at hk
  | cons p l ih =>
    cases k with
    | zero => exact ⟨rfl, rfl, rfl, rfl, rfl, rfl⟩
    | succ k =>
      have h := ih k (by simpa using hk)
      refine ⟨?_, ?_, ?_, ?_, ?_, ?_⟩
      · rw [show (k + 1) * 6 = k * 6 + 6 from by omega]; exact h.1
      · rw [show (k + 1) * 6 + 1 = k * 6 + 1 + 6 from by omega]; exact h.2.1
      · rw [show (k + 1) * 6 + 2 = k * 6 + 2 + 6 from by omega]; exact h.2.2.1
      · rw [show (k + 1) * 6 + 3 = k * 6 + 3 + 6 from by omega]; exact h.2.2.2.1
      · rw [show (k + 1) * 6 + 4 = k * 6 + 4 + 6 from by omega]; exact h.2.2.2.2.1
      · rw [show (k + 1) * 6 + 5 = k * 6 + 5 + 6 from by omega]; exact h.2.2.2.2.2
abbrev OSl (av : Nat → Prop) (w : World) (v : Value) (l : List Op) : Prop := Sl av w 6 v l.length (oc l)
theorem OSl.at_ {av : Nat → Prop} {w : World} {v : Value} {l : List Op} (h : OSl av w v l) {k : Nat} (hk : k < l.length) :
    ∃ b off c, v = .slice (some ⟨b, off, none⟩) l.length c ∧ b < w.heap.size ∧ ¬ av b ∧
      w.cell? ⟨b, off + k * 6, none⟩ = some (.int .u8 (l[k]).kind) ∧ w.cell? ⟨b, off + k * 6 + 1, none⟩ = some (.int .i64 (l[k]).a) ∧
      w.cell? ⟨b, off + k * 6 + 2, none⟩ = some (.int .i64 (l[k]).b) ∧ w.cell? ⟨b, off + k * 6 + 3, none⟩ = some (.int .i64 (l[k]).id) ∧
      w.cell? ⟨b, off + k * 6 + 4, none⟩ = some (.string (l[k]).data) ∧ w.cell? ⟨b, off + k * 6 + 5, none⟩ = some (.bool (l[k]).cut) := by
  obtain ⟨hl, A, c, rfl, hc, hn⟩ := h
  obtain ⟨b, off, rfl, hb, hav, hcell⟩ := hn (by omega)
  obtain ⟨g0, g1, g2, g3, g4, g5⟩ := oc_get l k hk
  exact ⟨b, off, c, rfl, hb, hav, hcell _ _ g0, hcell _ _ g1, hcell _ _ g2, hcell _ _ g3, hcell _ _ g4, hcell _ _ g5⟩
theorem OSl.shape {av : Nat → Prop} {w : World} {v : Value} {l : List Op} (h : OSl av w v l) : ∃ A c, v = .slice A l.length c ∧ l.length ≤ c := by
  obtain ⟨hl, A, c, rfl, hc, hn⟩ := h
  exact ⟨A, c, rfl, hc⟩
def opO (o : Op) : Obj := .cells #[.int .u8 o.kind, .int .i64 o.a, .int .i64 o.b, .int .i64 o.id, .string o.data, .bool o.cut] 40
theorem sizO (w : World) : (sizeOf 40).run Try.prog w = .ok 6 w := by kernel_rfl
theorem one_o (o : Op) : ∀ u ∈ (#[Value.int .u8 o.kind, .int .i64 o.a, .int .i64 o.b, .int .i64 o.id, .string o.data, .bool o.cut]).toList, u.oneCell' = true := by
  intro u hu
  simp at hu
  rcases hu with rfl | rfl | rfl | rfl | rfl | rfl <;> rfl
theorem row6 {w : World} {B : Nat} {a0 a1 a2 a3 a4 a5 : Value} {t : TypeId} (h : w.heap[B]? = some (.cells #[a0, a1, a2, a3, a4, a5] t (0, 0))) :
    w.cell? ⟨B, 0, none⟩ = some a0 ∧ w.cell? ⟨B, 1, none⟩ = some a1 ∧ w.cell? ⟨B, 2, none⟩ = some a2 ∧ w.cell? ⟨B, 3, none⟩ = some a3 ∧ w.cell? ⟨B, 4, none⟩ = some a4 ∧ w.cell? ⟨B, 5, none⟩ = some a5 ∧ B < w.heap.size ∧ ∀ i, w.frozen? ⟨B, i, none⟩ = false :=
  ⟨cell_of_row w B 0 _ _ _ h, cell_of_row w B 1 _ _ _ h, cell_of_row w B 2 _ _ _ h, cell_of_row w B 3 _ _ _ h, cell_of_row w B 4 _ _ _ h, cell_of_row w B 5 _ _ _ h, lt_of_heap h, fun i => by simp [World.frozen?, h]⟩
/-- the round's own copy of an operation -/
theorem op_box (w : World) (o : Op) : ((w.alloc (.cells #[.int .u8 0, .int .i64 0, .int .i64 0, .int .i64 0, .string { data := #[] }, .bool false] 40)).setRow w.heap.size #[.int .u8 o.kind, .int .i64 o.a, .int .i64 o.b, .int .i64 o.id, .string o.data, .bool o.cut]).heap[w.heap.size]? = some (.cells #[.int .u8 o.kind, .int .i64 o.a, .int .i64 o.b, .int .i64 o.id, .string o.data, .bool o.cut] 40) :=
  setRow_heap _ _ _ _ _ _ (new_at rfl)
def FewP (l : List Op) (most : Int) (w : World) (e : Ending) (w' : World) : Prop := ∃ b, e = .returned (.bool b) ∧ (b = true → (l.length : Int) ≤ most) ∧ Below w.heap.size w w'
set_option maxHeartbeats 1000000 in
theorem few_any (av : Nat → Prop) (v : Value) (l : List Op) (most : Int) (w : World) (h : OSl av w v l) (hlen : l.length < 4000000000000000000) :
    Calls Try.prog 16 #[v, .int .i64 most] w (FewP l most w) := by
  obtain ⟨A, c, rfl, _⟩ := OSl.shape h
  have H := hid h
  clear h
  go_enter Try.func16, Try.ntmps16
  go_wp2
  go_loopw [5, 10] (fun s i wr => ∃ (k : Nat) (n : Int), k ≤ l.length ∧ i = .int .i64 k ∧ s = .int .i64 n ∧ Below w.heap.size w wr) (fun _ i _ => l.length - (intOf i).toNat)
  case atStart => exact ⟨0, 0, by omega, rfl, rfl, by go_grown⟩
  case round =>
    obtain ⟨k, n, hk, rfl, rfl, hb⟩ := hrel
    have HB := hid hb
    clear hb
    by_cases hlt : k < l.length
    · obtain ⟨b, off, c', hA, hbl, _, h0, h1, h2, h3, h4, h5⟩ := OSl.at_ (Sl.below H.out HB.out) hlt
      injection hA with hA _ hA'
      subst hA; subst hA'
      go_wp2_with (refine wpList_store_whole rfl 40 (.tmp 7) (.tmp 13) rfl wr.heap.size _ _ _ rfl rfl (new_at (by simp)) sizO rfl (one_o l[k]) ?_; obtain ⟨q0, q1, q2, q3, q4, q5, q6, q7⟩ := row6 (op_box wr l[k]))
      go_roundw
      case rel => exact ⟨k + 1, _, by omega, by go_num, rfl, HB.out.trans ((Keep.below (by (repeat' (first | (with_reducible exact Keep.refl _ _) | (with_reducible assumption) | (with_reducible refine Keep.alloc ?_ _) | (with_reducible refine Keep.drew ?_) | (with_reducible refine Keep.setCell ?_ (fun h => absurd h ?_) _) | (with_reducible refine Keep.setRow ?_ (fun h => absurd h ?_) _) | go_size)))).mono HB.out.size)⟩
      case measure => simp [intOf]; omega
    · go_wp2
      all_goals
        go_ret
        first
        | exact ⟨_, rfl, fun _ => by omega, HB.out⟩
        | exact ⟨_, rfl, (fun h => absurd h (by decide)), HB.out⟩
theorem st_box (w : World) (T : St) : ((w.alloc (.cells #[.int .i64 0, .int .i64 0, .slice none 0 0, .slice none 0 0] 30)).setRow w.heap.size #[.int .i64 T.n, .int .i64 T.next, .slice none 0 0, .slice none 0 0]).heap[w.heap.size]? = some (stO T (.slice none 0 0) (.slice none 0 0)) :=
  setRow_heap _ _ _ _ _ _ (new_at rfl)
theorem results_tct {P : Program} {fn : Func} {p q u : Tmp} {t : TypeId} (h : fn.results = #[.tmp p, .cell q t, .tmp u]) (tmps : Array Value) (w : World) (B : Nat) (x : Value) (hq : tmps.getD q undef = .pointer (some ⟨B, 0, none⟩))
    (hx : (loadVar t ⟨B, 0, none⟩).run P w = .ok x w) : (results fn tmps).run P w = .ok (.tuple #[tmps.getD p undef, x, tmps.getD u undef]) w := by
  simp only [Array.getD_eq_getD_getElem?] at hq ⊢
  simp only [results, h]
  simp [asAddr, hq, hx]
theorem aggS (w : World) : (isAgg 30).run Try.prog w = .ok true w := by kernel_rfl
theorem loadS {w : World} {B : Nat} {T : St} {pv cv : Value} (h : w.heap[B]? = some (stO T pv cv)) : (loadVar 30 ⟨B, 0, none⟩).run Try.prog w = .ok (stV T pv cv) w := load_whole w _ B _ _ _ h (aggS w) (sizS w)
/-- begin's answer -/
def BeginP (G : Nat → Prop) (n : Int) (w : World) (e : Ending) (w' : World) : Prop :=
  ∃ x, e = .returned (.tuple #[.pointer (some ⟨x, 0, none⟩), stV (newSt n) (.slice none 0 0) (.slice none 0 0), .bool true]) ∧ NetO G x (newNet n) w' ∧ Below w.heap.size w w' ∧ w.heap.size ≤ x
set_option maxHeartbeats 2000000 in
theorem begin_any (G : Nat → Prop) (k : Int) (w : World) (hf : Fresh G w) (h0 : 0 ≤ k) (h1 : k ≤ 255) :
    Calls Try.prog 17 #[.int .u8 k] w (BeginP G (1 + k % 5) w) := by
  have HF := hid hf
  clear hf
  go_enter Try.func17, Try.ntmps17
  go_wp2_with fail
  refine (new_o (G := fun b => G b ∧ w.heap.size < b) (1 + k % 5) (fun b hb => ⟨HF.out b (by simp at hb; omega), by simp at hb; omega⟩) (by omega) (by omega)).mono ?_
  rintro e w1 ⟨x, rfl, h, hb, hx⟩
  have H1 := hid h
  have K1 := hid (((Below.refl _ w).alloc (Nat.le_refl _) (.cells #[.int .i64 0, .int .i64 0, .slice none 0 0, .slice none 0 0] 30)).trans (hb.mono (by simp)))
  have R1 := hid ((hb.block w.heap.size (by simp)).trans (new_at rfl))
  have hx' : w.heap.size ≤ x := by simp at hx; omega
  clear h hb hx
  go_wp2_with fail
  refine (rnew_any _ _).mono ?_
  rintro e w2 ⟨rfl, hb⟩
  have H2 := hid (H1.out.below hb)
  have K2 := hid ((Keep.of_below K1.out (fun _ => False)).trans_below hb)
  have R2 := hid ((hb.block w.heap.size (lt_of_heap R1.out)).trans R1.out)
  have hwl := lt_of_heap R2.out
  clear hb H1 K1 R1
  unfold newE stV
  simp only [if_pos (show 1 ≤ 1 + k % 5 ∧ 1 + k % 5 ≤ 20 by omega)]
  generalize hT : newSt (1 + k % 5) = T at *
  generalize hS : newNet (1 + k % 5) = S at *
  go_wp2_with (refine wpList_store_whole rfl 30 (.tmp 8) (.tmp 22) rfl w2.heap.size _ _ _ rfl rfl (new_at (by simp)) sizS rfl (one_s _ _ _ _ _ _ _ _) ?_)
  have hst := st_box w2 T
  have hr3 : ((w2.alloc (.cells #[.int .i64 0, .int .i64 0, .slice none 0 0, .slice none 0 0] 30)).setRow w2.heap.size #[.int .i64 T.n, .int .i64 T.next, .slice none 0 0, .slice none 0 0]).heap[w.heap.size]? = _ := (setRow_other _ _ _ _ (by omega)).trans ((Below.heap_alloc _ _ _ hwl).trans R2.out)
  have K3 := hid (K2.out.trans (show Keep (fun _ => False) w2 ((w2.alloc (.cells #[.int .i64 0, .int .i64 0, .slice none 0 0, .slice none 0 0] 30)).setRow w2.heap.size #[.int .i64 T.n, .int .i64 T.next, .slice none 0 0, .slice none 0 0]) by (repeat' (first | (with_reducible exact Keep.refl _ _) | (with_reducible assumption) | (with_reducible refine Keep.alloc ?_ _) | (with_reducible refine Keep.drew ?_) | (with_reducible refine Keep.setCell ?_ (fun h => absurd h ?_) _) | (with_reducible refine Keep.setRow ?_ (fun h => absurd h ?_) _) | go_size))) (fun _ _ h => h))
  have H3 := hid (H2.out.below (show Below w2.heap.size w2 ((w2.alloc (.cells #[.int .i64 0, .int .i64 0, .slice none 0 0, .slice none 0 0] 30)).setRow w2.heap.size #[.int .i64 T.n, .int .i64 T.next, .slice none 0 0, .slice none 0 0]) from (Keep.below (by (repeat' (first | (with_reducible exact Keep.refl _ _) | (with_reducible assumption) | (with_reducible refine Keep.alloc ?_ _) | (with_reducible refine Keep.drew ?_) | (with_reducible refine Keep.setCell ?_ (fun h => absurd h ?_) _) | (with_reducible refine Keep.setRow ?_ (fun h => absurd h ?_) _) | go_size))))))
  have hw2 := hid hwl
  clear H2 K2 R2 hwl
  generalize hw3 : (w2.alloc (.cells #[.int .i64 0, .int .i64 0, .slice none 0 0, .slice none 0 0] 30)).setRow w2.heap.size #[.int .i64 T.n, .int .i64 T.next, .slice none 0 0, .slice none 0 0] = w3 at *
  clear hw3
  have HST := hid hst
  have HR3 := hid hr3
  have hne := hw2.out
  clear hst hr3
  refine RT.begin (fun w' => w'.heap[w2.heap.size]? = some (stO T (.slice none 0 0) (.slice none 0 0))) 11 11 rfl (by kernel_rfl) ?_ (fun hR0 => ?_)
  · exact HST.out
  refine RT.take 0 (v := ?_) rfl (by kernel_rfl) (by kernel_rfl) (by kernel_rfl) (by kernel_rfl) (fun _ _ _ h => h) (by rfl) hR0 (fun w' hSw => ?_) ?_
  rotate_left
  · obtain ⟨q0, q1, q2, q3, q4, q5⟩ := st_cell hSw; clear hSw; go_simp; try with_reducible rfl
  simp only [List.getElem_toArray, List.getElem_cons_zero, List.getElem_cons_succ, Act.put, List.setIfInBounds_toArray, List.set_cons_zero, List.set_cons_succ]
  refine RT.take 1 (v := ?_) rfl (by kernel_rfl) (by kernel_rfl) (by kernel_rfl) (by kernel_rfl) (fun _ _ _ h => h) (by rfl) hR0 (fun w' hSw => ?_) ?_
  rotate_left
  · obtain ⟨q0, q1, q2, q3, q4, q5⟩ := st_cell hSw; clear hSw; go_simp; try with_reducible rfl
  simp only [List.getElem_toArray, List.getElem_cons_zero, List.getElem_cons_succ, Act.put, List.setIfInBounds_toArray, List.set_cons_zero, List.set_cons_succ]
  refine RT.take 2 (v := ?_) rfl (by kernel_rfl) (by kernel_rfl) (by kernel_rfl) (by kernel_rfl) (fun _ _ _ h => h) (by rfl) hR0 (fun w' hSw => ?_) ?_
  rotate_left
  · obtain ⟨q0, q1, q2, q3, q4, q5⟩ := st_cell hSw; clear hSw; go_simp; try with_reducible rfl
  simp only [List.getElem_toArray, List.getElem_cons_zero, List.getElem_cons_succ, Act.put, List.setIfInBounds_toArray, List.set_cons_zero, List.set_cons_succ]
  refine RT.take 3 (v := ?_) rfl (by kernel_rfl) (by kernel_rfl) (by kernel_rfl) (by kernel_rfl) (fun _ _ _ h => h) (by rfl) hR0 (fun w' hSw => ?_) ?_
  rotate_left
  · obtain ⟨q0, q1, q2, q3, q4, q5⟩ := st_cell hSw; clear hSw; go_simp; try with_reducible rfl
  simp only [List.getElem_toArray, List.getElem_cons_zero, List.getElem_cons_succ, Act.put, List.setIfInBounds_toArray, List.set_cons_zero, List.set_cons_succ]
  refine RT.take 4 (v := ?_) rfl (by kernel_rfl) (by kernel_rfl) (by kernel_rfl) (by kernel_rfl) (fun _ _ _ h => h) (by rfl) hR0 (fun w' hSw => ?_) ?_
  rotate_left
  · obtain ⟨q0, q1, q2, q3, q4, q5⟩ := st_cell hSw; clear hSw; go_simp; try with_reducible rfl
  simp only [List.getElem_toArray, List.getElem_cons_zero, List.getElem_cons_succ, Act.put, List.setIfInBounds_toArray, List.set_cons_zero, List.set_cons_succ]
  refine RT.take 5 (v := ?_) rfl (by kernel_rfl) (by kernel_rfl) (by kernel_rfl) (by kernel_rfl) (fun _ _ _ h => h) (by rfl) hR0 (fun w' hSw => ?_) ?_
  rotate_left
  · obtain ⟨q0, q1, q2, q3, q4, q5⟩ := st_cell hSw; clear hSw; go_simp; try with_reducible rfl
  simp only [List.getElem_toArray, List.getElem_cons_zero, List.getElem_cons_succ, Act.put, List.setIfInBounds_toArray, List.set_cons_zero, List.set_cons_succ]
  refine RT.take 6 (v := ?_) rfl (by kernel_rfl) (by kernel_rfl) (by kernel_rfl) (by kernel_rfl) (fun _ _ _ h => h) (by rfl) hR0 (fun w' hSw => ?_) ?_
  rotate_left
  · obtain ⟨q0, q1, q2, q3, q4, q5⟩ := st_cell hSw; clear hSw; go_simp; try with_reducible rfl
  simp only [List.getElem_toArray, List.getElem_cons_zero, List.getElem_cons_succ, Act.put, List.setIfInBounds_toArray, List.set_cons_zero, List.set_cons_succ]
  refine RT.take 7 (v := ?_) rfl (by kernel_rfl) (by kernel_rfl) (by kernel_rfl) (by kernel_rfl) (fun _ _ _ h => h) (by rfl) hR0 (fun w' hSw => ?_) ?_
  rotate_left
  · obtain ⟨q0, q1, q2, q3, q4, q5⟩ := st_cell hSw; clear hSw; go_simp; try with_reducible rfl
  simp only [List.getElem_toArray, List.getElem_cons_zero, List.getElem_cons_succ, Act.put, List.setIfInBounds_toArray, List.set_cons_zero, List.set_cons_succ]
  refine RT.take 8 (v := ?_) rfl (by kernel_rfl) (by kernel_rfl) (by kernel_rfl) (by kernel_rfl) (fun _ _ _ h => h) (by rfl) hR0 (fun w' hSw => ?_) ?_
  rotate_left
  · obtain ⟨q0, q1, q2, q3, q4, q5⟩ := st_cell hSw; clear hSw; go_simp; try with_reducible rfl
  simp only [List.getElem_toArray, List.getElem_cons_zero, List.getElem_cons_succ, Act.put, List.setIfInBounds_toArray, List.set_cons_zero, List.set_cons_succ]
  refine RT.one 9 (by kernel_rfl) ?_
  refine Step.run (o := ?o) ?ho ?hw ?h
  case ho => simp only [List.getElem?_toArray, List.getElem?_cons_succ, List.getElem?_cons_zero]; rfl
  case hw => first | (simp only [Region.wanted]; done) | rfl
  intro K hK
  refine wp_store_whole 30 (.tmp 3) (.tmp 25) ?h1 w.heap.size #[.int .i64 0, .int .i64 0, .slice none 0 0, .slice none 0 0] #[.int .i64 T.n, .int .i64 T.next, .slice none 0 0, .slice none 0 0] 30 ?h2 ?h3 HR3.out sizS rfl (one_s _ _ _ _ _ _ _ _) ?h4
  case h1 => rfl
  case h2 => rfl
  case h3 => rfl
  refine hK _ _ (RT.both ?_ (fun hR1 => ?_))
  · exact (setRow_other _ _ _ _ (by omega)).trans HST.out
  clear hK K
  try simp only [List.getElem_toArray, List.getElem_cons_zero, List.getElem_cons_succ, Act.put, List.setIfInBounds_toArray, List.set_cons_zero, List.set_cons_succ]
  refine RT.take 10 (v := ?_) rfl (by kernel_rfl) (by kernel_rfl) (by kernel_rfl) (by kernel_rfl) (fun _ _ _ h => h) (by rfl) hR1 (fun w' hSw => ?_) ?_
  rotate_left
  · obtain ⟨q0, q1, q2, q3, q4, q5⟩ := st_cell hSw; clear hSw; go_simp; try with_reducible rfl
  simp only [List.getElem_toArray, List.getElem_cons_zero, List.getElem_cons_succ, Act.put, List.setIfInBounds_toArray, List.set_cons_zero, List.set_cons_succ]
  refine RT.done (by kernel_rfl) ?_ _
  go_wp2_with fail
  refine bodyPost_ret (results_tct rfl _ _ w.heap.size _ rfl (loadS (T := T) (setRow_heap _ w.heap.size _ _ _ _ HR3.out))) rfl ?_
  have k4 : Keep (fun b => b = w.heap.size) w3 (w3.drew.setRow w.heap.size #[.int .i64 T.n, .int .i64 T.next, .slice none 0 0, .slice none 0 0]) := ((Keep.refl (fun b => b = w.heap.size) w3).drew).setRow (fun _ => rfl) _
  have n4 := H3.out.keep k4 (fun b _ e h => by have := h.2; omega)
  have k5 := (K3.out.trans k4 (fun i hi e => by omega)).below
  subst hT hS
  exact ⟨x, rfl, n4.into (fun _ _ h => h.1), k5, hx'⟩
end Go.Proofs.Ytinpinjjdkilpaa
